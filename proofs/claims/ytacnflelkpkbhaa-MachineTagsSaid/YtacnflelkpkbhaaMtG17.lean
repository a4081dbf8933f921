/- Texts of this claim, those that nothing needs left out: Zo0. -/
import Derived.Test.YtacnflelkpkbhaaMtG16
section
namespace Go.Proofs.Ytacnflelkpkbhaa.PA
set_option linter.unusedSimpArgs false
set_option linter.unusedVariables false
open Go.RowKit Go.Maps Go.Proofs.YtacnflelkpkbhaaW.PrintWords Go.Proofs.YtacnflelkpkbhaaW.PrintLast Go.Proofs.YtacnflelkpkbhaaW.PrintMore
def closeF (m : List S33) (ts : List Int) : List Int := if mayB m = true then listF (addAll m [] ts) else []
set_option maxHeartbeats 4000000 in
theorem Close_any (A : Option Addr) (c : Nat) (m : List S33) (A1 : Option Addr) (c1 : Nat) (ts : List Int) (w : World) (hr : Kd.C k33 w A m.length m) (hr1 : Kd.C (Kd.int .i64) w A1 ts.length ts) (hok : okM m) (hwf : ∀ t ∈ ts, (Lit.int .i64 t).wf = true) (hl : ts.length ≤ 1000000) :
    Calls Try.prog 13 #[.slice A m.length c, .slice A1 ts.length c1] w fun e w' => ∃ v, e = .returned v ∧ w'.ownsRow w.heap.size 3 1 v (closeF m ts).length ((closeF m ts).map (Value.int .i64)) ∧ Below w.heap.size w w' := by
  have HM := Aside0.mk (may_any A c m w hr hok)
  have HCL := Aside0.mk (fun (hm : mayB m = true) (W : World) (h : Below w.heap.size w W) => closed_any A c m A1 c1 ts W (Kd.C_below hr h) (Kd.C_below hr1 h) hm hok hwf hl)
  clear hr hr1 hok hwf
  cases hm : mayB m with
  | false =>
    have HE := Aside0.mk (show closeF m ts = [] by unfold closeF; rw [if_neg (by rw [hm]; simp)])
    rw [hm] at HM
    clear hm
    go_enter Try.func13, Try.ntmps13
    go_wp2_with fail
    refine HM.out.mono ?_
    rintro e w1 ⟨rfl, hb⟩
    have HB := Aside0.mk hb
    clear hb
    go_wp2_with fail
    go_ret
    exact ⟨_, rfl, by rw [HE.out]; exact World.ownsRow_nil _ _ _ _, HB.out⟩
  | true =>
    have HE := Aside0.mk (show closeF m ts = listF (addAll m [] ts) by unfold closeF; rw [if_pos hm])
    have HCM := Aside0.mk (HCL.out hm)
    rw [hm] at HM
    clear hm
    go_enter Try.func13, Try.ntmps13
    go_wp2_with fail
    refine HM.out.mono ?_
    rintro e w1 ⟨rfl, hb⟩
    have HB := Aside0.mk hb
    clear hb
    go_wp2_with fail
    refine (HCM.out w1 HB.out).mono ?_
    rintro e w2 ⟨v, rfl, ho, hb⟩
    have HO := Aside0.mk ho
    have HB2 := Aside0.mk (below_step HB.out hb)
    clear ho hb
    go_wp2_with fail
    go_ret
    exact ⟨_, rfl, by rw [HE.out]; exact own_lower HO.out HB.out.size, HB2.out⟩
end Go.Proofs.Ytacnflelkpkbhaa.PA
end
