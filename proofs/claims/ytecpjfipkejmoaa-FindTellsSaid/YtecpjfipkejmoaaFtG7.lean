/- Texts of this claim, those that nothing needs left out: PAx1 PAx7 Xr Xvn Xtw. -/
import Derived.Test.YtecpjfipkejmoaaFtG2
import Derived.Test.YtecpjfipkejmoaaFtG3
import Derived.Test.YtecpjfipkejmoaaFtG4
import Derived.Test.YtecpjfipkejmoaaProg
import Derived.Below
import Derived.Deep.Draws
import Derived.Deep.AppendLies
import Derived.Maps.AppendAt
import Derived.OwnWalk
import Derived.Laws.BytesArg
import Derived.Laws.MakeOwn
import Derived.Laws.OwnMore
import Derived.Deep.OwnRows
import Derived.Tactics
import Derived.Lib.ConvBytes
import Derived.Laws.Slices
import Derived.WalkKit
import Derived.KernelRfl
import Derived.RowKit3
import Derived.Deep.LoopGhost
import Derived.Deep.QuietTactic
import Derived.BigQuiet
import Derived.WideLaws
import Derived.Deep.DeepCutAuto
import Derived.Deep.CutBlock
import Derived.Deep.RegionHeld3
import Derived.Laws.Rows
import Derived.Lib.AppendStr
import Derived.ArgAppend
import Derived.Laws.IdiomCopy
import Derived.OrdersHeld
import Derived.Laws.BitsLemmas
import Derived.RowKit
import Derived.Test.YtecpjfipkejmoaaFtG0
import Derived.ProofKit
import Derived.OpenShut
import Derived.ShutString
import Derived.Deep.Slices
import Derived.Lib.SmallJoins
section
namespace Go.Proofs.Ytecpjfipkejmoaa.PA
open Go.RowKit Go.Proofs.YtecpjfipkejmoaaW.PrintWords Go.Proofs.YtecpjfipkejmoaaW.PrintLast Go.Proofs.YtecpjfipkejmoaaW.PrintMore
attribute [local go_sem] max2_int min2_int max_two min_two max_three min_three max_four min_four   -- for this text's walks alone
set_option linter.unusedVariables false
set_option linter.unusedSimpArgs false
theorem eqA68 (d : Nat) (w : World) (x0 y0 : Int) (x1 y1 : Int) :
    (Op.equalIn (d + 2) 68 (.agg #[.int .i64 x0, .int .i64 x1]) (.agg #[.int .i64 y0, .int .i64 y1])).run Try.prog w = .ok (x0 == y0 && (x1 == y1)) w := by
  refine eqA_of Try.underlying68 (by kernel_rfl) ?_
  refine eqf_cons (by rfl) (by go_simp; rfl) (by go_simp; rfl) (by go_simp) ?_
  exact eqf_last (by rfl) (by go_simp; rfl) (by go_simp; rfl) (by go_simp)
end Go.Proofs.Ytecpjfipkejmoaa.PA
end
section
namespace Go.Proofs.Ytecpjfipkejmoaa.PA
open Go.RowKit Go.Proofs.YtecpjfipkejmoaaW.PrintWords Go.Proofs.YtecpjfipkejmoaaW.PrintLast Go.Proofs.YtecpjfipkejmoaaW.PrintMore
attribute [local go_sem] max2_int min2_int max_two min_two max_three min_three max_four min_four   -- for this text's walks alone
set_option linter.unusedVariables false
set_option linter.unusedSimpArgs false
attribute [local go_sem high] eqA68
def phalaroperef17_Many.f (k : Nat) (l0 : List (S35)) (a1 : ByteArray) (a2 : Int) : Option (Int) := (phalaroperef16_May.f k l0).bind fun t166 => (if t166 = true then ((phalaroperef17_Table.f k l0 a1).bind fun t167 => (if 0 < (t167.length : Int) then (if 0 < ((rd_L4 t167 0).length : Int) then (some (mx 0 (mn a2 (rd (rd_L4 t167 0) 0)))) else (none)) else (none))) else (some 0))
set_option maxHeartbeats 8000000 in
set_option maxRecDepth 100000 in
theorem phalaroperef17_Many.calls (k : Nat) (A0 : Option Addr) (c0 : Nat) (l0 : List (S35)) (a1 : ByteArray) (a2 : Int) (r : Int) (w : World) (hr0 : Kd.C k35 w A0 l0.length l0) (hc0 : l0.length ≤ c0) (h : phalaroperef17_Many.f k l0 a1 a2 = some r) :
    Calls Try.prog 17 #[.slice A0 l0.length c0, .string a1, .int .i64 a2] w fun e w' => e = .returned (.int .i64 r) ∧ Below w.heap.size w w' := by
  have HR0 := Aside0.mk hr0
  have HC0 := Aside0.mk hc0
  clear hr0 hc0
  have HB := Aside0.mk (Below.refl w.heap.size w)
  have H : ((phalaroperef16_May.f k l0).bind fun t166 => (if t166 = true then ((phalaroperef17_Table.f k l0 a1).bind fun t167 => (if 0 < (t167.length : Int) then (if 0 < ((rd_L4 t167 0).length : Int) then (some (mx 0 (mn a2 (rd (rd_L4 t167 0) 0)))) else (none)) else (none))) else (some 0))) = some r := h
  clear h
  replace H := Option.bind_eq_some_iff.mp H
  obtain ⟨t166, A40, H⟩ := H
  replace H : (if t166 = true then ((phalaroperef17_Table.f k l0 a1).bind fun t167 => (if 0 < (t167.length : Int) then (if 0 < ((rd_L4 t167 0).length : Int) then (some (mx 0 (mn a2 (rd (rd_L4 t167 0) 0)))) else (none)) else (none))) else (some 0)) = some r := H
  have A4 := Aside0.mk A40
  clear A40
  by_cases c5 : t166 = true
  · subst c5
    have H1 : ((phalaroperef17_Table.f k l0 a1).bind fun t167 => (if 0 < (t167.length : Int) then (if 0 < ((rd_L4 t167 0).length : Int) then (some (mx 0 (mn a2 (rd (rd_L4 t167 0) 0)))) else (none)) else (none))) = some r := by rw [if_pos rfl] at H; exact H
    clear H
    have H := H1
    clear H1
    replace H := Option.bind_eq_some_iff.mp H
    obtain ⟨t167, A60, H⟩ := H
    replace H : (if 0 < (t167.length : Int) then (if 0 < ((rd_L4 t167 0).length : Int) then (some (mx 0 (mn a2 (rd (rd_L4 t167 0) 0)))) else (none)) else (none)) = some r := H
    have A6 := Aside0.mk A60
    clear A60
    by_cases c7 : 0 < (t167.length : Int)
    · rw [if_pos c7] at H
      have c7b0 : decide (0 < (t167.length : Int)) = true := decide_eq_true c7
      have c7b1 : decide (0 < t167.length) = true := decide_eq_true (by omega)
      clear c7
      by_cases c8 : 0 < ((rd_L4 t167 0).length : Int)
      · rw [if_pos c8] at H
        have c8b0 : decide (0 < ((rd_L4 t167 0).length : Int)) = true := decide_eq_true c8
        have c8b1 : decide (0 < (rd_L4 t167 0).length) = true := decide_eq_true (by omega)
        clear c8
        obtain ⟨ji9, hji9⟩ : ∃ j_ : Int, (mn a2 (rd (rd_L4 t167 0) 0)) = j_ := ⟨_, rfl⟩
        replace H : (some (mx 0 (ji9))) = some r := by first | (rw [hji9] at H; exact H) | (simp only [hji9] at H ⊢; exact H)
        (try rw [hji9] at A4)
        (try rw [hji9] at A6)
        have hji9_ : (if (rd (rd_L4 t167 0) 0) < a2 then (rd (rd_L4 t167 0) 0) else a2) = ji9 := hji9
        obtain ⟨ji10, hji10⟩ : ∃ j_ : Int, (mx 0 (ji9)) = j_ := ⟨_, rfl⟩
        replace H : (some ji10) = some r := by first | (rw [hji10] at H; exact H) | (simp only [hji10] at H ⊢; exact H)
        (try rw [hji10] at A4)
        (try rw [hji10] at A6)
        have hji10_ : (if 0 < (ji9) then (ji9) else 0) = ji10 := hji10
        obtain rfl := Option.some.inj H
        go_enter Try.func17, Try.ntmps17
        go_wp2_with (first | ((with_reducible refine gate_callee (f := 24) rfl ?_); refine goesL_ (some 8) rfl rfl Try.func24 (by kernel_rfl) rfl #[.slice A0 l0.length c0] rfl (by (try simp only [List.map_toArray, List.map_cons, List.map_nil]); first | done | rfl | (simp only [List.length_drop, List.length_take]; rfl)) ?_; (with_reducible refine (phalaroperef16_May.calls k _ _ l0 true _ ?side1 ?side2 A4.out).mono ?_); (case side1 => repeat (first | exact HR0.out | (with_reducible refine Kd.C_alloc ?_ _) | (with_reducible refine Kd.C_drewN ?_ _) | (with_reducible refine Kd.C_drew ?_))); (case side2 => exact HC0.out); rintro e w11 ⟨rfl, hb⟩; refine ⟨_, rfl, ?_⟩; have n0_ := Aside0.mk (below_step (by repeat (first | (with_reducible first | exact HB.out | apply below_alloc | apply pw_below_drewN | apply below_drew1) | exact HB.out)) hb); clear HB; have HB := n0_; clear n0_; (try clear hb); (try clear hb2); (try clear hk); (try clear hi)) | ((with_reducible refine gate_callee (f := 25) rfl ?_); refine goesL_ (some 13) rfl rfl Try.func25 (by kernel_rfl) rfl #[.slice A0 l0.length c0, .string a1] rfl (by (try simp only [List.map_toArray, List.map_cons, List.map_nil]); first | done | rfl | (simp only [List.length_drop, List.length_take]; rfl)) ?_; (with_reducible refine (phalaroperef17_Table.calls k _ _ l0 a1 t167 _ ?side1 ?side2 A6.out).mono ?_); (case side1 => repeat (first | exact (Kd.C_below HR0.out HB.out) | (with_reducible refine Kd.C_alloc ?_ _) | (with_reducible refine Kd.C_drewN ?_ _) | (with_reducible refine Kd.C_drew ?_))); (case side2 => exact HC0.out); rintro e w12 ⟨v168, rfl, ho0, hb⟩; refine ⟨_, rfl, ?_⟩; have n0_ := Aside0.mk (Kd.R_lower ho0 (below_size (by repeat (first | (with_reducible first | exact HB.out | apply below_alloc | apply pw_below_drewN | apply below_drew1) | exact HB.out)))); have n1_ := Aside0.mk (below_step (by repeat (first | (with_reducible first | exact HB.out | apply below_alloc | apply pw_below_drewN | apply below_drew1) | exact HB.out)) hb); clear HB; have HO169 := n0_; have HB := n1_; clear n0_ n1_; (try clear hb); (try clear hb2); (try clear hk); (try clear hi); (try clear ho0); obtain ⟨Ao13, co13, eo13⟩ := Kd.R_slice HO169.out; subst eo13; have p170 : 0 ≤ (0 : Int) := (by omega); have q170 : 0 < (t167.length : Int) := of_decide_eq_true (by first | (with_reducible assumption) | assumption); obtain ⟨ad170, A170_0, c170_0, e170, hx170_0, hl170_0, hi170_0⟩ := at_L4 (Kd.R_reads' HO169.out).2.2 0 p170 q170; cases e170; obtain ⟨ce170, hce170, hMe170, hcc170⟩ := Kd.R_get HO169.out [] 0 p170 (by first | exact q170 | exact of_decide_eq_true (by first | (with_reducible assumption) | assumption) | (have e_ := (Kd.R_reads' HO169.out).1; omega)); obtain ⟨ve170_0, rfl, ge170_0⟩ := hMe170; have hv170_0 := hcc170 0 _ rfl; rw [Nat.add_zero, show ((Kd.slice 3 (Kd.int .i64))).sz = 1 from rfl, Nat.mul_one] at hv170_0; replace hv170_0 := Option.some.inj (hv170_0.symm.trans hx170_0); rw [hv170_0] at ge170_0; have HL170_0 := Aside0.mk (show Kd.R (Kd.int .i64) 3 _ _ _ _ (rd_L4 t167 0) from ge170_0); clear hv170_0 ge170_0; clear hcc170 hce170; have qi170 : (0 < t167.length) = True := eq_true (by omega); (try rw [show ((0 : Int)).toNat = 0 from rfl] at hx170_0); (try rw [Addr.add_zero'] at hx170_0); have HR170_0 := Aside0.mk hi170_0; have HC170_0 := Aside0.mk hl170_0; clear hi170_0 hl170_0; replace p170 := eq_true p170; replace q170 := eq_true q170; have p171 : 0 ≤ (0 : Int) := (by omega); have q171 : 0 < ((rd_L4 t167 0).length : Int) := of_decide_eq_true (by first | (with_reducible assumption) | assumption); obtain ⟨ad171, e171, hx171_0⟩ := Kd.at_int (by repeat (first | (with_reducible exact HR170_0.out) | (with_reducible refine Kd.C_alloc ?_ _) | (with_reducible refine Kd.C_drewN ?_ _) | (with_reducible refine Kd.C_drew ?_) | exact HR170_0.out)) 0 p171 q171; cases e171; have qi171 : (0 < (rd_L4 t167 0).length) = True := eq_true (by omega); (try rw [show ((0 : Int)).toNat = 0 from rfl] at hx171_0); (try rw [Addr.add_zero'] at hx171_0); replace p171 := eq_true p171; replace q171 := eq_true q171))
        go_ret
        exact ⟨by first | rfl | (simp [errW_none, errW_some] <;> rfl) | (simp only [← hji9, ← hji10]; first | rfl | (simp [errW_none, errW_some] <;> rfl)) | (simp [*, errW_none, errW_some] <;> rfl), by repeat (first | (with_reducible first | exact HB.out | apply below_alloc | apply pw_below_drewN | apply below_drew1) | exact HB.out)⟩
      · rw [if_neg c8] at H
        exact absurd H (by simp)
    · rw [if_neg c7] at H
      exact absurd H (by simp)
  · replace c5 := Bool.eq_false_iff.mpr c5
    subst c5
    have H1 : (some 0) = some r := by rw [if_neg (show ¬ (false = true) by decide)] at H; exact H
    clear H
    have H := H1
    clear H1
    obtain rfl := Option.some.inj H
    go_enter Try.func17, Try.ntmps17
    go_wp2_with (first | ((with_reducible refine gate_callee (f := 24) rfl ?_); refine goesL_ (some 8) rfl rfl Try.func24 (by kernel_rfl) rfl #[.slice A0 l0.length c0] rfl (by (try simp only [List.map_toArray, List.map_cons, List.map_nil]); first | done | rfl | (simp only [List.length_drop, List.length_take]; rfl)) ?_; (with_reducible refine (phalaroperef16_May.calls k _ _ l0 false _ ?side1 ?side2 A4.out).mono ?_); (case side1 => repeat (first | exact HR0.out | (with_reducible refine Kd.C_alloc ?_ _) | (with_reducible refine Kd.C_drewN ?_ _) | (with_reducible refine Kd.C_drew ?_))); (case side2 => exact HC0.out); rintro e w14 ⟨rfl, hb⟩; refine ⟨_, rfl, ?_⟩; have n0_ := Aside0.mk (below_step (by repeat (first | (with_reducible first | exact HB.out | apply below_alloc | apply pw_below_drewN | apply below_drew1) | exact HB.out)) hb); clear HB; have HB := n0_; clear n0_; (try clear hb); (try clear hb2); (try clear hk); (try clear hi)))
    go_ret
    exact ⟨by first | rfl | (simp [errW_none, errW_some] <;> rfl) | (simp [*, errW_none, errW_some] <;> rfl), by repeat (first | (with_reducible first | exact HB.out | apply below_alloc | apply pw_below_drewN | apply below_drew1) | exact HB.out)⟩
def phalaroperef17_Same.l0 : Nat → List (S68) → List (S68) → Int → Option (Bool)
  | 0, _, _, _ => none
  | k + 1, x0, x1, x5 => if x5 < (x0.length : Int) then (if 0 ≤ x5 then (if x5 < (x1.length : Int) then (if (!(((rd_T68 x0 x5).f0) == ((rd_T68 x1 x5).f0)) || (!(((rd_T68 x0 x5).f1) == ((rd_T68 x1 x5).f1)))) = true then (some false) else (phalaroperef17_Same.l0 k x0 x1 (wrap64 (x5 + 1)))) else (none)) else (none)) else (some true)
def phalaroperef17_Same.f (k : Nat) (l0 : List (S68)) (l1 : List (S68)) : Option (Bool) := if (l0.length : Int) = (l1.length : Int) then (phalaroperef17_Same.l0 k l0 l1 0) else (some false)
set_option maxHeartbeats 8000000 in
set_option maxRecDepth 100000 in
theorem phalaroperef17_Same.calls (k : Nat) (A0 : Option Addr) (c0 : Nat) (l0 : List (S68)) (A1 : Option Addr) (c1 : Nat) (l1 : List (S68)) (r : Bool) (w : World) (hr0 : Kd.C k68 w A0 l0.length l0) (hc0 : l0.length ≤ c0) (hr1 : Kd.C k68 w A1 l1.length l1) (hc1 : l1.length ≤ c1) (h : phalaroperef17_Same.f k l0 l1 = some r) :
    Calls Try.prog 14 #[.slice A0 l0.length c0, .slice A1 l1.length c1] w fun e w' => e = .returned (.bool r) ∧ Drawn0 w w' := by
  have hu68 := Try.underlying68
  have HR0 := Aside0.mk hr0
  have HC0 := Aside0.mk hc0
  clear hr0 hc0
  have HR1 := Aside0.mk hr1
  have HC1 := Aside0.mk hc1
  clear hr1 hc1
  have H : (if (l0.length : Int) = (l1.length : Int) then (phalaroperef17_Same.l0 k l0 l1 0) else (some false)) = some r := h
  clear h
  by_cases c3 : (l0.length : Int) = (l1.length : Int)
  · rw [if_pos c3] at H
    have c3b0 : ((l0.length : Int) == (l1.length : Int)) = true := beq_iff_eq.mpr c3
    have c3b1 : ((l0.length : Int) != (l1.length : Int)) = false := bne_eq_false_iff_eq.mpr c3
    have c3b2 : (l0.length == l1.length) = true := by first | simpa using c3 | (simp at c3 ⊢; omega)
    clear c3
    have H' := Aside0.mk H
    clear H
    go_enter Try.func14, Try.ntmps14
    go_wp2
    repeat (go_quiet (fail); try go_wp2)
    go_loopg [5] k (fun kq v5 w' => ∃ (x5_1 : Int), v5 = .int .i64 x5_1 ∧ Aside0 (phalaroperef17_Same.l0 kq l0 l1 x5_1 = some r) ∧ Aside0 (kq ≤ k) ∧ Drawn0 w w')
    case atStart => exact ⟨(0), (by first | rfl | (simp; done) | (simp [*]; done)), H', ⟨Nat.le_refl _⟩, by repeat (first | exact Drawn0.refl _ | apply Drawn0.step)⟩
    case round =>
      clear H'
      try clear c1
      try clear p2
      try clear c3
      try clear c3b0
      try clear c3b1
      try clear c3b2
      obtain ⟨x5_1, rfl, HA, HK1, ⟨m1, rfl⟩⟩ := hrel
      cases gk with
      | zero => exact absurd HA.out (by simp [phalaroperef17_Same.l0])
      | succ k1 =>
        have H := HA.out
        clear HA
        simp only [phalaroperef17_Same.l0] at H
        by_cases c4 : x5_1 < (l0.length : Int)
        · rw [if_pos c4] at H
          have c4b0 : decide (x5_1 < (l0.length : Int)) = true := decide_eq_true c4
          clear c4
          by_cases c5 : 0 ≤ x5_1
          · rw [if_pos c5] at H
            have c5b0 : decide (0 ≤ x5_1) = true := decide_eq_true c5
            clear c5
            by_cases c6 : x5_1 < (l1.length : Int)
            · rw [if_pos c6] at H
              have c6b0 : decide (x5_1 < (l1.length : Int)) = true := decide_eq_true c6
              clear c6
              by_cases c7 : (!(((rd_T68 l0 x5_1).f0) == ((rd_T68 l1 x5_1).f0)) || (!(((rd_T68 l0 x5_1).f1) == ((rd_T68 l1 x5_1).f1)))) = true
              · rw [if_pos c7] at H
                have c7b0 : (!(((rd_T68 l0 x5_1).f0) == ((rd_T68 l1 x5_1).f0)) || (!(((rd_T68 l0 x5_1).f1) == ((rd_T68 l1 x5_1).f1)))) = true := c7
                clear c7
                obtain rfl := Option.some.inj H
                have p172 : 0 ≤ (x5_1 : Int) := of_decide_eq_true (by first | (with_reducible assumption) | assumption)
                have q172 : x5_1 < (l0.length : Int) := of_decide_eq_true (by first | (with_reducible assumption) | assumption)
                obtain ⟨ad172, e172, hx172_0, hx172_1⟩ := at_T68 HR0.out x5_1 p172 q172
                cases e172
                replace p172 := eq_true p172
                replace q172 := eq_true q172
                have p173 : 0 ≤ (x5_1 : Int) := of_decide_eq_true (by first | (with_reducible assumption) | assumption)
                have q173 : x5_1 < (l1.length : Int) := of_decide_eq_true (by first | (with_reducible assumption) | assumption)
                obtain ⟨ad173, e173, hx173_0, hx173_1⟩ := at_T68 HR1.out x5_1 p173 q173
                cases e173
                replace p173 := eq_true p173
                replace q173 := eq_true q173
                go_wp2
                repeat (go_quiet (fail); try go_wp2)
                go_ret
                exact ⟨by first | rfl | (simp; done) | (simp [*]; done), by repeat (first | exact Drawn0.refl _ | apply Drawn0.step)⟩
              · rw [if_neg c7] at H
                have c7b0 : (!(((rd_T68 l0 x5_1).f0) == ((rd_T68 l1 x5_1).f0)) || (!(((rd_T68 l0 x5_1).f1) == ((rd_T68 l1 x5_1).f1)))) = false := by simpa using c7
                clear c7
                have H' := Aside0.mk H
                clear H
                have p172 : 0 ≤ (x5_1 : Int) := of_decide_eq_true (by first | (with_reducible assumption) | assumption)
                have q172 : x5_1 < (l0.length : Int) := of_decide_eq_true (by first | (with_reducible assumption) | assumption)
                obtain ⟨ad172, e172, hx172_0, hx172_1⟩ := at_T68 HR0.out x5_1 p172 q172
                cases e172
                replace p172 := eq_true p172
                replace q172 := eq_true q172
                have p173 : 0 ≤ (x5_1 : Int) := of_decide_eq_true (by first | (with_reducible assumption) | assumption)
                have q173 : x5_1 < (l1.length : Int) := of_decide_eq_true (by first | (with_reducible assumption) | assumption)
                obtain ⟨ad173, e173, hx173_0, hx173_1⟩ := at_T68 HR1.out x5_1 p173 q173
                cases e173
                replace p173 := eq_true p173
                replace q173 := eq_true q173
                go_wp2
                repeat (go_quiet (fail); try go_wp2)
                go_roundg k1
                case measure => have := HK1.out; omega
                case rel => exact ⟨(wrap64 (x5_1 + 1)), (by first | rfl | (simp; done) | (simp [*]; done)), H', ⟨by have := HK1.out; omega⟩, by repeat (first | exact Drawn0.refl _ | apply Drawn0.step)⟩
            · rw [if_neg c6] at H
              exact absurd H (by simp)
          · rw [if_neg c5] at H
            exact absurd H (by simp)
        · rw [if_neg c4] at H
          have c4b0 : decide (x5_1 < (l0.length : Int)) = false := decide_eq_false c4
          clear c4
          obtain rfl := Option.some.inj H
          go_wp2
          repeat (go_quiet (fail); try go_wp2)
          go_ret
          exact ⟨by first | rfl | (simp; done) | (simp [*]; done), by repeat (first | exact Drawn0.refl _ | apply Drawn0.step)⟩
  · rw [if_neg c3] at H
    have c3b0 : ((l0.length : Int) == (l1.length : Int)) = false := beq_eq_false_iff_ne.mpr c3
    have c3b1 : ((l0.length : Int) != (l1.length : Int)) = true := bne_iff_ne.mpr c3
    have c3b2 : (l0.length == l1.length) = false := by first | simpa using c3 | (simp at c3 ⊢; omega)
    obtain rfl := Option.some.inj H
    go_enter Try.func14, Try.ntmps14
    go_wp2
    repeat (go_quiet (fail); try go_wp2)
    go_ret
    exact ⟨by first | rfl | (simp; done) | (simp [*]; done), by repeat (first | exact Drawn0.refl _ | apply Drawn0.step)⟩
end Go.Proofs.Ytecpjfipkejmoaa.PA
end
section
namespace Go.Proofs.Ytecpjfipkejmoaa.X
set_option linter.unusedSimpArgs false
set_option linter.unusedVariables false
open Go.RowKit Go.Joins Go.WideShapes Go.ChangeShapes Go.Proofs.YtecpjfipkejmoaaW.PrintWords
def Down {α : Type} (P : Program) (d : Kd α) (ok : α → Prop) (t : TypeId) : Prop :=
  ∀ (H : Type) (enc : TypeId × Value → H) (w : World) (base : Nat) (spare : Nat → Bool) (held : Bool) (fuel : Nat) (cs : List Value) (x : DataW H × List MemPlace), DataW.trod enc P w base spare held fuel t cs = some x → ∃ a, d.K w a cs ∧ ok a
variable {P : Program}
theorem down_int {t : TypeId} {k : IntKind} (ht : P.underlying t = some (.int k)) : Down P (Kd.int k) (fun n => (Lit.int k n).wf = true) t := by
  intro H enc w base spare held fuel cs x h
  obtain ⟨n, rfl, _, hw⟩ := DataW.trod_int ht h
  exact ⟨n, rfl, hw⟩
theorem list_of {α : Type} (R : Nat → α → Prop) : ∀ n : Nat, (∀ i, i < n → ∃ a, R i a) → ∃ xs : List α, xs.length = n ∧ ∀ i a, xs[i]? = some a → R i a := by
  intro n
  induction n with
  | zero => intro _; exact ⟨[], rfl, fun i a h => by simp at h⟩
  | succ n ih =>
    intro h
    obtain ⟨xs, hl, hx⟩ := ih (fun i hi => h i (by omega))
    obtain ⟨a, ha⟩ := h n (by omega)
    refine ⟨xs ++ [a], by simp [hl], fun i b hb => ?_⟩
    rcases Nat.lt_or_ge i xs.length with hi | hi
    · rw [List.getElem?_append_left hi] at hb; exact hx i b hb
    · have hlt := (List.getElem?_eq_some_iff.1 hb).1
      rw [List.length_append, List.length_singleton] at hlt
      have : i = xs.length := by omega
      subst this
      simp at hb
      rw [← hb, hl]; exact ha
theorem down_slice {α : Type} {d : Kd α} {ok : α → Prop} {t e : TypeId} (ht : P.underlying t = some (.slice e)) (he : Down P d ok e) (hsz : P.cellsOf e = d.sz) : Down P (Kd.slice e d) (fun xs => ∀ x ∈ xs, ok x) t := by
  intro H enc w base spare held fuel cs x h
  rcases Go.Deep.open_slice ht h with ⟨rfl, _⟩ | ⟨a, len, cap, m, n, D, Pl, rfl, hb, hl, hm, hmm, _, hel⟩
  · exact ⟨[], ⟨none, 0, rfl, Nat.le_refl _, rfl, by simp, fun h => absurd h (Nat.lt_irrefl 0)⟩, fun x hx => by simp at hx⟩
  · have hlm : len ≤ m := by rw [hmm]; split <;> omega
    obtain ⟨xs, hxl, hx⟩ := list_of (fun i p => ∃ c, d.K w p c ∧ ok p ∧ w.cells? base (a.add (i * P.cellsOf e)) (P.cellsOf e) = some c) len (fun i hi => by
      obtain ⟨c, h1, h2⟩ := hel i (by omega)
      obtain ⟨p, h3, h4⟩ := he H enc w base spare held n c _ h2
      exact ⟨p, c, h3, h4, h1⟩)
    have hmax : maxLen = 9223372036854775807 := by decide
    refine ⟨xs, ⟨some a, cap, by rw [hxl], by omega, rfl, by omega, fun _ => ⟨a, rfl, fun j p hj => ?_⟩⟩, fun p hp => ?_⟩
    · obtain ⟨c, h1, _, h3⟩ := hx j p hj
      refine ⟨c, d.K_len h1, h1, fun i u hu => ?_⟩
      obtain ⟨_, h5, h6⟩ := World.cells?_some h3
      have hi : i < P.cellsOf e := by rw [hsz, ← d.K_len h1]; exact (List.getElem?_eq_some_iff.1 hu).1
      have h7 := h6 i hi
      rw [Go.Deep.add_add, hsz] at h7
      rw [h7]; exact hu
    · obtain ⟨i, hi, rfl⟩ := List.mem_iff_getElem.1 hp
      obtain ⟨_, _, h2, _⟩ := hx i _ (List.getElem?_eq_getElem hi)
      exact h2
def FDown {α : Type} (P : Program) (d : Kd α) (ok : α → Prop) (fs : List Field) (o : Nat) : Prop :=
  ∀ (H : Type) (enc : TypeId × Value → H) (w : World) (base : Nat) (spare : Nat → Bool) (held : Bool) (n : Nat) (cs : List Value), cs.length = o + d.sz →
    (∀ f ∈ fs, ∃ x, DataW.trod enc P w base spare held n f.type ((cs.drop f.offset).take (P.cellsOf f.type)) = some x) → ∃ a, d.K w a (cs.drop o) ∧ ok a
theorem fdown_one {α : Type} {d : Kd α} {ok : α → Prop} {f : Field} {o : Nat} (hf : Down P d ok f.type) (ho : f.offset = o) (hs : P.cellsOf f.type = d.sz) : FDown P d ok [f] o := by
  intro H enc w base spare held n cs hl h
  obtain ⟨x, hx⟩ := h f (List.mem_singleton.2 rfl)
  rw [ho, List.take_of_length_le (by rw [List.length_drop, hs]; omega)] at hx
  exact hf H enc w base spare held n _ x hx
theorem fdown_cons {α β : Type} {a : Kd α} {b : Kd β} {oka : α → Prop} {okb : β → Prop} {f : Field} {fs : List Field} {o : Nat} (hf : Down P a oka f.type) (ho : f.offset = o) (hs : P.cellsOf f.type = a.sz) (hr : FDown P b okb fs (o + a.sz)) :
    FDown P (Kd.pair a b) (fun x => oka x.1 ∧ okb x.2) (f :: fs) o := by
  intro H enc w base spare held n cs hl h
  have hl : cs.length = o + (a.sz + b.sz) := hl
  obtain ⟨x, hx⟩ := h f List.mem_cons_self
  rw [ho, hs] at hx
  obtain ⟨p, hp, hpo⟩ := hf H enc w base spare held n _ x hx
  obtain ⟨q, hq, hqo⟩ := hr H enc w base spare held n cs (by omega) (fun g hg => h g (List.mem_cons_of_mem _ hg))
  refine ⟨(p, q), ⟨_, _, ?_, hp, hq⟩, hpo, hqo⟩
  rw [← List.drop_drop, List.take_append_drop]
theorem down_struct {α : Type} {d : Kd α} {ok : α → Prop} {t : TypeId} {fs : Array Field} (ht : P.underlying t = some (.struct fs)) (hf : FDown P d ok fs.toList 0) (hs : P.cellsOf t = d.sz) : Down P d ok t := by
  intro H enc w base spare held fuel cs x h
  obtain ⟨xs, n, _, _, hl, hxl, hx⟩ := DataW.trod_struct ht h
  have := hf H enc w base spare held n cs (by omega) (fun f hfm => by
    obtain ⟨i, hi, rfl⟩ := List.mem_iff_getElem.1 hfm
    have h1 : fs[i]? = some fs.toList[i] := by simp at hi; simp [hi]
    have h2 := hx i _ h1
    simp at hi
    rw [List.getElem?_eq_getElem (by omega)] at h2
    exact ⟨_, h2⟩)
  simpa using this
theorem down_iso {α β : Type} {d : Kd α} {ok : α → Prop} {t : TypeId} {f : β → α} (g : α → β) (hg : ∀ x, f (g x) = x) (h : Down P d ok t) : Down P (Kd.iso d f) (fun y => ok (f y)) t := by
  intro H enc w base spare held fuel cs x hx
  obtain ⟨a, h1, h2⟩ := h H enc w base spare held fuel cs x hx
  exact ⟨g a, by show d.K w (f (g a)) cs; rw [hg]; exact h1, by show ok (f (g a)); rw [hg]; exact h2⟩
theorem arg_slice {α : Type} {d : Kd α} {ok : α → Prop} {t e : TypeId} (ht : P.underlying t = some (.slice e)) (hd : Down P d ok e) (hsz : P.cellsOf e = d.sz) {H : Type} {enc : TypeId × Value → H} {w : World} {r : Reach} {b0 : Nat} {base : Nat} {spare : Nat → Bool} {held : Bool} {v : Value} {x : DataW H} {p : List MemPlace}
    (hv : Value.okWide P w r b0 t v) (h : DataW.Trod enc P w base spare held t v x p) : ∃ (A : Option Addr) (xs : List α) (c : Nat), v = .slice A xs.length c ∧ xs.length ≤ c ∧ d.C w A xs.length xs ∧ ∀ x ∈ xs, ok x := by
  obtain ⟨a0, len, cap, rfl⟩ := okWide_slice ht hv
  obtain ⟨fuel, hf⟩ := h
  obtain ⟨xs, ⟨A, c, he, hl, hc⟩, ho⟩ := down_slice ht hd hsz H enc w base spare held fuel _ _ hf
  simp [Value.cells] at he
  obtain ⟨rfl, rfl, rfl⟩ := he
  exact ⟨_, xs, _, rfl, hl, hc, ho⟩
end Go.Proofs.Ytecpjfipkejmoaa.X
end
section
namespace Go.Proofs.Ytecpjfipkejmoaa.PA
set_option linter.unusedSimpArgs false
set_option linter.unusedVariables false
open Go.RowKit Go.Joins Go.WideShapes Go.ChangeShapes Go.Proofs.YtecpjfipkejmoaaW.PrintWords X
def okRE (x : S65) : Prop := (Lit.int .u8 x.f0).wf = true ∧ (Lit.int .u8 x.f1).wf = true ∧ (Lit.int .i64 x.f2).wf = true
set_option maxRecDepth 100000 in
theorem down_edge : Down Try.prog k65 okRE 65 :=
  down_iso (fun p => ⟨p.1, p.2.1, p.2.2⟩) (fun _ => rfl) (down_struct Try.underlying65 (fdown_cons (down_int Try.underlying5) rfl (by kernel_rfl) (fdown_cons (down_int Try.underlying5) rfl (by kernel_rfl) (fdown_one (down_int Try.underlying3) rfl (by kernel_rfl)))) (by kernel_rfl))
def okRN (x : S35) : Prop := (Lit.int .i64 x.f0).wf = true ∧ (∀ e ∈ x.f1, okRE e) ∧ (∀ t ∈ x.f2, (Lit.int .i64 t).wf = true) ∧ (Lit.int .i64 x.f3).wf = true ∧ (Lit.int .i64 x.f4).wf = true
set_option maxRecDepth 100000 in
theorem down_node : Down Try.prog k35 okRN 35 :=
  down_iso (fun p => ⟨p.1, p.2.1, p.2.2.1, p.2.2.2.1, p.2.2.2.2⟩) (fun _ => rfl) (down_struct Try.underlying35 (fdown_cons (down_int Try.underlying3) rfl (by kernel_rfl) (fdown_cons (down_slice Try.underlying32 down_edge (by kernel_rfl)) rfl (by kernel_rfl) (fdown_cons (down_slice Try.underlying33 (down_int Try.underlying3) (by kernel_rfl)) rfl (by kernel_rfl) (fdown_cons (down_int Try.underlying3) rfl (by kernel_rfl) (fdown_one (down_int Try.underlying3) rfl (by kernel_rfl)))))) (by kernel_rfl))
end Go.Proofs.Ytecpjfipkejmoaa.PA
end
section
namespace Go.Proofs.Ytecpjfipkejmoaa.PA
set_option linter.unusedSimpArgs false
set_option linter.unusedVariables false
open Go.RowKit Go.Joins Go.WideShapes Go.ChangeShapes Go.Proofs.YtecpjfipkejmoaaW.PrintWords X
set_option maxRecDepth 100000 in
theorem arg_two {H : Type} {enc : TypeId × Value → H} {w : World} {r : Reach} {b0 base : Nat} {spare : Nat → Bool} {held : Bool} {v : Value} {x : DataW H} {p : List MemPlace} (hv : Value.okWide Try.prog w r b0 37 v) (h : DataW.Trod enc Try.prog w base spare held 37 v x p) :
    ∃ a b : Int, v = .agg #[.int .i64 a, .int .i64 b] ∧ (Lit.int .i64 a).wf = true ∧ (Lit.int .i64 b).wf = true := by
  have hu := Try.underlying37
  obtain ⟨cs, rfl⟩ : ∃ cs, v = .agg cs := by
    unfold Value.okWide at hv
    rw [hu] at hv
    obtain ⟨cs, e, _⟩ := hv
    exact ⟨cs, e⟩
  obtain ⟨fuel, hf⟩ := h
  obtain ⟨xs, m, _, _, hl, hx, hi⟩ := DataW.trod_array hu hf
  have h1 : Try.prog.cellsOf 3 = 1 := by kernel_rfl
  have h2 : Try.prog.cellsOf 37 = 2 := by kernel_rfl
  have i0 := hi 0 (by omega)
  have i1 := hi 1 (by omega)
  rw [h1] at i0 i1
  rw [h2] at hl
  rw [List.getElem?_eq_getElem (by omega)] at i0 i1
  obtain ⟨a, ka, wa⟩ := X.down_int Try.underlying3 H enc w base spare held m _ _ i0
  obtain ⟨b, kb, wb⟩ := X.down_int Try.underlying3 H enc w base spare held m _ _ i1
  have ka : List.take 1 (List.drop (0 * 1) (Value.agg cs).cells.toList) = [.int .i64 a] := ka
  have kb : List.take 1 (List.drop (1 * 1) (Value.agg cs).cells.toList) = [.int .i64 b] := kb
  refine ⟨a, b, ?_, wa, wb⟩
  obtain ⟨l⟩ := cs
  simp only [Value.cells] at ka kb hl
  match l, hl with
  | [y, z], _ => simp at ka kb; rw [ka, kb]
end Go.Proofs.Ytecpjfipkejmoaa.PA
end
