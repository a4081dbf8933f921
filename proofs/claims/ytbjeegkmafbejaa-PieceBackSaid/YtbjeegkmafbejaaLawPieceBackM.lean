/- What is encoded without Keep is told back by being decoded. Small words over a print, and the reference's classes of characters as printed. The reference's characters (phalaroperef01), as printed, say what Go's decoding says. The reference's values (phalaroperef08), as printed, say what our plain words say (the first part of Zs). Few texts (phalaroperef08.Few, the first part of Za). PieceBack: the law. The law PieceBack, as a statement over the printed functions. -/
import Derived.Test.YtbjeegkmafbejaaPLx0
import Derived.Test.YtbjeegkmafbejaaPLx6
import Derived.Test.YtbjeegkmafbejaaPLx8
import Derived.Test.YtbjeegkmafbejaaPLx1
import Derived.Test.YtbjeegkmafbejaaPLx2
import Derived.Test.YtbjeegkmafbejaaPLx4
import Derived.Test.YtbjeegkmafbejaaPLx5
import Derived.Test.YtbjeegkmafbejaaXbg
import Derived.Test.YtbjeegkmafbejaaXbi
import Derived.Test.YtbjeegkmafbejaaYu
import Derived.Test.YtbjeegkmafbejaaYh
import Derived.Test.YtbjeegkmafbejaaYn
import Derived.Test.YtbjeegkmafbejaaPLx7
import Derived.Test.YtbjeegkmafbejaaPLx3
import Derived.Test.YtbjeegkmafbejaaRows
import Derived.WalkKit
import Derived.ProofKit
import Derived.OpenShut
import Derived.ShutString
import Derived.ChangeOld
import Derived.Below
import Derived.SizedLaws
-- Printed by wip/xprint.py of this claim's authors, over the kit's print; not trusted: Lean checks it.
namespace Go.Proofs.Ytbjeegkmafbejaa.PL
open Go.RowKit Go.Proofs.YtbjeegkmafbejaaW.PrintWords Go.Proofs.YtbjeegkmafbejaaW.PrintLast Go.Proofs.YtbjeegkmafbejaaW.PrintMore
attribute [local go_sem] max2_int min2_int max_two min_two max_three min_three max_four min_four   -- for this text's walks alone
set_option linter.unusedVariables false
set_option linter.unusedSimpArgs false

/-! ### phalaroperef01_Begin: function 58 -/
def phalaroperef01_Begin.l0 : Nat → ByteArray → List Int → Int → Option (List Int × Int)
  | 0, _, _, _ => none
  | k + 1, x0, x4, x5 => if x5 < (x0.size : Int) then (if 0 ≤ x5 then (if x5 ≤ (x0.size : Int) then ((phalaroperef01_First.f k (x0.extract (x5 : Int).toNat x0.size)).bind fun bt186 => (if bt186.2 = 0 then (some (x4, x5)) else (if x4.length < 17592186044416 then (phalaroperef01_Begin.l0 k x0 (x4 ++ [bt186.1]) (wrap64 (x5 + bt186.2))) else (none)))) else (none)) else (none)) else (some (x4, x5))
def phalaroperef01_Begin.f (k : Nat) (a0 : ByteArray) : Option (List Int × Int) := phalaroperef01_Begin.l0 k a0 ([] : List Int) 0
theorem phalaroperef01_Begin.mono_l : ∀ k, (∀ y0 y1 y2, LeO (phalaroperef01_Begin.l0 k y0 y1 y2) (phalaroperef01_Begin.l0 (k + 1) y0 y1 y2))
  | 0 => fun _ _ _ r h => by simp [phalaroperef01_Begin.l0] at h
  | k + 1 => by
    have ih0 := phalaroperef01_Begin.mono_l k
    · intro y0 y1 y2
      unfold phalaroperef01_Begin.l0
      repeat' first
      | (with_reducible exact ih0 _ _ _)
      | (with_reducible exact phalaroperef01_First.mono _ _)
      | (with_reducible exact LeO.refl _)
      | (with_reducible exact LeO.none _)
      | (with_reducible refine LeO.ite ?_ ?_)
      | (with_reducible refine LeO.bind ?_ (fun _ => ?_))
      | exact ih0 _ _ _
      | exact phalaroperef01_First.mono _ _
      | exact LeO.none _
      | refine LeO.ite ?_ ?_
      | refine LeO.bind ?_ (fun _ => ?_)
theorem phalaroperef01_Begin.mono : ∀ a0 k, LeO (phalaroperef01_Begin.f k a0) (phalaroperef01_Begin.f (k + 1) a0) := by
  intro a0 k
  have ih0 := phalaroperef01_Begin.mono_l k
  unfold phalaroperef01_Begin.f
  repeat' first
      | (with_reducible exact ih0 _ _ _)
      | (with_reducible exact phalaroperef01_First.mono _ _)
      | (with_reducible exact LeO.refl _)
      | (with_reducible exact LeO.none _)
      | (with_reducible refine LeO.ite ?_ ?_)
      | (with_reducible refine LeO.bind ?_ (fun _ => ?_))
      | exact ih0 _ _ _
      | exact phalaroperef01_First.mono _ _
      | exact LeO.none _
      | refine LeO.ite ?_ ?_
      | refine LeO.bind ?_ (fun _ => ?_)
set_option maxHeartbeats 8000000 in
set_option maxRecDepth 100000 in
theorem phalaroperef01_Begin.calls (k : Nat) (a0 : ByteArray) (r1 : List Int) (r2 : Int) (w : World) (h : phalaroperef01_Begin.f k a0 = some (r1, r2)) :
    Calls Try.prog 58 #[.string a0] w fun e w' => ∃ v0_ : Value, e = .returned (.tuple #[v0_, .int .i64 r2]) ∧ Kd.R (Kd.int .i64) 3 w' w.heap.size (fun _ => True) v0_ r1 ∧ Below w.heap.size w w' := by
  have HB := Aside0.mk (Below.refl w.heap.size w)
  have H : (phalaroperef01_Begin.l0 k a0 ([] : List Int) 0) = some (r1, r2) := h
  clear h
  have H' := Aside0.mk H
  clear H
  go_enter Try.func58, Try.ntmps58
  go_wp2
  go_loopg [4, 5] k (fun kq v4 v5 w' => ∃ (x4_1 : List Int) (x5_1 : Int), v5 = .int .i64 x5_1 ∧ Aside0 (phalaroperef01_Begin.l0 kq a0 x4_1 x5_1 = some (r1, r2)) ∧ Aside0 (kq ≤ k) ∧ Aside0 (Kd.R (Kd.int .i64) 3 w' w.heap.size (fun _ => True) v4 x4_1) ∧ Aside0 (Below w.heap.size w w'))
  case atStart => exact ⟨(([] : List Int)), (0), (by first | rfl | (simp; done) | (simp [*]; done)), H', ⟨Nat.le_refl _⟩, ⟨by first | exact Kd.R_nil _ _ _ _ _ | exact Kd.N_nil _ _ _ _ _ | exact Kd.V_nil _ _ _ _ _ | exact Kd.Q_nil _ _ _ _ _ | exact Kd.S_nil _ _ _ _ _⟩, ⟨by repeat (first | (with_reducible first | exact HB.out | apply below_alloc | apply pw_below_drewN | apply below_drew1) | exact HB.out)⟩⟩
  case round =>
    clear H'
    obtain ⟨x4_1, x5_1, rfl, HA, HK1, HO_4, HB⟩ := hrel
    cases gk with
    | zero => exact absurd HA.out (by simp [phalaroperef01_Begin.l0])
    | succ k1 =>
      have H := HA.out
      clear HA
      simp only [phalaroperef01_Begin.l0] at H
      by_cases c2 : x5_1 < (a0.size : Int)
      · rw [if_pos c2] at H
        have c2b0 : decide (x5_1 < (a0.size : Int)) = true := decide_eq_true c2
        clear c2
        by_cases c3 : 0 ≤ x5_1
        · rw [if_pos c3] at H
          have c3b0 := eq_true c3
          have c3b1 : decide (0 ≤ x5_1) = true := decide_eq_true c3
          clear c3
          by_cases c4 : x5_1 ≤ (a0.size : Int)
          · rw [if_pos c4] at H
            have c4b0 := eq_true c4
            have c4b1 : decide (x5_1 ≤ (a0.size : Int)) = true := decide_eq_true c4
            clear c4
            replace H := Option.bind_eq_some_iff.mp H
            obtain ⟨⟨t186, t187⟩, A50, H⟩ := H
            replace H : (if t187 = 0 then (some (x4_1, x5_1)) else (if x4_1.length < 17592186044416 then (phalaroperef01_Begin.l0 k1 a0 (x4_1 ++ [t186]) (wrap64 (x5_1 + t187))) else (none))) = some (r1, r2) := H
            have A5 := Aside0.mk A50
            clear A50
            by_cases c6 : t187 = 0
            · rw [if_pos c6] at H
              have c6b0 : (t187 == 0) = true := beq_iff_eq.mpr c6
              have c6b1 : (t187 != 0) = false := bne_eq_false_iff_eq.mpr c6
              clear c6
              simp only [Option.some.injEq, Prod.mk.injEq] at H
              obtain ⟨rfl, rfl⟩ := H
              go_wp2_with (first | ((with_reducible refine gate_callee (f := 76) rfl ?_); refine goesL_ (some 16) rfl rfl Try.func76 (by kernel_rfl) rfl #[.string (a0.extract (x5_1 : Int).toNat a0.size)] rfl (by (try simp only [List.map_toArray, List.map_cons, List.map_nil]); first | done | rfl | (simp only [List.length_drop, List.length_take]; rfl)) ?_; (with_reducible refine (phalaroperef01_First.calls k1 (a0.extract (x5_1 : Int).toNat a0.size) t186 t187 _ A5.out).mono ?_); rintro e w7 ⟨rfl, hb⟩; refine ⟨_, rfl, ?_⟩; have n0_ := Aside0.mk (Kd.R_below (by (with_reducible repeat (first | apply Kd.R_alloc | apply Kd.R_drewN | apply Kd.R_drew)); exact HO_4.out) hb); have n1_ := Aside0.mk (below_step (by repeat (first | (with_reducible first | exact HB.out | apply below_alloc | apply pw_below_drewN | apply below_drew1) | exact HB.out)) hb); clear HO_4; clear HB; have HO_4 := n0_; have HB := n1_; clear n0_ n1_; (try clear hb); (try clear hb2); (try clear hk); (try clear hi)))
              go_ret2
              exact ⟨_, by first | rfl | (simp [errW_none, errW_some] <;> rfl) | (simp [*, errW_none, errW_some] <;> rfl), by (with_reducible repeat (first | apply Kd.R_alloc | apply Kd.R_drewN | apply Kd.R_drew)); exact HO_4.out, by repeat (first | (with_reducible first | exact HB.out | apply below_alloc | apply pw_below_drewN | apply below_drew1) | exact HB.out)⟩
            · rw [if_neg c6] at H
              have c6b0 : (t187 == 0) = false := beq_eq_false_iff_ne.mpr c6
              have c6b1 : (t187 != 0) = true := bne_iff_ne.mpr c6
              by_cases c8 : x4_1.length < 17592186044416
              · rw [if_pos c8] at H
                have LMc8 := Aside0.mk c8
                clear c8
                obtain ⟨y188, hy188⟩ : ∃ y_ : List Int, y_ = (x4_1 ++ [t186]) := ⟨_, rfl⟩
                replace H : (phalaroperef01_Begin.l0 k1 a0 y188 (wrap64 (x5_1 + t187))) = some (r1, r2) := by first | (rw [hy188]; with_reducible exact H) | (have H2_ := (Option.bind_some _ _).symm.trans H; rw [hy188]; with_reducible exact H2_) | (have H2_ := (Option.bind_some _ _).symm.trans H; with_reducible exact H2_) | with_reducible exact H | (rw [hy188]; exact H) | exact H
                have Ny188 := Aside0.mk hy188
                clear hy188
                have H' := Aside0.mk H
                clear H
                go_wp2_with (first | ((with_reducible refine gate_callee (f := 76) rfl ?_); refine goesL_ (some 16) rfl rfl Try.func76 (by kernel_rfl) rfl #[.string (a0.extract (x5_1 : Int).toNat a0.size)] rfl (by (try simp only [List.map_toArray, List.map_cons, List.map_nil]); first | done | rfl | (simp only [List.length_drop, List.length_take]; rfl)) ?_; (with_reducible refine (phalaroperef01_First.calls k1 (a0.extract (x5_1 : Int).toNat a0.size) t186 t187 _ A5.out).mono ?_); rintro e w9 ⟨rfl, hb⟩; refine ⟨_, rfl, ?_⟩; have n0_ := Aside0.mk (Kd.R_below (by (with_reducible repeat (first | apply Kd.R_alloc | apply Kd.R_drewN | apply Kd.R_drew)); exact HO_4.out) hb); have n1_ := Aside0.mk (below_step (by repeat (first | (with_reducible first | exact HB.out | apply below_alloc | apply pw_below_drewN | apply below_drew1) | exact HB.out)) hb); clear HO_4; clear HB; have HO_4 := n0_; have HB := n1_; clear n0_ n1_; (try clear hb); (try clear hb2); (try clear hk); (try clear hi)) | ((with_reducible refine gate_builtin (b := .append) (xs := #[.tmp 21, .tmp 23]) rfl ?_); at_builtin; refine Kd.R_append (Kd.int .i64) (w0 := w) w.heap.size rfl (.tmp 21) (.tmp 23) 77 3 (.int .i64 0) 8 rfl Try.underlying77 info3 rfl (by decide) (by omega) u4 x4_1 t186 [.int .i64 t186] (fun _ => True) (fun _ => False) rfl rfl ?aP (fun _ hk => hk.elim) ?aF ?aO ?aB ?aS ?aL ?_; (case aP => exact rfl); (case aB => exact (by repeat (first | (with_reducible first | exact HB.out | apply below_alloc | apply pw_below_drewN | apply below_drew1) | exact HB.out))); (case aF => exact (fun _ _ => trivial)); (case aO => exact (by (with_reducible repeat (first | apply Kd.R_alloc | apply Kd.R_drewN | apply Kd.R_drew)); exact HO_4.out)); (case aS => exact (below_size (by repeat (first | (with_reducible first | exact HB.out | apply below_alloc | apply pw_below_drewN | apply below_drew1) | exact HB.out)))); (case aL => have := LMc8.out; omega); intro v189 w10 ho hb hg hat; rw [← Ny188.out] at ho; have n0_ := Aside0.mk (hb); have n1_ := Aside0.mk (ho); clear HB; clear HO_4; have HB := n0_; have HO190 := n1_; clear n0_ n1_; clear ho hb hg hat))
                go_roundg k1
                case measure => have := HK1.out; omega
                case rel => exact ⟨(y188), (wrap64 (x5_1 + t187)), (by first | rfl | (simp; done) | (simp [*]; done)), H', ⟨by have := HK1.out; omega⟩, ⟨by (with_reducible repeat (first | apply Kd.R_alloc | apply Kd.R_drewN | apply Kd.R_drew)); exact HO190.out⟩, ⟨by repeat (first | (with_reducible first | exact HB.out | apply below_alloc | apply pw_below_drewN | apply below_drew1) | exact HB.out)⟩⟩
              · rw [if_neg c8] at H
                exact absurd H (by simp)
          · rw [if_neg c4] at H
            exact absurd H (by simp)
        · rw [if_neg c3] at H
          exact absurd H (by simp)
      · rw [if_neg c2] at H
        have c2b0 : decide (x5_1 < (a0.size : Int)) = false := decide_eq_false c2
        clear c2
        simp only [Option.some.injEq, Prod.mk.injEq] at H
        obtain ⟨rfl, rfl⟩ := H
        go_wp2
        go_ret2
        exact ⟨_, by first | rfl | (simp [errW_none, errW_some] <;> rfl) | (simp [*, errW_none, errW_some] <;> rfl), by (with_reducible repeat (first | apply Kd.R_alloc | apply Kd.R_drewN | apply Kd.R_drew)); exact HO_4.out, by repeat (first | (with_reducible first | exact HB.out | apply below_alloc | apply pw_below_drewN | apply below_drew1) | exact HB.out)⟩

/-! ### phalaroperef01_Valid: function 37 -/
def phalaroperef01_Valid.f (k : Nat) (a0 : ByteArray) : Option (Bool) := (phalaroperef01_Begin.f k a0).bind fun bt191 => (some (bt191.2 == (a0.size : Int)))
theorem phalaroperef01_Valid.mono : ∀ a0 k, LeO (phalaroperef01_Valid.f k a0) (phalaroperef01_Valid.f (k + 1) a0) := by
  intro a0 k
  unfold phalaroperef01_Valid.f
  repeat' first
      | (with_reducible exact phalaroperef01_Begin.mono _ _)
      | (with_reducible exact LeO.refl _)
      | (with_reducible exact LeO.none _)
      | (with_reducible refine LeO.ite ?_ ?_)
      | (with_reducible refine LeO.bind ?_ (fun _ => ?_))
      | exact phalaroperef01_Begin.mono _ _
      | exact LeO.none _
      | refine LeO.ite ?_ ?_
      | refine LeO.bind ?_ (fun _ => ?_)
set_option maxHeartbeats 8000000 in
set_option maxRecDepth 100000 in
theorem phalaroperef01_Valid.calls (k : Nat) (a0 : ByteArray) (r : Bool) (w : World) (h : phalaroperef01_Valid.f k a0 = some r) :
    Calls Try.prog 37 #[.string a0] w fun e w' => e = .returned (.bool r) ∧ Below w.heap.size w w' := by
  have HB := Aside0.mk (Below.refl w.heap.size w)
  have H : ((phalaroperef01_Begin.f k a0).bind fun bt191 => (some (bt191.2 == (a0.size : Int)))) = some r := h
  clear h
  replace H := Option.bind_eq_some_iff.mp H
  obtain ⟨⟨t191, t192⟩, A20, H⟩ := H
  replace H : (some (t192 == (a0.size : Int))) = some r := H
  have A2 := Aside0.mk A20
  clear A20
  obtain rfl := Option.some.inj H
  go_enter Try.func37, Try.ntmps37
  go_wp2_with (first | ((with_reducible refine gate_callee (f := 58) rfl ?_); refine goesL_ (some 7) rfl rfl Try.func58 (by kernel_rfl) rfl #[.string a0] rfl (by (try simp only [List.map_toArray, List.map_cons, List.map_nil]); first | done | rfl | (simp only [List.length_drop, List.length_take]; rfl)) ?_; (with_reducible refine (phalaroperef01_Begin.calls k a0 t191 t192 _ A2.out).mono ?_); rintro e w3 ⟨v193, rfl, ho0, hb⟩; refine ⟨_, rfl, ?_⟩; have n0_ := Aside0.mk (Kd.R_lower ho0 (below_size (by repeat (first | (with_reducible first | exact HB.out | apply below_alloc | apply pw_below_drewN | apply below_drew1) | exact HB.out)))); have n1_ := Aside0.mk (below_step (by repeat (first | (with_reducible first | exact HB.out | apply below_alloc | apply pw_below_drewN | apply below_drew1) | exact HB.out)) hb); clear HB; have HO194 := n0_; have HB := n1_; clear n0_ n1_; (try clear hb); (try clear hb2); (try clear hk); (try clear hi); (try clear ho0)))
  go_ret
  exact ⟨by first | rfl | (simp [errW_none, errW_some] <;> rfl) | (simp [*, errW_none, errW_some] <;> rfl), by repeat (first | (with_reducible first | exact HB.out | apply below_alloc | apply pw_below_drewN | apply below_drew1) | exact HB.out)⟩

/-! ### phalaroperef08_Valid: function 17 -/
def phalaroperef08_Valid.l0 : Nat → List ByteArray → Int → Option (Bool)
  | 0, _, _ => none
  | k + 1, x3, x4 => if x4 < (x3.length : Int) then (if 0 ≤ x4 then ((phalaroperef01_Valid.f k (rdOf ByteArray.empty x3 x4)).bind fun t200 => (if t200 = true then (phalaroperef08_Valid.l0 k x3 (wrap64 (x4 + 1))) else (some false))) else (none)) else (some true)
def phalaroperef08_Valid.f (k : Nat) (a0_0 : Int) (a0_1 : ByteArray) (l0_2 : List ByteArray) (l0_3 : List (S69)) : Option (Bool) := (phalaroperef08_Texts.f k a0_0 a0_1 l0_2 l0_3).bind fun t196 => (phalaroperef08_Valid.l0 k t196 0)
theorem phalaroperef08_Valid.mono_l : ∀ k, (∀ y0 y1, LeO (phalaroperef08_Valid.l0 k y0 y1) (phalaroperef08_Valid.l0 (k + 1) y0 y1))
  | 0 => fun _ _ r h => by simp [phalaroperef08_Valid.l0] at h
  | k + 1 => by
    have ih0 := phalaroperef08_Valid.mono_l k
    · intro y0 y1
      unfold phalaroperef08_Valid.l0
      repeat' first
      | (with_reducible exact ih0 _ _)
      | (with_reducible exact phalaroperef01_Valid.mono _ _)
      | (with_reducible exact phalaroperef08_Texts.mono _ _ _ _ _)
      | (with_reducible exact LeO.refl _)
      | (with_reducible exact LeO.none _)
      | (with_reducible refine LeO.ite ?_ ?_)
      | (with_reducible refine LeO.bind ?_ (fun _ => ?_))
      | exact ih0 _ _
      | exact phalaroperef01_Valid.mono _ _
      | exact phalaroperef08_Texts.mono _ _ _ _ _
      | exact LeO.none _
      | refine LeO.ite ?_ ?_
      | refine LeO.bind ?_ (fun _ => ?_)
theorem phalaroperef08_Valid.mono : ∀ a0 a1 a2 a3 k, LeO (phalaroperef08_Valid.f k a0 a1 a2 a3) (phalaroperef08_Valid.f (k + 1) a0 a1 a2 a3) := by
  intro a0 a1 a2 a3 k
  have ih0 := phalaroperef08_Valid.mono_l k
  unfold phalaroperef08_Valid.f
  repeat' first
      | (with_reducible exact ih0 _ _)
      | (with_reducible exact phalaroperef01_Valid.mono _ _)
      | (with_reducible exact phalaroperef08_Texts.mono _ _ _ _ _)
      | (with_reducible exact LeO.refl _)
      | (with_reducible exact LeO.none _)
      | (with_reducible refine LeO.ite ?_ ?_)
      | (with_reducible refine LeO.bind ?_ (fun _ => ?_))
      | exact ih0 _ _
      | exact phalaroperef01_Valid.mono _ _
      | exact phalaroperef08_Texts.mono _ _ _ _ _
      | exact LeO.none _
      | refine LeO.ite ?_ ?_
      | refine LeO.bind ?_ (fun _ => ?_)
set_option maxHeartbeats 8000000 in
set_option maxRecDepth 100000 in
theorem phalaroperef08_Valid.calls (k : Nat) (a0_0 : Int) (a0_1 : ByteArray) (A0_2 : Option Addr) (c0_2 : Nat) (l0_2 : List ByteArray) (A0_3 : Option Addr) (c0_3 : Nat) (l0_3 : List (S69)) (r : Bool) (w : World) (hr0_2 : Kd.C Kd.string w A0_2 l0_2.length l0_2) (hc0_2 : l0_2.length ≤ c0_2) (hr0_3 : Kd.C k69 w A0_3 l0_3.length l0_3) (hc0_3 : l0_3.length ≤ c0_3) (h : phalaroperef08_Valid.f k a0_0 a0_1 l0_2 l0_3 = some r) :
    Calls Try.prog 17 #[.agg #[.int .i64 a0_0, .string a0_1, .slice A0_2 l0_2.length c0_2, .slice A0_3 l0_3.length c0_3]] w fun e w' => e = .returned (.bool r) ∧ Below w.heap.size w w' := by
  have hu27 := Try.underlying27
  have HR0_2 := Aside0.mk hr0_2
  have HC0_2 := Aside0.mk hc0_2
  clear hr0_2 hc0_2
  have HR0_3 := Aside0.mk hr0_3
  have HC0_3 := Aside0.mk hc0_3
  clear hr0_3 hc0_3
  have HB := Aside0.mk (Below.refl w.heap.size w)
  have H : ((phalaroperef08_Texts.f k a0_0 a0_1 l0_2 l0_3).bind fun t196 => (phalaroperef08_Valid.l0 k t196 0)) = some r := h
  clear h
  replace H := Option.bind_eq_some_iff.mp H
  obtain ⟨t196, A20, H⟩ := H
  replace H : (phalaroperef08_Valid.l0 k t196 0) = some r := H
  have A2 := Aside0.mk A20
  clear A20
  have H' := Aside0.mk H
  clear H
  go_enter Try.func17, Try.ntmps17
  go_wp2_with (first | ((with_reducible refine gate_dst (N := 1) rfl ?_); refine box_event ?hg (N := 1) ?hd (cs := #[.int .i64 a0_0, .string a0_1, .slice A0_2 l0_2.length c0_2, .slice A0_3 l0_3.length c0_3]) (t := 27) ?hr ?_; (case hd => rfl); (case hg => rfl); (case hr => first | (go_simp; done) | (go_simp; rfl)); intro gb195 hg w3 hbox hb; have n0_ := Aside0.mk (below_step (by repeat (first | (with_reducible first | exact HB.out | apply below_alloc | apply pw_below_drewN | apply below_drew1) | exact HB.out)) hb); have n1_ := Aside0.mk (hbox); have n2_ := Aside0.mk ((by rw [hg]; exact (below_size (by repeat (first | (with_reducible first | exact HB.out | apply below_alloc | apply pw_below_drewN | apply below_drew1) | exact HB.out))) : w.heap.size ≤ gb195)); have n3_ := Aside0.mk ((by rw [hg]; exact (below_size (by repeat (first | (with_reducible first | exact HB.out | apply below_alloc | apply pw_below_drewN | apply below_drew1) | exact HB.out))) : w.heap.size ≤ gb195)); clear HB; have HB := n0_; have BK195 := n1_; have GW195 := n2_; have GE195 := n3_; clear n0_ n1_ n2_ n3_; clear hb hbox hg; have hcz4_0 : w3.cell? ⟨gb195, 0, none⟩ = some (.int .i64 a0_0) := (blk_cell BK195.out 0).trans rfl; have hcz4_1 : w3.cell? ⟨gb195, 1, none⟩ = some (.string a0_1) := (blk_cell BK195.out 1).trans rfl; have hcz4_2 : w3.cell? ⟨gb195, 2, none⟩ = some (.slice A0_2 l0_2.length c0_2) := (blk_cell BK195.out 2).trans rfl; have hcz4_3 : w3.cell? ⟨gb195, 3, none⟩ = some (.slice A0_3 l0_3.length c0_3) := (blk_cell BK195.out 3).trans rfl; have hfz4_0 := blk_frozen BK195.out 0; have hfz4_1 := blk_frozen BK195.out 1; have hfz4_2 := blk_frozen BK195.out 2; have hfz4_3 := blk_frozen BK195.out 3) | ((with_reducible refine gate_callee (f := 36) rfl ?_); refine goesL_ (some 6) rfl rfl Try.func36 (by kernel_rfl) rfl #[.agg #[.int .i64 a0_0, .string a0_1, .slice A0_2 l0_2.length c0_2, .slice A0_3 l0_3.length c0_3]] rfl (by (try simp only [List.map_toArray, List.map_cons, List.map_nil]); first | done | rfl | (simp only [List.length_drop, List.length_take]; rfl)) ?_; (with_reducible refine (phalaroperef08_Texts.calls k a0_0 a0_1 _ _ l0_2 _ _ l0_3 t196 _ ?side1 ?side2 ?side3 ?side4 A2.out).mono ?_); (case side1 => repeat (first | exact (Kd.C_below HR0_2.out HB.out) | (with_reducible refine Kd.C_alloc ?_ _) | (with_reducible refine Kd.C_drewN ?_ _) | (with_reducible refine Kd.C_drew ?_))); (case side2 => exact HC0_2.out); (case side3 => repeat (first | exact (Kd.C_below HR0_3.out HB.out) | (with_reducible refine Kd.C_alloc ?_ _) | (with_reducible refine Kd.C_drewN ?_ _) | (with_reducible refine Kd.C_drew ?_))); (case side4 => exact HC0_3.out); rintro e w5 ⟨v197, rfl, ho0, hb⟩; refine ⟨_, rfl, ?_⟩; have n0_ := Aside0.mk (Kd.R_lower ho0 (below_size (by repeat (first | (with_reducible first | exact HB.out | apply below_alloc | apply pw_below_drewN | apply below_drew1 | refine below_set ?_ GE195.out) | exact HB.out)))); have n1_ := Aside0.mk (blk_below (g := gb195) (o := .cells #[.int .i64 a0_0, .string a0_1, .slice A0_2 l0_2.length c0_2, .slice A0_3 l0_3.length c0_3] 27 (0, 0)) (by (with_reducible repeat (first | refine blk_drewN ?_ _ | refine blk_drew ?_ | refine blk_alloc ?_ _)); exact BK195.out) hb); have n2_ := Aside0.mk (below_step (by repeat (first | (with_reducible first | exact HB.out | apply below_alloc | apply pw_below_drewN | apply below_drew1 | refine below_set ?_ GE195.out) | exact HB.out)) hb); clear BK195; clear HB; have HO198 := n0_; have BK195 := n1_; have HB := n2_; clear n0_ n1_ n2_; (try clear hb); (try clear hb2); (try clear hk); (try clear hi); (try clear ho0)))
  go_loopg [4] k (fun kq v4 w' => ∃ (x4_1 : Int), v4 = .int .i64 x4_1 ∧ Aside0 (phalaroperef08_Valid.l0 kq t196 x4_1 = some r) ∧ Aside0 (kq ≤ k) ∧ Aside0 (Kd.R Kd.string 9 w' w.heap.size (fun _ => True) v197 t196) ∧ Aside0 (w'.heap[gb195]? = some (.cells #[.int .i64 a0_0, .string a0_1, (.slice A0_2 l0_2.length c0_2), (.slice A0_3 l0_3.length c0_3)] 27 (0, 0))) ∧ Aside0 (Below w.heap.size w w'))
  case atStart => exact ⟨(0), (by first | rfl | (simp; done) | (simp [*]; done)), H', ⟨Nat.le_refl _⟩, ⟨by (with_reducible repeat (first | apply Kd.R_alloc | apply Kd.R_drewN | apply Kd.R_drew)); exact HO198.out⟩, ⟨by (with_reducible repeat (first | refine blk_drewN ?_ _ | refine blk_drew ?_ | refine blk_alloc ?_ _)); exact BK195.out⟩, ⟨by repeat (first | (with_reducible first | exact HB.out | apply below_alloc | apply pw_below_drewN | apply below_drew1 | refine below_set ?_ GE195.out) | exact HB.out)⟩⟩
  case round =>
    clear H'
    try clear c1
    try clear p2
    try clear c3
    try clear hcz4_0
    try clear hcz4_1
    try clear hcz4_2
    try clear hcz4_3
    try clear hfz4_0
    try clear hfz4_1
    try clear hfz4_2
    try clear hfz4_3
    obtain ⟨x4_1, rfl, HA, HK1, HO_3, BK195, HB⟩ := hrel
    cases gk with
    | zero => exact absurd HA.out (by simp [phalaroperef08_Valid.l0])
    | succ k1 =>
      have H := HA.out
      clear HA
      simp only [phalaroperef08_Valid.l0] at H
      by_cases c6 : x4_1 < (t196.length : Int)
      · rw [if_pos c6] at H
        have c6b0 : decide (x4_1 < (t196.length : Int)) = true := decide_eq_true c6
        clear c6
        by_cases c7 : 0 ≤ x4_1
        · rw [if_pos c7] at H
          have c7b0 : decide (0 ≤ x4_1) = true := decide_eq_true c7
          clear c7
          replace H := Option.bind_eq_some_iff.mp H
          obtain ⟨t200, A80, H⟩ := H
          replace H : (if t200 = true then (phalaroperef08_Valid.l0 k1 t196 (wrap64 (x4_1 + 1))) else (some false)) = some r := H
          have A8 := Aside0.mk A80
          clear A80
          by_cases c9 : t200 = true
          · subst c9
            have H1 : (phalaroperef08_Valid.l0 k1 t196 (wrap64 (x4_1 + 1))) = some r := by rw [if_pos rfl] at H; exact H
            clear H
            have H := H1
            clear H1
            have H' := Aside0.mk H
            clear H
            obtain ⟨Ao10, co10, eo10⟩ := Kd.R_slice HO_3.out
            subst eo10
            have p199 : 0 ≤ (x4_1 : Int) := of_decide_eq_true (by first | (with_reducible assumption) | assumption)
            have q199 : x4_1 < (t196.length : Int) := of_decide_eq_true (by first | (with_reducible assumption) | assumption)
            obtain ⟨ad199, e199, hx199_0⟩ := Kd.at_string (Kd.R_reads' HO_3.out).2.2 x4_1 p199 q199
            cases e199
            replace p199 := eq_true p199
            replace q199 := eq_true q199
            go_wp2_with (first | ((with_reducible refine gate_callee (f := 37) rfl ?_); refine goesL_ (some 17) rfl rfl Try.func37 (by kernel_rfl) rfl #[.string (rdOf ByteArray.empty t196 x4_1)] rfl (by (try simp only [List.map_toArray, List.map_cons, List.map_nil]); first | done | rfl | (simp only [List.length_drop, List.length_take]; rfl)) ?_; (with_reducible refine (phalaroperef01_Valid.calls k1 (rdOf ByteArray.empty t196 x4_1) true _ A8.out).mono ?_); rintro e w11 ⟨rfl, hb⟩; refine ⟨_, rfl, ?_⟩; have n0_ := Aside0.mk (Kd.R_below (by (with_reducible repeat (first | apply Kd.R_alloc | apply Kd.R_drewN | apply Kd.R_drew)); exact HO_3.out) hb); have n1_ := Aside0.mk (blk_below (g := gb195) (o := .cells #[.int .i64 a0_0, .string a0_1, .slice A0_2 l0_2.length c0_2, .slice A0_3 l0_3.length c0_3] 27 (0, 0)) (by (with_reducible repeat (first | refine blk_drewN ?_ _ | refine blk_drew ?_ | refine blk_alloc ?_ _)); exact BK195.out) hb); have n2_ := Aside0.mk (below_step (by repeat (first | (with_reducible first | exact HB.out | apply below_alloc | apply pw_below_drewN | apply below_drew1 | refine below_set ?_ GE195.out) | exact HB.out)) hb); clear HO_3; clear BK195; clear HB; have HO_3 := n0_; have BK195 := n1_; have HB := n2_; clear n0_ n1_ n2_; (try clear hb); (try clear hb2); (try clear hk); (try clear hi)))
            go_roundg k1
            case measure => have := HK1.out; omega
            case rel => exact ⟨(wrap64 (x4_1 + 1)), (by first | rfl | (simp; done) | (simp [*]; done)), H', ⟨by have := HK1.out; omega⟩, ⟨by (with_reducible repeat (first | apply Kd.R_alloc | apply Kd.R_drewN | apply Kd.R_drew)); exact HO_3.out⟩, ⟨by (with_reducible repeat (first | refine blk_drewN ?_ _ | refine blk_drew ?_ | refine blk_alloc ?_ _)); exact BK195.out⟩, ⟨by repeat (first | (with_reducible first | exact HB.out | apply below_alloc | apply pw_below_drewN | apply below_drew1 | refine below_set ?_ GE195.out) | exact HB.out)⟩⟩
          · replace c9 := Bool.eq_false_iff.mpr c9
            subst c9
            have H1 : (some false) = some r := by rw [if_neg (show ¬ (false = true) by decide)] at H; exact H
            clear H
            have H := H1
            clear H1
            obtain rfl := Option.some.inj H
            obtain ⟨Ao12, co12, eo12⟩ := Kd.R_slice HO_3.out
            subst eo12
            have p199 : 0 ≤ (x4_1 : Int) := of_decide_eq_true (by first | (with_reducible assumption) | assumption)
            have q199 : x4_1 < (t196.length : Int) := of_decide_eq_true (by first | (with_reducible assumption) | assumption)
            obtain ⟨ad199, e199, hx199_0⟩ := Kd.at_string (Kd.R_reads' HO_3.out).2.2 x4_1 p199 q199
            cases e199
            replace p199 := eq_true p199
            replace q199 := eq_true q199
            go_wp2_with (first | ((with_reducible refine gate_callee (f := 37) rfl ?_); refine goesL_ (some 17) rfl rfl Try.func37 (by kernel_rfl) rfl #[.string (rdOf ByteArray.empty t196 x4_1)] rfl (by (try simp only [List.map_toArray, List.map_cons, List.map_nil]); first | done | rfl | (simp only [List.length_drop, List.length_take]; rfl)) ?_; (with_reducible refine (phalaroperef01_Valid.calls k1 (rdOf ByteArray.empty t196 x4_1) false _ A8.out).mono ?_); rintro e w13 ⟨rfl, hb⟩; refine ⟨_, rfl, ?_⟩; have n0_ := Aside0.mk (Kd.R_below (by (with_reducible repeat (first | apply Kd.R_alloc | apply Kd.R_drewN | apply Kd.R_drew)); exact HO_3.out) hb); have n1_ := Aside0.mk (blk_below (g := gb195) (o := .cells #[.int .i64 a0_0, .string a0_1, .slice A0_2 l0_2.length c0_2, .slice A0_3 l0_3.length c0_3] 27 (0, 0)) (by (with_reducible repeat (first | refine blk_drewN ?_ _ | refine blk_drew ?_ | refine blk_alloc ?_ _)); exact BK195.out) hb); have n2_ := Aside0.mk (below_step (by repeat (first | (with_reducible first | exact HB.out | apply below_alloc | apply pw_below_drewN | apply below_drew1 | refine below_set ?_ GE195.out) | exact HB.out)) hb); clear HO_3; clear BK195; clear HB; have HO_3 := n0_; have BK195 := n1_; have HB := n2_; clear n0_ n1_ n2_; (try clear hb); (try clear hb2); (try clear hk); (try clear hi)))
            go_ret
            exact ⟨by first | rfl | (simp [errW_none, errW_some] <;> rfl) | (simp [*, errW_none, errW_some] <;> rfl), by repeat (first | (with_reducible first | exact HB.out | apply below_alloc | apply pw_below_drewN | apply below_drew1 | refine below_set ?_ GE195.out) | exact HB.out)⟩
        · rw [if_neg c7] at H
          exact absurd H (by simp)
      · rw [if_neg c6] at H
        have c6b0 : decide (x4_1 < (t196.length : Int)) = false := decide_eq_false c6
        clear c6
        obtain rfl := Option.some.inj H
        obtain ⟨Ao14, co14, eo14⟩ := Kd.R_slice HO_3.out
        subst eo14
        go_wp2
        go_ret
        exact ⟨by first | rfl | (simp [errW_none, errW_some] <;> rfl) | (simp [*, errW_none, errW_some] <;> rfl), by repeat (first | (with_reducible first | exact HB.out | apply below_alloc | apply pw_below_drewN | apply below_drew1 | refine below_set ?_ GE195.out) | exact HB.out)⟩

/-! ### oper_Of: function 18 (ours) -/
def oper_Of.f (a0 : Int) : Option (ByteArray × ByteArray × Bool × ByteArray × Bool × Bool) := if 0 ≤ a0 ∧ a0 ≤ 255 then some (X.ruleFirst a0, X.ruleSep a0, X.ruleNamed a0, X.ruleEmpty a0, X.ruleKeep a0, X.isOper a0) else none
set_option maxHeartbeats 8000000 in
set_option maxRecDepth 100000 in
theorem oper_Of.calls (a0 : Int) (r1 : ByteArray) (r2 : ByteArray) (r3 : Bool) (r4 : ByteArray) (r5 : Bool) (r6 : Bool) (w : World) (h : oper_Of.f a0 = some (r1, r2, r3, r4, r5, r6)) :
    Calls Try.prog 18 #[.int .u8 a0] w fun e w' => e = .returned (.tuple #[.agg #[.string r1, .string r2, .bool r3, .string r4, .bool r5], .bool r6]) ∧ Below w.heap.size w w' := by
  simp only [oper_Of.f] at h
  split at h
  · rename_i hb
    have hR := Option.some.inj h
    simp only [Prod.mk.injEq] at hR
    obtain ⟨rfl, rfl, rfl, rfl, rfl, rfl⟩ := hR
    exact X.operOf_any a0 w hb.1 hb.2
  · cases h
/-! ### pct_Decode: function 19 (ours) -/
def pct_Decode.f (a0 : ByteArray) : Option (ByteArray × Bool) := if a0.size ≤ 1000000 then some (X.decV a0) else none
set_option maxHeartbeats 8000000 in
set_option maxRecDepth 100000 in
theorem pct_Decode.calls (a0 : ByteArray) (r1 : ByteArray) (r2 : Bool) (w : World) (h : pct_Decode.f a0 = some (r1, r2)) :
    Calls Try.prog 19 #[.string a0] w fun e w' => e = .returned (.tuple #[.string r1, .bool r2]) ∧ Below w.heap.size w w' := by
  simp only [pct_Decode.f] at h
  split at h
  · rename_i hs
    have hR := Option.some.inj h
    have e1 : (X.decV a0).1 = _ := congrArg (fun x => x.1) hR
    have e2 : (X.decV a0).2 = _ := congrArg (fun x => x.2) hR
    refine (X.decode_any a0 w hs).mono fun e w' he => ⟨?_, he.2⟩
    rw [he.1, e1, e2]
  · cases h
end Go.Proofs.Ytbjeegkmafbejaa.PL
-- Printed by wip/xprint.py of this claim's authors, over the kit's print; not trusted: Lean checks it.
namespace Go.Proofs.Ytbjeegkmafbejaa.PL
open Go.RowKit Go.Proofs.YtbjeegkmafbejaaW.PrintWords Go.Proofs.YtbjeegkmafbejaaW.PrintLast Go.Proofs.YtbjeegkmafbejaaW.PrintMore
attribute [local go_sem] max2_int min2_int max_two min_two max_three min_three max_four min_four   -- for this text's walks alone
set_option linter.unusedVariables false
set_option linter.unusedSimpArgs false

/-! ### phalaropelaw11_PieceBack: function 7 -/
mutual
def phalaropelaw11_PieceBack.j0 : Nat → Int → ByteArray → ByteArray → Bool → Bool → ByteArray → ByteArray → Bool → ByteArray → Bool → ByteArray → Int → Bool → Int → ByteArray → Option (Bool)
  | 0, _, _, _, _, _, _, _, _, _, _, _, _, _, _, _ => none
  | k + 1, x0, x1, x2, x7, x48, x209000, x209001, x209002, x209003, x209004, x210000, x210001, x210002, x211000, x211001 => if x48 = true then (some x7) else ((piece_One.f x0 x210000 x210001 x210002 x211000 x211001 ([] : List ByteArray) ([] : List (S69))).bind fun bt214 => (if x209002 = true then (if (bt214.1.size : Int) < (x1.size : Int) then (phalaropelaw11_PieceBack.j1 k x1 x2 x7 bt214.1 bt214.2.1 bt214.2.2 true) else (if 0 ≤ (x1.size : Int) then (if (x1.size : Int) ≤ (bt214.1.size : Int) then (phalaropelaw11_PieceBack.j1 k x1 x2 x7 bt214.1 bt214.2.1 bt214.2.2 ((bt214.1.extract 0 x1.size).toList != x1.toList)) else (none)) else (none))) else ((pct_Decode.f bt214.1).bind fun bt221 => (if x7 = true then (if bt214.2.1 = true then (if bt214.2.2 = 0 then (if bt221.2 = true then (some (bt221.1.toList == x2.toList)) else (some false)) else (some false)) else (some false)) else (some false)))))
def phalaropelaw11_PieceBack.j1 : Nat → ByteArray → ByteArray → Bool → ByteArray → Bool → Int → Bool → Option (Bool)
  | 0, _, _, _, _, _, _, _ => none
  | k + 1, x1, x2, x7, x12, x13, x14, x72 => if x72 = true then (some false) else (if 0 ≤ (x1.size : Int) then (if (x1.size : Int) ≤ (x12.size : Int) then (if (x12.extract x1.size x12.size).toList = ([] : List UInt8) then ((pct_Decode.f (x12.extract x1.size x12.size)).bind fun bt217 => (if x7 = true then (if x13 = true then (if x14 = 0 then (if bt217.2 = true then (some (bt217.1.toList == x2.toList)) else (some false)) else (some false)) else (some false)) else (some false))) else (if 1 ≤ ((x12.size - x1.size : Nat) : Int) then ((pct_Decode.f ((x12.extract x1.size x12.size).extract 1 (x12.size - x1.size))).bind fun bt219 => (if x7 = true then (if x13 = true then (if x14 = 0 then (if bt219.2 = true then (some (bt219.1.toList == x2.toList)) else (some false)) else (some false)) else (some false)) else (some false))) else (none))) else (none)) else (none))
end
def phalaropelaw11_PieceBack.f (k : Nat) (a0 : Int) (a1 : ByteArray) (a2 : ByteArray) : Option (Bool) := (phalaropelaw11_awake.f).bind fun t201 => ((oper_Of.f a0).bind fun bt202 => ((phalaropelaw11_few.f k a1 0 false 1 a2 ([] : List ByteArray) ([] : List (S69))).bind fun t211 => (if t211 = true then (if bt202.2.2.2.2.2 = true then (if bt202.2.2.2.2.1 = true then (phalaropelaw11_PieceBack.j0 k a0 a1 a2 t201 true bt202.1 bt202.2.1 bt202.2.2.1 bt202.2.2.2.1 bt202.2.2.2.2.1 a1 0 false 1 a2) else ((phalaroperef06_May.f k a1 0 false).bind fun t212 => (if t212 = true then ((phalaroperef08_Valid.f k 1 a2 ([] : List ByteArray) ([] : List (S69))).bind fun t213 => (phalaropelaw11_PieceBack.j0 k a0 a1 a2 t201 (!t213) bt202.1 bt202.2.1 bt202.2.2.1 bt202.2.2.2.1 bt202.2.2.2.2.1 a1 0 false 1 a2)) else (phalaropelaw11_PieceBack.j0 k a0 a1 a2 t201 true bt202.1 bt202.2.1 bt202.2.2.1 bt202.2.2.2.1 bt202.2.2.2.2.1 a1 0 false 1 a2)))) else (phalaropelaw11_PieceBack.j0 k a0 a1 a2 t201 true bt202.1 bt202.2.1 bt202.2.2.1 bt202.2.2.2.1 bt202.2.2.2.2.1 a1 0 false 1 a2)) else (phalaropelaw11_PieceBack.j0 k a0 a1 a2 t201 true bt202.1 bt202.2.1 bt202.2.2.1 bt202.2.2.2.1 bt202.2.2.2.2.1 a1 0 false 1 a2))))
theorem phalaropelaw11_PieceBack.mono_l : ∀ k, (∀ y0 y1 y2 y3 y4 y5 y6 y7 y8 y9 y10 y11 y12 y13 y14, LeO (phalaropelaw11_PieceBack.j0 k y0 y1 y2 y3 y4 y5 y6 y7 y8 y9 y10 y11 y12 y13 y14) (phalaropelaw11_PieceBack.j0 (k + 1) y0 y1 y2 y3 y4 y5 y6 y7 y8 y9 y10 y11 y12 y13 y14)) ∧ (∀ y0 y1 y2 y3 y4 y5 y6, LeO (phalaropelaw11_PieceBack.j1 k y0 y1 y2 y3 y4 y5 y6) (phalaropelaw11_PieceBack.j1 (k + 1) y0 y1 y2 y3 y4 y5 y6))
  | 0 => ⟨fun _ _ _ _ _ _ _ _ _ _ _ _ _ _ _ r h => by simp [phalaropelaw11_PieceBack.j0] at h, fun _ _ _ _ _ _ _ r h => by simp [phalaropelaw11_PieceBack.j1] at h⟩
  | k + 1 => by
    obtain ⟨ih0, ih1⟩ := phalaropelaw11_PieceBack.mono_l k
    refine ⟨?_, ?_⟩
    · intro y0 y1 y2 y3 y4 y5 y6 y7 y8 y9 y10 y11 y12 y13 y14
      unfold phalaropelaw11_PieceBack.j0
      repeat' first
      | (with_reducible exact ih0 _ _ _ _ _ _ _ _ _ _ _ _ _ _ _)
      | (with_reducible exact ih1 _ _ _ _ _ _ _)
      | (with_reducible exact phalaropelaw11_few.mono _ _ _ _ _ _ _ _)
      | (with_reducible exact phalaroperef06_May.mono _ _ _ _)
      | (with_reducible exact phalaroperef08_Valid.mono _ _ _ _ _)
      | (with_reducible exact LeO.refl _)
      | (with_reducible exact LeO.none _)
      | (with_reducible refine LeO.ite ?_ ?_)
      | (with_reducible refine LeO.bind ?_ (fun _ => ?_))
      | exact ih0 _ _ _ _ _ _ _ _ _ _ _ _ _ _ _
      | exact ih1 _ _ _ _ _ _ _
      | exact phalaropelaw11_few.mono _ _ _ _ _ _ _ _
      | exact phalaroperef06_May.mono _ _ _ _
      | exact phalaroperef08_Valid.mono _ _ _ _ _
      | exact LeO.none _
      | refine LeO.ite ?_ ?_
      | refine LeO.bind ?_ (fun _ => ?_)
    · intro y0 y1 y2 y3 y4 y5 y6
      unfold phalaropelaw11_PieceBack.j1
      repeat' first
      | (with_reducible exact ih0 _ _ _ _ _ _ _ _ _ _ _ _ _ _ _)
      | (with_reducible exact ih1 _ _ _ _ _ _ _)
      | (with_reducible exact phalaropelaw11_few.mono _ _ _ _ _ _ _ _)
      | (with_reducible exact phalaroperef06_May.mono _ _ _ _)
      | (with_reducible exact phalaroperef08_Valid.mono _ _ _ _ _)
      | (with_reducible exact LeO.refl _)
      | (with_reducible exact LeO.none _)
      | (with_reducible refine LeO.ite ?_ ?_)
      | (with_reducible refine LeO.bind ?_ (fun _ => ?_))
      | exact ih0 _ _ _ _ _ _ _ _ _ _ _ _ _ _ _
      | exact ih1 _ _ _ _ _ _ _
      | exact phalaropelaw11_few.mono _ _ _ _ _ _ _ _
      | exact phalaroperef06_May.mono _ _ _ _
      | exact phalaroperef08_Valid.mono _ _ _ _ _
      | exact LeO.none _
      | refine LeO.ite ?_ ?_
      | refine LeO.bind ?_ (fun _ => ?_)
theorem phalaropelaw11_PieceBack.mono : ∀ a0 a1 a2 k, LeO (phalaropelaw11_PieceBack.f k a0 a1 a2) (phalaropelaw11_PieceBack.f (k + 1) a0 a1 a2) := by
  intro a0 a1 a2 k
  obtain ⟨ih0, ih1⟩ := phalaropelaw11_PieceBack.mono_l k
  unfold phalaropelaw11_PieceBack.f
  repeat' first
      | (with_reducible exact ih0 _ _ _ _ _ _ _ _ _ _ _ _ _ _ _)
      | (with_reducible exact ih1 _ _ _ _ _ _ _)
      | (with_reducible exact phalaropelaw11_few.mono _ _ _ _ _ _ _ _)
      | (with_reducible exact phalaroperef06_May.mono _ _ _ _)
      | (with_reducible exact phalaroperef08_Valid.mono _ _ _ _ _)
      | (with_reducible exact LeO.refl _)
      | (with_reducible exact LeO.none _)
      | (with_reducible refine LeO.ite ?_ ?_)
      | (with_reducible refine LeO.bind ?_ (fun _ => ?_))
      | exact ih0 _ _ _ _ _ _ _ _ _ _ _ _ _ _ _
      | exact ih1 _ _ _ _ _ _ _
      | exact phalaropelaw11_few.mono _ _ _ _ _ _ _ _
      | exact phalaroperef06_May.mono _ _ _ _
      | exact phalaroperef08_Valid.mono _ _ _ _ _
      | exact LeO.none _
      | refine LeO.ite ?_ ?_
      | refine LeO.bind ?_ (fun _ => ?_)
set_option maxHeartbeats 8000000 in
set_option maxRecDepth 100000 in
theorem phalaropelaw11_PieceBack.calls (k : Nat) (a0 : Int) (a1 : ByteArray) (a2 : ByteArray) (r : Bool) (w : World) (h : phalaropelaw11_PieceBack.f k a0 a1 a2 = some r) :
    Calls Try.prog 7 #[.int .u8 a0, .string a1, .string a2] w fun e w' => e = .returned (.bool r) ∧ Below w.heap.size w w' := by
  have hu43 := Try.underlying43
  have hu23 := Try.underlying23
  have hu27 := Try.underlying27
  have HB := Aside0.mk (Below.refl w.heap.size w)
  have H : ((phalaropelaw11_awake.f).bind fun t201 => ((oper_Of.f a0).bind fun bt202 => ((phalaropelaw11_few.f k a1 0 false 1 a2 ([] : List ByteArray) ([] : List (S69))).bind fun t211 => (if t211 = true then (if bt202.2.2.2.2.2 = true then (if bt202.2.2.2.2.1 = true then (phalaropelaw11_PieceBack.j0 k a0 a1 a2 t201 true bt202.1 bt202.2.1 bt202.2.2.1 bt202.2.2.2.1 bt202.2.2.2.2.1 a1 0 false 1 a2) else ((phalaroperef06_May.f k a1 0 false).bind fun t212 => (if t212 = true then ((phalaroperef08_Valid.f k 1 a2 ([] : List ByteArray) ([] : List (S69))).bind fun t213 => (phalaropelaw11_PieceBack.j0 k a0 a1 a2 t201 (!t213) bt202.1 bt202.2.1 bt202.2.2.1 bt202.2.2.2.1 bt202.2.2.2.2.1 a1 0 false 1 a2)) else (phalaropelaw11_PieceBack.j0 k a0 a1 a2 t201 true bt202.1 bt202.2.1 bt202.2.2.1 bt202.2.2.2.1 bt202.2.2.2.2.1 a1 0 false 1 a2)))) else (phalaropelaw11_PieceBack.j0 k a0 a1 a2 t201 true bt202.1 bt202.2.1 bt202.2.2.1 bt202.2.2.2.1 bt202.2.2.2.2.1 a1 0 false 1 a2)) else (phalaropelaw11_PieceBack.j0 k a0 a1 a2 t201 true bt202.1 bt202.2.1 bt202.2.2.1 bt202.2.2.2.1 bt202.2.2.2.2.1 a1 0 false 1 a2))))) = some r := h
  clear h
  replace H := Option.bind_eq_some_iff.mp H
  obtain ⟨t201, A40, H⟩ := H
  replace H : ((oper_Of.f a0).bind fun bt202 => ((phalaropelaw11_few.f k a1 0 false 1 a2 ([] : List ByteArray) ([] : List (S69))).bind fun t211 => (if t211 = true then (if bt202.2.2.2.2.2 = true then (if bt202.2.2.2.2.1 = true then (phalaropelaw11_PieceBack.j0 k a0 a1 a2 t201 true bt202.1 bt202.2.1 bt202.2.2.1 bt202.2.2.2.1 bt202.2.2.2.2.1 a1 0 false 1 a2) else ((phalaroperef06_May.f k a1 0 false).bind fun t212 => (if t212 = true then ((phalaroperef08_Valid.f k 1 a2 ([] : List ByteArray) ([] : List (S69))).bind fun t213 => (phalaropelaw11_PieceBack.j0 k a0 a1 a2 t201 (!t213) bt202.1 bt202.2.1 bt202.2.2.1 bt202.2.2.2.1 bt202.2.2.2.2.1 a1 0 false 1 a2)) else (phalaropelaw11_PieceBack.j0 k a0 a1 a2 t201 true bt202.1 bt202.2.1 bt202.2.2.1 bt202.2.2.2.1 bt202.2.2.2.2.1 a1 0 false 1 a2)))) else (phalaropelaw11_PieceBack.j0 k a0 a1 a2 t201 true bt202.1 bt202.2.1 bt202.2.2.1 bt202.2.2.2.1 bt202.2.2.2.2.1 a1 0 false 1 a2)) else (phalaropelaw11_PieceBack.j0 k a0 a1 a2 t201 true bt202.1 bt202.2.1 bt202.2.2.1 bt202.2.2.2.1 bt202.2.2.2.2.1 a1 0 false 1 a2)))) = some r := H
  have A4 := Aside0.mk A40
  clear A40
  replace H := Option.bind_eq_some_iff.mp H
  obtain ⟨⟨t202, t203, t204, t205, t206, t207⟩, A50, H⟩ := H
  replace H : ((phalaropelaw11_few.f k a1 0 false 1 a2 ([] : List ByteArray) ([] : List (S69))).bind fun t211 => (if t211 = true then (if t207 = true then (if t206 = true then (phalaropelaw11_PieceBack.j0 k a0 a1 a2 t201 true t202 t203 t204 t205 t206 a1 0 false 1 a2) else ((phalaroperef06_May.f k a1 0 false).bind fun t212 => (if t212 = true then ((phalaroperef08_Valid.f k 1 a2 ([] : List ByteArray) ([] : List (S69))).bind fun t213 => (phalaropelaw11_PieceBack.j0 k a0 a1 a2 t201 (!t213) t202 t203 t204 t205 t206 a1 0 false 1 a2)) else (phalaropelaw11_PieceBack.j0 k a0 a1 a2 t201 true t202 t203 t204 t205 t206 a1 0 false 1 a2)))) else (phalaropelaw11_PieceBack.j0 k a0 a1 a2 t201 true t202 t203 t204 t205 t206 a1 0 false 1 a2)) else (phalaropelaw11_PieceBack.j0 k a0 a1 a2 t201 true t202 t203 t204 t205 t206 a1 0 false 1 a2))) = some r := H
  have A5 := Aside0.mk A50
  clear A50
  have HC6 := Aside0.mk H
  clear H
  go_enter Try.func7, Try.ntmps7
  go_upto_region 5 with (first | ((with_reducible refine gate_callee (f := 8) rfl ?_); refine goesL_ (some 17) rfl rfl Try.func8 (by kernel_rfl) rfl #[] rfl (by (try simp only [List.map_toArray, List.map_cons, List.map_nil]); first | done | rfl | (simp only [List.length_drop, List.length_take]; rfl)) ?_; (with_reducible refine (phalaropelaw11_awake.calls  t201 _ A4.out).mono ?_); rintro e w7 ⟨rfl, hb⟩; refine ⟨_, rfl, ?_⟩; have n0_ := Aside0.mk (below_step (by repeat (first | (with_reducible first | exact HB.out | apply below_alloc | apply pw_below_drewN | apply below_drew1) | exact HB.out)) hb); clear HB; have HB := n0_; clear n0_; (try clear hb); (try clear hb2); (try clear hk); (try clear hi)) | ((with_reducible refine gate_callee (f := 18) rfl ?_); refine goesL_ (some 20) rfl rfl Try.func18 (by kernel_rfl) rfl #[.int .u8 a0] rfl (by (try simp only [List.map_toArray, List.map_cons, List.map_nil]); first | done | rfl | (simp only [List.length_drop, List.length_take]; rfl)) ?_; (with_reducible refine (oper_Of.calls a0 t202 t203 t204 t205 t206 t207 _ A5.out).mono ?_); rintro e w8 ⟨rfl, hb⟩; refine ⟨_, rfl, ?_⟩; have n0_ := Aside0.mk (below_step (by repeat (first | (with_reducible first | exact HB.out | apply below_alloc | apply pw_below_drewN | apply below_drew1) | exact HB.out)) hb); clear HB; have HB := n0_; clear n0_; (try clear hb); (try clear hb2); (try clear hk); (try clear hi)) | ((with_reducible refine gate_dst (N := 8) rfl ?_); (try (refine gate_guard (by rfl) ?_; dsimp only)); refine box_event ?hg (N := 8) ?hd (cs := #[.string (⟨#[]⟩ : ByteArray), .string (⟨#[]⟩ : ByteArray), .bool false, .string (⟨#[]⟩ : ByteArray), .bool false]) (t := 43) ?hr ?_; (case hd => rfl); (case hg => rfl); (case hr => first | (go_simp; done) | (go_simp; rfl)); intro gb208 hg w9 hbox hb; have n0_ := Aside0.mk (below_step (by repeat (first | (with_reducible first | exact HB.out | apply below_alloc | apply pw_below_drewN | apply below_drew1) | exact HB.out)) hb); have n1_ := Aside0.mk (hbox); have n2_ := Aside0.mk ((by rw [hg]; exact (below_size (by repeat (first | (with_reducible first | exact HB.out | apply below_alloc | apply pw_below_drewN | apply below_drew1) | exact HB.out))) : w.heap.size ≤ gb208)); have n3_ := Aside0.mk ((by rw [hg]; exact (below_size (by repeat (first | (with_reducible first | exact HB.out | apply below_alloc | apply pw_below_drewN | apply below_drew1) | exact HB.out))) : w.heap.size ≤ gb208)); clear HB; have HB := n0_; have BK208 := n1_; have GW208 := n2_; have GE208 := n3_; clear n0_ n1_ n2_ n3_; clear hb hbox hg; have hcz10_0 : w9.cell? ⟨gb208, 0, none⟩ = some (.string (⟨#[]⟩ : ByteArray)) := (blk_cell BK208.out 0).trans rfl; have hcz10_1 : w9.cell? ⟨gb208, 1, none⟩ = some (.string (⟨#[]⟩ : ByteArray)) := (blk_cell BK208.out 1).trans rfl; have hcz10_2 : w9.cell? ⟨gb208, 2, none⟩ = some (.bool false) := (blk_cell BK208.out 2).trans rfl; have hcz10_3 : w9.cell? ⟨gb208, 3, none⟩ = some (.string (⟨#[]⟩ : ByteArray)) := (blk_cell BK208.out 3).trans rfl; have hcz10_4 : w9.cell? ⟨gb208, 4, none⟩ = some (.bool false) := (blk_cell BK208.out 4).trans rfl; have hfz10_0 := blk_frozen BK208.out 0; have hfz10_1 := blk_frozen BK208.out 1; have hfz10_2 := blk_frozen BK208.out 2; have hfz10_3 := blk_frozen BK208.out 3; have hfz10_4 := blk_frozen BK208.out 4) | ((with_reducible refine gate_dst (N := 10) rfl ?_); (try (refine gate_guard (by rfl) ?_; dsimp only)); refine box_event ?hg (N := 10) ?hd (cs := #[.string (⟨#[]⟩ : ByteArray), .int .i64 0, .bool false]) (t := 23) ?hr ?_; (case hd => rfl); (case hg => rfl); (case hr => first | (go_simp; done) | (go_simp; rfl)); intro gb209 hg w11 hbox hb; have n0_ := Aside0.mk (blk_below (g := gb208) (o := .cells #[.string t202, .string t203, .bool t204, .string t205, .bool t206] 43 (0, 0)) (by (with_reducible repeat (first | refine blk_drewN ?_ _ | refine blk_drew ?_ | refine blk_alloc ?_ _)); refine blk_put (cs := #[.string t202, .string t203, .bool t204, .string t205, .bool false]) ?_ 4 _ rfl; (with_reducible repeat (first | refine blk_drewN ?_ _ | refine blk_drew ?_ | refine blk_alloc ?_ _)); refine blk_put (cs := #[.string t202, .string t203, .bool t204, .string (⟨#[]⟩ : ByteArray), .bool false]) ?_ 3 _ rfl; (with_reducible repeat (first | refine blk_drewN ?_ _ | refine blk_drew ?_ | refine blk_alloc ?_ _)); refine blk_put (cs := #[.string t202, .string t203, .bool false, .string (⟨#[]⟩ : ByteArray), .bool false]) ?_ 2 _ rfl; (with_reducible repeat (first | refine blk_drewN ?_ _ | refine blk_drew ?_ | refine blk_alloc ?_ _)); refine blk_put (cs := #[.string t202, .string (⟨#[]⟩ : ByteArray), .bool false, .string (⟨#[]⟩ : ByteArray), .bool false]) ?_ 1 _ rfl; (with_reducible repeat (first | refine blk_drewN ?_ _ | refine blk_drew ?_ | refine blk_alloc ?_ _)); refine blk_put (cs := #[.string (⟨#[]⟩ : ByteArray), .string (⟨#[]⟩ : ByteArray), .bool false, .string (⟨#[]⟩ : ByteArray), .bool false]) ?_ 0 _ rfl; (with_reducible repeat (first | refine blk_drewN ?_ _ | refine blk_drew ?_ | refine blk_alloc ?_ _)); exact BK208.out) hb); have n1_ := Aside0.mk (below_step (by repeat (first | (with_reducible first | exact HB.out | apply below_alloc | apply pw_below_drewN | apply below_drew1 | refine below_set ?_ GE208.out) | exact HB.out)) hb); have n2_ := Aside0.mk (hbox); have n3_ := Aside0.mk ((by rw [hg]; exact (below_size (by repeat (first | (with_reducible first | exact HB.out | apply below_alloc | apply pw_below_drewN | apply below_drew1 | refine below_set ?_ GE208.out) | exact HB.out))) : w.heap.size ≤ gb209)); have n4_ := Aside0.mk ((by rw [hg]; exact (below_size (by repeat (first | (with_reducible first | exact HB.out | apply below_alloc | apply pw_below_drewN | apply below_drew1 | refine below_set ?_ GE208.out) | exact HB.out))) : w.heap.size ≤ gb209)); have n5_ := Aside0.mk ((by rw [hg]; exact Nat.ne_of_lt (blk_lt (g := gb208) (o := .cells #[.string t202, .string t203, .bool t204, .string t205, .bool t206] 43 (0, 0)) (by (with_reducible repeat (first | refine blk_drewN ?_ _ | refine blk_drew ?_ | refine blk_alloc ?_ _)); refine blk_put (cs := #[.string t202, .string t203, .bool t204, .string t205, .bool false]) ?_ 4 _ rfl; (with_reducible repeat (first | refine blk_drewN ?_ _ | refine blk_drew ?_ | refine blk_alloc ?_ _)); refine blk_put (cs := #[.string t202, .string t203, .bool t204, .string (⟨#[]⟩ : ByteArray), .bool false]) ?_ 3 _ rfl; (with_reducible repeat (first | refine blk_drewN ?_ _ | refine blk_drew ?_ | refine blk_alloc ?_ _)); refine blk_put (cs := #[.string t202, .string t203, .bool false, .string (⟨#[]⟩ : ByteArray), .bool false]) ?_ 2 _ rfl; (with_reducible repeat (first | refine blk_drewN ?_ _ | refine blk_drew ?_ | refine blk_alloc ?_ _)); refine blk_put (cs := #[.string t202, .string (⟨#[]⟩ : ByteArray), .bool false, .string (⟨#[]⟩ : ByteArray), .bool false]) ?_ 1 _ rfl; (with_reducible repeat (first | refine blk_drewN ?_ _ | refine blk_drew ?_ | refine blk_alloc ?_ _)); refine blk_put (cs := #[.string (⟨#[]⟩ : ByteArray), .string (⟨#[]⟩ : ByteArray), .bool false, .string (⟨#[]⟩ : ByteArray), .bool false]) ?_ 0 _ rfl; (with_reducible repeat (first | refine blk_drewN ?_ _ | refine blk_drew ?_ | refine blk_alloc ?_ _)); exact BK208.out)) : gb208 ≠ gb209)); have n6_ := Aside0.mk ((by rw [hg]; exact Nat.ne_of_gt (blk_lt (g := gb208) (o := .cells #[.string t202, .string t203, .bool t204, .string t205, .bool t206] 43 (0, 0)) (by (with_reducible repeat (first | refine blk_drewN ?_ _ | refine blk_drew ?_ | refine blk_alloc ?_ _)); refine blk_put (cs := #[.string t202, .string t203, .bool t204, .string t205, .bool false]) ?_ 4 _ rfl; (with_reducible repeat (first | refine blk_drewN ?_ _ | refine blk_drew ?_ | refine blk_alloc ?_ _)); refine blk_put (cs := #[.string t202, .string t203, .bool t204, .string (⟨#[]⟩ : ByteArray), .bool false]) ?_ 3 _ rfl; (with_reducible repeat (first | refine blk_drewN ?_ _ | refine blk_drew ?_ | refine blk_alloc ?_ _)); refine blk_put (cs := #[.string t202, .string t203, .bool false, .string (⟨#[]⟩ : ByteArray), .bool false]) ?_ 2 _ rfl; (with_reducible repeat (first | refine blk_drewN ?_ _ | refine blk_drew ?_ | refine blk_alloc ?_ _)); refine blk_put (cs := #[.string t202, .string (⟨#[]⟩ : ByteArray), .bool false, .string (⟨#[]⟩ : ByteArray), .bool false]) ?_ 1 _ rfl; (with_reducible repeat (first | refine blk_drewN ?_ _ | refine blk_drew ?_ | refine blk_alloc ?_ _)); refine blk_put (cs := #[.string (⟨#[]⟩ : ByteArray), .string (⟨#[]⟩ : ByteArray), .bool false, .string (⟨#[]⟩ : ByteArray), .bool false]) ?_ 0 _ rfl; (with_reducible repeat (first | refine blk_drewN ?_ _ | refine blk_drew ?_ | refine blk_alloc ?_ _)); exact BK208.out)) : gb209 ≠ gb208)); clear BK208; clear HB; have BK208 := n0_; have HB := n1_; have BK209 := n2_; have GW209 := n3_; have GE209 := n4_; have NB208_209 := n5_; have NB209_208 := n6_; clear n0_ n1_ n2_ n3_ n4_ n5_ n6_; clear hb hbox hg; have hnb12 := NB209_208.out; have hnc12 := NB208_209.out; have hcz13_0 : w11.cell? ⟨gb209, 0, none⟩ = some (.string (⟨#[]⟩ : ByteArray)) := (blk_cell BK209.out 0).trans rfl; have hcz13_1 : w11.cell? ⟨gb209, 1, none⟩ = some (.int .i64 0) := (blk_cell BK209.out 1).trans rfl; have hcz13_2 : w11.cell? ⟨gb209, 2, none⟩ = some (.bool false) := (blk_cell BK209.out 2).trans rfl; have hfz13_0 := blk_frozen BK209.out 0; have hfz13_1 := blk_frozen BK209.out 1; have hfz13_2 := blk_frozen BK209.out 2) | ((with_reducible refine gate_dst (N := 11) rfl ?_); (try (refine gate_guard (by rfl) ?_; dsimp only)); refine box_event ?hg (N := 11) ?hd (cs := #[.int .i64 0, .string (⟨#[]⟩ : ByteArray), .slice none 0 0, .slice none 0 0]) (t := 27) ?hr ?_; (case hd => rfl); (case hg => rfl); (case hr => first | (go_simp; done) | (go_simp; rfl)); intro gb210 hg w14 hbox hb; have n0_ := Aside0.mk (blk_below (g := gb208) (o := .cells #[.string t202, .string t203, .bool t204, .string t205, .bool t206] 43 (0, 0)) (by (with_reducible repeat (first | refine blk_drewN ?_ _ | refine blk_drew ?_ | refine blk_alloc ?_ _)); refine blk_far ?_ NB208_209.out _; (with_reducible repeat (first | refine blk_drewN ?_ _ | refine blk_drew ?_ | refine blk_alloc ?_ _)); refine blk_far ?_ NB208_209.out _; (with_reducible repeat (first | refine blk_drewN ?_ _ | refine blk_drew ?_ | refine blk_alloc ?_ _)); refine blk_far ?_ NB208_209.out _; (with_reducible repeat (first | refine blk_drewN ?_ _ | refine blk_drew ?_ | refine blk_alloc ?_ _)); exact BK208.out) hb); have n1_ := Aside0.mk (blk_below (g := gb209) (o := .cells #[.string a1, .int .i64 0, .bool false] 23 (0, 0)) (by (with_reducible repeat (first | refine blk_drewN ?_ _ | refine blk_drew ?_ | refine blk_alloc ?_ _)); refine blk_put (cs := #[.string a1, .int .i64 0, .bool false]) ?_ 2 _ rfl; (with_reducible repeat (first | refine blk_drewN ?_ _ | refine blk_drew ?_ | refine blk_alloc ?_ _)); refine blk_put (cs := #[.string a1, .int .i64 0, .bool false]) ?_ 1 _ rfl; (with_reducible repeat (first | refine blk_drewN ?_ _ | refine blk_drew ?_ | refine blk_alloc ?_ _)); refine blk_put (cs := #[.string (⟨#[]⟩ : ByteArray), .int .i64 0, .bool false]) ?_ 0 _ rfl; (with_reducible repeat (first | refine blk_drewN ?_ _ | refine blk_drew ?_ | refine blk_alloc ?_ _)); exact BK209.out) hb); have n2_ := Aside0.mk (below_step (by repeat (first | (with_reducible first | exact HB.out | apply below_alloc | apply pw_below_drewN | apply below_drew1 | refine below_set ?_ GE208.out | refine below_set ?_ GE209.out) | exact HB.out)) hb); have n3_ := Aside0.mk (hbox); have n4_ := Aside0.mk ((by rw [hg]; exact (below_size (by repeat (first | (with_reducible first | exact HB.out | apply below_alloc | apply pw_below_drewN | apply below_drew1 | refine below_set ?_ GE208.out | refine below_set ?_ GE209.out) | exact HB.out))) : w.heap.size ≤ gb210)); have n5_ := Aside0.mk ((by rw [hg]; exact (below_size (by repeat (first | (with_reducible first | exact HB.out | apply below_alloc | apply pw_below_drewN | apply below_drew1 | refine below_set ?_ GE208.out | refine below_set ?_ GE209.out) | exact HB.out))) : w.heap.size ≤ gb210)); have n6_ := Aside0.mk ((by rw [hg]; exact Nat.ne_of_lt (blk_lt (g := gb208) (o := .cells #[.string t202, .string t203, .bool t204, .string t205, .bool t206] 43 (0, 0)) (by (with_reducible repeat (first | refine blk_drewN ?_ _ | refine blk_drew ?_ | refine blk_alloc ?_ _)); refine blk_far ?_ NB208_209.out _; (with_reducible repeat (first | refine blk_drewN ?_ _ | refine blk_drew ?_ | refine blk_alloc ?_ _)); refine blk_far ?_ NB208_209.out _; (with_reducible repeat (first | refine blk_drewN ?_ _ | refine blk_drew ?_ | refine blk_alloc ?_ _)); refine blk_far ?_ NB208_209.out _; (with_reducible repeat (first | refine blk_drewN ?_ _ | refine blk_drew ?_ | refine blk_alloc ?_ _)); exact BK208.out)) : gb208 ≠ gb210)); have n7_ := Aside0.mk ((by rw [hg]; exact Nat.ne_of_gt (blk_lt (g := gb208) (o := .cells #[.string t202, .string t203, .bool t204, .string t205, .bool t206] 43 (0, 0)) (by (with_reducible repeat (first | refine blk_drewN ?_ _ | refine blk_drew ?_ | refine blk_alloc ?_ _)); refine blk_far ?_ NB208_209.out _; (with_reducible repeat (first | refine blk_drewN ?_ _ | refine blk_drew ?_ | refine blk_alloc ?_ _)); refine blk_far ?_ NB208_209.out _; (with_reducible repeat (first | refine blk_drewN ?_ _ | refine blk_drew ?_ | refine blk_alloc ?_ _)); refine blk_far ?_ NB208_209.out _; (with_reducible repeat (first | refine blk_drewN ?_ _ | refine blk_drew ?_ | refine blk_alloc ?_ _)); exact BK208.out)) : gb210 ≠ gb208)); have n8_ := Aside0.mk ((by rw [hg]; exact Nat.ne_of_lt (blk_lt (g := gb209) (o := .cells #[.string a1, .int .i64 0, .bool false] 23 (0, 0)) (by (with_reducible repeat (first | refine blk_drewN ?_ _ | refine blk_drew ?_ | refine blk_alloc ?_ _)); refine blk_put (cs := #[.string a1, .int .i64 0, .bool false]) ?_ 2 _ rfl; (with_reducible repeat (first | refine blk_drewN ?_ _ | refine blk_drew ?_ | refine blk_alloc ?_ _)); refine blk_put (cs := #[.string a1, .int .i64 0, .bool false]) ?_ 1 _ rfl; (with_reducible repeat (first | refine blk_drewN ?_ _ | refine blk_drew ?_ | refine blk_alloc ?_ _)); refine blk_put (cs := #[.string (⟨#[]⟩ : ByteArray), .int .i64 0, .bool false]) ?_ 0 _ rfl; (with_reducible repeat (first | refine blk_drewN ?_ _ | refine blk_drew ?_ | refine blk_alloc ?_ _)); exact BK209.out)) : gb209 ≠ gb210)); have n9_ := Aside0.mk ((by rw [hg]; exact Nat.ne_of_gt (blk_lt (g := gb209) (o := .cells #[.string a1, .int .i64 0, .bool false] 23 (0, 0)) (by (with_reducible repeat (first | refine blk_drewN ?_ _ | refine blk_drew ?_ | refine blk_alloc ?_ _)); refine blk_put (cs := #[.string a1, .int .i64 0, .bool false]) ?_ 2 _ rfl; (with_reducible repeat (first | refine blk_drewN ?_ _ | refine blk_drew ?_ | refine blk_alloc ?_ _)); refine blk_put (cs := #[.string a1, .int .i64 0, .bool false]) ?_ 1 _ rfl; (with_reducible repeat (first | refine blk_drewN ?_ _ | refine blk_drew ?_ | refine blk_alloc ?_ _)); refine blk_put (cs := #[.string (⟨#[]⟩ : ByteArray), .int .i64 0, .bool false]) ?_ 0 _ rfl; (with_reducible repeat (first | refine blk_drewN ?_ _ | refine blk_drew ?_ | refine blk_alloc ?_ _)); exact BK209.out)) : gb210 ≠ gb209)); clear BK208; clear BK209; clear HB; have BK208 := n0_; have BK209 := n1_; have HB := n2_; have BK210 := n3_; have GW210 := n4_; have GE210 := n5_; have NB208_210 := n6_; have NB210_208 := n7_; have NB209_210 := n8_; have NB210_209 := n9_; clear n0_ n1_ n2_ n3_ n4_ n5_ n6_ n7_ n8_ n9_; clear hb hbox hg; have hnb15 := NB210_208.out; have hnc15 := NB208_210.out; have hnb16 := NB210_209.out; have hnc16 := NB209_210.out; have hcz17_0 : w14.cell? ⟨gb210, 0, none⟩ = some (.int .i64 0) := (blk_cell BK210.out 0).trans rfl; have hcz17_1 : w14.cell? ⟨gb210, 1, none⟩ = some (.string (⟨#[]⟩ : ByteArray)) := (blk_cell BK210.out 1).trans rfl; have hcz17_2 : w14.cell? ⟨gb210, 2, none⟩ = some (.slice none 0 0) := (blk_cell BK210.out 2).trans rfl; have hcz17_3 : w14.cell? ⟨gb210, 3, none⟩ = some (.slice none 0 0) := (blk_cell BK210.out 3).trans rfl; have hfz17_0 := blk_frozen BK210.out 0; have hfz17_1 := blk_frozen BK210.out 1; have hfz17_2 := blk_frozen BK210.out 2; have hfz17_3 := blk_frozen BK210.out 3))
  (try simp only [Act.put, List.setIfInBounds_toArray, List.set_cons_zero, List.set_cons_succ])
  go_cut [48] (fun v48 wc => ∃ (kq : Nat) (x48_5 : Bool), v48 = .bool x48_5 ∧ Aside0 (phalaropelaw11_PieceBack.j0 kq a0 a1 a2 t201 x48_5 t202 t203 t204 t205 t206 a1 0 false 1 a2 = some r) ∧ Aside0 (kq ≤ k) ∧ Aside0 (wc.heap[gb208]? = some (.cells #[.string t202, .string t203, .bool t204, .string t205, .bool t206] 43 (0, 0))) ∧ Aside0 (wc.heap[gb209]? = some (.cells #[.string a1, .int .i64 0, .bool false] 23 (0, 0))) ∧ Aside0 (wc.heap[gb210]? = some (.cells #[.int .i64 1, .string a2, (.slice none 0 0), (.slice none 0 0)] 27 (0, 0))) ∧ Aside0 (Below w.heap.size w wc))
  case first =>
    have H := HC6.out
    clear HC6
    replace H := Option.bind_eq_some_iff.mp H
    obtain ⟨t211, A180, H⟩ := H
    replace H : (if t211 = true then (if t207 = true then (if t206 = true then (phalaropelaw11_PieceBack.j0 k a0 a1 a2 t201 true t202 t203 t204 t205 t206 a1 0 false 1 a2) else ((phalaroperef06_May.f k a1 0 false).bind fun t212 => (if t212 = true then ((phalaroperef08_Valid.f k 1 a2 ([] : List ByteArray) ([] : List (S69))).bind fun t213 => (phalaropelaw11_PieceBack.j0 k a0 a1 a2 t201 (!t213) t202 t203 t204 t205 t206 a1 0 false 1 a2)) else (phalaropelaw11_PieceBack.j0 k a0 a1 a2 t201 true t202 t203 t204 t205 t206 a1 0 false 1 a2)))) else (phalaropelaw11_PieceBack.j0 k a0 a1 a2 t201 true t202 t203 t204 t205 t206 a1 0 false 1 a2)) else (phalaropelaw11_PieceBack.j0 k a0 a1 a2 t201 true t202 t203 t204 t205 t206 a1 0 false 1 a2)) = some r := H
    have A18 := Aside0.mk A180
    clear A180
    by_cases c19 : t211 = true
    · subst c19
      have H1 : (if t207 = true then (if t206 = true then (phalaropelaw11_PieceBack.j0 k a0 a1 a2 t201 true t202 t203 t204 t205 t206 a1 0 false 1 a2) else ((phalaroperef06_May.f k a1 0 false).bind fun t212 => (if t212 = true then ((phalaroperef08_Valid.f k 1 a2 ([] : List ByteArray) ([] : List (S69))).bind fun t213 => (phalaropelaw11_PieceBack.j0 k a0 a1 a2 t201 (!t213) t202 t203 t204 t205 t206 a1 0 false 1 a2)) else (phalaropelaw11_PieceBack.j0 k a0 a1 a2 t201 true t202 t203 t204 t205 t206 a1 0 false 1 a2)))) else (phalaropelaw11_PieceBack.j0 k a0 a1 a2 t201 true t202 t203 t204 t205 t206 a1 0 false 1 a2)) = some r := by rw [if_pos rfl] at H; exact H
      clear H
      have H := H1
      clear H1
      by_cases c20 : t207 = true
      · subst c20
        have H1 : (if t206 = true then (phalaropelaw11_PieceBack.j0 k a0 a1 a2 t201 true t202 t203 t204 t205 t206 a1 0 false 1 a2) else ((phalaroperef06_May.f k a1 0 false).bind fun t212 => (if t212 = true then ((phalaroperef08_Valid.f k 1 a2 ([] : List ByteArray) ([] : List (S69))).bind fun t213 => (phalaropelaw11_PieceBack.j0 k a0 a1 a2 t201 (!t213) t202 t203 t204 t205 t206 a1 0 false 1 a2)) else (phalaropelaw11_PieceBack.j0 k a0 a1 a2 t201 true t202 t203 t204 t205 t206 a1 0 false 1 a2)))) = some r := by rw [if_pos rfl] at H; exact H
        clear H
        have H := H1
        clear H1
        by_cases c21 : t206 = true
        · subst c21
          have H1 : (phalaropelaw11_PieceBack.j0 k a0 a1 a2 t201 true t202 t203 t204 t205 true a1 0 false 1 a2) = some r := by rw [if_pos rfl] at H; exact H
          clear H
          have H := H1
          clear H1
          have H' := Aside0.mk H
          clear H
          have hnb22 := NB209_208.out
          have hnc22 := NB208_209.out
          have hnb23 := NB209_210.out
          have hnc23 := NB210_209.out
          have hcz24_0 : w14.cell? ⟨gb209, 0, none⟩ = some (.string a1) := (blk_cell BK209.out 0).trans rfl
          have hcz24_1 : w14.cell? ⟨gb209, 1, none⟩ = some (.int .i64 0) := (blk_cell BK209.out 1).trans rfl
          have hcz24_2 : w14.cell? ⟨gb209, 2, none⟩ = some (.bool false) := (blk_cell BK209.out 2).trans rfl
          have hfz24_0 := blk_frozen BK209.out 0
          have hfz24_1 := blk_frozen BK209.out 1
          have hfz24_2 := blk_frozen BK209.out 2
          have hnb25 := NB210_208.out
          have hnc25 := NB208_210.out
          have hcz26_0 : w14.cell? ⟨gb210, 0, none⟩ = some (.int .i64 0) := (blk_cell BK210.out 0).trans rfl
          have hcz26_1 : w14.cell? ⟨gb210, 1, none⟩ = some (.string (⟨#[]⟩ : ByteArray)) := (blk_cell BK210.out 1).trans rfl
          have hcz26_2 : w14.cell? ⟨gb210, 2, none⟩ = some (.slice none 0 0) := (blk_cell BK210.out 2).trans rfl
          have hcz26_3 : w14.cell? ⟨gb210, 3, none⟩ = some (.slice none 0 0) := (blk_cell BK210.out 3).trans rfl
          have hfz26_0 := blk_frozen BK210.out 0
          have hfz26_1 := blk_frozen BK210.out 1
          have hfz26_2 := blk_frozen BK210.out 2
          have hfz26_3 := blk_frozen BK210.out 3
          go_wp2_with (first | ((with_reducible refine gate_callee (f := 9) rfl ?_); refine goesL_ (some 29) rfl rfl Try.func9 (by kernel_rfl) rfl #[.agg #[.string a1, .int .i64 0, .bool false], .agg #[.int .i64 1, .string a2, .slice none 0 0, .slice none 0 0]] rfl (by (try simp only [List.map_toArray, List.map_cons, List.map_nil]); first | done | rfl | (simp only [List.length_drop, List.length_take]; rfl)) ?_; (refine (phalaropelaw11_few.calls k a1 0 false 1 a2 _ _ ([] : List ByteArray) _ _ ([] : List (S69)) true _ ?side1 ?side2 ?side3 ?side4 A18.out).mono ?_); (case side1 => exact Kd.C_nil _ _); (case side2 => exact Nat.le_refl _); (case side3 => exact Kd.C_nil _ _); (case side4 => exact Nat.le_refl _); rintro e w27 ⟨rfl, hb⟩; refine ⟨_, rfl, ?_⟩; have n0_ := Aside0.mk (blk_below (g := gb208) (o := .cells #[.string t202, .string t203, .bool t204, .string t205, .bool true] 43 (0, 0)) (by (with_reducible repeat (first | refine blk_drewN ?_ _ | refine blk_drew ?_ | refine blk_alloc ?_ _)); refine blk_far ?_ NB208_210.out _; (with_reducible repeat (first | refine blk_drewN ?_ _ | refine blk_drew ?_ | refine blk_alloc ?_ _)); refine blk_far ?_ NB208_210.out _; (with_reducible repeat (first | refine blk_drewN ?_ _ | refine blk_drew ?_ | refine blk_alloc ?_ _)); refine blk_far ?_ NB208_210.out _; (with_reducible repeat (first | refine blk_drewN ?_ _ | refine blk_drew ?_ | refine blk_alloc ?_ _)); refine blk_far ?_ NB208_210.out _; (with_reducible repeat (first | refine blk_drewN ?_ _ | refine blk_drew ?_ | refine blk_alloc ?_ _)); exact BK208.out) hb); have n1_ := Aside0.mk (blk_below (g := gb209) (o := .cells #[.string a1, .int .i64 0, .bool false] 23 (0, 0)) (by (with_reducible repeat (first | refine blk_drewN ?_ _ | refine blk_drew ?_ | refine blk_alloc ?_ _)); refine blk_far ?_ NB209_210.out _; (with_reducible repeat (first | refine blk_drewN ?_ _ | refine blk_drew ?_ | refine blk_alloc ?_ _)); refine blk_far ?_ NB209_210.out _; (with_reducible repeat (first | refine blk_drewN ?_ _ | refine blk_drew ?_ | refine blk_alloc ?_ _)); refine blk_far ?_ NB209_210.out _; (with_reducible repeat (first | refine blk_drewN ?_ _ | refine blk_drew ?_ | refine blk_alloc ?_ _)); refine blk_far ?_ NB209_210.out _; (with_reducible repeat (first | refine blk_drewN ?_ _ | refine blk_drew ?_ | refine blk_alloc ?_ _)); exact BK209.out) hb); have n2_ := Aside0.mk (blk_below (g := gb210) (o := .cells #[.int .i64 1, .string a2, .slice none 0 0, .slice none 0 0] 27 (0, 0)) (by (with_reducible repeat (first | refine blk_drewN ?_ _ | refine blk_drew ?_ | refine blk_alloc ?_ _)); refine blk_put (cs := #[.int .i64 1, .string a2, .slice none 0 0, .slice none 0 0]) ?_ 3 _ rfl; (with_reducible repeat (first | refine blk_drewN ?_ _ | refine blk_drew ?_ | refine blk_alloc ?_ _)); refine blk_put (cs := #[.int .i64 1, .string a2, .slice none 0 0, .slice none 0 0]) ?_ 2 _ rfl; (with_reducible repeat (first | refine blk_drewN ?_ _ | refine blk_drew ?_ | refine blk_alloc ?_ _)); refine blk_put (cs := #[.int .i64 1, .string (⟨#[]⟩ : ByteArray), .slice none 0 0, .slice none 0 0]) ?_ 1 _ rfl; (with_reducible repeat (first | refine blk_drewN ?_ _ | refine blk_drew ?_ | refine blk_alloc ?_ _)); refine blk_put (cs := #[.int .i64 0, .string (⟨#[]⟩ : ByteArray), .slice none 0 0, .slice none 0 0]) ?_ 0 _ rfl; (with_reducible repeat (first | refine blk_drewN ?_ _ | refine blk_drew ?_ | refine blk_alloc ?_ _)); exact BK210.out) hb); have n3_ := Aside0.mk (below_step (by repeat (first | (with_reducible first | exact HB.out | apply below_alloc | apply pw_below_drewN | apply below_drew1 | refine below_set ?_ GE208.out | refine below_set ?_ GE209.out | refine below_set ?_ GE210.out) | exact HB.out)) hb); clear BK208; clear BK209; clear BK210; clear HB; have BK208 := n0_; have BK209 := n1_; have BK210 := n2_; have HB := n3_; clear n0_ n1_ n2_ n3_; (try clear hb); (try clear hb2); (try clear hk); (try clear hi); have hcz28_0 : w27.cell? ⟨gb208, 0, none⟩ = some (.string t202) := (blk_cell BK208.out 0).trans rfl; have hcz28_1 : w27.cell? ⟨gb208, 1, none⟩ = some (.string t203) := (blk_cell BK208.out 1).trans rfl; have hcz28_2 : w27.cell? ⟨gb208, 2, none⟩ = some (.bool t204) := (blk_cell BK208.out 2).trans rfl; have hcz28_3 : w27.cell? ⟨gb208, 3, none⟩ = some (.string t205) := (blk_cell BK208.out 3).trans rfl; have hcz28_4 : w27.cell? ⟨gb208, 4, none⟩ = some (.bool true) := (blk_cell BK208.out 4).trans rfl; have hfz28_0 := blk_frozen BK208.out 0; have hfz28_1 := blk_frozen BK208.out 1; have hfz28_2 := blk_frozen BK208.out 2; have hfz28_3 := blk_frozen BK208.out 3; have hfz28_4 := blk_frozen BK208.out 4))
          go_meet
          case rel => exact ⟨_, (true), (by first | rfl | (simp; done) | (simp [*]; done)), H', ⟨by first | omega | exact Nat.le_refl _⟩, ⟨by (with_reducible repeat (first | refine blk_drewN ?_ _ | refine blk_drew ?_ | refine blk_alloc ?_ _)); exact BK208.out⟩, ⟨by (with_reducible repeat (first | refine blk_drewN ?_ _ | refine blk_drew ?_ | refine blk_alloc ?_ _)); exact BK209.out⟩, ⟨by (with_reducible repeat (first | refine blk_drewN ?_ _ | refine blk_drew ?_ | refine blk_alloc ?_ _)); exact BK210.out⟩, ⟨by repeat (first | (with_reducible first | exact HB.out | apply below_alloc | apply pw_below_drewN | apply below_drew1 | refine below_set ?_ GE208.out | refine below_set ?_ GE209.out | refine below_set ?_ GE210.out) | exact HB.out)⟩⟩
        · replace c21 := Bool.eq_false_iff.mpr c21
          subst c21
          have H1 : ((phalaroperef06_May.f k a1 0 false).bind fun t212 => (if t212 = true then ((phalaroperef08_Valid.f k 1 a2 ([] : List ByteArray) ([] : List (S69))).bind fun t213 => (phalaropelaw11_PieceBack.j0 k a0 a1 a2 t201 (!t213) t202 t203 t204 t205 false a1 0 false 1 a2)) else (phalaropelaw11_PieceBack.j0 k a0 a1 a2 t201 true t202 t203 t204 t205 false a1 0 false 1 a2))) = some r := by rw [if_neg (show ¬ (false = true) by decide)] at H; exact H
          clear H
          have H := H1
          clear H1
          replace H := Option.bind_eq_some_iff.mp H
          obtain ⟨t212, A290, H⟩ := H
          replace H : (if t212 = true then ((phalaroperef08_Valid.f k 1 a2 ([] : List ByteArray) ([] : List (S69))).bind fun t213 => (phalaropelaw11_PieceBack.j0 k a0 a1 a2 t201 (!t213) t202 t203 t204 t205 false a1 0 false 1 a2)) else (phalaropelaw11_PieceBack.j0 k a0 a1 a2 t201 true t202 t203 t204 t205 false a1 0 false 1 a2)) = some r := H
          have A29 := Aside0.mk A290
          clear A290
          by_cases c30 : t212 = true
          · subst c30
            have H1 : ((phalaroperef08_Valid.f k 1 a2 ([] : List ByteArray) ([] : List (S69))).bind fun t213 => (phalaropelaw11_PieceBack.j0 k a0 a1 a2 t201 (!t213) t202 t203 t204 t205 false a1 0 false 1 a2)) = some r := by rw [if_pos rfl] at H; exact H
            clear H
            have H := H1
            clear H1
            replace H := Option.bind_eq_some_iff.mp H
            obtain ⟨t213, A310, H⟩ := H
            replace H : (phalaropelaw11_PieceBack.j0 k a0 a1 a2 t201 (!t213) t202 t203 t204 t205 false a1 0 false 1 a2) = some r := H
            have A31 := Aside0.mk A310
            clear A310
            have H' := Aside0.mk H
            clear H
            have hnb32 := NB209_208.out
            have hnc32 := NB208_209.out
            have hnb33 := NB209_210.out
            have hnc33 := NB210_209.out
            have hcz34_0 : w14.cell? ⟨gb209, 0, none⟩ = some (.string a1) := (blk_cell BK209.out 0).trans rfl
            have hcz34_1 : w14.cell? ⟨gb209, 1, none⟩ = some (.int .i64 0) := (blk_cell BK209.out 1).trans rfl
            have hcz34_2 : w14.cell? ⟨gb209, 2, none⟩ = some (.bool false) := (blk_cell BK209.out 2).trans rfl
            have hfz34_0 := blk_frozen BK209.out 0
            have hfz34_1 := blk_frozen BK209.out 1
            have hfz34_2 := blk_frozen BK209.out 2
            have hnb35 := NB210_208.out
            have hnc35 := NB208_210.out
            have hcz36_0 : w14.cell? ⟨gb210, 0, none⟩ = some (.int .i64 0) := (blk_cell BK210.out 0).trans rfl
            have hcz36_1 : w14.cell? ⟨gb210, 1, none⟩ = some (.string (⟨#[]⟩ : ByteArray)) := (blk_cell BK210.out 1).trans rfl
            have hcz36_2 : w14.cell? ⟨gb210, 2, none⟩ = some (.slice none 0 0) := (blk_cell BK210.out 2).trans rfl
            have hcz36_3 : w14.cell? ⟨gb210, 3, none⟩ = some (.slice none 0 0) := (blk_cell BK210.out 3).trans rfl
            have hfz36_0 := blk_frozen BK210.out 0
            have hfz36_1 := blk_frozen BK210.out 1
            have hfz36_2 := blk_frozen BK210.out 2
            have hfz36_3 := blk_frozen BK210.out 3
            go_wp2_with (first | ((with_reducible refine gate_callee (f := 9) rfl ?_); refine goesL_ (some 29) rfl rfl Try.func9 (by kernel_rfl) rfl #[.agg #[.string a1, .int .i64 0, .bool false], .agg #[.int .i64 1, .string a2, .slice none 0 0, .slice none 0 0]] rfl (by (try simp only [List.map_toArray, List.map_cons, List.map_nil]); first | done | rfl | (simp only [List.length_drop, List.length_take]; rfl)) ?_; (refine (phalaropelaw11_few.calls k a1 0 false 1 a2 _ _ ([] : List ByteArray) _ _ ([] : List (S69)) true _ ?side1 ?side2 ?side3 ?side4 A18.out).mono ?_); (case side1 => exact Kd.C_nil _ _); (case side2 => exact Nat.le_refl _); (case side3 => exact Kd.C_nil _ _); (case side4 => exact Nat.le_refl _); rintro e w37 ⟨rfl, hb⟩; refine ⟨_, rfl, ?_⟩; have n0_ := Aside0.mk (blk_below (g := gb208) (o := .cells #[.string t202, .string t203, .bool t204, .string t205, .bool false] 43 (0, 0)) (by (with_reducible repeat (first | refine blk_drewN ?_ _ | refine blk_drew ?_ | refine blk_alloc ?_ _)); refine blk_far ?_ NB208_210.out _; (with_reducible repeat (first | refine blk_drewN ?_ _ | refine blk_drew ?_ | refine blk_alloc ?_ _)); refine blk_far ?_ NB208_210.out _; (with_reducible repeat (first | refine blk_drewN ?_ _ | refine blk_drew ?_ | refine blk_alloc ?_ _)); refine blk_far ?_ NB208_210.out _; (with_reducible repeat (first | refine blk_drewN ?_ _ | refine blk_drew ?_ | refine blk_alloc ?_ _)); refine blk_far ?_ NB208_210.out _; (with_reducible repeat (first | refine blk_drewN ?_ _ | refine blk_drew ?_ | refine blk_alloc ?_ _)); exact BK208.out) hb); have n1_ := Aside0.mk (blk_below (g := gb209) (o := .cells #[.string a1, .int .i64 0, .bool false] 23 (0, 0)) (by (with_reducible repeat (first | refine blk_drewN ?_ _ | refine blk_drew ?_ | refine blk_alloc ?_ _)); refine blk_far ?_ NB209_210.out _; (with_reducible repeat (first | refine blk_drewN ?_ _ | refine blk_drew ?_ | refine blk_alloc ?_ _)); refine blk_far ?_ NB209_210.out _; (with_reducible repeat (first | refine blk_drewN ?_ _ | refine blk_drew ?_ | refine blk_alloc ?_ _)); refine blk_far ?_ NB209_210.out _; (with_reducible repeat (first | refine blk_drewN ?_ _ | refine blk_drew ?_ | refine blk_alloc ?_ _)); refine blk_far ?_ NB209_210.out _; (with_reducible repeat (first | refine blk_drewN ?_ _ | refine blk_drew ?_ | refine blk_alloc ?_ _)); exact BK209.out) hb); have n2_ := Aside0.mk (blk_below (g := gb210) (o := .cells #[.int .i64 1, .string a2, .slice none 0 0, .slice none 0 0] 27 (0, 0)) (by (with_reducible repeat (first | refine blk_drewN ?_ _ | refine blk_drew ?_ | refine blk_alloc ?_ _)); refine blk_put (cs := #[.int .i64 1, .string a2, .slice none 0 0, .slice none 0 0]) ?_ 3 _ rfl; (with_reducible repeat (first | refine blk_drewN ?_ _ | refine blk_drew ?_ | refine blk_alloc ?_ _)); refine blk_put (cs := #[.int .i64 1, .string a2, .slice none 0 0, .slice none 0 0]) ?_ 2 _ rfl; (with_reducible repeat (first | refine blk_drewN ?_ _ | refine blk_drew ?_ | refine blk_alloc ?_ _)); refine blk_put (cs := #[.int .i64 1, .string (⟨#[]⟩ : ByteArray), .slice none 0 0, .slice none 0 0]) ?_ 1 _ rfl; (with_reducible repeat (first | refine blk_drewN ?_ _ | refine blk_drew ?_ | refine blk_alloc ?_ _)); refine blk_put (cs := #[.int .i64 0, .string (⟨#[]⟩ : ByteArray), .slice none 0 0, .slice none 0 0]) ?_ 0 _ rfl; (with_reducible repeat (first | refine blk_drewN ?_ _ | refine blk_drew ?_ | refine blk_alloc ?_ _)); exact BK210.out) hb); have n3_ := Aside0.mk (below_step (by repeat (first | (with_reducible first | exact HB.out | apply below_alloc | apply pw_below_drewN | apply below_drew1 | refine below_set ?_ GE208.out | refine below_set ?_ GE209.out | refine below_set ?_ GE210.out) | exact HB.out)) hb); clear BK208; clear BK209; clear BK210; clear HB; have BK208 := n0_; have BK209 := n1_; have BK210 := n2_; have HB := n3_; clear n0_ n1_ n2_ n3_; (try clear hb); (try clear hb2); (try clear hk); (try clear hi); have hcz38_0 : w37.cell? ⟨gb208, 0, none⟩ = some (.string t202) := (blk_cell BK208.out 0).trans rfl; have hcz38_1 : w37.cell? ⟨gb208, 1, none⟩ = some (.string t203) := (blk_cell BK208.out 1).trans rfl; have hcz38_2 : w37.cell? ⟨gb208, 2, none⟩ = some (.bool t204) := (blk_cell BK208.out 2).trans rfl; have hcz38_3 : w37.cell? ⟨gb208, 3, none⟩ = some (.string t205) := (blk_cell BK208.out 3).trans rfl; have hcz38_4 : w37.cell? ⟨gb208, 4, none⟩ = some (.bool false) := (blk_cell BK208.out 4).trans rfl; have hfz38_0 := blk_frozen BK208.out 0; have hfz38_1 := blk_frozen BK208.out 1; have hfz38_2 := blk_frozen BK208.out 2; have hfz38_3 := blk_frozen BK208.out 3; have hfz38_4 := blk_frozen BK208.out 4; have hcz39_0 : w37.cell? ⟨gb209, 0, none⟩ = some (.string a1) := (blk_cell BK209.out 0).trans rfl; have hcz39_1 : w37.cell? ⟨gb209, 1, none⟩ = some (.int .i64 0) := (blk_cell BK209.out 1).trans rfl; have hcz39_2 : w37.cell? ⟨gb209, 2, none⟩ = some (.bool false) := (blk_cell BK209.out 2).trans rfl; have hfz39_0 := blk_frozen BK209.out 0; have hfz39_1 := blk_frozen BK209.out 1; have hfz39_2 := blk_frozen BK209.out 2) | (go_at_call 15; (with_reducible refine (phalaroperef06_May.calls k a1 0 false true _ A29.out).mono ?_); rintro e w40 ⟨rfl, hb⟩; have n0_ := Aside0.mk (blk_below (g := gb208) (o := .cells #[.string t202, .string t203, .bool t204, .string t205, .bool false] 43 (0, 0)) (by (with_reducible repeat (first | refine blk_drewN ?_ _ | refine blk_drew ?_ | refine blk_alloc ?_ _)); exact BK208.out) hb); have n1_ := Aside0.mk (blk_below (g := gb209) (o := .cells #[.string a1, .int .i64 0, .bool false] 23 (0, 0)) (by (with_reducible repeat (first | refine blk_drewN ?_ _ | refine blk_drew ?_ | refine blk_alloc ?_ _)); exact BK209.out) hb); have n2_ := Aside0.mk (blk_below (g := gb210) (o := .cells #[.int .i64 1, .string a2, .slice none 0 0, .slice none 0 0] 27 (0, 0)) (by (with_reducible repeat (first | refine blk_drewN ?_ _ | refine blk_drew ?_ | refine blk_alloc ?_ _)); exact BK210.out) hb); have n3_ := Aside0.mk (below_step (by repeat (first | (with_reducible first | exact HB.out | apply below_alloc | apply pw_below_drewN | apply below_drew1 | refine below_set ?_ GE208.out | refine below_set ?_ GE209.out | refine below_set ?_ GE210.out) | exact HB.out)) hb); clear BK208; clear BK209; clear BK210; clear HB; have BK208 := n0_; have BK209 := n1_; have BK210 := n2_; have HB := n3_; clear n0_ n1_ n2_ n3_; (try clear hb); (try clear hb2); (try clear hk); (try clear hi); have hcz41_0 : w40.cell? ⟨gb210, 0, none⟩ = some (.int .i64 1) := (blk_cell BK210.out 0).trans rfl; have hcz41_1 : w40.cell? ⟨gb210, 1, none⟩ = some (.string a2) := (blk_cell BK210.out 1).trans rfl; have hcz41_2 : w40.cell? ⟨gb210, 2, none⟩ = some (.slice none 0 0) := (blk_cell BK210.out 2).trans rfl; have hcz41_3 : w40.cell? ⟨gb210, 3, none⟩ = some (.slice none 0 0) := (blk_cell BK210.out 3).trans rfl; have hfz41_0 := blk_frozen BK210.out 0; have hfz41_1 := blk_frozen BK210.out 1; have hfz41_2 := blk_frozen BK210.out 2; have hfz41_3 := blk_frozen BK210.out 3) | (go_at_call 17; (refine (phalaroperef08_Valid.calls k 1 a2 _ _ ([] : List ByteArray) _ _ ([] : List (S69)) t213 _ ?side1 ?side2 ?side3 ?side4 A31.out).mono ?_); (case side1 => exact Kd.C_nil _ _); (case side2 => exact Nat.le_refl _); (case side3 => exact Kd.C_nil _ _); (case side4 => exact Nat.le_refl _); rintro e w42 ⟨rfl, hb⟩; have n0_ := Aside0.mk (blk_below (g := gb208) (o := .cells #[.string t202, .string t203, .bool t204, .string t205, .bool false] 43 (0, 0)) (by (with_reducible repeat (first | refine blk_drewN ?_ _ | refine blk_drew ?_ | refine blk_alloc ?_ _)); exact BK208.out) hb); have n1_ := Aside0.mk (blk_below (g := gb209) (o := .cells #[.string a1, .int .i64 0, .bool false] 23 (0, 0)) (by (with_reducible repeat (first | refine blk_drewN ?_ _ | refine blk_drew ?_ | refine blk_alloc ?_ _)); exact BK209.out) hb); have n2_ := Aside0.mk (blk_below (g := gb210) (o := .cells #[.int .i64 1, .string a2, .slice none 0 0, .slice none 0 0] 27 (0, 0)) (by (with_reducible repeat (first | refine blk_drewN ?_ _ | refine blk_drew ?_ | refine blk_alloc ?_ _)); exact BK210.out) hb); have n3_ := Aside0.mk (below_step (by repeat (first | (with_reducible first | exact HB.out | apply below_alloc | apply pw_below_drewN | apply below_drew1 | refine below_set ?_ GE208.out | refine below_set ?_ GE209.out | refine below_set ?_ GE210.out) | exact HB.out)) hb); clear BK208; clear BK209; clear BK210; clear HB; have BK208 := n0_; have BK209 := n1_; have BK210 := n2_; have HB := n3_; clear n0_ n1_ n2_ n3_; (try clear hb); (try clear hb2); (try clear hk); (try clear hi)))
            go_meet
            case rel => exact ⟨_, (!t213), (by first | rfl | (simp; done) | (simp [*]; done)), H', ⟨by first | omega | exact Nat.le_refl _⟩, ⟨by (with_reducible repeat (first | refine blk_drewN ?_ _ | refine blk_drew ?_ | refine blk_alloc ?_ _)); exact BK208.out⟩, ⟨by (with_reducible repeat (first | refine blk_drewN ?_ _ | refine blk_drew ?_ | refine blk_alloc ?_ _)); exact BK209.out⟩, ⟨by (with_reducible repeat (first | refine blk_drewN ?_ _ | refine blk_drew ?_ | refine blk_alloc ?_ _)); exact BK210.out⟩, ⟨by repeat (first | (with_reducible first | exact HB.out | apply below_alloc | apply pw_below_drewN | apply below_drew1 | refine below_set ?_ GE208.out | refine below_set ?_ GE209.out | refine below_set ?_ GE210.out) | exact HB.out)⟩⟩
          · replace c30 := Bool.eq_false_iff.mpr c30
            subst c30
            have H1 : (phalaropelaw11_PieceBack.j0 k a0 a1 a2 t201 true t202 t203 t204 t205 false a1 0 false 1 a2) = some r := by rw [if_neg (show ¬ (false = true) by decide)] at H; exact H
            clear H
            have H := H1
            clear H1
            have H' := Aside0.mk H
            clear H
            have hnb43 := NB209_208.out
            have hnc43 := NB208_209.out
            have hnb44 := NB209_210.out
            have hnc44 := NB210_209.out
            have hcz45_0 : w14.cell? ⟨gb209, 0, none⟩ = some (.string a1) := (blk_cell BK209.out 0).trans rfl
            have hcz45_1 : w14.cell? ⟨gb209, 1, none⟩ = some (.int .i64 0) := (blk_cell BK209.out 1).trans rfl
            have hcz45_2 : w14.cell? ⟨gb209, 2, none⟩ = some (.bool false) := (blk_cell BK209.out 2).trans rfl
            have hfz45_0 := blk_frozen BK209.out 0
            have hfz45_1 := blk_frozen BK209.out 1
            have hfz45_2 := blk_frozen BK209.out 2
            have hnb46 := NB210_208.out
            have hnc46 := NB208_210.out
            have hcz47_0 : w14.cell? ⟨gb210, 0, none⟩ = some (.int .i64 0) := (blk_cell BK210.out 0).trans rfl
            have hcz47_1 : w14.cell? ⟨gb210, 1, none⟩ = some (.string (⟨#[]⟩ : ByteArray)) := (blk_cell BK210.out 1).trans rfl
            have hcz47_2 : w14.cell? ⟨gb210, 2, none⟩ = some (.slice none 0 0) := (blk_cell BK210.out 2).trans rfl
            have hcz47_3 : w14.cell? ⟨gb210, 3, none⟩ = some (.slice none 0 0) := (blk_cell BK210.out 3).trans rfl
            have hfz47_0 := blk_frozen BK210.out 0
            have hfz47_1 := blk_frozen BK210.out 1
            have hfz47_2 := blk_frozen BK210.out 2
            have hfz47_3 := blk_frozen BK210.out 3
            go_wp2_with (first | ((with_reducible refine gate_callee (f := 9) rfl ?_); refine goesL_ (some 29) rfl rfl Try.func9 (by kernel_rfl) rfl #[.agg #[.string a1, .int .i64 0, .bool false], .agg #[.int .i64 1, .string a2, .slice none 0 0, .slice none 0 0]] rfl (by (try simp only [List.map_toArray, List.map_cons, List.map_nil]); first | done | rfl | (simp only [List.length_drop, List.length_take]; rfl)) ?_; (refine (phalaropelaw11_few.calls k a1 0 false 1 a2 _ _ ([] : List ByteArray) _ _ ([] : List (S69)) true _ ?side1 ?side2 ?side3 ?side4 A18.out).mono ?_); (case side1 => exact Kd.C_nil _ _); (case side2 => exact Nat.le_refl _); (case side3 => exact Kd.C_nil _ _); (case side4 => exact Nat.le_refl _); rintro e w48 ⟨rfl, hb⟩; refine ⟨_, rfl, ?_⟩; have n0_ := Aside0.mk (blk_below (g := gb208) (o := .cells #[.string t202, .string t203, .bool t204, .string t205, .bool false] 43 (0, 0)) (by (with_reducible repeat (first | refine blk_drewN ?_ _ | refine blk_drew ?_ | refine blk_alloc ?_ _)); refine blk_far ?_ NB208_210.out _; (with_reducible repeat (first | refine blk_drewN ?_ _ | refine blk_drew ?_ | refine blk_alloc ?_ _)); refine blk_far ?_ NB208_210.out _; (with_reducible repeat (first | refine blk_drewN ?_ _ | refine blk_drew ?_ | refine blk_alloc ?_ _)); refine blk_far ?_ NB208_210.out _; (with_reducible repeat (first | refine blk_drewN ?_ _ | refine blk_drew ?_ | refine blk_alloc ?_ _)); refine blk_far ?_ NB208_210.out _; (with_reducible repeat (first | refine blk_drewN ?_ _ | refine blk_drew ?_ | refine blk_alloc ?_ _)); exact BK208.out) hb); have n1_ := Aside0.mk (blk_below (g := gb209) (o := .cells #[.string a1, .int .i64 0, .bool false] 23 (0, 0)) (by (with_reducible repeat (first | refine blk_drewN ?_ _ | refine blk_drew ?_ | refine blk_alloc ?_ _)); refine blk_far ?_ NB209_210.out _; (with_reducible repeat (first | refine blk_drewN ?_ _ | refine blk_drew ?_ | refine blk_alloc ?_ _)); refine blk_far ?_ NB209_210.out _; (with_reducible repeat (first | refine blk_drewN ?_ _ | refine blk_drew ?_ | refine blk_alloc ?_ _)); refine blk_far ?_ NB209_210.out _; (with_reducible repeat (first | refine blk_drewN ?_ _ | refine blk_drew ?_ | refine blk_alloc ?_ _)); refine blk_far ?_ NB209_210.out _; (with_reducible repeat (first | refine blk_drewN ?_ _ | refine blk_drew ?_ | refine blk_alloc ?_ _)); exact BK209.out) hb); have n2_ := Aside0.mk (blk_below (g := gb210) (o := .cells #[.int .i64 1, .string a2, .slice none 0 0, .slice none 0 0] 27 (0, 0)) (by (with_reducible repeat (first | refine blk_drewN ?_ _ | refine blk_drew ?_ | refine blk_alloc ?_ _)); refine blk_put (cs := #[.int .i64 1, .string a2, .slice none 0 0, .slice none 0 0]) ?_ 3 _ rfl; (with_reducible repeat (first | refine blk_drewN ?_ _ | refine blk_drew ?_ | refine blk_alloc ?_ _)); refine blk_put (cs := #[.int .i64 1, .string a2, .slice none 0 0, .slice none 0 0]) ?_ 2 _ rfl; (with_reducible repeat (first | refine blk_drewN ?_ _ | refine blk_drew ?_ | refine blk_alloc ?_ _)); refine blk_put (cs := #[.int .i64 1, .string (⟨#[]⟩ : ByteArray), .slice none 0 0, .slice none 0 0]) ?_ 1 _ rfl; (with_reducible repeat (first | refine blk_drewN ?_ _ | refine blk_drew ?_ | refine blk_alloc ?_ _)); refine blk_put (cs := #[.int .i64 0, .string (⟨#[]⟩ : ByteArray), .slice none 0 0, .slice none 0 0]) ?_ 0 _ rfl; (with_reducible repeat (first | refine blk_drewN ?_ _ | refine blk_drew ?_ | refine blk_alloc ?_ _)); exact BK210.out) hb); have n3_ := Aside0.mk (below_step (by repeat (first | (with_reducible first | exact HB.out | apply below_alloc | apply pw_below_drewN | apply below_drew1 | refine below_set ?_ GE208.out | refine below_set ?_ GE209.out | refine below_set ?_ GE210.out) | exact HB.out)) hb); clear BK208; clear BK209; clear BK210; clear HB; have BK208 := n0_; have BK209 := n1_; have BK210 := n2_; have HB := n3_; clear n0_ n1_ n2_ n3_; (try clear hb); (try clear hb2); (try clear hk); (try clear hi); have hcz49_0 : w48.cell? ⟨gb208, 0, none⟩ = some (.string t202) := (blk_cell BK208.out 0).trans rfl; have hcz49_1 : w48.cell? ⟨gb208, 1, none⟩ = some (.string t203) := (blk_cell BK208.out 1).trans rfl; have hcz49_2 : w48.cell? ⟨gb208, 2, none⟩ = some (.bool t204) := (blk_cell BK208.out 2).trans rfl; have hcz49_3 : w48.cell? ⟨gb208, 3, none⟩ = some (.string t205) := (blk_cell BK208.out 3).trans rfl; have hcz49_4 : w48.cell? ⟨gb208, 4, none⟩ = some (.bool false) := (blk_cell BK208.out 4).trans rfl; have hfz49_0 := blk_frozen BK208.out 0; have hfz49_1 := blk_frozen BK208.out 1; have hfz49_2 := blk_frozen BK208.out 2; have hfz49_3 := blk_frozen BK208.out 3; have hfz49_4 := blk_frozen BK208.out 4; have hcz50_0 : w48.cell? ⟨gb209, 0, none⟩ = some (.string a1) := (blk_cell BK209.out 0).trans rfl; have hcz50_1 : w48.cell? ⟨gb209, 1, none⟩ = some (.int .i64 0) := (blk_cell BK209.out 1).trans rfl; have hcz50_2 : w48.cell? ⟨gb209, 2, none⟩ = some (.bool false) := (blk_cell BK209.out 2).trans rfl; have hfz50_0 := blk_frozen BK209.out 0; have hfz50_1 := blk_frozen BK209.out 1; have hfz50_2 := blk_frozen BK209.out 2) | (go_at_call 15; (with_reducible refine (phalaroperef06_May.calls k a1 0 false false _ A29.out).mono ?_); rintro e w51 ⟨rfl, hb⟩; have n0_ := Aside0.mk (blk_below (g := gb208) (o := .cells #[.string t202, .string t203, .bool t204, .string t205, .bool false] 43 (0, 0)) (by (with_reducible repeat (first | refine blk_drewN ?_ _ | refine blk_drew ?_ | refine blk_alloc ?_ _)); exact BK208.out) hb); have n1_ := Aside0.mk (blk_below (g := gb209) (o := .cells #[.string a1, .int .i64 0, .bool false] 23 (0, 0)) (by (with_reducible repeat (first | refine blk_drewN ?_ _ | refine blk_drew ?_ | refine blk_alloc ?_ _)); exact BK209.out) hb); have n2_ := Aside0.mk (blk_below (g := gb210) (o := .cells #[.int .i64 1, .string a2, .slice none 0 0, .slice none 0 0] 27 (0, 0)) (by (with_reducible repeat (first | refine blk_drewN ?_ _ | refine blk_drew ?_ | refine blk_alloc ?_ _)); exact BK210.out) hb); have n3_ := Aside0.mk (below_step (by repeat (first | (with_reducible first | exact HB.out | apply below_alloc | apply pw_below_drewN | apply below_drew1 | refine below_set ?_ GE208.out | refine below_set ?_ GE209.out | refine below_set ?_ GE210.out) | exact HB.out)) hb); clear BK208; clear BK209; clear BK210; clear HB; have BK208 := n0_; have BK209 := n1_; have BK210 := n2_; have HB := n3_; clear n0_ n1_ n2_ n3_; (try clear hb); (try clear hb2); (try clear hk); (try clear hi)))
            go_meet
            case rel => exact ⟨_, (true), (by first | rfl | (simp; done) | (simp [*]; done)), H', ⟨by first | omega | exact Nat.le_refl _⟩, ⟨by (with_reducible repeat (first | refine blk_drewN ?_ _ | refine blk_drew ?_ | refine blk_alloc ?_ _)); exact BK208.out⟩, ⟨by (with_reducible repeat (first | refine blk_drewN ?_ _ | refine blk_drew ?_ | refine blk_alloc ?_ _)); exact BK209.out⟩, ⟨by (with_reducible repeat (first | refine blk_drewN ?_ _ | refine blk_drew ?_ | refine blk_alloc ?_ _)); exact BK210.out⟩, ⟨by repeat (first | (with_reducible first | exact HB.out | apply below_alloc | apply pw_below_drewN | apply below_drew1 | refine below_set ?_ GE208.out | refine below_set ?_ GE209.out | refine below_set ?_ GE210.out) | exact HB.out)⟩⟩
      · replace c20 := Bool.eq_false_iff.mpr c20
        subst c20
        have H1 : (phalaropelaw11_PieceBack.j0 k a0 a1 a2 t201 true t202 t203 t204 t205 t206 a1 0 false 1 a2) = some r := by rw [if_neg (show ¬ (false = true) by decide)] at H; exact H
        clear H
        have H := H1
        clear H1
        have H' := Aside0.mk H
        clear H
        have hnb52 := NB209_208.out
        have hnc52 := NB208_209.out
        have hnb53 := NB209_210.out
        have hnc53 := NB210_209.out
        have hcz54_0 : w14.cell? ⟨gb209, 0, none⟩ = some (.string a1) := (blk_cell BK209.out 0).trans rfl
        have hcz54_1 : w14.cell? ⟨gb209, 1, none⟩ = some (.int .i64 0) := (blk_cell BK209.out 1).trans rfl
        have hcz54_2 : w14.cell? ⟨gb209, 2, none⟩ = some (.bool false) := (blk_cell BK209.out 2).trans rfl
        have hfz54_0 := blk_frozen BK209.out 0
        have hfz54_1 := blk_frozen BK209.out 1
        have hfz54_2 := blk_frozen BK209.out 2
        have hnb55 := NB210_208.out
        have hnc55 := NB208_210.out
        have hcz56_0 : w14.cell? ⟨gb210, 0, none⟩ = some (.int .i64 0) := (blk_cell BK210.out 0).trans rfl
        have hcz56_1 : w14.cell? ⟨gb210, 1, none⟩ = some (.string (⟨#[]⟩ : ByteArray)) := (blk_cell BK210.out 1).trans rfl
        have hcz56_2 : w14.cell? ⟨gb210, 2, none⟩ = some (.slice none 0 0) := (blk_cell BK210.out 2).trans rfl
        have hcz56_3 : w14.cell? ⟨gb210, 3, none⟩ = some (.slice none 0 0) := (blk_cell BK210.out 3).trans rfl
        have hfz56_0 := blk_frozen BK210.out 0
        have hfz56_1 := blk_frozen BK210.out 1
        have hfz56_2 := blk_frozen BK210.out 2
        have hfz56_3 := blk_frozen BK210.out 3
        go_wp2_with (first | ((with_reducible refine gate_callee (f := 9) rfl ?_); refine goesL_ (some 29) rfl rfl Try.func9 (by kernel_rfl) rfl #[.agg #[.string a1, .int .i64 0, .bool false], .agg #[.int .i64 1, .string a2, .slice none 0 0, .slice none 0 0]] rfl (by (try simp only [List.map_toArray, List.map_cons, List.map_nil]); first | done | rfl | (simp only [List.length_drop, List.length_take]; rfl)) ?_; (refine (phalaropelaw11_few.calls k a1 0 false 1 a2 _ _ ([] : List ByteArray) _ _ ([] : List (S69)) true _ ?side1 ?side2 ?side3 ?side4 A18.out).mono ?_); (case side1 => exact Kd.C_nil _ _); (case side2 => exact Nat.le_refl _); (case side3 => exact Kd.C_nil _ _); (case side4 => exact Nat.le_refl _); rintro e w57 ⟨rfl, hb⟩; refine ⟨_, rfl, ?_⟩; have n0_ := Aside0.mk (blk_below (g := gb208) (o := .cells #[.string t202, .string t203, .bool t204, .string t205, .bool t206] 43 (0, 0)) (by (with_reducible repeat (first | refine blk_drewN ?_ _ | refine blk_drew ?_ | refine blk_alloc ?_ _)); refine blk_far ?_ NB208_210.out _; (with_reducible repeat (first | refine blk_drewN ?_ _ | refine blk_drew ?_ | refine blk_alloc ?_ _)); refine blk_far ?_ NB208_210.out _; (with_reducible repeat (first | refine blk_drewN ?_ _ | refine blk_drew ?_ | refine blk_alloc ?_ _)); refine blk_far ?_ NB208_210.out _; (with_reducible repeat (first | refine blk_drewN ?_ _ | refine blk_drew ?_ | refine blk_alloc ?_ _)); refine blk_far ?_ NB208_210.out _; (with_reducible repeat (first | refine blk_drewN ?_ _ | refine blk_drew ?_ | refine blk_alloc ?_ _)); exact BK208.out) hb); have n1_ := Aside0.mk (blk_below (g := gb209) (o := .cells #[.string a1, .int .i64 0, .bool false] 23 (0, 0)) (by (with_reducible repeat (first | refine blk_drewN ?_ _ | refine blk_drew ?_ | refine blk_alloc ?_ _)); refine blk_far ?_ NB209_210.out _; (with_reducible repeat (first | refine blk_drewN ?_ _ | refine blk_drew ?_ | refine blk_alloc ?_ _)); refine blk_far ?_ NB209_210.out _; (with_reducible repeat (first | refine blk_drewN ?_ _ | refine blk_drew ?_ | refine blk_alloc ?_ _)); refine blk_far ?_ NB209_210.out _; (with_reducible repeat (first | refine blk_drewN ?_ _ | refine blk_drew ?_ | refine blk_alloc ?_ _)); refine blk_far ?_ NB209_210.out _; (with_reducible repeat (first | refine blk_drewN ?_ _ | refine blk_drew ?_ | refine blk_alloc ?_ _)); exact BK209.out) hb); have n2_ := Aside0.mk (blk_below (g := gb210) (o := .cells #[.int .i64 1, .string a2, .slice none 0 0, .slice none 0 0] 27 (0, 0)) (by (with_reducible repeat (first | refine blk_drewN ?_ _ | refine blk_drew ?_ | refine blk_alloc ?_ _)); refine blk_put (cs := #[.int .i64 1, .string a2, .slice none 0 0, .slice none 0 0]) ?_ 3 _ rfl; (with_reducible repeat (first | refine blk_drewN ?_ _ | refine blk_drew ?_ | refine blk_alloc ?_ _)); refine blk_put (cs := #[.int .i64 1, .string a2, .slice none 0 0, .slice none 0 0]) ?_ 2 _ rfl; (with_reducible repeat (first | refine blk_drewN ?_ _ | refine blk_drew ?_ | refine blk_alloc ?_ _)); refine blk_put (cs := #[.int .i64 1, .string (⟨#[]⟩ : ByteArray), .slice none 0 0, .slice none 0 0]) ?_ 1 _ rfl; (with_reducible repeat (first | refine blk_drewN ?_ _ | refine blk_drew ?_ | refine blk_alloc ?_ _)); refine blk_put (cs := #[.int .i64 0, .string (⟨#[]⟩ : ByteArray), .slice none 0 0, .slice none 0 0]) ?_ 0 _ rfl; (with_reducible repeat (first | refine blk_drewN ?_ _ | refine blk_drew ?_ | refine blk_alloc ?_ _)); exact BK210.out) hb); have n3_ := Aside0.mk (below_step (by repeat (first | (with_reducible first | exact HB.out | apply below_alloc | apply pw_below_drewN | apply below_drew1 | refine below_set ?_ GE208.out | refine below_set ?_ GE209.out | refine below_set ?_ GE210.out) | exact HB.out)) hb); clear BK208; clear BK209; clear BK210; clear HB; have BK208 := n0_; have BK209 := n1_; have BK210 := n2_; have HB := n3_; clear n0_ n1_ n2_ n3_; (try clear hb); (try clear hb2); (try clear hk); (try clear hi)))
        go_meet
        case rel => exact ⟨_, (true), (by first | rfl | (simp; done) | (simp [*]; done)), H', ⟨by first | omega | exact Nat.le_refl _⟩, ⟨by (with_reducible repeat (first | refine blk_drewN ?_ _ | refine blk_drew ?_ | refine blk_alloc ?_ _)); exact BK208.out⟩, ⟨by (with_reducible repeat (first | refine blk_drewN ?_ _ | refine blk_drew ?_ | refine blk_alloc ?_ _)); exact BK209.out⟩, ⟨by (with_reducible repeat (first | refine blk_drewN ?_ _ | refine blk_drew ?_ | refine blk_alloc ?_ _)); exact BK210.out⟩, ⟨by repeat (first | (with_reducible first | exact HB.out | apply below_alloc | apply pw_below_drewN | apply below_drew1 | refine below_set ?_ GE208.out | refine below_set ?_ GE209.out | refine below_set ?_ GE210.out) | exact HB.out)⟩⟩
    · replace c19 := Bool.eq_false_iff.mpr c19
      subst c19
      have H1 : (phalaropelaw11_PieceBack.j0 k a0 a1 a2 t201 true t202 t203 t204 t205 t206 a1 0 false 1 a2) = some r := by rw [if_neg (show ¬ (false = true) by decide)] at H; exact H
      clear H
      have H := H1
      clear H1
      have H' := Aside0.mk H
      clear H
      have hnb58 := NB209_208.out
      have hnc58 := NB208_209.out
      have hnb59 := NB209_210.out
      have hnc59 := NB210_209.out
      have hcz60_0 : w14.cell? ⟨gb209, 0, none⟩ = some (.string a1) := (blk_cell BK209.out 0).trans rfl
      have hcz60_1 : w14.cell? ⟨gb209, 1, none⟩ = some (.int .i64 0) := (blk_cell BK209.out 1).trans rfl
      have hcz60_2 : w14.cell? ⟨gb209, 2, none⟩ = some (.bool false) := (blk_cell BK209.out 2).trans rfl
      have hfz60_0 := blk_frozen BK209.out 0
      have hfz60_1 := blk_frozen BK209.out 1
      have hfz60_2 := blk_frozen BK209.out 2
      have hnb61 := NB210_208.out
      have hnc61 := NB208_210.out
      have hcz62_0 : w14.cell? ⟨gb210, 0, none⟩ = some (.int .i64 0) := (blk_cell BK210.out 0).trans rfl
      have hcz62_1 : w14.cell? ⟨gb210, 1, none⟩ = some (.string (⟨#[]⟩ : ByteArray)) := (blk_cell BK210.out 1).trans rfl
      have hcz62_2 : w14.cell? ⟨gb210, 2, none⟩ = some (.slice none 0 0) := (blk_cell BK210.out 2).trans rfl
      have hcz62_3 : w14.cell? ⟨gb210, 3, none⟩ = some (.slice none 0 0) := (blk_cell BK210.out 3).trans rfl
      have hfz62_0 := blk_frozen BK210.out 0
      have hfz62_1 := blk_frozen BK210.out 1
      have hfz62_2 := blk_frozen BK210.out 2
      have hfz62_3 := blk_frozen BK210.out 3
      go_wp2_with (first | ((with_reducible refine gate_callee (f := 9) rfl ?_); refine goesL_ (some 29) rfl rfl Try.func9 (by kernel_rfl) rfl #[.agg #[.string a1, .int .i64 0, .bool false], .agg #[.int .i64 1, .string a2, .slice none 0 0, .slice none 0 0]] rfl (by (try simp only [List.map_toArray, List.map_cons, List.map_nil]); first | done | rfl | (simp only [List.length_drop, List.length_take]; rfl)) ?_; (refine (phalaropelaw11_few.calls k a1 0 false 1 a2 _ _ ([] : List ByteArray) _ _ ([] : List (S69)) false _ ?side1 ?side2 ?side3 ?side4 A18.out).mono ?_); (case side1 => exact Kd.C_nil _ _); (case side2 => exact Nat.le_refl _); (case side3 => exact Kd.C_nil _ _); (case side4 => exact Nat.le_refl _); rintro e w63 ⟨rfl, hb⟩; refine ⟨_, rfl, ?_⟩; have n0_ := Aside0.mk (blk_below (g := gb208) (o := .cells #[.string t202, .string t203, .bool t204, .string t205, .bool t206] 43 (0, 0)) (by (with_reducible repeat (first | refine blk_drewN ?_ _ | refine blk_drew ?_ | refine blk_alloc ?_ _)); refine blk_far ?_ NB208_210.out _; (with_reducible repeat (first | refine blk_drewN ?_ _ | refine blk_drew ?_ | refine blk_alloc ?_ _)); refine blk_far ?_ NB208_210.out _; (with_reducible repeat (first | refine blk_drewN ?_ _ | refine blk_drew ?_ | refine blk_alloc ?_ _)); refine blk_far ?_ NB208_210.out _; (with_reducible repeat (first | refine blk_drewN ?_ _ | refine blk_drew ?_ | refine blk_alloc ?_ _)); refine blk_far ?_ NB208_210.out _; (with_reducible repeat (first | refine blk_drewN ?_ _ | refine blk_drew ?_ | refine blk_alloc ?_ _)); exact BK208.out) hb); have n1_ := Aside0.mk (blk_below (g := gb209) (o := .cells #[.string a1, .int .i64 0, .bool false] 23 (0, 0)) (by (with_reducible repeat (first | refine blk_drewN ?_ _ | refine blk_drew ?_ | refine blk_alloc ?_ _)); refine blk_far ?_ NB209_210.out _; (with_reducible repeat (first | refine blk_drewN ?_ _ | refine blk_drew ?_ | refine blk_alloc ?_ _)); refine blk_far ?_ NB209_210.out _; (with_reducible repeat (first | refine blk_drewN ?_ _ | refine blk_drew ?_ | refine blk_alloc ?_ _)); refine blk_far ?_ NB209_210.out _; (with_reducible repeat (first | refine blk_drewN ?_ _ | refine blk_drew ?_ | refine blk_alloc ?_ _)); refine blk_far ?_ NB209_210.out _; (with_reducible repeat (first | refine blk_drewN ?_ _ | refine blk_drew ?_ | refine blk_alloc ?_ _)); exact BK209.out) hb); have n2_ := Aside0.mk (blk_below (g := gb210) (o := .cells #[.int .i64 1, .string a2, .slice none 0 0, .slice none 0 0] 27 (0, 0)) (by (with_reducible repeat (first | refine blk_drewN ?_ _ | refine blk_drew ?_ | refine blk_alloc ?_ _)); refine blk_put (cs := #[.int .i64 1, .string a2, .slice none 0 0, .slice none 0 0]) ?_ 3 _ rfl; (with_reducible repeat (first | refine blk_drewN ?_ _ | refine blk_drew ?_ | refine blk_alloc ?_ _)); refine blk_put (cs := #[.int .i64 1, .string a2, .slice none 0 0, .slice none 0 0]) ?_ 2 _ rfl; (with_reducible repeat (first | refine blk_drewN ?_ _ | refine blk_drew ?_ | refine blk_alloc ?_ _)); refine blk_put (cs := #[.int .i64 1, .string (⟨#[]⟩ : ByteArray), .slice none 0 0, .slice none 0 0]) ?_ 1 _ rfl; (with_reducible repeat (first | refine blk_drewN ?_ _ | refine blk_drew ?_ | refine blk_alloc ?_ _)); refine blk_put (cs := #[.int .i64 0, .string (⟨#[]⟩ : ByteArray), .slice none 0 0, .slice none 0 0]) ?_ 0 _ rfl; (with_reducible repeat (first | refine blk_drewN ?_ _ | refine blk_drew ?_ | refine blk_alloc ?_ _)); exact BK210.out) hb); have n3_ := Aside0.mk (below_step (by repeat (first | (with_reducible first | exact HB.out | apply below_alloc | apply pw_below_drewN | apply below_drew1 | refine below_set ?_ GE208.out | refine below_set ?_ GE209.out | refine below_set ?_ GE210.out) | exact HB.out)) hb); clear BK208; clear BK209; clear BK210; clear HB; have BK208 := n0_; have BK209 := n1_; have BK210 := n2_; have HB := n3_; clear n0_ n1_ n2_ n3_; (try clear hb); (try clear hb2); (try clear hk); (try clear hi)))
      go_meet
      case rel => exact ⟨_, (true), (by first | rfl | (simp; done) | (simp [*]; done)), H', ⟨by first | omega | exact Nat.le_refl _⟩, ⟨by (with_reducible repeat (first | refine blk_drewN ?_ _ | refine blk_drew ?_ | refine blk_alloc ?_ _)); exact BK208.out⟩, ⟨by (with_reducible repeat (first | refine blk_drewN ?_ _ | refine blk_drew ?_ | refine blk_alloc ?_ _)); exact BK209.out⟩, ⟨by (with_reducible repeat (first | refine blk_drewN ?_ _ | refine blk_drew ?_ | refine blk_alloc ?_ _)); exact BK210.out⟩, ⟨by repeat (first | (with_reducible first | exact HB.out | apply below_alloc | apply pw_below_drewN | apply below_drew1 | refine below_set ?_ GE208.out | refine below_set ?_ GE209.out | refine below_set ?_ GE210.out) | exact HB.out)⟩⟩
  case rest =>
    clear HC6
    try clear c1
    try clear c2
    try clear p2
    try clear c3
    try clear c4
    try clear c5
    try clear c6
    try clear c7
    try clear c8
    try clear c9
    try clear c12
    try clear c15
    try clear c16
    try clear c18
    try clear c19
    try clear c20
    try clear c21
    try clear c22
    try clear c23
    try clear c25
    try clear c30
    try clear c32
    try clear c33
    try clear c35
    try clear c43
    try clear c44
    try clear c46
    try clear c52
    try clear c53
    try clear c55
    try clear c58
    try clear c59
    try clear c61
    try clear hcz10_0
    try clear hcz10_1
    try clear hcz10_2
    try clear hcz10_3
    try clear hcz10_4
    try clear hcz13_0
    try clear hcz13_1
    try clear hcz13_2
    try clear hcz17_0
    try clear hcz17_1
    try clear hcz17_2
    try clear hcz17_3
    try clear hcz24_0
    try clear hcz24_1
    try clear hcz24_2
    try clear hcz26_0
    try clear hcz26_1
    try clear hcz26_2
    try clear hcz26_3
    try clear hcz28_0
    try clear hcz28_1
    try clear hcz28_2
    try clear hcz28_3
    try clear hcz28_4
    try clear hcz34_0
    try clear hcz34_1
    try clear hcz34_2
    try clear hcz36_0
    try clear hcz36_1
    try clear hcz36_2
    try clear hcz36_3
    try clear hcz38_0
    try clear hcz38_1
    try clear hcz38_2
    try clear hcz38_3
    try clear hcz38_4
    try clear hcz39_0
    try clear hcz39_1
    try clear hcz39_2
    try clear hcz41_0
    try clear hcz41_1
    try clear hcz41_2
    try clear hcz41_3
    try clear hcz45_0
    try clear hcz45_1
    try clear hcz45_2
    try clear hcz47_0
    try clear hcz47_1
    try clear hcz47_2
    try clear hcz47_3
    try clear hcz49_0
    try clear hcz49_1
    try clear hcz49_2
    try clear hcz49_3
    try clear hcz49_4
    try clear hcz50_0
    try clear hcz50_1
    try clear hcz50_2
    try clear hcz54_0
    try clear hcz54_1
    try clear hcz54_2
    try clear hcz56_0
    try clear hcz56_1
    try clear hcz56_2
    try clear hcz56_3
    try clear hcz60_0
    try clear hcz60_1
    try clear hcz60_2
    try clear hcz62_0
    try clear hcz62_1
    try clear hcz62_2
    try clear hcz62_3
    try clear hfz10_0
    try clear hfz10_1
    try clear hfz10_2
    try clear hfz10_3
    try clear hfz10_4
    try clear hfz13_0
    try clear hfz13_1
    try clear hfz13_2
    try clear hfz17_0
    try clear hfz17_1
    try clear hfz17_2
    try clear hfz17_3
    try clear hfz24_0
    try clear hfz24_1
    try clear hfz24_2
    try clear hfz26_0
    try clear hfz26_1
    try clear hfz26_2
    try clear hfz26_3
    try clear hfz28_0
    try clear hfz28_1
    try clear hfz28_2
    try clear hfz28_3
    try clear hfz28_4
    try clear hfz34_0
    try clear hfz34_1
    try clear hfz34_2
    try clear hfz36_0
    try clear hfz36_1
    try clear hfz36_2
    try clear hfz36_3
    try clear hfz38_0
    try clear hfz38_1
    try clear hfz38_2
    try clear hfz38_3
    try clear hfz38_4
    try clear hfz39_0
    try clear hfz39_1
    try clear hfz39_2
    try clear hfz41_0
    try clear hfz41_1
    try clear hfz41_2
    try clear hfz41_3
    try clear hfz45_0
    try clear hfz45_1
    try clear hfz45_2
    try clear hfz47_0
    try clear hfz47_1
    try clear hfz47_2
    try clear hfz47_3
    try clear hfz49_0
    try clear hfz49_1
    try clear hfz49_2
    try clear hfz49_3
    try clear hfz49_4
    try clear hfz50_0
    try clear hfz50_1
    try clear hfz50_2
    try clear hfz54_0
    try clear hfz54_1
    try clear hfz54_2
    try clear hfz56_0
    try clear hfz56_1
    try clear hfz56_2
    try clear hfz56_3
    try clear hfz60_0
    try clear hfz60_1
    try clear hfz60_2
    try clear hfz62_0
    try clear hfz62_1
    try clear hfz62_2
    try clear hfz62_3
    obtain ⟨kq, x48_5, rfl, HA, HJ5, BK208, BK209, BK210, HB⟩ := hcut
    cases kq with
    | zero => exact absurd HA.out (by simp [phalaropelaw11_PieceBack.j0])
    | succ kj5 =>
      have H := HA.out
      clear HA
      simp only [phalaropelaw11_PieceBack.j0] at H
      by_cases c64 : x48_5 = true
      · subst c64
        have H1 : (some t201) = some r := by rw [if_pos rfl] at H; exact H
        clear H
        have H := H1
        clear H1
        obtain rfl := Option.some.inj H
        go_wp2
        go_ret
        exact ⟨by first | rfl | (simp [errW_none, errW_some] <;> rfl) | (simp [*, errW_none, errW_some] <;> rfl), by repeat (first | (with_reducible first | exact HB.out | apply below_alloc | apply pw_below_drewN | apply below_drew1 | refine below_set ?_ GE208.out | refine below_set ?_ GE209.out | refine below_set ?_ GE210.out) | exact HB.out)⟩
      · replace c64 := Bool.eq_false_iff.mpr c64
        subst c64
        have H1 : ((piece_One.f a0 a1 0 false 1 a2 ([] : List ByteArray) ([] : List (S69))).bind fun bt214 => (if t204 = true then (if (bt214.1.size : Int) < (a1.size : Int) then (phalaropelaw11_PieceBack.j1 kj5 a1 a2 t201 bt214.1 bt214.2.1 bt214.2.2 true) else (if 0 ≤ (a1.size : Int) then (if (a1.size : Int) ≤ (bt214.1.size : Int) then (phalaropelaw11_PieceBack.j1 kj5 a1 a2 t201 bt214.1 bt214.2.1 bt214.2.2 ((bt214.1.extract 0 a1.size).toList != a1.toList)) else (none)) else (none))) else ((pct_Decode.f bt214.1).bind fun bt221 => (if t201 = true then (if bt214.2.1 = true then (if bt214.2.2 = 0 then (if bt221.2 = true then (some (bt221.1.toList == a2.toList)) else (some false)) else (some false)) else (some false)) else (some false))))) = some r := by rw [if_neg (show ¬ (false = true) by decide)] at H; exact H
        clear H
        have H := H1
        clear H1
        replace H := Option.bind_eq_some_iff.mp H
        obtain ⟨⟨t214, t215, t216⟩, A650, H⟩ := H
        replace H : (if t204 = true then (if (t214.size : Int) < (a1.size : Int) then (phalaropelaw11_PieceBack.j1 kj5 a1 a2 t201 t214 t215 t216 true) else (if 0 ≤ (a1.size : Int) then (if (a1.size : Int) ≤ (t214.size : Int) then (phalaropelaw11_PieceBack.j1 kj5 a1 a2 t201 t214 t215 t216 ((t214.extract 0 a1.size).toList != a1.toList)) else (none)) else (none))) else ((pct_Decode.f t214).bind fun bt221 => (if t201 = true then (if t215 = true then (if t216 = 0 then (if bt221.2 = true then (some (bt221.1.toList == a2.toList)) else (some false)) else (some false)) else (some false)) else (some false)))) = some r := H
        have A65 := Aside0.mk A650
        clear A650
        by_cases c66 : t204 = true
        · subst c66
          have H1 : (if (t214.size : Int) < (a1.size : Int) then (phalaropelaw11_PieceBack.j1 kj5 a1 a2 t201 t214 t215 t216 true) else (if 0 ≤ (a1.size : Int) then (if (a1.size : Int) ≤ (t214.size : Int) then (phalaropelaw11_PieceBack.j1 kj5 a1 a2 t201 t214 t215 t216 ((t214.extract 0 a1.size).toList != a1.toList)) else (none)) else (none))) = some r := by rw [if_pos rfl] at H; exact H
          clear H
          have H := H1
          clear H1
          have HC67 := Aside0.mk H
          clear H
          have hnb68 := NB209_208.out
          have hnc68 := NB208_209.out
          have hnb69 := NB209_210.out
          have hnc69 := NB210_209.out
          have hcz70_0 : wc.cell? ⟨gb209, 0, none⟩ = some (.string a1) := (blk_cell BK209.out 0).trans rfl
          have hcz70_1 : wc.cell? ⟨gb209, 1, none⟩ = some (.int .i64 0) := (blk_cell BK209.out 1).trans rfl
          have hcz70_2 : wc.cell? ⟨gb209, 2, none⟩ = some (.bool false) := (blk_cell BK209.out 2).trans rfl
          have hfz70_0 := blk_frozen BK209.out 0
          have hfz70_1 := blk_frozen BK209.out 1
          have hfz70_2 := blk_frozen BK209.out 2
          have hnb71 := NB210_208.out
          have hnc71 := NB208_210.out
          have hcz72_0 : wc.cell? ⟨gb210, 0, none⟩ = some (.int .i64 1) := (blk_cell BK210.out 0).trans rfl
          have hcz72_1 : wc.cell? ⟨gb210, 1, none⟩ = some (.string a2) := (blk_cell BK210.out 1).trans rfl
          have hcz72_2 : wc.cell? ⟨gb210, 2, none⟩ = some (.slice none 0 0) := (blk_cell BK210.out 2).trans rfl
          have hcz72_3 : wc.cell? ⟨gb210, 3, none⟩ = some (.slice none 0 0) := (blk_cell BK210.out 3).trans rfl
          have hfz72_0 := blk_frozen BK210.out 0
          have hfz72_1 := blk_frozen BK210.out 1
          have hfz72_2 := blk_frozen BK210.out 2
          have hfz72_3 := blk_frozen BK210.out 3
          go_upto_region 9 with (first | ((with_reducible refine gate_callee (f := 10) rfl ?_); refine goesL_ (some 54) rfl rfl Try.func10 (by kernel_rfl) rfl #[.int .u8 a0, .agg #[.string a1, .int .i64 0, .bool false], .agg #[.int .i64 1, .string a2, .slice none 0 0, .slice none 0 0]] rfl (by (try simp only [List.map_toArray, List.map_cons, List.map_nil]); first | done | rfl | (simp only [List.length_drop, List.length_take]; rfl)) ?_; (refine (piece_One.calls a0 a1 0 false 1 a2 _ _ ([] : List ByteArray) _ _ ([] : List (S69)) t214 t215 t216 _ ?side1 ?side2 ?side3 ?side4 A65.out).mono ?_); (case side1 => exact Kd.C_nil _ _); (case side2 => exact Nat.le_refl _); (case side3 => exact Kd.C_nil _ _); (case side4 => exact Nat.le_refl _); rintro e w73 ⟨rfl, hb⟩; refine ⟨_, rfl, ?_⟩; have n0_ := Aside0.mk (blk_below (g := gb208) (o := .cells #[.string t202, .string t203, .bool true, .string t205, .bool t206] 43 (0, 0)) (by (with_reducible repeat (first | refine blk_drewN ?_ _ | refine blk_drew ?_ | refine blk_alloc ?_ _)); exact BK208.out) hb); have n1_ := Aside0.mk (blk_below (g := gb209) (o := .cells #[.string a1, .int .i64 0, .bool false] 23 (0, 0)) (by (with_reducible repeat (first | refine blk_drewN ?_ _ | refine blk_drew ?_ | refine blk_alloc ?_ _)); exact BK209.out) hb); have n2_ := Aside0.mk (blk_below (g := gb210) (o := .cells #[.int .i64 1, .string a2, .slice none 0 0, .slice none 0 0] 27 (0, 0)) (by (with_reducible repeat (first | refine blk_drewN ?_ _ | refine blk_drew ?_ | refine blk_alloc ?_ _)); exact BK210.out) hb); have n3_ := Aside0.mk (below_step (by repeat (first | (with_reducible first | exact HB.out | apply below_alloc | apply pw_below_drewN | apply below_drew1 | refine below_set ?_ GE208.out | refine below_set ?_ GE209.out | refine below_set ?_ GE210.out) | exact HB.out)) hb); clear BK208; clear BK209; clear BK210; clear HB; have BK208 := n0_; have BK209 := n1_; have BK210 := n2_; have HB := n3_; clear n0_ n1_ n2_ n3_; (try clear hb); (try clear hb2); (try clear hk); (try clear hi); have hcz74_0 : w73.cell? ⟨gb208, 0, none⟩ = some (.string t202) := (blk_cell BK208.out 0).trans rfl; have hcz74_1 : w73.cell? ⟨gb208, 1, none⟩ = some (.string t203) := (blk_cell BK208.out 1).trans rfl; have hcz74_2 : w73.cell? ⟨gb208, 2, none⟩ = some (.bool true) := (blk_cell BK208.out 2).trans rfl; have hcz74_3 : w73.cell? ⟨gb208, 3, none⟩ = some (.string t205) := (blk_cell BK208.out 3).trans rfl; have hcz74_4 : w73.cell? ⟨gb208, 4, none⟩ = some (.bool t206) := (blk_cell BK208.out 4).trans rfl; have hfz74_0 := blk_frozen BK208.out 0; have hfz74_1 := blk_frozen BK208.out 1; have hfz74_2 := blk_frozen BK208.out 2; have hfz74_3 := blk_frozen BK208.out 3; have hfz74_4 := blk_frozen BK208.out 4))
          (try simp only [Act.put, List.setIfInBounds_toArray, List.set_cons_zero, List.set_cons_succ])
          go_cut [72] (fun v72 wc => ∃ (kq : Nat) (x72_66 : Bool), v72 = .bool x72_66 ∧ Aside0 (phalaropelaw11_PieceBack.j1 kq a1 a2 t201 t214 t215 t216 x72_66 = some r) ∧ Aside0 (kq ≤ kj5) ∧ Aside0 (wc.heap[gb208]? = some (.cells #[.string t202, .string t203, .bool true, .string t205, .bool t206] 43 (0, 0))) ∧ Aside0 (wc.heap[gb209]? = some (.cells #[.string a1, .int .i64 0, .bool false] 23 (0, 0))) ∧ Aside0 (wc.heap[gb210]? = some (.cells #[.int .i64 1, .string a2, (.slice none 0 0), (.slice none 0 0)] 27 (0, 0))) ∧ Aside0 (Below w.heap.size w wc))
          case first =>
            have H := HC67.out
            clear HC67
            by_cases c75 : (t214.size : Int) < (a1.size : Int)
            · rw [if_pos c75] at H
              have c75b0 : decide ((t214.size : Int) < (a1.size : Int)) = true := decide_eq_true c75
              have c75b1 : decide (t214.size < a1.size) = true := decide_eq_true (Int.ofNat_lt.mp c75)
              clear c75
              (first | rw [c75b0] | (simp only [i64_w, i32_w]; rw [c75b0]) | skip)
              have H' := Aside0.mk H
              clear H
              go_wp2
              go_meet
              case rel => exact ⟨_, (true), (by first | rfl | (simp; done) | (simp [*]; done)), H', ⟨by have := HJ5.out; first | omega | exact Nat.le_refl _⟩, ⟨by (with_reducible repeat (first | refine blk_drewN ?_ _ | refine blk_drew ?_ | refine blk_alloc ?_ _)); exact BK208.out⟩, ⟨by (with_reducible repeat (first | refine blk_drewN ?_ _ | refine blk_drew ?_ | refine blk_alloc ?_ _)); exact BK209.out⟩, ⟨by (with_reducible repeat (first | refine blk_drewN ?_ _ | refine blk_drew ?_ | refine blk_alloc ?_ _)); exact BK210.out⟩, ⟨by repeat (first | (with_reducible first | exact HB.out | apply below_alloc | apply pw_below_drewN | apply below_drew1 | refine below_set ?_ GE208.out | refine below_set ?_ GE209.out | refine below_set ?_ GE210.out) | exact HB.out)⟩⟩
            · rw [if_neg c75] at H
              have c75b0 : decide ((t214.size : Int) < (a1.size : Int)) = false := decide_eq_false c75
              have c75b1 : decide (t214.size < a1.size) = false := decide_eq_false (fun h => c75 (Int.ofNat_lt.mpr h))
              clear c75
              (first | rw [c75b0] | (simp only [i64_w, i32_w]; rw [c75b0]) | skip)
              by_cases c76 : 0 ≤ (a1.size : Int)
              · rw [if_pos c76] at H
                have c76b0 := eq_true c76
                have c76b1 : decide (0 ≤ (a1.size : Int)) = true := decide_eq_true c76
                clear c76
                by_cases c77 : (a1.size : Int) ≤ (t214.size : Int)
                · rw [if_pos c77] at H
                  have c77b0 := eq_true c77
                  have c77b1 : decide ((a1.size : Int) ≤ (t214.size : Int)) = true := decide_eq_true c77
                  clear c77
                  have H' := Aside0.mk H
                  clear H
                  go_wp2
                  go_meet
                  case rel => exact ⟨_, (((t214.extract 0 a1.size).toList != a1.toList)), (by first | rfl | (simp; done) | (simp [*]; done)), H', ⟨by have := HJ5.out; first | omega | exact Nat.le_refl _⟩, ⟨by (with_reducible repeat (first | refine blk_drewN ?_ _ | refine blk_drew ?_ | refine blk_alloc ?_ _)); exact BK208.out⟩, ⟨by (with_reducible repeat (first | refine blk_drewN ?_ _ | refine blk_drew ?_ | refine blk_alloc ?_ _)); exact BK209.out⟩, ⟨by (with_reducible repeat (first | refine blk_drewN ?_ _ | refine blk_drew ?_ | refine blk_alloc ?_ _)); exact BK210.out⟩, ⟨by repeat (first | (with_reducible first | exact HB.out | apply below_alloc | apply pw_below_drewN | apply below_drew1 | refine below_set ?_ GE208.out | refine below_set ?_ GE209.out | refine below_set ?_ GE210.out) | exact HB.out)⟩⟩
                · rw [if_neg c77] at H
                  exact absurd H (by simp)
              · rw [if_neg c76] at H
                exact absurd H (by simp)
          case rest =>
            clear HC67
            try clear c1
            try clear c2
            try clear p2
            try clear c3
            try clear c4
            try clear c5
            try clear c6
            try clear c7
            try clear c8
            try clear c9
            try clear c10
            try clear c12
            try clear c15
            try clear c16
            try clear c18
            try clear c19
            try clear c20
            try clear c21
            try clear c22
            try clear c23
            try clear c25
            try clear c30
            try clear c32
            try clear c33
            try clear c35
            try clear c43
            try clear c44
            try clear c46
            try clear c52
            try clear c53
            try clear c55
            try clear c58
            try clear c59
            try clear c61
            try clear c64
            try clear c66
            try clear c68
            try clear c69
            try clear c71
            try clear c75
            try clear c75b0
            try clear c75b1
            try clear c76
            try clear c76b0
            try clear c76b1
            try clear c77
            try clear c77b0
            try clear c77b1
            try clear hcz10_0
            try clear hcz10_1
            try clear hcz10_2
            try clear hcz10_3
            try clear hcz10_4
            try clear hcz13_0
            try clear hcz13_1
            try clear hcz13_2
            try clear hcz17_0
            try clear hcz17_1
            try clear hcz17_2
            try clear hcz17_3
            try clear hcz24_0
            try clear hcz24_1
            try clear hcz24_2
            try clear hcz26_0
            try clear hcz26_1
            try clear hcz26_2
            try clear hcz26_3
            try clear hcz28_0
            try clear hcz28_1
            try clear hcz28_2
            try clear hcz28_3
            try clear hcz28_4
            try clear hcz34_0
            try clear hcz34_1
            try clear hcz34_2
            try clear hcz36_0
            try clear hcz36_1
            try clear hcz36_2
            try clear hcz36_3
            try clear hcz38_0
            try clear hcz38_1
            try clear hcz38_2
            try clear hcz38_3
            try clear hcz38_4
            try clear hcz39_0
            try clear hcz39_1
            try clear hcz39_2
            try clear hcz41_0
            try clear hcz41_1
            try clear hcz41_2
            try clear hcz41_3
            try clear hcz45_0
            try clear hcz45_1
            try clear hcz45_2
            try clear hcz47_0
            try clear hcz47_1
            try clear hcz47_2
            try clear hcz47_3
            try clear hcz49_0
            try clear hcz49_1
            try clear hcz49_2
            try clear hcz49_3
            try clear hcz49_4
            try clear hcz50_0
            try clear hcz50_1
            try clear hcz50_2
            try clear hcz54_0
            try clear hcz54_1
            try clear hcz54_2
            try clear hcz56_0
            try clear hcz56_1
            try clear hcz56_2
            try clear hcz56_3
            try clear hcz60_0
            try clear hcz60_1
            try clear hcz60_2
            try clear hcz62_0
            try clear hcz62_1
            try clear hcz62_2
            try clear hcz62_3
            try clear hcz70_0
            try clear hcz70_1
            try clear hcz70_2
            try clear hcz72_0
            try clear hcz72_1
            try clear hcz72_2
            try clear hcz72_3
            try clear hcz74_0
            try clear hcz74_1
            try clear hcz74_2
            try clear hcz74_3
            try clear hcz74_4
            try clear hfz10_0
            try clear hfz10_1
            try clear hfz10_2
            try clear hfz10_3
            try clear hfz10_4
            try clear hfz13_0
            try clear hfz13_1
            try clear hfz13_2
            try clear hfz17_0
            try clear hfz17_1
            try clear hfz17_2
            try clear hfz17_3
            try clear hfz24_0
            try clear hfz24_1
            try clear hfz24_2
            try clear hfz26_0
            try clear hfz26_1
            try clear hfz26_2
            try clear hfz26_3
            try clear hfz28_0
            try clear hfz28_1
            try clear hfz28_2
            try clear hfz28_3
            try clear hfz28_4
            try clear hfz34_0
            try clear hfz34_1
            try clear hfz34_2
            try clear hfz36_0
            try clear hfz36_1
            try clear hfz36_2
            try clear hfz36_3
            try clear hfz38_0
            try clear hfz38_1
            try clear hfz38_2
            try clear hfz38_3
            try clear hfz38_4
            try clear hfz39_0
            try clear hfz39_1
            try clear hfz39_2
            try clear hfz41_0
            try clear hfz41_1
            try clear hfz41_2
            try clear hfz41_3
            try clear hfz45_0
            try clear hfz45_1
            try clear hfz45_2
            try clear hfz47_0
            try clear hfz47_1
            try clear hfz47_2
            try clear hfz47_3
            try clear hfz49_0
            try clear hfz49_1
            try clear hfz49_2
            try clear hfz49_3
            try clear hfz49_4
            try clear hfz50_0
            try clear hfz50_1
            try clear hfz50_2
            try clear hfz54_0
            try clear hfz54_1
            try clear hfz54_2
            try clear hfz56_0
            try clear hfz56_1
            try clear hfz56_2
            try clear hfz56_3
            try clear hfz60_0
            try clear hfz60_1
            try clear hfz60_2
            try clear hfz62_0
            try clear hfz62_1
            try clear hfz62_2
            try clear hfz62_3
            try clear hfz70_0
            try clear hfz70_1
            try clear hfz70_2
            try clear hfz72_0
            try clear hfz72_1
            try clear hfz72_2
            try clear hfz72_3
            try clear hfz74_0
            try clear hfz74_1
            try clear hfz74_2
            try clear hfz74_3
            try clear hfz74_4
            try clear p2
            obtain ⟨kq, x72_66, rfl, HA, HJ66, BK208, BK209, BK210, HB⟩ := hcut
            cases kq with
            | zero => exact absurd HA.out (by simp [phalaropelaw11_PieceBack.j1])
            | succ kj66 =>
              have H := HA.out
              clear HA
              simp only [phalaropelaw11_PieceBack.j1] at H
              by_cases c78 : x72_66 = true
              · subst c78
                have H1 : (some false) = some r := by rw [if_pos rfl] at H; exact H
                clear H
                have H := H1
                clear H1
                obtain rfl := Option.some.inj H
                go_wp2
                go_ret
                exact ⟨by first | rfl | (simp [errW_none, errW_some] <;> rfl) | (simp [*, errW_none, errW_some] <;> rfl), by repeat (first | (with_reducible first | exact HB.out | apply below_alloc | apply pw_below_drewN | apply below_drew1 | refine below_set ?_ GE208.out | refine below_set ?_ GE209.out | refine below_set ?_ GE210.out) | exact HB.out)⟩
              · replace c78 := Bool.eq_false_iff.mpr c78
                subst c78
                have H1 : (if 0 ≤ (a1.size : Int) then (if (a1.size : Int) ≤ (t214.size : Int) then (if (t214.extract a1.size t214.size).toList = ([] : List UInt8) then ((pct_Decode.f (t214.extract a1.size t214.size)).bind fun bt217 => (if t201 = true then (if t215 = true then (if t216 = 0 then (if bt217.2 = true then (some (bt217.1.toList == a2.toList)) else (some false)) else (some false)) else (some false)) else (some false))) else (if 1 ≤ ((t214.size - a1.size : Nat) : Int) then ((pct_Decode.f ((t214.extract a1.size t214.size).extract 1 (t214.size - a1.size))).bind fun bt219 => (if t201 = true then (if t215 = true then (if t216 = 0 then (if bt219.2 = true then (some (bt219.1.toList == a2.toList)) else (some false)) else (some false)) else (some false)) else (some false))) else (none))) else (none)) else (none)) = some r := by rw [if_neg (show ¬ (false = true) by decide)] at H; exact H
                clear H
                have H := H1
                clear H1
                by_cases c79 : 0 ≤ (a1.size : Int)
                · rw [if_pos c79] at H
                  have c79b0 := eq_true c79
                  have c79b1 : decide (0 ≤ (a1.size : Int)) = true := decide_eq_true c79
                  clear c79
                  by_cases c80 : (a1.size : Int) ≤ (t214.size : Int)
                  · rw [if_pos c80] at H
                    have c80b0 := eq_true c80
                    have c80b1 : decide ((a1.size : Int) ≤ (t214.size : Int)) = true := decide_eq_true c80
                    clear c80
                    by_cases c81 : (t214.extract a1.size t214.size).toList = ([] : List UInt8)
                    · rw [if_pos c81] at H
                      have c81b0 : ((t214.extract a1.size t214.size).toList == ([] : List UInt8)) = true := beq_iff_eq.mpr c81
                      have c81b1 : ((t214.extract a1.size t214.size).toList != ([] : List UInt8)) = false := bne_eq_false_iff_eq.mpr c81
                      clear c81
                      replace H := Option.bind_eq_some_iff.mp H
                      obtain ⟨⟨t217, t218⟩, A820, H⟩ := H
                      replace H : (if t201 = true then (if t215 = true then (if t216 = 0 then (if t218 = true then (some (t217.toList == a2.toList)) else (some false)) else (some false)) else (some false)) else (some false)) = some r := H
                      have A82 := Aside0.mk A820
                      clear A820
                      by_cases c83 : t201 = true
                      · subst c83
                        have H1 : (if t215 = true then (if t216 = 0 then (if t218 = true then (some (t217.toList == a2.toList)) else (some false)) else (some false)) else (some false)) = some r := by rw [if_pos rfl] at H; exact H
                        clear H
                        have H := H1
                        clear H1
                        by_cases c84 : t215 = true
                        · subst c84
                          have H1 : (if t216 = 0 then (if t218 = true then (some (t217.toList == a2.toList)) else (some false)) else (some false)) = some r := by rw [if_pos rfl] at H; exact H
                          clear H
                          have H := H1
                          clear H1
                          by_cases c85 : t216 = 0
                          · rw [if_pos c85] at H
                            have c85b0 : (t216 == 0) = true := beq_iff_eq.mpr c85
                            have c85b1 : (t216 != 0) = false := bne_eq_false_iff_eq.mpr c85
                            clear c85
                            by_cases c86 : t218 = true
                            · subst c86
                              have H1 : (some (t217.toList == a2.toList)) = some r := by rw [if_pos rfl] at H; exact H
                              clear H
                              have H := H1
                              clear H1
                              obtain rfl := Option.some.inj H
                              go_wp2_with (first | ((with_reducible refine gate_callee (f := 19) rfl ?_); refine goesL_ (some 83) rfl rfl Try.func19 (by kernel_rfl) rfl #[.string (t214.extract a1.size t214.size)] rfl (by (try simp only [List.map_toArray, List.map_cons, List.map_nil]); first | done | rfl | (simp only [List.length_drop, List.length_take]; rfl)) ?_; (with_reducible refine (pct_Decode.calls (t214.extract a1.size t214.size) t217 true _ A82.out).mono ?_); rintro e w87 ⟨rfl, hb⟩; refine ⟨_, rfl, ?_⟩; have n0_ := Aside0.mk (blk_below (g := gb208) (o := .cells #[.string t202, .string t203, .bool true, .string t205, .bool t206] 43 (0, 0)) (by (with_reducible repeat (first | refine blk_drewN ?_ _ | refine blk_drew ?_ | refine blk_alloc ?_ _)); exact BK208.out) hb); have n1_ := Aside0.mk (blk_below (g := gb209) (o := .cells #[.string a1, .int .i64 0, .bool false] 23 (0, 0)) (by (with_reducible repeat (first | refine blk_drewN ?_ _ | refine blk_drew ?_ | refine blk_alloc ?_ _)); exact BK209.out) hb); have n2_ := Aside0.mk (blk_below (g := gb210) (o := .cells #[.int .i64 1, .string a2, .slice none 0 0, .slice none 0 0] 27 (0, 0)) (by (with_reducible repeat (first | refine blk_drewN ?_ _ | refine blk_drew ?_ | refine blk_alloc ?_ _)); exact BK210.out) hb); have n3_ := Aside0.mk (below_step (by repeat (first | (with_reducible first | exact HB.out | apply below_alloc | apply pw_below_drewN | apply below_drew1 | refine below_set ?_ GE208.out | refine below_set ?_ GE209.out | refine below_set ?_ GE210.out) | exact HB.out)) hb); clear BK208; clear BK209; clear BK210; clear HB; have BK208 := n0_; have BK209 := n1_; have BK210 := n2_; have HB := n3_; clear n0_ n1_ n2_ n3_; (try clear hb); (try clear hb2); (try clear hk); (try clear hi)))
                              go_ret
                              exact ⟨by first | rfl | (simp [errW_none, errW_some] <;> rfl) | (simp [*, errW_none, errW_some] <;> rfl), by repeat (first | (with_reducible first | exact HB.out | apply below_alloc | apply pw_below_drewN | apply below_drew1 | refine below_set ?_ GE208.out | refine below_set ?_ GE209.out | refine below_set ?_ GE210.out) | exact HB.out)⟩
                            · replace c86 := Bool.eq_false_iff.mpr c86
                              subst c86
                              have H1 : (some false) = some r := by rw [if_neg (show ¬ (false = true) by decide)] at H; exact H
                              clear H
                              have H := H1
                              clear H1
                              obtain rfl := Option.some.inj H
                              go_wp2_with (first | ((with_reducible refine gate_callee (f := 19) rfl ?_); refine goesL_ (some 83) rfl rfl Try.func19 (by kernel_rfl) rfl #[.string (t214.extract a1.size t214.size)] rfl (by (try simp only [List.map_toArray, List.map_cons, List.map_nil]); first | done | rfl | (simp only [List.length_drop, List.length_take]; rfl)) ?_; (with_reducible refine (pct_Decode.calls (t214.extract a1.size t214.size) t217 false _ A82.out).mono ?_); rintro e w88 ⟨rfl, hb⟩; refine ⟨_, rfl, ?_⟩; have n0_ := Aside0.mk (blk_below (g := gb208) (o := .cells #[.string t202, .string t203, .bool true, .string t205, .bool t206] 43 (0, 0)) (by (with_reducible repeat (first | refine blk_drewN ?_ _ | refine blk_drew ?_ | refine blk_alloc ?_ _)); exact BK208.out) hb); have n1_ := Aside0.mk (blk_below (g := gb209) (o := .cells #[.string a1, .int .i64 0, .bool false] 23 (0, 0)) (by (with_reducible repeat (first | refine blk_drewN ?_ _ | refine blk_drew ?_ | refine blk_alloc ?_ _)); exact BK209.out) hb); have n2_ := Aside0.mk (blk_below (g := gb210) (o := .cells #[.int .i64 1, .string a2, .slice none 0 0, .slice none 0 0] 27 (0, 0)) (by (with_reducible repeat (first | refine blk_drewN ?_ _ | refine blk_drew ?_ | refine blk_alloc ?_ _)); exact BK210.out) hb); have n3_ := Aside0.mk (below_step (by repeat (first | (with_reducible first | exact HB.out | apply below_alloc | apply pw_below_drewN | apply below_drew1 | refine below_set ?_ GE208.out | refine below_set ?_ GE209.out | refine below_set ?_ GE210.out) | exact HB.out)) hb); clear BK208; clear BK209; clear BK210; clear HB; have BK208 := n0_; have BK209 := n1_; have BK210 := n2_; have HB := n3_; clear n0_ n1_ n2_ n3_; (try clear hb); (try clear hb2); (try clear hk); (try clear hi)))
                              go_ret
                              exact ⟨by first | rfl | (simp [errW_none, errW_some] <;> rfl) | (simp [*, errW_none, errW_some] <;> rfl), by repeat (first | (with_reducible first | exact HB.out | apply below_alloc | apply pw_below_drewN | apply below_drew1 | refine below_set ?_ GE208.out | refine below_set ?_ GE209.out | refine below_set ?_ GE210.out) | exact HB.out)⟩
                          · rw [if_neg c85] at H
                            have c85b0 : (t216 == 0) = false := beq_eq_false_iff_ne.mpr c85
                            have c85b1 : (t216 != 0) = true := bne_iff_ne.mpr c85
                            obtain rfl := Option.some.inj H
                            go_wp2_with (first | ((with_reducible refine gate_callee (f := 19) rfl ?_); refine goesL_ (some 83) rfl rfl Try.func19 (by kernel_rfl) rfl #[.string (t214.extract a1.size t214.size)] rfl (by (try simp only [List.map_toArray, List.map_cons, List.map_nil]); first | done | rfl | (simp only [List.length_drop, List.length_take]; rfl)) ?_; (with_reducible refine (pct_Decode.calls (t214.extract a1.size t214.size) t217 t218 _ A82.out).mono ?_); rintro e w89 ⟨rfl, hb⟩; refine ⟨_, rfl, ?_⟩; have n0_ := Aside0.mk (blk_below (g := gb208) (o := .cells #[.string t202, .string t203, .bool true, .string t205, .bool t206] 43 (0, 0)) (by (with_reducible repeat (first | refine blk_drewN ?_ _ | refine blk_drew ?_ | refine blk_alloc ?_ _)); exact BK208.out) hb); have n1_ := Aside0.mk (blk_below (g := gb209) (o := .cells #[.string a1, .int .i64 0, .bool false] 23 (0, 0)) (by (with_reducible repeat (first | refine blk_drewN ?_ _ | refine blk_drew ?_ | refine blk_alloc ?_ _)); exact BK209.out) hb); have n2_ := Aside0.mk (blk_below (g := gb210) (o := .cells #[.int .i64 1, .string a2, .slice none 0 0, .slice none 0 0] 27 (0, 0)) (by (with_reducible repeat (first | refine blk_drewN ?_ _ | refine blk_drew ?_ | refine blk_alloc ?_ _)); exact BK210.out) hb); have n3_ := Aside0.mk (below_step (by repeat (first | (with_reducible first | exact HB.out | apply below_alloc | apply pw_below_drewN | apply below_drew1 | refine below_set ?_ GE208.out | refine below_set ?_ GE209.out | refine below_set ?_ GE210.out) | exact HB.out)) hb); clear BK208; clear BK209; clear BK210; clear HB; have BK208 := n0_; have BK209 := n1_; have BK210 := n2_; have HB := n3_; clear n0_ n1_ n2_ n3_; (try clear hb); (try clear hb2); (try clear hk); (try clear hi)))
                            go_ret
                            exact ⟨by first | rfl | (simp [errW_none, errW_some] <;> rfl) | (simp [*, errW_none, errW_some] <;> rfl), by repeat (first | (with_reducible first | exact HB.out | apply below_alloc | apply pw_below_drewN | apply below_drew1 | refine below_set ?_ GE208.out | refine below_set ?_ GE209.out | refine below_set ?_ GE210.out) | exact HB.out)⟩
                        · replace c84 := Bool.eq_false_iff.mpr c84
                          subst c84
                          have H1 : (some false) = some r := by rw [if_neg (show ¬ (false = true) by decide)] at H; exact H
                          clear H
                          have H := H1
                          clear H1
                          obtain rfl := Option.some.inj H
                          go_wp2_with (first | ((with_reducible refine gate_callee (f := 19) rfl ?_); refine goesL_ (some 83) rfl rfl Try.func19 (by kernel_rfl) rfl #[.string (t214.extract a1.size t214.size)] rfl (by (try simp only [List.map_toArray, List.map_cons, List.map_nil]); first | done | rfl | (simp only [List.length_drop, List.length_take]; rfl)) ?_; (with_reducible refine (pct_Decode.calls (t214.extract a1.size t214.size) t217 t218 _ A82.out).mono ?_); rintro e w90 ⟨rfl, hb⟩; refine ⟨_, rfl, ?_⟩; have n0_ := Aside0.mk (blk_below (g := gb208) (o := .cells #[.string t202, .string t203, .bool true, .string t205, .bool t206] 43 (0, 0)) (by (with_reducible repeat (first | refine blk_drewN ?_ _ | refine blk_drew ?_ | refine blk_alloc ?_ _)); exact BK208.out) hb); have n1_ := Aside0.mk (blk_below (g := gb209) (o := .cells #[.string a1, .int .i64 0, .bool false] 23 (0, 0)) (by (with_reducible repeat (first | refine blk_drewN ?_ _ | refine blk_drew ?_ | refine blk_alloc ?_ _)); exact BK209.out) hb); have n2_ := Aside0.mk (blk_below (g := gb210) (o := .cells #[.int .i64 1, .string a2, .slice none 0 0, .slice none 0 0] 27 (0, 0)) (by (with_reducible repeat (first | refine blk_drewN ?_ _ | refine blk_drew ?_ | refine blk_alloc ?_ _)); exact BK210.out) hb); have n3_ := Aside0.mk (below_step (by repeat (first | (with_reducible first | exact HB.out | apply below_alloc | apply pw_below_drewN | apply below_drew1 | refine below_set ?_ GE208.out | refine below_set ?_ GE209.out | refine below_set ?_ GE210.out) | exact HB.out)) hb); clear BK208; clear BK209; clear BK210; clear HB; have BK208 := n0_; have BK209 := n1_; have BK210 := n2_; have HB := n3_; clear n0_ n1_ n2_ n3_; (try clear hb); (try clear hb2); (try clear hk); (try clear hi)))
                          go_ret
                          exact ⟨by first | rfl | (simp [errW_none, errW_some] <;> rfl) | (simp [*, errW_none, errW_some] <;> rfl), by repeat (first | (with_reducible first | exact HB.out | apply below_alloc | apply pw_below_drewN | apply below_drew1 | refine below_set ?_ GE208.out | refine below_set ?_ GE209.out | refine below_set ?_ GE210.out) | exact HB.out)⟩
                      · replace c83 := Bool.eq_false_iff.mpr c83
                        subst c83
                        have H1 : (some false) = some r := by rw [if_neg (show ¬ (false = true) by decide)] at H; exact H
                        clear H
                        have H := H1
                        clear H1
                        obtain rfl := Option.some.inj H
                        go_wp2_with (first | ((with_reducible refine gate_callee (f := 19) rfl ?_); refine goesL_ (some 83) rfl rfl Try.func19 (by kernel_rfl) rfl #[.string (t214.extract a1.size t214.size)] rfl (by (try simp only [List.map_toArray, List.map_cons, List.map_nil]); first | done | rfl | (simp only [List.length_drop, List.length_take]; rfl)) ?_; (with_reducible refine (pct_Decode.calls (t214.extract a1.size t214.size) t217 t218 _ A82.out).mono ?_); rintro e w91 ⟨rfl, hb⟩; refine ⟨_, rfl, ?_⟩; have n0_ := Aside0.mk (blk_below (g := gb208) (o := .cells #[.string t202, .string t203, .bool true, .string t205, .bool t206] 43 (0, 0)) (by (with_reducible repeat (first | refine blk_drewN ?_ _ | refine blk_drew ?_ | refine blk_alloc ?_ _)); exact BK208.out) hb); have n1_ := Aside0.mk (blk_below (g := gb209) (o := .cells #[.string a1, .int .i64 0, .bool false] 23 (0, 0)) (by (with_reducible repeat (first | refine blk_drewN ?_ _ | refine blk_drew ?_ | refine blk_alloc ?_ _)); exact BK209.out) hb); have n2_ := Aside0.mk (blk_below (g := gb210) (o := .cells #[.int .i64 1, .string a2, .slice none 0 0, .slice none 0 0] 27 (0, 0)) (by (with_reducible repeat (first | refine blk_drewN ?_ _ | refine blk_drew ?_ | refine blk_alloc ?_ _)); exact BK210.out) hb); have n3_ := Aside0.mk (below_step (by repeat (first | (with_reducible first | exact HB.out | apply below_alloc | apply pw_below_drewN | apply below_drew1 | refine below_set ?_ GE208.out | refine below_set ?_ GE209.out | refine below_set ?_ GE210.out) | exact HB.out)) hb); clear BK208; clear BK209; clear BK210; clear HB; have BK208 := n0_; have BK209 := n1_; have BK210 := n2_; have HB := n3_; clear n0_ n1_ n2_ n3_; (try clear hb); (try clear hb2); (try clear hk); (try clear hi)))
                        go_ret
                        exact ⟨by first | rfl | (simp [errW_none, errW_some] <;> rfl) | (simp [*, errW_none, errW_some] <;> rfl), by repeat (first | (with_reducible first | exact HB.out | apply below_alloc | apply pw_below_drewN | apply below_drew1 | refine below_set ?_ GE208.out | refine below_set ?_ GE209.out | refine below_set ?_ GE210.out) | exact HB.out)⟩
                    · rw [if_neg c81] at H
                      have c81b0 : ((t214.extract a1.size t214.size).toList == ([] : List UInt8)) = false := beq_eq_false_iff_ne.mpr c81
                      have c81b1 : ((t214.extract a1.size t214.size).toList != ([] : List UInt8)) = true := bne_iff_ne.mpr c81
                      by_cases c92 : 1 ≤ ((t214.size - a1.size : Nat) : Int)
                      · rw [if_pos c92] at H
                        have c92b0 := eq_true c92; have c92b5 : (((t214.size - a1.size : Nat) : Int) < 1) = False := eq_false (by omega)
                        have c92b1 : decide (1 ≤ ((t214.size - a1.size : Nat) : Int)) = true := decide_eq_true c92
                        clear c92
                        replace H := Option.bind_eq_some_iff.mp H
                        obtain ⟨⟨t219, t220⟩, A930, H⟩ := H
                        replace H : (if t201 = true then (if t215 = true then (if t216 = 0 then (if t220 = true then (some (t219.toList == a2.toList)) else (some false)) else (some false)) else (some false)) else (some false)) = some r := H
                        have A93 := Aside0.mk A930
                        clear A930
                        by_cases c94 : t201 = true
                        · subst c94
                          have H1 : (if t215 = true then (if t216 = 0 then (if t220 = true then (some (t219.toList == a2.toList)) else (some false)) else (some false)) else (some false)) = some r := by rw [if_pos rfl] at H; exact H
                          clear H
                          have H := H1
                          clear H1
                          by_cases c95 : t215 = true
                          · subst c95
                            have H1 : (if t216 = 0 then (if t220 = true then (some (t219.toList == a2.toList)) else (some false)) else (some false)) = some r := by rw [if_pos rfl] at H; exact H
                            clear H
                            have H := H1
                            clear H1
                            by_cases c96 : t216 = 0
                            · rw [if_pos c96] at H
                              have c96b0 : (t216 == 0) = true := beq_iff_eq.mpr c96
                              have c96b1 : (t216 != 0) = false := bne_eq_false_iff_eq.mpr c96
                              clear c96
                              by_cases c97 : t220 = true
                              · subst c97
                                have H1 : (some (t219.toList == a2.toList)) = some r := by rw [if_pos rfl] at H; exact H
                                clear H
                                have H := H1
                                clear H1
                                obtain rfl := Option.some.inj H
                                go_wp2_with (first | ((with_reducible refine gate_callee (f := 19) rfl ?_); refine goesL_ (some 83) rfl rfl Try.func19 (by kernel_rfl) rfl #[.string ((t214.extract a1.size t214.size).extract 1 (t214.size - a1.size))] rfl (by (try simp only [List.map_toArray, List.map_cons, List.map_nil]); first | done | rfl | (simp only [List.length_drop, List.length_take]; rfl)) ?_; (with_reducible refine (pct_Decode.calls ((t214.extract a1.size t214.size).extract 1 (t214.size - a1.size)) t219 true _ A93.out).mono ?_); rintro e w98 ⟨rfl, hb⟩; refine ⟨_, rfl, ?_⟩; have n0_ := Aside0.mk (blk_below (g := gb208) (o := .cells #[.string t202, .string t203, .bool true, .string t205, .bool t206] 43 (0, 0)) (by (with_reducible repeat (first | refine blk_drewN ?_ _ | refine blk_drew ?_ | refine blk_alloc ?_ _)); exact BK208.out) hb); have n1_ := Aside0.mk (blk_below (g := gb209) (o := .cells #[.string a1, .int .i64 0, .bool false] 23 (0, 0)) (by (with_reducible repeat (first | refine blk_drewN ?_ _ | refine blk_drew ?_ | refine blk_alloc ?_ _)); exact BK209.out) hb); have n2_ := Aside0.mk (blk_below (g := gb210) (o := .cells #[.int .i64 1, .string a2, .slice none 0 0, .slice none 0 0] 27 (0, 0)) (by (with_reducible repeat (first | refine blk_drewN ?_ _ | refine blk_drew ?_ | refine blk_alloc ?_ _)); exact BK210.out) hb); have n3_ := Aside0.mk (below_step (by repeat (first | (with_reducible first | exact HB.out | apply below_alloc | apply pw_below_drewN | apply below_drew1 | refine below_set ?_ GE208.out | refine below_set ?_ GE209.out | refine below_set ?_ GE210.out) | exact HB.out)) hb); clear BK208; clear BK209; clear BK210; clear HB; have BK208 := n0_; have BK209 := n1_; have BK210 := n2_; have HB := n3_; clear n0_ n1_ n2_ n3_; (try clear hb); (try clear hb2); (try clear hk); (try clear hi)))
                                go_ret
                                exact ⟨by first | rfl | (simp [errW_none, errW_some] <;> rfl) | (simp [*, errW_none, errW_some] <;> rfl), by repeat (first | (with_reducible first | exact HB.out | apply below_alloc | apply pw_below_drewN | apply below_drew1 | refine below_set ?_ GE208.out | refine below_set ?_ GE209.out | refine below_set ?_ GE210.out) | exact HB.out)⟩
                              · replace c97 := Bool.eq_false_iff.mpr c97
                                subst c97
                                have H1 : (some false) = some r := by rw [if_neg (show ¬ (false = true) by decide)] at H; exact H
                                clear H
                                have H := H1
                                clear H1
                                obtain rfl := Option.some.inj H
                                go_wp2_with (first | ((with_reducible refine gate_callee (f := 19) rfl ?_); refine goesL_ (some 83) rfl rfl Try.func19 (by kernel_rfl) rfl #[.string ((t214.extract a1.size t214.size).extract 1 (t214.size - a1.size))] rfl (by (try simp only [List.map_toArray, List.map_cons, List.map_nil]); first | done | rfl | (simp only [List.length_drop, List.length_take]; rfl)) ?_; (with_reducible refine (pct_Decode.calls ((t214.extract a1.size t214.size).extract 1 (t214.size - a1.size)) t219 false _ A93.out).mono ?_); rintro e w99 ⟨rfl, hb⟩; refine ⟨_, rfl, ?_⟩; have n0_ := Aside0.mk (blk_below (g := gb208) (o := .cells #[.string t202, .string t203, .bool true, .string t205, .bool t206] 43 (0, 0)) (by (with_reducible repeat (first | refine blk_drewN ?_ _ | refine blk_drew ?_ | refine blk_alloc ?_ _)); exact BK208.out) hb); have n1_ := Aside0.mk (blk_below (g := gb209) (o := .cells #[.string a1, .int .i64 0, .bool false] 23 (0, 0)) (by (with_reducible repeat (first | refine blk_drewN ?_ _ | refine blk_drew ?_ | refine blk_alloc ?_ _)); exact BK209.out) hb); have n2_ := Aside0.mk (blk_below (g := gb210) (o := .cells #[.int .i64 1, .string a2, .slice none 0 0, .slice none 0 0] 27 (0, 0)) (by (with_reducible repeat (first | refine blk_drewN ?_ _ | refine blk_drew ?_ | refine blk_alloc ?_ _)); exact BK210.out) hb); have n3_ := Aside0.mk (below_step (by repeat (first | (with_reducible first | exact HB.out | apply below_alloc | apply pw_below_drewN | apply below_drew1 | refine below_set ?_ GE208.out | refine below_set ?_ GE209.out | refine below_set ?_ GE210.out) | exact HB.out)) hb); clear BK208; clear BK209; clear BK210; clear HB; have BK208 := n0_; have BK209 := n1_; have BK210 := n2_; have HB := n3_; clear n0_ n1_ n2_ n3_; (try clear hb); (try clear hb2); (try clear hk); (try clear hi)))
                                go_ret
                                exact ⟨by first | rfl | (simp [errW_none, errW_some] <;> rfl) | (simp [*, errW_none, errW_some] <;> rfl), by repeat (first | (with_reducible first | exact HB.out | apply below_alloc | apply pw_below_drewN | apply below_drew1 | refine below_set ?_ GE208.out | refine below_set ?_ GE209.out | refine below_set ?_ GE210.out) | exact HB.out)⟩
                            · rw [if_neg c96] at H
                              have c96b0 : (t216 == 0) = false := beq_eq_false_iff_ne.mpr c96
                              have c96b1 : (t216 != 0) = true := bne_iff_ne.mpr c96
                              obtain rfl := Option.some.inj H
                              go_wp2_with (first | ((with_reducible refine gate_callee (f := 19) rfl ?_); refine goesL_ (some 83) rfl rfl Try.func19 (by kernel_rfl) rfl #[.string ((t214.extract a1.size t214.size).extract 1 (t214.size - a1.size))] rfl (by (try simp only [List.map_toArray, List.map_cons, List.map_nil]); first | done | rfl | (simp only [List.length_drop, List.length_take]; rfl)) ?_; (with_reducible refine (pct_Decode.calls ((t214.extract a1.size t214.size).extract 1 (t214.size - a1.size)) t219 t220 _ A93.out).mono ?_); rintro e w100 ⟨rfl, hb⟩; refine ⟨_, rfl, ?_⟩; have n0_ := Aside0.mk (blk_below (g := gb208) (o := .cells #[.string t202, .string t203, .bool true, .string t205, .bool t206] 43 (0, 0)) (by (with_reducible repeat (first | refine blk_drewN ?_ _ | refine blk_drew ?_ | refine blk_alloc ?_ _)); exact BK208.out) hb); have n1_ := Aside0.mk (blk_below (g := gb209) (o := .cells #[.string a1, .int .i64 0, .bool false] 23 (0, 0)) (by (with_reducible repeat (first | refine blk_drewN ?_ _ | refine blk_drew ?_ | refine blk_alloc ?_ _)); exact BK209.out) hb); have n2_ := Aside0.mk (blk_below (g := gb210) (o := .cells #[.int .i64 1, .string a2, .slice none 0 0, .slice none 0 0] 27 (0, 0)) (by (with_reducible repeat (first | refine blk_drewN ?_ _ | refine blk_drew ?_ | refine blk_alloc ?_ _)); exact BK210.out) hb); have n3_ := Aside0.mk (below_step (by repeat (first | (with_reducible first | exact HB.out | apply below_alloc | apply pw_below_drewN | apply below_drew1 | refine below_set ?_ GE208.out | refine below_set ?_ GE209.out | refine below_set ?_ GE210.out) | exact HB.out)) hb); clear BK208; clear BK209; clear BK210; clear HB; have BK208 := n0_; have BK209 := n1_; have BK210 := n2_; have HB := n3_; clear n0_ n1_ n2_ n3_; (try clear hb); (try clear hb2); (try clear hk); (try clear hi)))
                              go_ret
                              exact ⟨by first | rfl | (simp [errW_none, errW_some] <;> rfl) | (simp [*, errW_none, errW_some] <;> rfl), by repeat (first | (with_reducible first | exact HB.out | apply below_alloc | apply pw_below_drewN | apply below_drew1 | refine below_set ?_ GE208.out | refine below_set ?_ GE209.out | refine below_set ?_ GE210.out) | exact HB.out)⟩
                          · replace c95 := Bool.eq_false_iff.mpr c95
                            subst c95
                            have H1 : (some false) = some r := by rw [if_neg (show ¬ (false = true) by decide)] at H; exact H
                            clear H
                            have H := H1
                            clear H1
                            obtain rfl := Option.some.inj H
                            go_wp2_with (first | ((with_reducible refine gate_callee (f := 19) rfl ?_); refine goesL_ (some 83) rfl rfl Try.func19 (by kernel_rfl) rfl #[.string ((t214.extract a1.size t214.size).extract 1 (t214.size - a1.size))] rfl (by (try simp only [List.map_toArray, List.map_cons, List.map_nil]); first | done | rfl | (simp only [List.length_drop, List.length_take]; rfl)) ?_; (with_reducible refine (pct_Decode.calls ((t214.extract a1.size t214.size).extract 1 (t214.size - a1.size)) t219 t220 _ A93.out).mono ?_); rintro e w101 ⟨rfl, hb⟩; refine ⟨_, rfl, ?_⟩; have n0_ := Aside0.mk (blk_below (g := gb208) (o := .cells #[.string t202, .string t203, .bool true, .string t205, .bool t206] 43 (0, 0)) (by (with_reducible repeat (first | refine blk_drewN ?_ _ | refine blk_drew ?_ | refine blk_alloc ?_ _)); exact BK208.out) hb); have n1_ := Aside0.mk (blk_below (g := gb209) (o := .cells #[.string a1, .int .i64 0, .bool false] 23 (0, 0)) (by (with_reducible repeat (first | refine blk_drewN ?_ _ | refine blk_drew ?_ | refine blk_alloc ?_ _)); exact BK209.out) hb); have n2_ := Aside0.mk (blk_below (g := gb210) (o := .cells #[.int .i64 1, .string a2, .slice none 0 0, .slice none 0 0] 27 (0, 0)) (by (with_reducible repeat (first | refine blk_drewN ?_ _ | refine blk_drew ?_ | refine blk_alloc ?_ _)); exact BK210.out) hb); have n3_ := Aside0.mk (below_step (by repeat (first | (with_reducible first | exact HB.out | apply below_alloc | apply pw_below_drewN | apply below_drew1 | refine below_set ?_ GE208.out | refine below_set ?_ GE209.out | refine below_set ?_ GE210.out) | exact HB.out)) hb); clear BK208; clear BK209; clear BK210; clear HB; have BK208 := n0_; have BK209 := n1_; have BK210 := n2_; have HB := n3_; clear n0_ n1_ n2_ n3_; (try clear hb); (try clear hb2); (try clear hk); (try clear hi)))
                            go_ret
                            exact ⟨by first | rfl | (simp [errW_none, errW_some] <;> rfl) | (simp [*, errW_none, errW_some] <;> rfl), by repeat (first | (with_reducible first | exact HB.out | apply below_alloc | apply pw_below_drewN | apply below_drew1 | refine below_set ?_ GE208.out | refine below_set ?_ GE209.out | refine below_set ?_ GE210.out) | exact HB.out)⟩
                        · replace c94 := Bool.eq_false_iff.mpr c94
                          subst c94
                          have H1 : (some false) = some r := by rw [if_neg (show ¬ (false = true) by decide)] at H; exact H
                          clear H
                          have H := H1
                          clear H1
                          obtain rfl := Option.some.inj H
                          go_wp2_with (first | ((with_reducible refine gate_callee (f := 19) rfl ?_); refine goesL_ (some 83) rfl rfl Try.func19 (by kernel_rfl) rfl #[.string ((t214.extract a1.size t214.size).extract 1 (t214.size - a1.size))] rfl (by (try simp only [List.map_toArray, List.map_cons, List.map_nil]); first | done | rfl | (simp only [List.length_drop, List.length_take]; rfl)) ?_; (with_reducible refine (pct_Decode.calls ((t214.extract a1.size t214.size).extract 1 (t214.size - a1.size)) t219 t220 _ A93.out).mono ?_); rintro e w102 ⟨rfl, hb⟩; refine ⟨_, rfl, ?_⟩; have n0_ := Aside0.mk (blk_below (g := gb208) (o := .cells #[.string t202, .string t203, .bool true, .string t205, .bool t206] 43 (0, 0)) (by (with_reducible repeat (first | refine blk_drewN ?_ _ | refine blk_drew ?_ | refine blk_alloc ?_ _)); exact BK208.out) hb); have n1_ := Aside0.mk (blk_below (g := gb209) (o := .cells #[.string a1, .int .i64 0, .bool false] 23 (0, 0)) (by (with_reducible repeat (first | refine blk_drewN ?_ _ | refine blk_drew ?_ | refine blk_alloc ?_ _)); exact BK209.out) hb); have n2_ := Aside0.mk (blk_below (g := gb210) (o := .cells #[.int .i64 1, .string a2, .slice none 0 0, .slice none 0 0] 27 (0, 0)) (by (with_reducible repeat (first | refine blk_drewN ?_ _ | refine blk_drew ?_ | refine blk_alloc ?_ _)); exact BK210.out) hb); have n3_ := Aside0.mk (below_step (by repeat (first | (with_reducible first | exact HB.out | apply below_alloc | apply pw_below_drewN | apply below_drew1 | refine below_set ?_ GE208.out | refine below_set ?_ GE209.out | refine below_set ?_ GE210.out) | exact HB.out)) hb); clear BK208; clear BK209; clear BK210; clear HB; have BK208 := n0_; have BK209 := n1_; have BK210 := n2_; have HB := n3_; clear n0_ n1_ n2_ n3_; (try clear hb); (try clear hb2); (try clear hk); (try clear hi)))
                          go_ret
                          exact ⟨by first | rfl | (simp [errW_none, errW_some] <;> rfl) | (simp [*, errW_none, errW_some] <;> rfl), by repeat (first | (with_reducible first | exact HB.out | apply below_alloc | apply pw_below_drewN | apply below_drew1 | refine below_set ?_ GE208.out | refine below_set ?_ GE209.out | refine below_set ?_ GE210.out) | exact HB.out)⟩
                      · rw [if_neg c92] at H
                        exact absurd H (by simp)
                  · rw [if_neg c80] at H
                    exact absurd H (by simp)
                · rw [if_neg c79] at H
                  exact absurd H (by simp)
        · replace c66 := Bool.eq_false_iff.mpr c66
          subst c66
          have H1 : ((pct_Decode.f t214).bind fun bt221 => (if t201 = true then (if t215 = true then (if t216 = 0 then (if bt221.2 = true then (some (bt221.1.toList == a2.toList)) else (some false)) else (some false)) else (some false)) else (some false))) = some r := by rw [if_neg (show ¬ (false = true) by decide)] at H; exact H
          clear H
          have H := H1
          clear H1
          replace H := Option.bind_eq_some_iff.mp H
          obtain ⟨⟨t221, t222⟩, A1030, H⟩ := H
          replace H : (if t201 = true then (if t215 = true then (if t216 = 0 then (if t222 = true then (some (t221.toList == a2.toList)) else (some false)) else (some false)) else (some false)) else (some false)) = some r := H
          have A103 := Aside0.mk A1030
          clear A1030
          by_cases c104 : t201 = true
          · subst c104
            have H1 : (if t215 = true then (if t216 = 0 then (if t222 = true then (some (t221.toList == a2.toList)) else (some false)) else (some false)) else (some false)) = some r := by rw [if_pos rfl] at H; exact H
            clear H
            have H := H1
            clear H1
            by_cases c105 : t215 = true
            · subst c105
              have H1 : (if t216 = 0 then (if t222 = true then (some (t221.toList == a2.toList)) else (some false)) else (some false)) = some r := by rw [if_pos rfl] at H; exact H
              clear H
              have H := H1
              clear H1
              by_cases c106 : t216 = 0
              · rw [if_pos c106] at H
                have c106b0 : (t216 == 0) = true := beq_iff_eq.mpr c106
                have c106b1 : (t216 != 0) = false := bne_eq_false_iff_eq.mpr c106
                clear c106
                by_cases c107 : t222 = true
                · subst c107
                  have H1 : (some (t221.toList == a2.toList)) = some r := by rw [if_pos rfl] at H; exact H
                  clear H
                  have H := H1
                  clear H1
                  obtain rfl := Option.some.inj H
                  have hnb108 := NB209_208.out
                  have hnc108 := NB208_209.out
                  have hnb109 := NB209_210.out
                  have hnc109 := NB210_209.out
                  have hcz110_0 : wc.cell? ⟨gb209, 0, none⟩ = some (.string a1) := (blk_cell BK209.out 0).trans rfl
                  have hcz110_1 : wc.cell? ⟨gb209, 1, none⟩ = some (.int .i64 0) := (blk_cell BK209.out 1).trans rfl
                  have hcz110_2 : wc.cell? ⟨gb209, 2, none⟩ = some (.bool false) := (blk_cell BK209.out 2).trans rfl
                  have hfz110_0 := blk_frozen BK209.out 0
                  have hfz110_1 := blk_frozen BK209.out 1
                  have hfz110_2 := blk_frozen BK209.out 2
                  have hnb111 := NB210_208.out
                  have hnc111 := NB208_210.out
                  have hcz112_0 : wc.cell? ⟨gb210, 0, none⟩ = some (.int .i64 1) := (blk_cell BK210.out 0).trans rfl
                  have hcz112_1 : wc.cell? ⟨gb210, 1, none⟩ = some (.string a2) := (blk_cell BK210.out 1).trans rfl
                  have hcz112_2 : wc.cell? ⟨gb210, 2, none⟩ = some (.slice none 0 0) := (blk_cell BK210.out 2).trans rfl
                  have hcz112_3 : wc.cell? ⟨gb210, 3, none⟩ = some (.slice none 0 0) := (blk_cell BK210.out 3).trans rfl
                  have hfz112_0 := blk_frozen BK210.out 0
                  have hfz112_1 := blk_frozen BK210.out 1
                  have hfz112_2 := blk_frozen BK210.out 2
                  have hfz112_3 := blk_frozen BK210.out 3
                  go_wp2_with (first | ((with_reducible refine gate_callee (f := 10) rfl ?_); refine goesL_ (some 54) rfl rfl Try.func10 (by kernel_rfl) rfl #[.int .u8 a0, .agg #[.string a1, .int .i64 0, .bool false], .agg #[.int .i64 1, .string a2, .slice none 0 0, .slice none 0 0]] rfl (by (try simp only [List.map_toArray, List.map_cons, List.map_nil]); first | done | rfl | (simp only [List.length_drop, List.length_take]; rfl)) ?_; (refine (piece_One.calls a0 a1 0 false 1 a2 _ _ ([] : List ByteArray) _ _ ([] : List (S69)) t214 true t216 _ ?side1 ?side2 ?side3 ?side4 A65.out).mono ?_); (case side1 => exact Kd.C_nil _ _); (case side2 => exact Nat.le_refl _); (case side3 => exact Kd.C_nil _ _); (case side4 => exact Nat.le_refl _); rintro e w113 ⟨rfl, hb⟩; refine ⟨_, rfl, ?_⟩; have n0_ := Aside0.mk (blk_below (g := gb208) (o := .cells #[.string t202, .string t203, .bool false, .string t205, .bool t206] 43 (0, 0)) (by (with_reducible repeat (first | refine blk_drewN ?_ _ | refine blk_drew ?_ | refine blk_alloc ?_ _)); exact BK208.out) hb); have n1_ := Aside0.mk (blk_below (g := gb209) (o := .cells #[.string a1, .int .i64 0, .bool false] 23 (0, 0)) (by (with_reducible repeat (first | refine blk_drewN ?_ _ | refine blk_drew ?_ | refine blk_alloc ?_ _)); exact BK209.out) hb); have n2_ := Aside0.mk (blk_below (g := gb210) (o := .cells #[.int .i64 1, .string a2, .slice none 0 0, .slice none 0 0] 27 (0, 0)) (by (with_reducible repeat (first | refine blk_drewN ?_ _ | refine blk_drew ?_ | refine blk_alloc ?_ _)); exact BK210.out) hb); have n3_ := Aside0.mk (below_step (by repeat (first | (with_reducible first | exact HB.out | apply below_alloc | apply pw_below_drewN | apply below_drew1 | refine below_set ?_ GE208.out | refine below_set ?_ GE209.out | refine below_set ?_ GE210.out) | exact HB.out)) hb); clear BK208; clear BK209; clear BK210; clear HB; have BK208 := n0_; have BK209 := n1_; have BK210 := n2_; have HB := n3_; clear n0_ n1_ n2_ n3_; (try clear hb); (try clear hb2); (try clear hk); (try clear hi); have hcz114_0 : w113.cell? ⟨gb208, 0, none⟩ = some (.string t202) := (blk_cell BK208.out 0).trans rfl; have hcz114_1 : w113.cell? ⟨gb208, 1, none⟩ = some (.string t203) := (blk_cell BK208.out 1).trans rfl; have hcz114_2 : w113.cell? ⟨gb208, 2, none⟩ = some (.bool false) := (blk_cell BK208.out 2).trans rfl; have hcz114_3 : w113.cell? ⟨gb208, 3, none⟩ = some (.string t205) := (blk_cell BK208.out 3).trans rfl; have hcz114_4 : w113.cell? ⟨gb208, 4, none⟩ = some (.bool t206) := (blk_cell BK208.out 4).trans rfl; have hfz114_0 := blk_frozen BK208.out 0; have hfz114_1 := blk_frozen BK208.out 1; have hfz114_2 := blk_frozen BK208.out 2; have hfz114_3 := blk_frozen BK208.out 3; have hfz114_4 := blk_frozen BK208.out 4) | ((with_reducible refine gate_callee (f := 19) rfl ?_); refine goesL_ (some 83) rfl rfl Try.func19 (by kernel_rfl) rfl #[.string t214] rfl (by (try simp only [List.map_toArray, List.map_cons, List.map_nil]); first | done | rfl | (simp only [List.length_drop, List.length_take]; rfl)) ?_; (with_reducible refine (pct_Decode.calls t214 t221 true _ A103.out).mono ?_); rintro e w115 ⟨rfl, hb⟩; refine ⟨_, rfl, ?_⟩; have n0_ := Aside0.mk (blk_below (g := gb208) (o := .cells #[.string t202, .string t203, .bool false, .string t205, .bool t206] 43 (0, 0)) (by (with_reducible repeat (first | refine blk_drewN ?_ _ | refine blk_drew ?_ | refine blk_alloc ?_ _)); exact BK208.out) hb); have n1_ := Aside0.mk (blk_below (g := gb209) (o := .cells #[.string a1, .int .i64 0, .bool false] 23 (0, 0)) (by (with_reducible repeat (first | refine blk_drewN ?_ _ | refine blk_drew ?_ | refine blk_alloc ?_ _)); exact BK209.out) hb); have n2_ := Aside0.mk (blk_below (g := gb210) (o := .cells #[.int .i64 1, .string a2, .slice none 0 0, .slice none 0 0] 27 (0, 0)) (by (with_reducible repeat (first | refine blk_drewN ?_ _ | refine blk_drew ?_ | refine blk_alloc ?_ _)); exact BK210.out) hb); have n3_ := Aside0.mk (below_step (by repeat (first | (with_reducible first | exact HB.out | apply below_alloc | apply pw_below_drewN | apply below_drew1 | refine below_set ?_ GE208.out | refine below_set ?_ GE209.out | refine below_set ?_ GE210.out) | exact HB.out)) hb); clear BK208; clear BK209; clear BK210; clear HB; have BK208 := n0_; have BK209 := n1_; have BK210 := n2_; have HB := n3_; clear n0_ n1_ n2_ n3_; (try clear hb); (try clear hb2); (try clear hk); (try clear hi)))
                  go_ret
                  exact ⟨by first | rfl | (simp [errW_none, errW_some] <;> rfl) | (simp [*, errW_none, errW_some] <;> rfl), by repeat (first | (with_reducible first | exact HB.out | apply below_alloc | apply pw_below_drewN | apply below_drew1 | refine below_set ?_ GE208.out | refine below_set ?_ GE209.out | refine below_set ?_ GE210.out) | exact HB.out)⟩
                · replace c107 := Bool.eq_false_iff.mpr c107
                  subst c107
                  have H1 : (some false) = some r := by rw [if_neg (show ¬ (false = true) by decide)] at H; exact H
                  clear H
                  have H := H1
                  clear H1
                  obtain rfl := Option.some.inj H
                  have hnb116 := NB209_208.out
                  have hnc116 := NB208_209.out
                  have hnb117 := NB209_210.out
                  have hnc117 := NB210_209.out
                  have hcz118_0 : wc.cell? ⟨gb209, 0, none⟩ = some (.string a1) := (blk_cell BK209.out 0).trans rfl
                  have hcz118_1 : wc.cell? ⟨gb209, 1, none⟩ = some (.int .i64 0) := (blk_cell BK209.out 1).trans rfl
                  have hcz118_2 : wc.cell? ⟨gb209, 2, none⟩ = some (.bool false) := (blk_cell BK209.out 2).trans rfl
                  have hfz118_0 := blk_frozen BK209.out 0
                  have hfz118_1 := blk_frozen BK209.out 1
                  have hfz118_2 := blk_frozen BK209.out 2
                  have hnb119 := NB210_208.out
                  have hnc119 := NB208_210.out
                  have hcz120_0 : wc.cell? ⟨gb210, 0, none⟩ = some (.int .i64 1) := (blk_cell BK210.out 0).trans rfl
                  have hcz120_1 : wc.cell? ⟨gb210, 1, none⟩ = some (.string a2) := (blk_cell BK210.out 1).trans rfl
                  have hcz120_2 : wc.cell? ⟨gb210, 2, none⟩ = some (.slice none 0 0) := (blk_cell BK210.out 2).trans rfl
                  have hcz120_3 : wc.cell? ⟨gb210, 3, none⟩ = some (.slice none 0 0) := (blk_cell BK210.out 3).trans rfl
                  have hfz120_0 := blk_frozen BK210.out 0
                  have hfz120_1 := blk_frozen BK210.out 1
                  have hfz120_2 := blk_frozen BK210.out 2
                  have hfz120_3 := blk_frozen BK210.out 3
                  go_wp2_with (first | ((with_reducible refine gate_callee (f := 10) rfl ?_); refine goesL_ (some 54) rfl rfl Try.func10 (by kernel_rfl) rfl #[.int .u8 a0, .agg #[.string a1, .int .i64 0, .bool false], .agg #[.int .i64 1, .string a2, .slice none 0 0, .slice none 0 0]] rfl (by (try simp only [List.map_toArray, List.map_cons, List.map_nil]); first | done | rfl | (simp only [List.length_drop, List.length_take]; rfl)) ?_; (refine (piece_One.calls a0 a1 0 false 1 a2 _ _ ([] : List ByteArray) _ _ ([] : List (S69)) t214 true t216 _ ?side1 ?side2 ?side3 ?side4 A65.out).mono ?_); (case side1 => exact Kd.C_nil _ _); (case side2 => exact Nat.le_refl _); (case side3 => exact Kd.C_nil _ _); (case side4 => exact Nat.le_refl _); rintro e w121 ⟨rfl, hb⟩; refine ⟨_, rfl, ?_⟩; have n0_ := Aside0.mk (blk_below (g := gb208) (o := .cells #[.string t202, .string t203, .bool false, .string t205, .bool t206] 43 (0, 0)) (by (with_reducible repeat (first | refine blk_drewN ?_ _ | refine blk_drew ?_ | refine blk_alloc ?_ _)); exact BK208.out) hb); have n1_ := Aside0.mk (blk_below (g := gb209) (o := .cells #[.string a1, .int .i64 0, .bool false] 23 (0, 0)) (by (with_reducible repeat (first | refine blk_drewN ?_ _ | refine blk_drew ?_ | refine blk_alloc ?_ _)); exact BK209.out) hb); have n2_ := Aside0.mk (blk_below (g := gb210) (o := .cells #[.int .i64 1, .string a2, .slice none 0 0, .slice none 0 0] 27 (0, 0)) (by (with_reducible repeat (first | refine blk_drewN ?_ _ | refine blk_drew ?_ | refine blk_alloc ?_ _)); exact BK210.out) hb); have n3_ := Aside0.mk (below_step (by repeat (first | (with_reducible first | exact HB.out | apply below_alloc | apply pw_below_drewN | apply below_drew1 | refine below_set ?_ GE208.out | refine below_set ?_ GE209.out | refine below_set ?_ GE210.out) | exact HB.out)) hb); clear BK208; clear BK209; clear BK210; clear HB; have BK208 := n0_; have BK209 := n1_; have BK210 := n2_; have HB := n3_; clear n0_ n1_ n2_ n3_; (try clear hb); (try clear hb2); (try clear hk); (try clear hi); have hcz122_0 : w121.cell? ⟨gb208, 0, none⟩ = some (.string t202) := (blk_cell BK208.out 0).trans rfl; have hcz122_1 : w121.cell? ⟨gb208, 1, none⟩ = some (.string t203) := (blk_cell BK208.out 1).trans rfl; have hcz122_2 : w121.cell? ⟨gb208, 2, none⟩ = some (.bool false) := (blk_cell BK208.out 2).trans rfl; have hcz122_3 : w121.cell? ⟨gb208, 3, none⟩ = some (.string t205) := (blk_cell BK208.out 3).trans rfl; have hcz122_4 : w121.cell? ⟨gb208, 4, none⟩ = some (.bool t206) := (blk_cell BK208.out 4).trans rfl; have hfz122_0 := blk_frozen BK208.out 0; have hfz122_1 := blk_frozen BK208.out 1; have hfz122_2 := blk_frozen BK208.out 2; have hfz122_3 := blk_frozen BK208.out 3; have hfz122_4 := blk_frozen BK208.out 4) | ((with_reducible refine gate_callee (f := 19) rfl ?_); refine goesL_ (some 83) rfl rfl Try.func19 (by kernel_rfl) rfl #[.string t214] rfl (by (try simp only [List.map_toArray, List.map_cons, List.map_nil]); first | done | rfl | (simp only [List.length_drop, List.length_take]; rfl)) ?_; (with_reducible refine (pct_Decode.calls t214 t221 false _ A103.out).mono ?_); rintro e w123 ⟨rfl, hb⟩; refine ⟨_, rfl, ?_⟩; have n0_ := Aside0.mk (blk_below (g := gb208) (o := .cells #[.string t202, .string t203, .bool false, .string t205, .bool t206] 43 (0, 0)) (by (with_reducible repeat (first | refine blk_drewN ?_ _ | refine blk_drew ?_ | refine blk_alloc ?_ _)); exact BK208.out) hb); have n1_ := Aside0.mk (blk_below (g := gb209) (o := .cells #[.string a1, .int .i64 0, .bool false] 23 (0, 0)) (by (with_reducible repeat (first | refine blk_drewN ?_ _ | refine blk_drew ?_ | refine blk_alloc ?_ _)); exact BK209.out) hb); have n2_ := Aside0.mk (blk_below (g := gb210) (o := .cells #[.int .i64 1, .string a2, .slice none 0 0, .slice none 0 0] 27 (0, 0)) (by (with_reducible repeat (first | refine blk_drewN ?_ _ | refine blk_drew ?_ | refine blk_alloc ?_ _)); exact BK210.out) hb); have n3_ := Aside0.mk (below_step (by repeat (first | (with_reducible first | exact HB.out | apply below_alloc | apply pw_below_drewN | apply below_drew1 | refine below_set ?_ GE208.out | refine below_set ?_ GE209.out | refine below_set ?_ GE210.out) | exact HB.out)) hb); clear BK208; clear BK209; clear BK210; clear HB; have BK208 := n0_; have BK209 := n1_; have BK210 := n2_; have HB := n3_; clear n0_ n1_ n2_ n3_; (try clear hb); (try clear hb2); (try clear hk); (try clear hi)))
                  go_ret
                  exact ⟨by first | rfl | (simp [errW_none, errW_some] <;> rfl) | (simp [*, errW_none, errW_some] <;> rfl), by repeat (first | (with_reducible first | exact HB.out | apply below_alloc | apply pw_below_drewN | apply below_drew1 | refine below_set ?_ GE208.out | refine below_set ?_ GE209.out | refine below_set ?_ GE210.out) | exact HB.out)⟩
              · rw [if_neg c106] at H
                have c106b0 : (t216 == 0) = false := beq_eq_false_iff_ne.mpr c106
                have c106b1 : (t216 != 0) = true := bne_iff_ne.mpr c106
                obtain rfl := Option.some.inj H
                have hnb124 := NB209_208.out
                have hnc124 := NB208_209.out
                have hnb125 := NB209_210.out
                have hnc125 := NB210_209.out
                have hcz126_0 : wc.cell? ⟨gb209, 0, none⟩ = some (.string a1) := (blk_cell BK209.out 0).trans rfl
                have hcz126_1 : wc.cell? ⟨gb209, 1, none⟩ = some (.int .i64 0) := (blk_cell BK209.out 1).trans rfl
                have hcz126_2 : wc.cell? ⟨gb209, 2, none⟩ = some (.bool false) := (blk_cell BK209.out 2).trans rfl
                have hfz126_0 := blk_frozen BK209.out 0
                have hfz126_1 := blk_frozen BK209.out 1
                have hfz126_2 := blk_frozen BK209.out 2
                have hnb127 := NB210_208.out
                have hnc127 := NB208_210.out
                have hcz128_0 : wc.cell? ⟨gb210, 0, none⟩ = some (.int .i64 1) := (blk_cell BK210.out 0).trans rfl
                have hcz128_1 : wc.cell? ⟨gb210, 1, none⟩ = some (.string a2) := (blk_cell BK210.out 1).trans rfl
                have hcz128_2 : wc.cell? ⟨gb210, 2, none⟩ = some (.slice none 0 0) := (blk_cell BK210.out 2).trans rfl
                have hcz128_3 : wc.cell? ⟨gb210, 3, none⟩ = some (.slice none 0 0) := (blk_cell BK210.out 3).trans rfl
                have hfz128_0 := blk_frozen BK210.out 0
                have hfz128_1 := blk_frozen BK210.out 1
                have hfz128_2 := blk_frozen BK210.out 2
                have hfz128_3 := blk_frozen BK210.out 3
                go_wp2_with (first | ((with_reducible refine gate_callee (f := 10) rfl ?_); refine goesL_ (some 54) rfl rfl Try.func10 (by kernel_rfl) rfl #[.int .u8 a0, .agg #[.string a1, .int .i64 0, .bool false], .agg #[.int .i64 1, .string a2, .slice none 0 0, .slice none 0 0]] rfl (by (try simp only [List.map_toArray, List.map_cons, List.map_nil]); first | done | rfl | (simp only [List.length_drop, List.length_take]; rfl)) ?_; (refine (piece_One.calls a0 a1 0 false 1 a2 _ _ ([] : List ByteArray) _ _ ([] : List (S69)) t214 true t216 _ ?side1 ?side2 ?side3 ?side4 A65.out).mono ?_); (case side1 => exact Kd.C_nil _ _); (case side2 => exact Nat.le_refl _); (case side3 => exact Kd.C_nil _ _); (case side4 => exact Nat.le_refl _); rintro e w129 ⟨rfl, hb⟩; refine ⟨_, rfl, ?_⟩; have n0_ := Aside0.mk (blk_below (g := gb208) (o := .cells #[.string t202, .string t203, .bool false, .string t205, .bool t206] 43 (0, 0)) (by (with_reducible repeat (first | refine blk_drewN ?_ _ | refine blk_drew ?_ | refine blk_alloc ?_ _)); exact BK208.out) hb); have n1_ := Aside0.mk (blk_below (g := gb209) (o := .cells #[.string a1, .int .i64 0, .bool false] 23 (0, 0)) (by (with_reducible repeat (first | refine blk_drewN ?_ _ | refine blk_drew ?_ | refine blk_alloc ?_ _)); exact BK209.out) hb); have n2_ := Aside0.mk (blk_below (g := gb210) (o := .cells #[.int .i64 1, .string a2, .slice none 0 0, .slice none 0 0] 27 (0, 0)) (by (with_reducible repeat (first | refine blk_drewN ?_ _ | refine blk_drew ?_ | refine blk_alloc ?_ _)); exact BK210.out) hb); have n3_ := Aside0.mk (below_step (by repeat (first | (with_reducible first | exact HB.out | apply below_alloc | apply pw_below_drewN | apply below_drew1 | refine below_set ?_ GE208.out | refine below_set ?_ GE209.out | refine below_set ?_ GE210.out) | exact HB.out)) hb); clear BK208; clear BK209; clear BK210; clear HB; have BK208 := n0_; have BK209 := n1_; have BK210 := n2_; have HB := n3_; clear n0_ n1_ n2_ n3_; (try clear hb); (try clear hb2); (try clear hk); (try clear hi); have hcz130_0 : w129.cell? ⟨gb208, 0, none⟩ = some (.string t202) := (blk_cell BK208.out 0).trans rfl; have hcz130_1 : w129.cell? ⟨gb208, 1, none⟩ = some (.string t203) := (blk_cell BK208.out 1).trans rfl; have hcz130_2 : w129.cell? ⟨gb208, 2, none⟩ = some (.bool false) := (blk_cell BK208.out 2).trans rfl; have hcz130_3 : w129.cell? ⟨gb208, 3, none⟩ = some (.string t205) := (blk_cell BK208.out 3).trans rfl; have hcz130_4 : w129.cell? ⟨gb208, 4, none⟩ = some (.bool t206) := (blk_cell BK208.out 4).trans rfl; have hfz130_0 := blk_frozen BK208.out 0; have hfz130_1 := blk_frozen BK208.out 1; have hfz130_2 := blk_frozen BK208.out 2; have hfz130_3 := blk_frozen BK208.out 3; have hfz130_4 := blk_frozen BK208.out 4) | ((with_reducible refine gate_callee (f := 19) rfl ?_); refine goesL_ (some 83) rfl rfl Try.func19 (by kernel_rfl) rfl #[.string t214] rfl (by (try simp only [List.map_toArray, List.map_cons, List.map_nil]); first | done | rfl | (simp only [List.length_drop, List.length_take]; rfl)) ?_; (with_reducible refine (pct_Decode.calls t214 t221 t222 _ A103.out).mono ?_); rintro e w131 ⟨rfl, hb⟩; refine ⟨_, rfl, ?_⟩; have n0_ := Aside0.mk (blk_below (g := gb208) (o := .cells #[.string t202, .string t203, .bool false, .string t205, .bool t206] 43 (0, 0)) (by (with_reducible repeat (first | refine blk_drewN ?_ _ | refine blk_drew ?_ | refine blk_alloc ?_ _)); exact BK208.out) hb); have n1_ := Aside0.mk (blk_below (g := gb209) (o := .cells #[.string a1, .int .i64 0, .bool false] 23 (0, 0)) (by (with_reducible repeat (first | refine blk_drewN ?_ _ | refine blk_drew ?_ | refine blk_alloc ?_ _)); exact BK209.out) hb); have n2_ := Aside0.mk (blk_below (g := gb210) (o := .cells #[.int .i64 1, .string a2, .slice none 0 0, .slice none 0 0] 27 (0, 0)) (by (with_reducible repeat (first | refine blk_drewN ?_ _ | refine blk_drew ?_ | refine blk_alloc ?_ _)); exact BK210.out) hb); have n3_ := Aside0.mk (below_step (by repeat (first | (with_reducible first | exact HB.out | apply below_alloc | apply pw_below_drewN | apply below_drew1 | refine below_set ?_ GE208.out | refine below_set ?_ GE209.out | refine below_set ?_ GE210.out) | exact HB.out)) hb); clear BK208; clear BK209; clear BK210; clear HB; have BK208 := n0_; have BK209 := n1_; have BK210 := n2_; have HB := n3_; clear n0_ n1_ n2_ n3_; (try clear hb); (try clear hb2); (try clear hk); (try clear hi)))
                go_ret
                exact ⟨by first | rfl | (simp [errW_none, errW_some] <;> rfl) | (simp [*, errW_none, errW_some] <;> rfl), by repeat (first | (with_reducible first | exact HB.out | apply below_alloc | apply pw_below_drewN | apply below_drew1 | refine below_set ?_ GE208.out | refine below_set ?_ GE209.out | refine below_set ?_ GE210.out) | exact HB.out)⟩
            · replace c105 := Bool.eq_false_iff.mpr c105
              subst c105
              have H1 : (some false) = some r := by rw [if_neg (show ¬ (false = true) by decide)] at H; exact H
              clear H
              have H := H1
              clear H1
              obtain rfl := Option.some.inj H
              have hnb132 := NB209_208.out
              have hnc132 := NB208_209.out
              have hnb133 := NB209_210.out
              have hnc133 := NB210_209.out
              have hcz134_0 : wc.cell? ⟨gb209, 0, none⟩ = some (.string a1) := (blk_cell BK209.out 0).trans rfl
              have hcz134_1 : wc.cell? ⟨gb209, 1, none⟩ = some (.int .i64 0) := (blk_cell BK209.out 1).trans rfl
              have hcz134_2 : wc.cell? ⟨gb209, 2, none⟩ = some (.bool false) := (blk_cell BK209.out 2).trans rfl
              have hfz134_0 := blk_frozen BK209.out 0
              have hfz134_1 := blk_frozen BK209.out 1
              have hfz134_2 := blk_frozen BK209.out 2
              have hnb135 := NB210_208.out
              have hnc135 := NB208_210.out
              have hcz136_0 : wc.cell? ⟨gb210, 0, none⟩ = some (.int .i64 1) := (blk_cell BK210.out 0).trans rfl
              have hcz136_1 : wc.cell? ⟨gb210, 1, none⟩ = some (.string a2) := (blk_cell BK210.out 1).trans rfl
              have hcz136_2 : wc.cell? ⟨gb210, 2, none⟩ = some (.slice none 0 0) := (blk_cell BK210.out 2).trans rfl
              have hcz136_3 : wc.cell? ⟨gb210, 3, none⟩ = some (.slice none 0 0) := (blk_cell BK210.out 3).trans rfl
              have hfz136_0 := blk_frozen BK210.out 0
              have hfz136_1 := blk_frozen BK210.out 1
              have hfz136_2 := blk_frozen BK210.out 2
              have hfz136_3 := blk_frozen BK210.out 3
              go_wp2_with (first | ((with_reducible refine gate_callee (f := 10) rfl ?_); refine goesL_ (some 54) rfl rfl Try.func10 (by kernel_rfl) rfl #[.int .u8 a0, .agg #[.string a1, .int .i64 0, .bool false], .agg #[.int .i64 1, .string a2, .slice none 0 0, .slice none 0 0]] rfl (by (try simp only [List.map_toArray, List.map_cons, List.map_nil]); first | done | rfl | (simp only [List.length_drop, List.length_take]; rfl)) ?_; (refine (piece_One.calls a0 a1 0 false 1 a2 _ _ ([] : List ByteArray) _ _ ([] : List (S69)) t214 false t216 _ ?side1 ?side2 ?side3 ?side4 A65.out).mono ?_); (case side1 => exact Kd.C_nil _ _); (case side2 => exact Nat.le_refl _); (case side3 => exact Kd.C_nil _ _); (case side4 => exact Nat.le_refl _); rintro e w137 ⟨rfl, hb⟩; refine ⟨_, rfl, ?_⟩; have n0_ := Aside0.mk (blk_below (g := gb208) (o := .cells #[.string t202, .string t203, .bool false, .string t205, .bool t206] 43 (0, 0)) (by (with_reducible repeat (first | refine blk_drewN ?_ _ | refine blk_drew ?_ | refine blk_alloc ?_ _)); exact BK208.out) hb); have n1_ := Aside0.mk (blk_below (g := gb209) (o := .cells #[.string a1, .int .i64 0, .bool false] 23 (0, 0)) (by (with_reducible repeat (first | refine blk_drewN ?_ _ | refine blk_drew ?_ | refine blk_alloc ?_ _)); exact BK209.out) hb); have n2_ := Aside0.mk (blk_below (g := gb210) (o := .cells #[.int .i64 1, .string a2, .slice none 0 0, .slice none 0 0] 27 (0, 0)) (by (with_reducible repeat (first | refine blk_drewN ?_ _ | refine blk_drew ?_ | refine blk_alloc ?_ _)); exact BK210.out) hb); have n3_ := Aside0.mk (below_step (by repeat (first | (with_reducible first | exact HB.out | apply below_alloc | apply pw_below_drewN | apply below_drew1 | refine below_set ?_ GE208.out | refine below_set ?_ GE209.out | refine below_set ?_ GE210.out) | exact HB.out)) hb); clear BK208; clear BK209; clear BK210; clear HB; have BK208 := n0_; have BK209 := n1_; have BK210 := n2_; have HB := n3_; clear n0_ n1_ n2_ n3_; (try clear hb); (try clear hb2); (try clear hk); (try clear hi); have hcz138_0 : w137.cell? ⟨gb208, 0, none⟩ = some (.string t202) := (blk_cell BK208.out 0).trans rfl; have hcz138_1 : w137.cell? ⟨gb208, 1, none⟩ = some (.string t203) := (blk_cell BK208.out 1).trans rfl; have hcz138_2 : w137.cell? ⟨gb208, 2, none⟩ = some (.bool false) := (blk_cell BK208.out 2).trans rfl; have hcz138_3 : w137.cell? ⟨gb208, 3, none⟩ = some (.string t205) := (blk_cell BK208.out 3).trans rfl; have hcz138_4 : w137.cell? ⟨gb208, 4, none⟩ = some (.bool t206) := (blk_cell BK208.out 4).trans rfl; have hfz138_0 := blk_frozen BK208.out 0; have hfz138_1 := blk_frozen BK208.out 1; have hfz138_2 := blk_frozen BK208.out 2; have hfz138_3 := blk_frozen BK208.out 3; have hfz138_4 := blk_frozen BK208.out 4) | ((with_reducible refine gate_callee (f := 19) rfl ?_); refine goesL_ (some 83) rfl rfl Try.func19 (by kernel_rfl) rfl #[.string t214] rfl (by (try simp only [List.map_toArray, List.map_cons, List.map_nil]); first | done | rfl | (simp only [List.length_drop, List.length_take]; rfl)) ?_; (with_reducible refine (pct_Decode.calls t214 t221 t222 _ A103.out).mono ?_); rintro e w139 ⟨rfl, hb⟩; refine ⟨_, rfl, ?_⟩; have n0_ := Aside0.mk (blk_below (g := gb208) (o := .cells #[.string t202, .string t203, .bool false, .string t205, .bool t206] 43 (0, 0)) (by (with_reducible repeat (first | refine blk_drewN ?_ _ | refine blk_drew ?_ | refine blk_alloc ?_ _)); exact BK208.out) hb); have n1_ := Aside0.mk (blk_below (g := gb209) (o := .cells #[.string a1, .int .i64 0, .bool false] 23 (0, 0)) (by (with_reducible repeat (first | refine blk_drewN ?_ _ | refine blk_drew ?_ | refine blk_alloc ?_ _)); exact BK209.out) hb); have n2_ := Aside0.mk (blk_below (g := gb210) (o := .cells #[.int .i64 1, .string a2, .slice none 0 0, .slice none 0 0] 27 (0, 0)) (by (with_reducible repeat (first | refine blk_drewN ?_ _ | refine blk_drew ?_ | refine blk_alloc ?_ _)); exact BK210.out) hb); have n3_ := Aside0.mk (below_step (by repeat (first | (with_reducible first | exact HB.out | apply below_alloc | apply pw_below_drewN | apply below_drew1 | refine below_set ?_ GE208.out | refine below_set ?_ GE209.out | refine below_set ?_ GE210.out) | exact HB.out)) hb); clear BK208; clear BK209; clear BK210; clear HB; have BK208 := n0_; have BK209 := n1_; have BK210 := n2_; have HB := n3_; clear n0_ n1_ n2_ n3_; (try clear hb); (try clear hb2); (try clear hk); (try clear hi)))
              go_ret
              exact ⟨by first | rfl | (simp [errW_none, errW_some] <;> rfl) | (simp [*, errW_none, errW_some] <;> rfl), by repeat (first | (with_reducible first | exact HB.out | apply below_alloc | apply pw_below_drewN | apply below_drew1 | refine below_set ?_ GE208.out | refine below_set ?_ GE209.out | refine below_set ?_ GE210.out) | exact HB.out)⟩
          · replace c104 := Bool.eq_false_iff.mpr c104
            subst c104
            have H1 : (some false) = some r := by rw [if_neg (show ¬ (false = true) by decide)] at H; exact H
            clear H
            have H := H1
            clear H1
            obtain rfl := Option.some.inj H
            have hnb140 := NB209_208.out
            have hnc140 := NB208_209.out
            have hnb141 := NB209_210.out
            have hnc141 := NB210_209.out
            have hcz142_0 : wc.cell? ⟨gb209, 0, none⟩ = some (.string a1) := (blk_cell BK209.out 0).trans rfl
            have hcz142_1 : wc.cell? ⟨gb209, 1, none⟩ = some (.int .i64 0) := (blk_cell BK209.out 1).trans rfl
            have hcz142_2 : wc.cell? ⟨gb209, 2, none⟩ = some (.bool false) := (blk_cell BK209.out 2).trans rfl
            have hfz142_0 := blk_frozen BK209.out 0
            have hfz142_1 := blk_frozen BK209.out 1
            have hfz142_2 := blk_frozen BK209.out 2
            have hnb143 := NB210_208.out
            have hnc143 := NB208_210.out
            have hcz144_0 : wc.cell? ⟨gb210, 0, none⟩ = some (.int .i64 1) := (blk_cell BK210.out 0).trans rfl
            have hcz144_1 : wc.cell? ⟨gb210, 1, none⟩ = some (.string a2) := (blk_cell BK210.out 1).trans rfl
            have hcz144_2 : wc.cell? ⟨gb210, 2, none⟩ = some (.slice none 0 0) := (blk_cell BK210.out 2).trans rfl
            have hcz144_3 : wc.cell? ⟨gb210, 3, none⟩ = some (.slice none 0 0) := (blk_cell BK210.out 3).trans rfl
            have hfz144_0 := blk_frozen BK210.out 0
            have hfz144_1 := blk_frozen BK210.out 1
            have hfz144_2 := blk_frozen BK210.out 2
            have hfz144_3 := blk_frozen BK210.out 3
            go_wp2_with (first | ((with_reducible refine gate_callee (f := 10) rfl ?_); refine goesL_ (some 54) rfl rfl Try.func10 (by kernel_rfl) rfl #[.int .u8 a0, .agg #[.string a1, .int .i64 0, .bool false], .agg #[.int .i64 1, .string a2, .slice none 0 0, .slice none 0 0]] rfl (by (try simp only [List.map_toArray, List.map_cons, List.map_nil]); first | done | rfl | (simp only [List.length_drop, List.length_take]; rfl)) ?_; (refine (piece_One.calls a0 a1 0 false 1 a2 _ _ ([] : List ByteArray) _ _ ([] : List (S69)) t214 t215 t216 _ ?side1 ?side2 ?side3 ?side4 A65.out).mono ?_); (case side1 => exact Kd.C_nil _ _); (case side2 => exact Nat.le_refl _); (case side3 => exact Kd.C_nil _ _); (case side4 => exact Nat.le_refl _); rintro e w145 ⟨rfl, hb⟩; refine ⟨_, rfl, ?_⟩; have n0_ := Aside0.mk (blk_below (g := gb208) (o := .cells #[.string t202, .string t203, .bool false, .string t205, .bool t206] 43 (0, 0)) (by (with_reducible repeat (first | refine blk_drewN ?_ _ | refine blk_drew ?_ | refine blk_alloc ?_ _)); exact BK208.out) hb); have n1_ := Aside0.mk (blk_below (g := gb209) (o := .cells #[.string a1, .int .i64 0, .bool false] 23 (0, 0)) (by (with_reducible repeat (first | refine blk_drewN ?_ _ | refine blk_drew ?_ | refine blk_alloc ?_ _)); exact BK209.out) hb); have n2_ := Aside0.mk (blk_below (g := gb210) (o := .cells #[.int .i64 1, .string a2, .slice none 0 0, .slice none 0 0] 27 (0, 0)) (by (with_reducible repeat (first | refine blk_drewN ?_ _ | refine blk_drew ?_ | refine blk_alloc ?_ _)); exact BK210.out) hb); have n3_ := Aside0.mk (below_step (by repeat (first | (with_reducible first | exact HB.out | apply below_alloc | apply pw_below_drewN | apply below_drew1 | refine below_set ?_ GE208.out | refine below_set ?_ GE209.out | refine below_set ?_ GE210.out) | exact HB.out)) hb); clear BK208; clear BK209; clear BK210; clear HB; have BK208 := n0_; have BK209 := n1_; have BK210 := n2_; have HB := n3_; clear n0_ n1_ n2_ n3_; (try clear hb); (try clear hb2); (try clear hk); (try clear hi); have hcz146_0 : w145.cell? ⟨gb208, 0, none⟩ = some (.string t202) := (blk_cell BK208.out 0).trans rfl; have hcz146_1 : w145.cell? ⟨gb208, 1, none⟩ = some (.string t203) := (blk_cell BK208.out 1).trans rfl; have hcz146_2 : w145.cell? ⟨gb208, 2, none⟩ = some (.bool false) := (blk_cell BK208.out 2).trans rfl; have hcz146_3 : w145.cell? ⟨gb208, 3, none⟩ = some (.string t205) := (blk_cell BK208.out 3).trans rfl; have hcz146_4 : w145.cell? ⟨gb208, 4, none⟩ = some (.bool t206) := (blk_cell BK208.out 4).trans rfl; have hfz146_0 := blk_frozen BK208.out 0; have hfz146_1 := blk_frozen BK208.out 1; have hfz146_2 := blk_frozen BK208.out 2; have hfz146_3 := blk_frozen BK208.out 3; have hfz146_4 := blk_frozen BK208.out 4) | ((with_reducible refine gate_callee (f := 19) rfl ?_); refine goesL_ (some 83) rfl rfl Try.func19 (by kernel_rfl) rfl #[.string t214] rfl (by (try simp only [List.map_toArray, List.map_cons, List.map_nil]); first | done | rfl | (simp only [List.length_drop, List.length_take]; rfl)) ?_; (with_reducible refine (pct_Decode.calls t214 t221 t222 _ A103.out).mono ?_); rintro e w147 ⟨rfl, hb⟩; refine ⟨_, rfl, ?_⟩; have n0_ := Aside0.mk (blk_below (g := gb208) (o := .cells #[.string t202, .string t203, .bool false, .string t205, .bool t206] 43 (0, 0)) (by (with_reducible repeat (first | refine blk_drewN ?_ _ | refine blk_drew ?_ | refine blk_alloc ?_ _)); exact BK208.out) hb); have n1_ := Aside0.mk (blk_below (g := gb209) (o := .cells #[.string a1, .int .i64 0, .bool false] 23 (0, 0)) (by (with_reducible repeat (first | refine blk_drewN ?_ _ | refine blk_drew ?_ | refine blk_alloc ?_ _)); exact BK209.out) hb); have n2_ := Aside0.mk (blk_below (g := gb210) (o := .cells #[.int .i64 1, .string a2, .slice none 0 0, .slice none 0 0] 27 (0, 0)) (by (with_reducible repeat (first | refine blk_drewN ?_ _ | refine blk_drew ?_ | refine blk_alloc ?_ _)); exact BK210.out) hb); have n3_ := Aside0.mk (below_step (by repeat (first | (with_reducible first | exact HB.out | apply below_alloc | apply pw_below_drewN | apply below_drew1 | refine below_set ?_ GE208.out | refine below_set ?_ GE209.out | refine below_set ?_ GE210.out) | exact HB.out)) hb); clear BK208; clear BK209; clear BK210; clear HB; have BK208 := n0_; have BK209 := n1_; have BK210 := n2_; have HB := n3_; clear n0_ n1_ n2_ n3_; (try clear hb); (try clear hb2); (try clear hk); (try clear hi)))
            go_ret
            exact ⟨by first | rfl | (simp [errW_none, errW_some] <;> rfl) | (simp [*, errW_none, errW_some] <;> rfl), by repeat (first | (with_reducible first | exact HB.out | apply below_alloc | apply pw_below_drewN | apply below_drew1 | refine below_set ?_ GE208.out | refine below_set ?_ GE209.out | refine below_set ?_ GE210.out) | exact HB.out)⟩

/-- THE ONE PURE STATEMENT of phalaropelaw11_PieceBack: yours. -/
def phalaropelaw11_PieceBack.Pure : Prop := ∀ (a0 : Int) (a1 : ByteArray) (a2 : ByteArray), (Lit.int .u8 a0).wf = true → a1.size ≤ 140737488351232 → a2.size ≤ 140737488351232 → ∃ k, phalaropelaw11_PieceBack.f k a0 a1 a2 = some true
theorem phalaropelaw11_PieceBack.walk (P : phalaropelaw11_PieceBack.Pure) (a0 : Int) (a1 : ByteArray) (a2 : ByteArray) (w : World) (w0 : (Lit.int .u8 a0).wf = true) (w1 : a1.size ≤ 140737488351232) (w2 : a2.size ≤ 140737488351232) :
    Calls Try.prog 7 #[.int .u8 a0, .string a1, .string a2] w fun e w' => e = .returned (.bool true) ∧ Below w.heap.size w w' := by
  obtain ⟨k, h⟩ := P a0 a1 a2 w0 w1 w2
  refine (phalaropelaw11_PieceBack.calls k a0 a1 a2 true w h).mono ?_
  rintro e w' ⟨rfl, hd⟩
  exact ⟨rfl, hd⟩

end Go.Proofs.Ytbjeegkmafbejaa.PL
namespace Go.Proofs.Ytbjeegkmafbejaa.X
set_option linter.unusedSimpArgs false
set_option linter.unusedVariables false
open Go.RowKit Go.Proofs.YtbjeegkmafbejaaW.PrintWords Go.Proofs.Ytbjeegkmafbejaa.Y
theorem rest_cons {t : ByteArray} {p : Nat} {x : UInt8} {l : List UInt8} (h : t.data.toList.drop p = x :: l) : p < t.size ∧ bI t p = (x.toNat : Int) ∧ t.data.toList.drop (p + 1) = l := by
  have hs : t.data.toList.length = t.size := rfl
  have hp : p < t.data.toList.length := by
    rcases Nat.lt_or_ge p t.data.toList.length with h1 | h1
    · exact h1
    · rw [List.drop_eq_nil_of_le h1] at h; cases h
  rw [List.drop_eq_getElem_cons hp, List.cons.injEq] at h
  refine ⟨by omega, ?_, h.2⟩
  rw [bI_at t p (by omega), ← h.1]; rfl
theorem kPlain : ∀ c : Fin 256, (staySet false).has (c.val : Int) = true → ((UInt8.ofNat (c.val : Int).toNat).toNat : Int) ≠ 37 ∧ ((UInt8.ofNat (c.val : Int).toNat).toNat : Int) = (c.val : Int) := by decide +kernel
theorem kThree : ∀ c : Fin 256, ∃ a b : Fin 256, (tripS (c.val : Int)).data.toList = [37, UInt8.ofNat a.val, UInt8.ofNat b.val] ∧ isHex ((UInt8.ofNat a.val).toNat : Int) = true ∧ isHex ((UInt8.ofNat b.val).toNat : Int) = true ∧ 16 * hexV ((UInt8.ofNat a.val).toNat : Int) + hexV ((UInt8.ofNat b.val).toNat : Int) = (c.val : Int) := by
  have h : ∀ c : Fin 256, (tripS (c.val : Int)).data.toList = [37, UInt8.ofNat (hexD ((c.val : Int) / 16)).toNat, UInt8.ofNat (hexD ((c.val : Int) % 16)).toNat] ∧ (hexD ((c.val : Int) / 16)).toNat < 256 ∧ (hexD ((c.val : Int) % 16)).toNat < 256 ∧ isHex ((UInt8.ofNat (hexD ((c.val : Int) / 16)).toNat).toNat : Int) = true ∧ isHex ((UInt8.ofNat (hexD ((c.val : Int) % 16)).toNat).toNat : Int) = true ∧ 16 * hexV ((UInt8.ofNat (hexD ((c.val : Int) / 16)).toNat).toNat : Int) + hexV ((UInt8.ofNat (hexD ((c.val : Int) % 16)).toNat).toNat : Int) = (c.val : Int) := by decide +kernel
  intro c
  obtain ⟨h1, h2, h3, h4⟩ := h c
  exact ⟨⟨_, h2⟩, ⟨_, h3⟩, h1, h4⟩
theorem dec_rest (s t : ByteArray) (m : Nat) : ∀ (i p f : Nat), i + m = s.size → t.size ≤ p + f → t.data.toList.drop p = ((List.range s.size).drop i).flatMap (pieceE false s) →
    decFrom t f p = ((s.data.toList.drop i).map (fun x => (x.toNat : Int)), true) := by
  induction m with
  | zero =>
    intro i p f hi hf h
    have hr : (List.range s.size).drop i = [] := List.drop_eq_nil_of_le (by rw [List.length_range]; omega)
    rw [hr] at h
    have hp : ¬ p < t.size := by
      intro hp
      have hl : p < t.data.toList.length := hp
      rw [List.drop_eq_getElem_cons hl] at h; cases h
    rw [decFrom_end t f p hp, List.drop_eq_nil_of_le (by have : s.data.toList.length = s.size := rfl; omega)]; rfl
  | succ m ih =>
    intro i p f hi hf h
    have hl : i < s.data.toList.length := by have : s.data.toList.length = s.size := rfl; omega
    have hb : bI s i = ((s.data.toList[i]).toNat : Int) := by rw [bI_at s i (by omega)]; rfl
    obtain ⟨h0, h1⟩ := bI_range s i
    have hr : (List.range s.size).drop i = i :: (List.range s.size).drop (i + 1) := by
      rw [List.drop_eq_getElem_cons (show i < (List.range s.size).length by rw [List.length_range]; omega), List.getElem_range]
    rw [hr, List.flatMap_cons] at h
    rw [List.drop_eq_getElem_cons hl, List.map_cons, ← hb]
    have e1 := kPlain ⟨(bI s i).toNat, by omega⟩
    obtain ⟨a, b, e2, e3, e4, e5⟩ := kThree ⟨(bI s i).toNat, by omega⟩
    simp only [Int.toNat_of_nonneg h0] at e1 e2 e5
    unfold pieceE at h
    rw [Bool.false_and, Bool.or_false] at h
    cases hs : (staySet false).has (bI s i) with
    | true =>
      obtain ⟨n1, n2⟩ := e1 hs
      rw [hs, if_pos rfl, List.singleton_append] at h
      obtain ⟨r1, r2, r3⟩ := rest_cons h
      rw [n2] at r2 n1
      obtain ⟨f, rfl⟩ : ∃ f', f = f' + 1 := ⟨f - 1, by omega⟩
      have ht : tri t p = false := by unfold tri; rw [r2, beq_eq_false_iff_ne.2 n1]; simp
      have hne : (bI s i != 37) = true := bne_iff_ne.2 n1
      rw [decFrom_one t f p r1 ht, ih (i + 1) (p + 1) f (by omega) (by omega) r3, r2, hne]; rfl
    | false =>
      rw [hs, if_neg (by decide), e2] at h
      obtain ⟨r1, r2, r3⟩ := rest_cons h
      obtain ⟨q1, q2, q3⟩ := rest_cons r3
      obtain ⟨u1, u2, u3⟩ := rest_cons q3
      obtain ⟨f, rfl⟩ : ∃ f', f = f' + 1 := ⟨f - 1, by omega⟩
      have ht : tri t p = true := by
        unfold tri
        rw [r2, q2, u2, e3, e4, decide_eq_true (by omega)]; rfl
      have hv : triV t p = bI s i := by unfold triV; rw [q2, u2]; exact e5
      rw [decFrom_tri t f p r1 ht, ih (i + 1) (p + 3) f (by omega) (by omega) u3, hv]
theorem strOf_bytes (s : ByteArray) : strOfNums (s.data.toList.map (fun x => (x.toNat : Int))) = s := by
  rcases s with ⟨⟨l⟩⟩
  unfold strOfNums
  congr 2
  rw [List.map_map]
  conv => rhs; rw [← List.map_id l]
  exact List.map_congr_left fun x _ => by simp
theorem decV_enc (s : ByteArray) : decV (encS false s) = (s, true) := by
  have h := dec_rest s (encS false s) s.size 0 0 (encS false s).size (by omega) (by omega) (by rw [List.drop_zero, List.drop_zero]; rfl)
  rw [List.drop_zero] at h
  unfold decV decL
  rw [h, if_pos rfl, strOf_bytes]
end Go.Proofs.Ytbjeegkmafbejaa.X
namespace Go.Proofs.Ytbjeegkmafbejaa.PL
set_option linter.unusedSimpArgs false
set_option linter.unusedVariables false
open Go.RowKit Go.Proofs.YtbjeegkmafbejaaW.PrintWords Go.Proofs.YtbjeegkmafbejaaW.PrintLast Y
theorem w64 (n : Int) (h0 : -9223372036854775808 ≤ n) (h1 : n ≤ 9223372036854775807) : wrap64 n = n := by unfold wrap64; omega
theorem get!_out (s : ByteArray) (i : Nat) (h : ¬ i < s.size) : byteAt s i = 0 := by
  unfold byteAt
  have : s.get! i = default := getElem!_neg s.data i h
  rw [this]; rfl
theorem bt_byteAt (s : ByteArray) (i : Nat) : bt s (i : Int) = (byteAt s i : Int) := by
  unfold bt
  rw [Int.toNat_natCast]
  split
  · rename_i h
    unfold byteAt
    rw [get!_at s i h]; rfl
  · rename_i h
    rw [get!_out s i h]; rfl
theorem tdiv64 (c : Nat) (n : Nat) : Int.tdiv (c : Int) (n : Int) = ((c / n : Nat) : Int) := by
  rw [Int.tdiv_eq_ediv_of_nonneg (by omega)]; rfl
theorem tmod64 (c : Nat) (n : Nat) : Int.tmod (c : Int) (n : Int) = ((c % n : Nat) : Int) := by
  rw [Int.tmod_eq_emod_of_nonneg (by omega)]; rfl
theorem rdOf_at (xs : List ByteArray) (k : Nat) (h : k < xs.length) : rdOf ByteArray.empty xs (k : Int) = xs[k] := by
  unfold rdOf; rw [Int.toNat_natCast, List.getD_eq_getElem?_getD, List.getElem?_eq_getElem h]; rfl
theorem rd_int (xs : List Int) (k : Nat) (h : k < xs.length) : rd xs (k : Int) = xs[k] := by
  unfold rd; rw [Int.toNat_natCast, List.getD_eq_getElem?_getD, List.getElem?_eq_getElem h]; rfl
theorem w1 (i : Nat) (h : i < 1000000000) : wrap64 ((i : Int) + 1) = ((i + 1 : Nat) : Int) := w64 _ (by omega) (by omega)
theorem may_of_digit {c : Int} (h : isDigit c = true) : mayC c = true ∧ 0 ≤ c ∧ c < 256 := by
  unfold isDigit at h
  rw [Bool.and_eq_true, decide_eq_true_iff, decide_eq_true_iff] at h
  refine ⟨?_, by omega, by omega⟩
  unfold mayC
  rw [Bool.and_eq_true, Bool.and_eq_true, Bool.or_eq_true, decide_eq_true_iff, decide_eq_true_iff, decide_eq_true_iff]
  omega
theorem may_of_word {c : Int} (h : isWord c = true) : mayC c = true ∧ 0 ≤ c ∧ c < 256 := by
  unfold isWord isAlpha isDigit at h
  simp only [Bool.or_eq_true, Bool.and_eq_true, decide_eq_true_eq, beq_iff_eq] at h
  refine ⟨?_, by omega, by omega⟩
  unfold mayC
  rw [Bool.and_eq_true, Bool.and_eq_true, Bool.or_eq_true, decide_eq_true_iff, decide_eq_true_iff, decide_eq_true_iff]
  omega
theorem may_pos {c : Int} (h : mayC c = true) : 0 ≤ c := by
  unfold mayC at h
  rw [Bool.and_eq_true, Bool.and_eq_true, decide_eq_true_iff] at h
  exact h.1.1
theorem nil_of_size {s : ByteArray} (h : s.size = 0) : s.toList = [] := by
  rw [ByteArray.toList_eq]
  exact List.eq_nil_of_length_eq_zero (by simpa using h)
theorem size_of_nil {s : ByteArray} (h : s.toList = []) : s.size = 0 := by
  rw [ByteArray.toList_eq] at h
  have := congrArg List.length h
  simpa using this
theorem may_f (c : Int) : phalaroperef01_May.f c = some (mayC c) := by
  unfold phalaroperef01_May.f mayC
  by_cases h0 : 0 ≤ c
  · by_cases h1 : c ≤ 1114111
    · by_cases h2 : c < 55296
      · rw [if_pos h0, if_pos h1, if_pos h2]; simp [h0, h1, h2]
      · rw [if_pos h0, if_pos h1, if_neg h2]; simp [h0, h1, h2]
    · rw [if_pos h0, if_neg h1]; simp [h0, h1]
  · rw [if_neg h0]; simp [h0]
theorem digit_f (c : Int) : phalaroperef02_Digit.f c = some (isDigit c) := by
  unfold phalaroperef02_Digit.f isDigit
  by_cases h : 48 ≤ c
  · rw [if_pos h, decide_eq_true h]; rfl
  · rw [if_neg h, decide_eq_false h]; rfl
theorem alpha_f (c : Int) : phalaroperef02_Alpha.f c = some (isAlpha c) := by
  unfold phalaroperef02_Alpha.f isAlpha
  by_cases h : 65 ≤ c
  · by_cases h2 : c ≤ 90
    · rw [if_pos h, if_pos h2]; simp [h, h2]
    · by_cases h3 : 97 ≤ c
      · rw [if_pos h, if_neg h2, if_pos h3]; simp [h, h2, h3]
      · rw [if_pos h, if_neg h2, if_neg h3]; simp [h, h2, h3]
  · have h3 : ¬ 97 ≤ c := by omega
    rw [if_neg h, if_neg h3]; simp [h, h3]
theorem word_f (c : Int) : phalaroperef02_Word.f c = some (isWord c) := by
  unfold phalaroperef02_Word.f isWord
  rw [alpha_f]
  simp only [Option.bind_some]
  cases isAlpha c
  · rw [if_neg (by decide), digit_f]
    simp only [Option.bind_some]
    cases isDigit c
    · rw [if_neg (by decide)]; rfl
    · rw [if_pos rfl]; rfl
  · rw [if_pos rfl]; rfl
theorem hex_f (c : Int) : phalaroperef02_Hex.f c = some (isHex c) := by
  unfold phalaroperef02_Hex.f
  rw [digit_f]
  simp only [Option.bind_some]
  unfold isHex
  cases isDigit c with
  | true => rfl
  | false =>
    by_cases h1 : c ≥ 65
    · by_cases h2 : c ≤ 70
      · simp [h1, h2]
      · by_cases h3 : c ≥ 97 <;> simp [h1, h2, h3]
    · by_cases h3 : c ≥ 97 <;> simp [h1, h3]
theorem trip_f (s : ByteArray) : phalaroperef03_Triplet.f s = some (tri s 0) := by
  unfold phalaroperef03_Triplet.f tri bI
  have b0 : bt s 0 = (byteAt s 0 : Int) := bt_byteAt s 0
  have b1 : bt s 1 = (byteAt s 1 : Int) := bt_byteAt s 1
  have b2 : bt s 2 = (byteAt s 2 : Int) := bt_byteAt s 2
  by_cases h3 : 3 ≤ s.size
  · rw [if_pos (by omega), if_pos (by omega), decide_eq_true (by omega), b0, b1, b2]
    by_cases hp : (byteAt s 0 : Int) = 37
    · rw [if_pos hp, if_pos (by omega), hex_f, hp]
      simp only [Option.bind_some]
      cases isHex (byteAt s 1 : Int) with
      | true => rw [if_pos rfl, if_pos (by omega), hex_f]; simp
      | false => simp
    · rw [if_neg hp]; simp [hp]
  · rw [if_neg (by omega), decide_eq_false (by omega)]; rfl
/-- A name's end, as the reference tells it, is what our walk through it tells. -/
theorem may2_at (s : ByteArray) (f : Nat) : ∀ (k p e : Nat), s.size ≤ p + f → p ≤ s.size → e ≤ p → 0 < s.size → f + 1 < k →
    phalaroperef05_May2.f k (s.extract p s.size) (decide (p = e ∧ 0 < p)) = some ((endsN s f p e).2 == s.size) := by
  induction f with
  | zero =>
    intro k p e hf hp he hz hk
    obtain ⟨k, rfl⟩ : ∃ m, k = m + 1 := ⟨k - 1, by omega⟩
    have hps : p = s.size := by omega
    rw [phalaroperef05_May2.f, if_pos (nil_of_size (by rw [ext_size]; omega))]
    show _ = some ((p, e).2 == s.size)
    congr 1
    exact Bool.eq_iff_iff.2 (by simp; omega)
  | succ f ih =>
    intro k p e hf hp he hz hk
    obtain ⟨k, rfl⟩ : ∃ m, k = m + 1 := ⟨k - 1, by omega⟩
    by_cases hlt : p < s.size
    · have hsz := ext_size s p
      have hb : bt (s.extract p s.size) 0 = bI s p := by
        have h0 := bt_byteAt (s.extract p s.size) 0
        rw [ext_byteAt] at h0
        exact h0
      have hex : ∀ n, n ≤ s.size - p → (s.extract p s.size).extract n (s.extract p s.size).size = s.extract (p + n) s.size := fun n hn => by
        rw [hsz, ByteArray.extract_extract]
        congr 1
        omega
      have hE := endsN_in s f p e hlt
      have hL : phalaroperef05_May2.f (k + 1) (s.extract p s.size) (decide (p = e ∧ 0 < p)) = if isWord (bI s p) = true then (if 1 ≤ ((s.extract p s.size).size : Int) then (phalaroperef05_May2.f k (s.extract (p + 1) s.size) true) else none)
          else if tri s p = true then (if 3 ≤ ((s.extract p s.size).size : Int) then (phalaroperef05_May2.f k (s.extract (p + 3) s.size) true) else none)
          else if bI s p = 46 then (if decide (p = e ∧ 0 < p) = true then (if 1 ≤ ((s.extract p s.size).size : Int) then (phalaroperef05_May2.f k (s.extract (p + 1) s.size) false) else none) else some false) else some false := by
        rw [phalaroperef05_May2.f, if_neg (fun h => by have := size_of_nil h; omega), if_pos (by omega), hb, word_f, trip_f, tri_ext s p hp]
        simp only [Option.bind_some]
        rw [hex 1 (by omega)]
        by_cases ht : tri s p = true
        · have hin := tri_in ht
          rw [hex 3 (by omega)]
          simp [ht]
        · simp [ht]
      rw [hL, hE]
      clear hL hE
      by_cases hw : isWord (bI s p) = true
      · rw [if_pos hw, if_pos hw, if_pos (by omega), show true = decide (p + 1 = p + 1 ∧ 0 < p + 1) from by simp, ih k (p + 1) (p + 1) (by omega) (by omega) (by omega) hz (by omega)]
      rw [if_neg hw, if_neg hw]
      by_cases ht : tri s p = true
      · have hin := tri_in ht
        have h37 : bI s p = 37 := by unfold tri at ht; simp only [Bool.and_eq_true, beq_iff_eq] at ht; exact ht.1.2
        have hn : ¬ (bI s p = 46 ∧ 0 < p ∧ p = e) := by omega
        have h3 : (3 : Int) ≤ ((s.extract p s.size).size : Int) := by omega
        rw [if_pos ht, if_neg hn, if_pos ht, if_pos h3, show true = decide (p + 3 = p + 3 ∧ 0 < p + 3) from by simp, ih k (p + 3) (p + 3) (by omega) (by omega) (by omega) hz (by omega)]
      rw [if_neg ht]
      by_cases h46 : bI s p = 46
      · rw [if_pos h46]
        by_cases hb2 : p = e ∧ 0 < p
        · have hp2 : bI s p = 46 ∧ 0 < p ∧ p = e := ⟨h46, hb2.2, hb2.1⟩
          have h1 : (1 : Int) ≤ ((s.extract p s.size).size : Int) := by omega
          rw [if_pos (decide_eq_true hb2), if_pos hp2, if_pos h1, show false = decide (p + 1 = e ∧ 0 < p + 1) from (decide_eq_false (by omega)).symm, ih k (p + 1) e (by omega) (by omega) (by omega) hz (by omega)]
        · have hp2 : ¬ (bI s p = 46 ∧ 0 < p ∧ p = e) := fun h => hb2 ⟨h.2.2, h.2.1⟩
          have h37 : ¬ bI s p = 37 := by omega
          rw [if_neg (by rw [decide_eq_false hb2]; decide), if_neg hp2, if_neg ht, if_neg h37]
          congr 1
          exact (beq_eq_false_iff_ne.2 (by dsimp only; omega)).symm
      · have hp2 : ¬ (bI s p = 46 ∧ 0 < p ∧ p = e) := fun h => h46 h.1
        rw [if_neg h46, if_neg hp2, if_neg ht]
        congr 1
        refine (beq_eq_false_iff_ne.2 ?_).symm
        split
        · split <;> dsimp only <;> omega
        · dsimp only; omega
    · rw [endsN_out _ _ _ _ hlt]
      have hps : p = s.size := by omega
      rw [phalaroperef05_May2.f, if_pos (nil_of_size (by rw [ext_size]; omega))]
      congr 1
      exact Bool.eq_iff_iff.2 (by simp; omega)
theorem rname_f (s : ByteArray) (k : Nat) (hk : s.size + 1 < k) : phalaroperef05_May.f k s = some (nameMay s) := by
  unfold phalaroperef05_May.f
  by_cases h0 : 0 < s.size
  · have h := may2_at s s.size k 0 0 (by omega) (by omega) (by omega) h0 (by omega)
    rw [show s.extract 0 s.size = s from by simp, show decide (0 = 0 ∧ 0 < 0) = false from by simp] at h
    rw [h]
    unfold nameMay ends
    rw [decide_eq_true h0]; simp
  · obtain ⟨k, rfl⟩ : ∃ m, k = m + 1 := ⟨k - 1, by omega⟩
    rw [phalaroperef05_May2.f, if_pos (nil_of_size (by omega))]
    unfold nameMay
    rw [decide_eq_false h0]; rfl
end Go.Proofs.Ytbjeegkmafbejaa.PL
namespace Go.Proofs.Ytbjeegkmafbejaa.PL
set_option linter.unusedSimpArgs false
set_option linter.unusedVariables false
open Go.RowKit Go.Proofs.YtbjeegkmafbejaaW.PrintWords Go.Proofs.YtbjeegkmafbejaaW.PrintLast Y
def encL (c : Nat) : List Nat := if c < 128 then [c] else if c < 2048 then [192 + c / 64, 128 + c % 64] else if c < 65536 then [224 + c / 4096, 128 + c / 64 % 64, 128 + c % 64] else [240 + c / 262144, 128 + c / 4096 % 64, 128 + c / 64 % 64, 128 + c % 64]
theorem encL_lt (c : Nat) (hc : c ≤ 1114111) : ∀ x ∈ encL c, x < 256 := by
  intro x hx
  unfold encL at hx
  split at hx
  · simp at hx; omega
  split at hx
  · simp at hx; omega
  split at hx
  · simp at hx; omega
  · simp at hx; omega
theorem tail_l0 (k : Nat) (c : Nat) (hc : c ≤ 1114111) (m i : Nat) (hm : i ≤ m) (h3 : m ≤ 3) (hk : m - i < k) : phalaroperef01_tail.l0 k (c : Int) (m : Int) (i : Int) = some ((128 + c / 64 ^ (m - i) % 64 : Nat) : Int) := by
  induction k generalizing c i with
  | zero => omega
  | succ k ih =>
    simp only [phalaroperef01_tail.l0]
    by_cases h : i < m
    · rw [if_pos (by omega), show (64 : Int) = ((64 : Nat) : Int) from rfl, tdiv64, w64 _ (by omega) (by have : c / 64 ≤ c := Nat.div_le_self _ _; omega),
        show wrap64 ((i : Int) + 1) = ((i + 1 : Nat) : Int) from w64 _ (by omega) (by omega), ih (c / 64) (by have : c / 64 ≤ c := Nat.div_le_self _ _; omega) (i + 1) (by omega) (by omega)]
      congr 3
      rw [Nat.div_div_eq_div_mul, ← Nat.pow_succ', show (m - (i + 1)).succ = m - i from by omega]
    · rw [if_neg (by omega), show (64 : Int) = ((64 : Nat) : Int) from rfl, tmod64, w64 _ (by omega) (by omega), show m - i = 0 from by omega]
      congr 1
      rw [Nat.pow_zero, Nat.div_one]
      omega
theorem tail_f (k c : Nat) (hc : c ≤ 1114111) (m : Nat) (h3 : m ≤ 3) (hk : m < k) : phalaroperef01_tail.f k (c : Int) (m : Int) = some ((128 + c / 64 ^ m % 64 : Nat) : Int) := by
  have := tail_l0 k c hc m 0 (by omega) h3 (by omega)
  simpa [phalaroperef01_tail.f] using this
theorem one_f (k c : Nat) (hc : c ≤ 1114111) (hk : 3 < k) : phalaroperef01_One.f k (c : Int) = some (strOfNums ((encL c).map fun (n : Nat) => (n : Int))) := by
  have t0 := tail_f k c hc 0 (by omega) (by omega)
  have t1 := tail_f k c hc 1 (by omega) (by omega)
  have t2 := tail_f k c hc 2 (by omega) (by omega)
  unfold phalaroperef01_One.f encL
  by_cases h1 : c < 128
  · rw [if_pos (by omega), if_pos h1]
    congr 2
    simp only [List.map_cons, List.map_nil, List.cons.injEq, and_true]
    omega
  rw [if_neg (by omega), if_neg h1]
  by_cases h2 : c < 2048
  · rw [if_pos (by omega), if_pos h2, show (0 : Int) = ((0 : Nat) : Int) from rfl, t0]
    simp only [Option.bind_some]
    congr 2
    rw [show (64 : Int) = ((64 : Nat) : Int) from rfl, tdiv64, w64 ((c / 64 : Nat) : Int) (by omega) (by omega), w64 _ (by omega) (by omega)]
    simp only [List.map_cons, List.map_nil, List.cons.injEq, and_true]
    constructor
    · omega
    · simp
  rw [if_neg (by omega), if_neg h2]
  by_cases h3 : c < 65536
  · rw [if_pos (by omega), if_pos h3, show (0 : Int) = ((0 : Nat) : Int) from rfl, t0, show (1 : Int) = ((1 : Nat) : Int) from rfl, t1]
    simp only [Option.bind_some]
    congr 2
    rw [show (4096 : Int) = ((4096 : Nat) : Int) from rfl, tdiv64, w64 ((c / 4096 : Nat) : Int) (by omega) (by omega), w64 _ (by omega) (by omega)]
    simp only [List.map_cons, List.map_nil, List.cons.injEq, and_true]
    refine ⟨by omega, by simp, by simp⟩
  · rw [if_neg (by omega), if_neg h3, show (0 : Int) = ((0 : Nat) : Int) from rfl, t0, show (1 : Int) = ((1 : Nat) : Int) from rfl, t1, show (2 : Int) = ((2 : Nat) : Int) from rfl, t2]
    simp only [Option.bind_some]
    congr 2
    rw [show (262144 : Int) = ((262144 : Nat) : Int) from rfl, tdiv64, w64 ((c / 262144 : Nat) : Int) (by omega) (by omega), w64 _ (by omega) (by omega)]
    simp only [List.map_cons, List.map_nil, List.cons.injEq, and_true]
    refine ⟨by omega, by simp, by simp, by simp⟩
def bytesN (s : ByteArray) (n : Nat) : List Nat := (List.range n).map (byteAt s)
theorem toNat_inj_list {a b : List UInt8} (h : a.map UInt8.toNat = b.map UInt8.toNat) : a = b := by
  induction a generalizing b with
  | nil => cases b with
    | nil => rfl
    | cons y b => simp at h
  | cons x a ih => cases b with
    | nil => simp at h
    | cons y b =>
      simp only [List.map_cons, List.cons.injEq] at h
      rw [UInt8.toNat_inj.1 h.1, ih h.2]
theorem extract_nats (s : ByteArray) (n : Nat) (h : n ≤ s.size) : (s.extract 0 n).toList.map UInt8.toNat = bytesN s n := by
  rw [ByteArray.toList_eq]
  have hs : s.data.size = s.size := rfl
  apply List.ext_getElem
  · simp [ByteArray.data_extract, bytesN]; omega
  · intro i h1 h2
    have hi : i < n := by simpa [bytesN] using h2
    simp only [bytesN, List.getElem_map, List.getElem_range]
    unfold byteAt
    rw [get!_at s i (by omega)]
    simp [ByteArray.data_extract]
theorem same_text (s : ByteArray) (l : List Nat) (hl : ∀ x ∈ l, x < 256) (n : Nat) (h : n ≤ s.size) : ((strOfNums (l.map fun (n : Nat) => (n : Int))).toList = (s.extract 0 n).toList) = (l = bytesN s n) := by
  have e : (strOfNums (l.map fun (n : Nat) => (n : Int))).toList.map UInt8.toNat = l := by
    rw [ByteArray.toList_eq, strOfNums_data, List.map_map, List.map_map]
    conv => rhs; rw [← List.map_id l]
    refine List.map_congr_left fun x hx => ?_
    have := hl x hx
    simp
    omega
  rw [eq_iff_iff]
  constructor
  · intro he; rw [← e, he, extract_nats s n h]
  · intro he; exact toNat_inj_list (by rw [e, extract_nats s n h]; exact he)
/-- Is the character c the first n bytes? -/
def tst (s : ByteArray) (n c : Nat) : Prop := mayC (c : Int) = true ∧ encL c = bytesN s n
instance (s : ByteArray) (n c : Nat) : Decidable (tst s n c) := by unfold tst; infer_instance
theorem mayC_le {c : Nat} (h : mayC (c : Int) = true) : c ≤ 1114111 := by
  unfold mayC at h
  rw [Bool.and_eq_true, Bool.and_eq_true, decide_eq_true_iff, decide_eq_true_iff] at h
  omega
theorem j3_step (s : ByteArray) (k n c : Nat) (hk : 3 < k) (hn : n ≤ s.size) (hn4 : n ≤ 4) : phalaroperef01_First.j3 (k + 1) s (c : Int) (n : Int) = if tst s n c then some ((c : Int), (n : Int)) else phalaroperef01_First.l0 k s (c : Int) ((n + 1 : Nat) : Int) := by
  simp only [phalaroperef01_First.j3]
  rw [may_f]
  simp only [Option.bind_some]
  have hw : wrap64 ((n : Int) + 1) = ((n + 1 : Nat) : Int) := w64 _ (by omega) (by omega)
  by_cases hm : mayC (c : Int) = true
  · rw [if_pos hm, one_f k c (mayC_le hm) hk]
    simp only [Option.bind_some]
    rw [if_pos (by omega), if_pos (by omega), Int.toNat_natCast, hw]
    by_cases ht : encL c = bytesN s n
    · rw [if_pos (by rw [same_text s _ (encL_lt c (mayC_le hm)) n hn]; exact ht), if_pos ⟨hm, ht⟩]
    · rw [if_neg (by rw [same_text s _ (encL_lt c (mayC_le hm)) n hn]; exact ht), if_neg (fun h => ht h.2)]
  · rw [if_neg hm, hw, if_neg (fun h => hm h.1)]
theorem l0_step (s : ByteArray) (k n c : Nat) (hk : 3 < k) (hn2 : 2 ≤ n) (hc : c ≤ 100000000) : phalaroperef01_First.l0 (k + 3) s (c : Int) (n : Int) =
    if n ≤ 4 ∧ n ≤ s.size then (if tst s n (64 * c + byteAt s (n - 1) % 64) then some (((64 * c + byteAt s (n - 1) % 64 : Nat) : Int), (n : Int)) else phalaroperef01_First.l0 k s ((64 * c + byteAt s (n - 1) % 64 : Nat) : Int) ((n + 1 : Nat) : Int)) else some (0, 0) := by
  have hb := byteAt_lt s (n - 1)
  simp only [phalaroperef01_First.l0]
  by_cases h4 : n ≤ 4
  · rw [if_pos (by omega)]
    by_cases hs : n ≤ s.size
    · rw [if_pos ⟨h4, hs⟩]
      simp only [phalaroperef01_First.j1]
      have hw : wrap64 ((n : Int) - 1) = ((n - 1 : Nat) : Int) := by rw [w64 _ (by omega) (by omega)]; omega
      rw [if_pos (decide_eq_true (by omega)), hw, if_pos (by omega), if_pos (by omega), if_neg (by omega), bt_byteAt, w64 (byteAt s (n - 1) : Int) (by omega) (by omega), show (64 : Int) = ((64 : Nat) : Int) from rfl, tmod64, w64 (((64 : Nat) : Int) * (c : Int)) (by omega) (by omega), w64 _ (by omega) (by omega)]
      rw [show (((64 : Nat) : Int) * (c : Int) + ((byteAt s (n - 1) % 64 : Nat) : Int)) = ((64 * c + byteAt s (n - 1) % 64 : Nat) : Int) from by omega]
      exact j3_step s k n _ hk hs h4
    · rw [if_neg (fun h => hs h.2)]
      simp only [phalaroperef01_First.j1]
      rw [if_neg (by rw [decide_eq_true_iff]; omega)]
  · rw [if_neg (by omega), if_neg (fun h => h4 h.1)]
    simp only [phalaroperef01_First.j1]
    rw [if_neg (by decide)]
def lead (b : Nat) : Nat := if b < 192 then b else if b < 224 then b - 192 else if b < 240 then b - 224 else b - 240
theorem l0_first (s : ByteArray) (k : Nat) (hk : 3 < k) : phalaroperef01_First.l0 (k + 4) s 0 1 =
    if 1 ≤ s.size then (if tst s 1 (lead (byteAt s 0)) then some ((lead (byteAt s 0) : Int), 1) else phalaroperef01_First.l0 k s (lead (byteAt s 0) : Int) 2) else some (0, 0) := by
  have hb := byteAt_lt s 0
  simp only [phalaroperef01_First.l0]
  rw [if_pos (by omega)]
  by_cases hs : 1 ≤ s.size
  · rw [if_pos hs]
    simp only [phalaroperef01_First.j1]
    have hw : wrap64 ((1 : Int) - 1) = ((0 : Nat) : Int) := by rw [w64 _ (by omega) (by omega)]; rfl
    have hbt : wrap64 (bt s ((0 : Nat) : Int)) = (byteAt s 0 : Int) := by rw [bt_byteAt, w64 _ (by omega) (by omega)]
    rw [if_pos (decide_eq_true (by omega)), hw, if_pos (by omega), if_pos (by omega), if_pos trivial, hbt]
    have j := fun c => j3_step s k 1 c hk hs (by omega)
    unfold lead
    by_cases h1 : byteAt s 0 < 192
    · rw [if_neg (by omega), if_pos h1]
      simp only [phalaroperef01_First.j2]
      rw [if_neg (by omega), if_neg (by omega)]
      exact j _
    · rw [if_pos (by omega), if_neg h1]
      simp only [phalaroperef01_First.j2]
      by_cases h2 : byteAt s 0 < 224
      · rw [if_neg (by omega), if_neg (by omega), if_pos h2, w64 _ (by omega) (by omega), show ((byteAt s 0 : Int) - 192) = ((byteAt s 0 - 192 : Nat) : Int) from by omega]
        exact j _
      · rw [if_pos (by omega), if_neg h2]
        by_cases h3 : byteAt s 0 < 240
        · rw [if_neg (by omega), if_pos h3, w64 _ (by omega) (by omega), show ((byteAt s 0 : Int) - 224) = ((byteAt s 0 - 224 : Nat) : Int) from by omega]
          exact j _
        · rw [if_pos (by omega), if_neg h3, w64 _ (by omega) (by omega), show ((byteAt s 0 : Int) - 240) = ((byteAt s 0 - 240 : Nat) : Int) from by omega]
          exact j _
  · rw [if_neg hs]
    simp only [phalaroperef01_First.j1]
    rw [if_neg (by rw [decide_eq_true_iff]; omega)]
theorem bytesN_1 (s : ByteArray) : bytesN s 1 = [byteAt s 0] := rfl
theorem bytesN_2 (s : ByteArray) : bytesN s 2 = [byteAt s 0, byteAt s 1] := rfl
theorem bytesN_3 (s : ByteArray) : bytesN s 3 = [byteAt s 0, byteAt s 1, byteAt s 2] := rfl
theorem bytesN_4 (s : ByteArray) : bytesN s 4 = [byteAt s 0, byteAt s 1, byteAt s 2, byteAt s 3] := rfl
theorem mayC_nat (c : Nat) : mayC (c : Int) = true ↔ (c ≤ 1114111 ∧ (c < 55296 ∨ 57343 < c)) := by
  unfold mayC
  rw [Bool.and_eq_true, Bool.and_eq_true, Bool.or_eq_true, decide_eq_true_iff, decide_eq_true_iff, decide_eq_true_iff, decide_eq_true_iff]
  omega
/-- encL's four forms. -/
theorem encL_forms (c : Nat) : (c < 128 ∧ encL c = [c]) ∨ (128 ≤ c ∧ c < 2048 ∧ encL c = [192 + c / 64, 128 + c % 64]) ∨ (2048 ≤ c ∧ c < 65536 ∧ encL c = [224 + c / 4096, 128 + c / 64 % 64, 128 + c % 64]) ∨ (65536 ≤ c ∧ encL c = [240 + c / 262144, 128 + c / 4096 % 64, 128 + c / 64 % 64, 128 + c % 64]) := by
  unfold encL
  by_cases h1 : c < 128
  · exact .inl ⟨h1, if_pos h1⟩
  by_cases h2 : c < 2048
  · exact .inr (.inl ⟨by omega, h2, by rw [if_neg h1, if_pos h2]⟩)
  by_cases h3 : c < 65536
  · exact .inr (.inr (.inl ⟨by omega, h3, by rw [if_neg h1, if_neg h2, if_pos h3]⟩))
  · exact .inr (.inr (.inr ⟨by omega, by rw [if_neg h1, if_neg h2, if_neg h3]⟩))
theorem tst1 (s : ByteArray) (c : Nat) : tst s 1 c ↔ (c < 128 ∧ byteAt s 0 = c) := by
  unfold tst
  rw [mayC_nat, bytesN_1]
  rcases encL_forms c with ⟨h, e⟩ | ⟨h, h', e⟩ | ⟨h, h', e⟩ | ⟨h, e⟩ <;> rw [e] <;> simp only [List.cons.injEq, and_true, reduceCtorEq, and_false, false_iff, List.cons_ne_nil] <;> omega
theorem tst2 (s : ByteArray) (c : Nat) : tst s 2 c ↔ (128 ≤ c ∧ c < 2048 ∧ byteAt s 0 = 192 + c / 64 ∧ byteAt s 1 = 128 + c % 64) := by
  unfold tst
  rw [mayC_nat, bytesN_2]
  rcases encL_forms c with ⟨h, e⟩ | ⟨h, h', e⟩ | ⟨h, h', e⟩ | ⟨h, e⟩ <;> rw [e] <;> simp only [List.cons.injEq, and_true, reduceCtorEq, and_false, false_iff, List.cons_ne_nil] <;> omega
theorem tst3 (s : ByteArray) (c : Nat) : tst s 3 c ↔ (2048 ≤ c ∧ c < 65536 ∧ (c < 55296 ∨ 57343 < c) ∧ byteAt s 0 = 224 + c / 4096 ∧ byteAt s 1 = 128 + c / 64 % 64 ∧ byteAt s 2 = 128 + c % 64) := by
  unfold tst
  rw [mayC_nat, bytesN_3]
  rcases encL_forms c with ⟨h, e⟩ | ⟨h, h', e⟩ | ⟨h, h', e⟩ | ⟨h, e⟩ <;> rw [e] <;> simp only [List.cons.injEq, and_true, reduceCtorEq, and_false, false_iff, List.cons_ne_nil] <;> omega
theorem tst4 (s : ByteArray) (c : Nat) : tst s 4 c ↔ (65536 ≤ c ∧ c ≤ 1114111 ∧ byteAt s 0 = 240 + c / 262144 ∧ byteAt s 1 = 128 + c / 4096 % 64 ∧ byteAt s 2 = 128 + c / 64 % 64 ∧ byteAt s 3 = 128 + c % 64) := by
  unfold tst
  rw [mayC_nat, bytesN_4]
  rcases encL_forms c with ⟨h, e⟩ | ⟨h, h', e⟩ | ⟨h, h', e⟩ | ⟨h, e⟩ <;> rw [e] <;> simp only [List.cons.injEq, and_true, reduceCtorEq, and_false, false_iff, List.cons_ne_nil] <;> omega
/-- What First answers. -/
def firstS (s : ByteArray) : Int × Int := if s.size = 0 ∨ badAt s 0 = true then (0, 0) else (((Utf8.decode s 0).1 : Int), ((Utf8.decode s 0).2 : Int))
theorem lead_le (b : Nat) (h : b < 256) : lead b ≤ 255 := by unfold lead; split <;> (try split) <;> (try split) <;> omega
set_option maxHeartbeats 4000000 in
theorem first_f (s : ByteArray) (k : Nat) (hk : 20 < k) : phalaroperef01_First.f k s = some (firstS s) := by
  have u0 := byteAt_lt s 0
  have u1 := byteAt_lt s 1
  have u2 := byteAt_lt s 2
  have u3 := byteAt_lt s 3
  have hl := lead_le _ u0
  unfold phalaroperef01_First.f
  obtain ⟨k, rfl⟩ : ∃ m, k = m + 9 + 4 := ⟨k - 13, by omega⟩
  rw [l0_first s (k + 9) (by omega)]
  have e2 : ∀ c : Nat, c ≤ 255 → phalaroperef01_First.l0 (k + 9) s (c : Int) 2 = _ := fun c hc => l0_step s (k + 6) 2 c (by omega) (by omega) (by omega)
  have e3 : ∀ c : Nat, c ≤ 20000 → phalaroperef01_First.l0 (k + 6) s (c : Int) ((2 + 1 : Nat) : Int) = _ := fun c hc => l0_step s (k + 3) 3 c (by omega) (by omega) (by omega)
  have e4 : ∀ c : Nat, c ≤ 2000000 → phalaroperef01_First.l0 (k + 3) s (c : Int) ((3 + 1 : Nat) : Int) = _ := fun c hc => l0_step s k 4 c (by omega) (by omega) (by omega)
  have e5 : ∀ c : Nat, phalaroperef01_First.l0 k s (c : Int) ((4 + 1 : Nat) : Int) = some (0, 0) := fun c => by
    obtain ⟨k, rfl⟩ : ∃ m, k = m + 2 := ⟨k - 2, by omega⟩
    simp only [phalaroperef01_First.l0]
    rw [if_neg (by omega)]
    simp only [phalaroperef01_First.j1]
    rw [if_neg (by decide)]
  unfold firstS
  by_cases hs : s.size = 0
  · rw [if_neg (by omega), if_pos (.inl hs)]
  rw [if_pos (by omega), e2 _ hl]
  obtain ⟨c1, hc1⟩ : ∃ c1, c1 = lead (byteAt s 0) := ⟨_, rfl⟩
  rw [← hc1] at hl ⊢
  have hc1' : (byteAt s 0 < 192 ∧ c1 = byteAt s 0) ∨ (192 ≤ byteAt s 0 ∧ byteAt s 0 < 224 ∧ c1 = byteAt s 0 - 192) ∨ (224 ≤ byteAt s 0 ∧ byteAt s 0 < 240 ∧ c1 = byteAt s 0 - 224) ∨ (240 ≤ byteAt s 0 ∧ c1 = byteAt s 0 - 240) := by
    rw [hc1]; unfold lead; split
    · omega
    split
    · omega
    split <;> omega
  clear hc1
  rw [show 2 - 1 = 1 from rfl, e3 _ (by omega), show 3 - 1 = 2 from rfl, e4 _ (by omega), show 4 - 1 = 3 from rfl, e5]
  clear e2 e3 e4 e5
  obtain ⟨c2, hc2⟩ : ∃ c2, c2 = 64 * c1 + byteAt s 1 % 64 := ⟨_, rfl⟩
  rw [← hc2]
  obtain ⟨c3, hc3⟩ : ∃ c3, c3 = 64 * c2 + byteAt s 2 % 64 := ⟨_, rfl⟩
  rw [← hc3]
  obtain ⟨c4, hc4⟩ : ∃ c4, c4 = 64 * c3 + byteAt s 3 % 64 := ⟨_, rfl⟩
  rw [← hc4]
  have bad_no : ∀ c n : Nat, Utf8.decode s 0 = (c, n) → (n ≠ 1 ∨ c ≠ 65533) → ¬ (s.size = 0 ∨ badAt s 0 = true) := by
    intro c n e h h'
    rcases h' with h' | h'
    · exact hs h'
    · unfold badAt at h'
      rw [e, Bool.and_eq_true, beq_iff_eq, beq_iff_eq] at h'
      rcases h with h | h
      · exact h h'.2
      · exact h h'.1
  have ha := decode_arms s 0
  rw [show 0 + 1 = 1 from rfl, show 0 + 2 = 2 from rfl, show 0 + 3 = 3 from rfl] at ha
  rcases ha with ⟨h0, e⟩ | ⟨c, h0, h1, h2, h3, h4, e⟩ | ⟨c, h0, h1, h2, h3, h4, h5, h6, e⟩ | ⟨c, h0, h1, h2, h3, h4, h5, h6, h7, e⟩ | ⟨e, g0, g2, g3, g4⟩
  · rw [if_pos ((tst1 s c1).2 (by omega)), if_neg (bad_no _ _ e (.inr (by omega))), e]
    have : c1 = byteAt s 0 := by omega
    rw [this]; rfl
  · have q : c2 = c := by omega
    rw [if_neg (fun h => by have := (tst1 s c1).1 h; omega), if_pos (by omega), if_pos ((tst2 s c2).2 (by omega)), if_neg (bad_no _ _ e (.inl (by omega))), e, q]
    try rfl
  · have q : c3 = c := by omega
    rw [if_neg (fun h => by have := (tst1 s c1).1 h; omega), if_pos (by omega), if_neg (fun h => by have := (tst2 s c2).1 h; omega), if_pos (by omega), if_pos ((tst3 s c3).2 (by omega)), if_neg (bad_no _ _ e (.inl (by omega))), e, q]
    try rfl
  · have q : c4 = c := by omega
    rw [if_neg (fun h => by have := (tst1 s c1).1 h; omega), if_pos (by omega), if_neg (fun h => by have := (tst2 s c2).1 h; omega), if_pos (by omega), if_neg (fun h => by have := (tst3 s c3).1 h; omega), if_pos (by omega), if_pos ((tst4 s c4).2 (by omega)), if_neg (bad_no _ _ e (.inl (by omega))), e, q]
    try rfl
  · have hb : badAt s 0 = true := by unfold badAt; rw [e]; rfl
    rw [if_pos (show s.size = 0 ∨ badAt s 0 = true from .inr hb), if_neg (show ¬ tst s 1 c1 from fun h => by have := (tst1 s c1).1 h; omega)]
    by_cases s2 : 2 ≤ 4 ∧ 2 ≤ s.size
    · rw [if_pos s2, if_neg (fun h => by have := (tst2 s c2).1 h; clear g3 g4 h hc3 hc4; omega)]
      by_cases s3 : 3 ≤ 4 ∧ 3 ≤ s.size
      · rw [if_pos s3, if_neg (fun h => by have := (tst3 s c3).1 h; clear g2 g4 h hc4; omega)]
        by_cases s4 : 4 ≤ 4 ∧ 4 ≤ s.size
        · rw [if_pos s4, if_neg (fun h => by have := (tst4 s c4).1 h; clear g2 g3 h; omega)]
        · rw [if_neg s4]
      · rw [if_neg s3]
    · rw [if_neg s2]
theorem extract_size (s : ByteArray) (p : Nat) : (s.extract p s.size).size = s.size - p := by
  have hs : s.data.size = s.size := rfl
  show (s.extract p s.size).data.size = _
  rw [ByteArray.data_extract, Array.size_extract]
  omega
theorem extract_byteAt (s : ByteArray) (p i : Nat) : byteAt (s.extract p s.size) i = byteAt s (p + i) := by
  by_cases h : p + i < s.size
  · have h1 : i < (s.extract p s.size).size := by rw [extract_size]; omega
    unfold byteAt
    rw [get!_at _ _ h1, get!_at _ _ h]
    congr 1
    simp [ByteArray.data_extract]
  · rw [get!_out _ _ h, get!_out _ _ (by rw [extract_size]; omega)]
theorem decode_extract (s : ByteArray) (p : Nat) : Utf8.decode (s.extract p s.size) 0 = Utf8.decode s p := by
  have b := fun i => extract_byteAt s p i
  have hz : ∀ i, decide (0 + i < (s.extract p s.size).size) = decide (p + i < s.size) := fun i => by rw [extract_size]; exact decide_eq_decide.2 (by omega)
  unfold byteAt at b
  unfold Utf8.decode
  simp only [hz]
  simp only [Nat.zero_add, b, Nat.add_zero]
theorem badAt_extract (s : ByteArray) (p : Nat) : badAt (s.extract p s.size) 0 = badAt s p := by unfold badAt; rw [decode_extract]
theorem begin_l0 (s : ByteArray) (hs : s.size ≤ 1000000) (f : Nat) : ∀ (k p : Nat) (acc : List Int), s.size ≤ p + f → p ≤ s.size → acc.length ≤ p → f + 25 < k →
    phalaroperef01_Begin.l0 k s acc (p : Int) = some (acc ++ (charsFrom s f p).1, ((charsFrom s f p).2 : Int)) := by
  induction f with
  | zero =>
    intro k p acc h1 h2 h3 hk
    obtain ⟨k, rfl⟩ : ∃ m, k = m + 1 := ⟨k - 1, by omega⟩
    simp only [phalaroperef01_Begin.l0, charsFrom]
    rw [if_neg (by omega), List.append_nil]
  | succ f ih =>
    intro k p acc h1 h2 h3 hk
    obtain ⟨k, rfl⟩ : ∃ m, k = m + 1 := ⟨k - 1, by omega⟩
    simp only [phalaroperef01_Begin.l0]
    by_cases hp : p < s.size
    · rw [if_pos (by omega), if_pos (by omega), if_pos (by omega), Int.toNat_natCast, first_f _ k (by omega)]
      have hF : firstS (s.extract p s.size) = if badAt s p = true then (0, 0) else (((Utf8.decode s p).1 : Int), ((Utf8.decode s p).2 : Int)) := by
        unfold firstS
        rw [extract_size, badAt_extract, decode_extract]
        by_cases hb : badAt s p = true
        · rw [if_pos (.inr hb), if_pos hb]
        · rw [if_neg (fun h => by rcases h with h | h; (· omega); exact hb h), if_neg hb]
      rw [hF]
      by_cases hb : badAt s p = true
      · rw [if_pos hb]
        simp only [Option.bind_some]
        rw [if_pos trivial, charsFrom_bad s _ p hb, List.append_nil]
      · have hb' : badAt s p = false := by simpa using hb
        have hd := decode_in s p hp
        have hd2 := decode_pos s p
        rw [if_neg hb]
        simp only [Option.bind_some]
        rw [if_neg (by omega), if_pos (by omega)]
        rw [show wrap64 ((p : Int) + ((Utf8.decode s p).2 : Int)) = ((p + (Utf8.decode s p).2 : Nat) : Int) from w64 _ (by omega) (by omega),
          ih k _ _ (by omega) hd (by rw [List.length_append, List.length_singleton]; omega) (by omega), charsFrom_go s f p hp hb', List.append_assoc]
        rfl
    · rw [if_neg (by omega), charsFrom_end s _ p hp, List.append_nil]
theorem begin_f (s : ByteArray) (hs : s.size ≤ 1000000) (k : Nat) (hk : s.size + 25 < k) : phalaroperef01_Begin.f k s = some (chars s, (badPos s : Int)) := by
  have := begin_l0 s hs s.size k 0 [] (by omega) (by omega) (by simp) hk
  rw [List.nil_append] at this
  exact this
theorem charsFrom_le (s : ByteArray) (f : Nat) : ∀ p, p ≤ s.size → (charsFrom s f p).2 ≤ s.size := by
  induction f with
  | zero => intro p h; exact h
  | succ f ih =>
    intro p h
    simp only [charsFrom]
    split
    · rename_i hp
      split
      · exact h
      · exact ih _ (decode_in s p hp)
    · exact h
theorem badPos_le (s : ByteArray) : badPos s ≤ s.size := charsFrom_le s s.size 0 (by omega)
theorem validS_iff (s : ByteArray) : validS s = true ↔ badPos s = s.size := by
  unfold validS; rw [decide_eq_true_iff]; have := badPos_le s; omega
theorem valid_f (s : ByteArray) (hs : s.size ≤ 1000000) (k : Nat) (hk : s.size + 25 < k) : phalaroperef01_Valid.f k s = some (validS s) := by
  unfold phalaroperef01_Valid.f
  rw [begin_f s hs k hk]
  simp only [Option.bind_some]
  congr 1
  cases hv : validS s with
  | true => rw [(validS_iff s).1 hv]; simp
  | false =>
    rw [beq_eq_false_iff_ne]
    intro h
    have := (validS_iff s).2 (by omega)
    rw [hv] at this; cases this
end Go.Proofs.Ytbjeegkmafbejaa.PL
namespace Go.Proofs.Ytbjeegkmafbejaa.PL
set_option linter.unusedSimpArgs false
set_option linter.unusedVariables false
open Go.RowKit Go.Proofs.YtbjeegkmafbejaaW.PrintWords Go.Proofs.YtbjeegkmafbejaaW.PrintLast Y
section
variable (vk : Int) (s : ByteArray) (l : List ByteArray) (p : List S69)
theorem rtexts_l1 (h3 : vk = 3) (hp : p.length ≤ 100000) (d : Nat) : ∀ (k i : Nat) (acc : List ByteArray), i + d = p.length → d < k → acc.length + 2 * d ≤ 300000 →
    phalaroperef08_Texts.l1 k acc (i : Int) vk s l p = some (acc ++ (p.drop i).flatMap (fun x => [x.f0, x.f1])) := by
  induction d with
  | zero =>
    intro k i acc hi hk ha
    obtain ⟨k, rfl⟩ : ∃ m, k = m + 1 := ⟨k - 1, by omega⟩
    simp only [phalaroperef08_Texts.l1]
    rw [if_neg (by omega), List.drop_eq_nil_of_le (by omega)]
    simp
  | succ d ih =>
    intro k i acc hi hk ha
    obtain ⟨k, rfl⟩ : ∃ m, k = m + 1 := ⟨k - 1, by omega⟩
    simp only [phalaroperef08_Texts.l1]
    rw [if_pos (by omega), if_pos h3, if_pos (by omega), rd_at p i (by omega)]
    simp only [Option.bind_some, List.length_cons, List.length_nil]
    rw [if_pos (by omega), w1 i (by omega),
      ih k (i + 1) _ (by omega) (by omega) (by rw [List.length_append]; simp; omega), List.drop_eq_getElem_cons (show i < p.length by omega), List.flatMap_cons, List.append_assoc]
theorem rtexts_l1_not (h3 : vk ≠ 3) (k i : Nat) (acc : List ByteArray) (hk : 0 < k) : phalaroperef08_Texts.l1 k acc (i : Int) vk s l p = some acc := by
  obtain ⟨k, rfl⟩ : ∃ m, k = m + 1 := ⟨k - 1, by omega⟩
  simp only [phalaroperef08_Texts.l1]
  split
  · first | rfl | rw [if_neg h3]
  · rfl
theorem rtexts_l0 (h2 : vk = 2) (hl : l.length ≤ 100000) (d : Nat) : ∀ (k i : Nat) (acc : List ByteArray), i + d = l.length → d + 3 < k → acc.length + d ≤ 300000 →
    phalaroperef08_Texts.l0 k acc (i : Int) vk s l p = some (acc ++ l.drop i) := by
  induction d with
  | zero =>
    intro k i acc hi hk ha
    obtain ⟨k, rfl⟩ : ∃ m, k = m + 2 := ⟨k - 2, by omega⟩
    simp only [phalaroperef08_Texts.l0, phalaroperef08_Texts.j2]
    rw [if_neg (by omega), List.drop_eq_nil_of_le (by omega), List.append_nil]
    exact rtexts_l1_not vk s l p (by omega) k 0 acc (by omega)
  | succ d ih =>
    intro k i acc hi hk ha
    obtain ⟨k, rfl⟩ : ∃ m, k = m + 1 := ⟨k - 1, by omega⟩
    simp only [phalaroperef08_Texts.l0]
    rw [if_pos (by omega), if_pos h2, if_pos (by omega), if_pos (by omega), rdOf_at l i (by omega), w1 i (by omega),
      ih k (i + 1) _ (by omega) (by omega) (by rw [List.length_append]; simp; omega), List.drop_eq_getElem_cons (show i < l.length by omega), List.append_assoc]
    rfl
theorem rtexts_l0_not (h2 : vk ≠ 2) (k : Nat) (acc : List ByteArray) : phalaroperef08_Texts.l0 (k + 2) acc 0 vk s l p = phalaroperef08_Texts.l1 k acc 0 vk s l p := by
  simp only [phalaroperef08_Texts.l0, phalaroperef08_Texts.j2]
  split
  · first | rfl | rw [if_neg h2]
  · rfl
theorem rtexts_f (k : Nat) (hm : modest s l p) (hk : l.length + p.length + 10 < k) : phalaroperef08_Texts.f k vk s l p = some (textsOf vk s l p) := by
  obtain ⟨_, hl, hp, _, _⟩ := hm
  obtain ⟨k, rfl⟩ : ∃ m, k = m + 3 := ⟨k - 3, by omega⟩
  unfold phalaroperef08_Texts.f textsOf
  by_cases h1 : vk = 1
  · rw [if_pos h1, if_pos h1, if_pos (by simp)]
    simp only [phalaroperef08_Texts.j0]
    rw [rtexts_l0_not vk s l p (by omega)]
    exact rtexts_l1_not vk s l p (by omega) k 0 _ (by omega)
  rw [if_neg h1, if_neg h1]
  simp only [phalaroperef08_Texts.j0]
  by_cases h2 : vk = 2
  · rw [if_pos h2]
    have := rtexts_l0 vk s l p h2 hl l.length (k + 2) 0 [] (by omega) (by omega) (by simp; omega)
    simpa using this
  rw [if_neg h2, rtexts_l0_not vk s l p h2]
  by_cases h3 : vk = 3
  · rw [if_pos h3]
    have := rtexts_l1 vk s l p h3 hp p.length k 0 [] (by omega) (by omega) (by simp; omega)
    simpa using this
  · rw [if_neg h3]
    exact rtexts_l1_not vk s l p h3 k 0 [] (by omega)
end
theorem rvalid_l0 (ts : List ByteArray) (hs : ∀ x ∈ ts, x.size ≤ 1000000) (hl : ts.length ≤ 1000000) (d : Nat) : ∀ (k i : Nat), i + d = ts.length → d + 1000030 < k →
    phalaroperef08_Valid.l0 k ts (i : Int) = some ((ts.drop i).all validS) := by
  induction d with
  | zero =>
    intro k i hi hk
    obtain ⟨k, rfl⟩ : ∃ m, k = m + 1 := ⟨k - 1, by omega⟩
    simp only [phalaroperef08_Valid.l0]
    rw [if_neg (by omega), List.drop_eq_nil_of_le (by omega)]
    rfl
  | succ d ih =>
    intro k i hi hk
    obtain ⟨k, rfl⟩ : ∃ m, k = m + 1 := ⟨k - 1, by omega⟩
    have hi' : i < ts.length := by omega
    have hx := hs _ (List.getElem_mem hi')
    simp only [phalaroperef08_Valid.l0]
    rw [if_pos (by omega), if_pos (by omega), rdOf_at ts i hi', valid_f _ hx k (by omega), List.drop_eq_getElem_cons hi', List.all_cons]
    simp only [Option.bind_some]
    cases validS ts[i] with
    | true => rw [if_pos rfl, w1 i (by omega), ih k (i + 1) (by omega) (by omega)]; rfl
    | false => rw [if_neg (by decide)]; rfl
theorem rvalid_f (k : Nat) (vk : Int) (s : ByteArray) (l : List ByteArray) (p : List S69) (hm : modest s l p) (hk : 3000000 < k) : phalaroperef08_Valid.f k vk s l p = some ((textsOf vk s l p).all validS) := by
  have ht := texts_small (vk := vk) hm
  unfold phalaroperef08_Valid.f
  rw [rtexts_f vk s l p k hm (by have := hm.2.1; have := hm.2.2.1; omega)]
  simp only [Option.bind_some]
  have := rvalid_l0 (textsOf vk s l p) ht.2 ht.1 _ k 0 (Nat.zero_add _) (by have := ht.1; omega)
  simpa using this
end Go.Proofs.Ytbjeegkmafbejaa.PL
namespace Go.Proofs.Ytbjeegkmafbejaa.PL
set_option linter.unusedSimpArgs false
set_option linter.unusedVariables false
open Go.RowKit Go.Proofs.YtbjeegkmafbejaaW.PrintWords Go.Proofs.YtbjeegkmafbejaaW.PrintLast Y
/-- What 'few' says of a value, as it bears on us. -/
def FewV (s : ByteArray) (l : List ByteArray) (p : List S69) : Prop :=
  s.size ≤ 200 ∧ l.length ≤ 30 ∧ p.length ≤ 30 ∧ (∀ x ∈ l, x.size ≤ 200) ∧ ∀ x ∈ p, x.f0.size ≤ 200 ∧ x.f1.size ≤ 200
theorem FewV.modest {s : ByteArray} {l : List ByteArray} {p : List S69} (h : FewV s l p) : modest s l p := by
  obtain ⟨h0, h1, h2, h3, h4⟩ := h
  exact ⟨by omega, by omega, by omega, fun x hx => by have := h3 x hx; omega, fun x hx => by have := h4 x hx; omega⟩
section
variable (vk : Int) (s : ByteArray) (l : List ByteArray) (p : List S69)
/-- From pair i on: the rest is small. -/
theorem few_l1 (d : Nat) : ∀ (k i : Nat), i + d = 31 → 2 * d + 3 < k → (∀ j (hj : j < p.length), j < i → p[j].f0.size ≤ 200 ∧ p[j].f1.size ≤ 200) →
    ∃ b, phalaroperef08_Few.l1 k (i : Int) vk s l p = some b ∧ (b = true → s.size ≤ 200 ∧ l.length ≤ 30 ∧ p.length ≤ 30 ∧ ∀ x ∈ p, x.f0.size ≤ 200 ∧ x.f1.size ≤ 200) := by
  induction d with
  | zero =>
    intro k i hi hk hj
    obtain ⟨k, rfl⟩ : ∃ m, k = m + 2 := ⟨k - 2, by omega⟩
    simp only [phalaroperef08_Few.l1, phalaroperef08_Few.j3]
    have hne : ¬ ((i : Int) < 31) := by omega
    rw [decide_eq_false hne]
    have : ∀ {α : Type} (c : Prop) [Decidable c] (x : α), (if c then x else x) = x := fun c _ x => by split <;> rfl
    simp only [Bool.false_eq_true, if_false, this]
    by_cases h1 : (s.size : Int) ≤ 200
    · by_cases h2 : (l.length : Int) ≤ 30
      · refine ⟨decide ((p.length : Int) ≤ 30), by rw [if_pos h1, if_pos h2], fun h => ?_⟩
        rw [decide_eq_true_iff] at h
        refine ⟨by omega, by omega, by omega, fun x hx => ?_⟩
        obtain ⟨j, hjl, rfl⟩ := List.mem_iff_getElem.1 hx
        exact hj j hjl (by omega)
      · exact ⟨false, by rw [if_pos h1, if_neg h2], fun h => by cases h⟩
    · exact ⟨false, by rw [if_neg h1], fun h => by cases h⟩
  | succ d ih =>
    intro k i hi hk hj
    obtain ⟨k, rfl⟩ : ∃ m, k = m + 2 := ⟨k - 2, by omega⟩
    simp only [phalaroperef08_Few.l1, phalaroperef08_Few.j3]
    have hlt : ((i : Int) < 31) := by omega
    rw [decide_eq_true hlt]
    by_cases hp : (i : Int) < (p.length : Int)
    · have hp' : i < p.length := by omega
      rw [if_pos hp, if_pos rfl, if_pos (by omega), if_pos hp, rd_at p i hp']
      by_cases h1 : ((p[i].f0).size : Int) > 200
      · exact ⟨false, by rw [if_pos h1], fun h => by cases h⟩
      by_cases h2 : ((p[i].f1).size : Int) > 200
      · exact ⟨false, by rw [if_neg h1, if_pos h2], fun h => by cases h⟩
      rw [if_neg h1, if_neg h2, w1 i (by omega)]
      exact ih k (i + 1) (by omega) (by omega) (fun j hjl hji => by
        rcases Nat.lt_or_ge j i with h | h
        · exact hj j hjl h
        · obtain rfl : j = i := by omega
          exact ⟨by omega, by omega⟩)
    · rw [if_neg hp]
      simp only [Bool.false_eq_true, if_false]
      by_cases h1 : (s.size : Int) ≤ 200
      · by_cases h2 : (l.length : Int) ≤ 30
        · refine ⟨decide ((p.length : Int) ≤ 30), by rw [if_pos h1, if_pos h2], fun h => ?_⟩
          rw [decide_eq_true_iff] at h
          refine ⟨by omega, by omega, by omega, fun x hx => ?_⟩
          obtain ⟨j, hjl, rfl⟩ := List.mem_iff_getElem.1 hx
          exact hj j hjl (by omega)
        · exact ⟨false, by rw [if_pos h1, if_neg h2], fun h => by cases h⟩
      · exact ⟨false, by rw [if_neg h1], fun h => by cases h⟩
theorem few_l0 (d : Nat) : ∀ (k i : Nat), i + d = 31 → 2 * d + 80 < k → (∀ j (hj : j < l.length), j < i → l[j].size ≤ 200) →
    ∃ b, phalaroperef08_Few.l0 k (i : Int) vk s l p = some b ∧ (b = true → FewV s l p) := by
  induction d with
  | zero =>
    intro k i hi hk hj
    obtain ⟨k, rfl⟩ : ∃ m, k = m + 2 := ⟨k - 2, by omega⟩
    simp only [phalaroperef08_Few.l0, phalaroperef08_Few.j1]
    have hne : ¬ ((i : Int) < 31) := by omega
    rw [decide_eq_false hne]
    have : ∀ {α : Type} (c : Prop) [Decidable c] (x : α), (if c then x else x) = x := fun c _ x => by split <;> rfl
    simp only [Bool.false_eq_true, if_false, this]
    obtain ⟨b, e, hb⟩ := few_l1 vk s l p 31 k 0 (by omega) (by omega) (fun j _ h => by omega)
    refine ⟨b, e, fun h => ?_⟩
    obtain ⟨h0, h1, h2, h3⟩ := hb h
    refine ⟨h0, h1, h2, fun x hx => ?_, h3⟩
    obtain ⟨j, hjl, rfl⟩ := List.mem_iff_getElem.1 hx
    exact hj j hjl (by omega)
  | succ d ih =>
    intro k i hi hk hj
    obtain ⟨k, rfl⟩ : ∃ m, k = m + 2 := ⟨k - 2, by omega⟩
    simp only [phalaroperef08_Few.l0, phalaroperef08_Few.j1]
    have hlt : ((i : Int) < 31) := by omega
    rw [decide_eq_true hlt]
    by_cases hp : (i : Int) < (l.length : Int)
    · have hp' : i < l.length := by omega
      rw [if_pos hp, if_pos rfl, if_pos (by omega), if_pos hp, rdOf_at l i hp']
      by_cases h1 : ((l[i]).size : Int) > 200
      · exact ⟨false, by rw [if_pos h1], fun h => by cases h⟩
      rw [if_neg h1, w1 i (by omega)]
      exact ih k (i + 1) (by omega) (by omega) (fun j hjl hji => by
        rcases Nat.lt_or_ge j i with h | h
        · exact hj j hjl h
        · obtain rfl : j = i := by omega
          omega)
    · rw [if_neg hp]
      simp only [Bool.false_eq_true, if_false]
      obtain ⟨b, e, hb⟩ := few_l1 vk s l p 31 k 0 (by omega) (by omega) (fun j _ h => by omega)
      refine ⟨b, e, fun h => ?_⟩
      obtain ⟨h0, h1, h2, h3⟩ := hb h
      refine ⟨h0, h1, h2, fun x hx => ?_, h3⟩
      obtain ⟨j, hjl, rfl⟩ := List.mem_iff_getElem.1 hx
      exact hj j hjl (by omega)
theorem few_f (k : Nat) (hk : 200 < k) : ∃ b, phalaroperef08_Few.f k vk s l p = some b ∧ (b = true → FewV s l p) :=
  few_l0 vk s l p 31 k 0 (by omega) (by omega) (fun j _ h => by omega)
end
end Go.Proofs.Ytbjeegkmafbejaa.PL
namespace Go.Proofs.Ytbjeegkmafbejaa.PL
set_option linter.unusedSimpArgs false
set_option linter.unusedVariables false
open Go.RowKit Go.Proofs.YtbjeegkmafbejaaW.PrintWords Go.Proofs.YtbjeegkmafbejaaW.PrintLast Y
theorem awake_f : phalaropelaw11_awake.f = some true := by decide +kernel
/-- Few texts, as the laws of this chapter have it. -/
theorem evFew (nm : ByteArray) (mx : Int) (st : Bool) (vk : Int) (s : ByteArray) (l : List ByteArray) (p : List S69) : ∃ b, Ev (fun k => phalaropelaw11_few.f k nm mx st vk s l p) b ∧ (b = true → nm.size ≤ 200 ∧ FewV s l p) := by
  by_cases hn : (nm.size : Int) ≤ 200
  · obtain ⟨b, h1, h2⟩ := few_f vk s l p 201 (by omega)
    refine ⟨b, Ev.congr (f := fun k => (phalaroperef08_Few.f k vk s l p).bind fun t => some t) (fun k => if_pos hn) (Ev.bind (Ev.of (phalaroperef08_Few.mono vk s l p) h1) (Ev.now b)), fun h => ⟨by omega, h2 h⟩⟩
  · exact ⟨false, Ev.congr (f := fun _ => some false) (fun k => if_neg hn) (Ev.now false), fun h => by cases h⟩
theorem evMay (nm : ByteArray) : Ev (fun k => phalaroperef06_May.f k nm 0 false) (nameMay nm) := by
  refine ⟨nm.size + 2, fun k hk => ?_⟩
  show phalaroperef06_May.f k nm 0 false = _
  unfold phalaroperef06_May.f
  rw [rname_f nm k (by omega), Option.bind_some]
  cases nameMay nm <;> rfl
theorem evValid (s : ByteArray) (l : List ByteArray) (p : List S69) (vk : Int) (hm : modest s l p) : Ev (fun k => phalaroperef08_Valid.f k vk s l p) ((textsOf vk s l p).all validS) :=
  ⟨3000001, fun k hk => rvalid_f k vk s l p hm (by omega)⟩
theorem byte_split (c : Int) (E : ByteArray) : ∃ r, (∀ nm, X.namedS c nm E = nm ++ r) ∧ ((r = (⟨#[]⟩ : ByteArray) ∧ E = ⟨#[]⟩) ∨ r = (⟨#[61]⟩ : ByteArray) ++ E) := by
  by_cases h : E.size = 0
  · refine ⟨X.ruleEmpty c, fun nm => if_pos h, ?_⟩
    obtain rfl := X.bare_ h
    unfold X.ruleEmpty
    split
    · exact .inr rfl
    split
    · exact .inr rfl
    · exact .inl ⟨rfl, rfl⟩
  · exact ⟨(⟨#[61]⟩ : ByteArray) ++ E, fun nm => by unfold X.namedS; rw [if_neg h, ByteArray.append_assoc], .inr rfl⟩
set_option maxRecDepth 20000 in
theorem PieceBack_pure (op : Int) (nm s : ByteArray) (h0 : 0 ≤ op) (h1 : op ≤ 255) : ∃ k, phalaropelaw11_PieceBack.f k op nm s = some true := by
  refine Ev.rounds ?_
  have up : ∀ (a b : ByteArray) (c : Bool) (d : ByteArray) (e : Bool), Ev (fun k => phalaropelaw11_PieceBack.j0 k op nm s true true a b c d e nm 0 false 1 s) true := fun a b c d e => Ev.step (fun k => by simp only [phalaropelaw11_PieceBack.j0]; rfl) (Ev.now true)
  obtain ⟨b, hb1, hb2⟩ := evFew nm 0 false 1 s [] []
  have e0 : ∀ k, phalaropelaw11_PieceBack.f k op nm s = (phalaropelaw11_few.f k nm 0 false 1 s [] []).bind fun t211 => (if t211 = true then (if X.isOper op = true then (if X.ruleKeep op = true then (phalaropelaw11_PieceBack.j0 k op nm s true true (X.ruleFirst op) (X.ruleSep op) (X.ruleNamed op) (X.ruleEmpty op) (X.ruleKeep op) nm 0 false 1 s) else ((phalaroperef06_May.f k nm 0 false).bind fun t212 => (if t212 = true then ((phalaroperef08_Valid.f k 1 s [] []).bind fun t213 => (phalaropelaw11_PieceBack.j0 k op nm s true (!t213) (X.ruleFirst op) (X.ruleSep op) (X.ruleNamed op) (X.ruleEmpty op) (X.ruleKeep op) nm 0 false 1 s)) else (phalaropelaw11_PieceBack.j0 k op nm s true true (X.ruleFirst op) (X.ruleSep op) (X.ruleNamed op) (X.ruleEmpty op) (X.ruleKeep op) nm 0 false 1 s)))) else (phalaropelaw11_PieceBack.j0 k op nm s true true (X.ruleFirst op) (X.ruleSep op) (X.ruleNamed op) (X.ruleEmpty op) (X.ruleKeep op) nm 0 false 1 s)) else (phalaropelaw11_PieceBack.j0 k op nm s true true (X.ruleFirst op) (X.ruleSep op) (X.ruleNamed op) (X.ruleEmpty op) (X.ruleKeep op) nm 0 false 1 s)) := fun k => by
    unfold phalaropelaw11_PieceBack.f
    rw [awake_f, Option.bind_some]
    unfold oper_Of.f
    rw [if_pos ⟨h0, h1⟩, Option.bind_some]
  refine Ev.congr e0 (Ev.bind hb1 ?_)
  cases b with
  | false => exact up _ _ _ _ _
  | true =>
    obtain ⟨hn, hfew⟩ := hb2 rfl
    have hmd := hfew.modest
    simp only [if_pos]
    by_cases hop : X.isOper op = true
    · simp only [if_pos hop]
      by_cases hk : X.ruleKeep op = true
      · simp only [if_pos hk]; exact up _ _ _ _ _
      simp only [if_neg hk]
      have hk' : X.ruleKeep op = false := Bool.eq_false_iff.2 hk
      refine Ev.bind (evMay nm) ?_
      cases hmy : nameMay nm with
      | false => exact up _ _ _ _ _
      | true =>
        simp only [if_pos]
        refine Ev.bind (evValid s [] [] 1 hmd) ?_
        have hv1 : (textsOf 1 s [] []).all validS = validS s := by simp [textsOf]
        rw [hv1]
        cases hv : validS s with
        | false => exact up _ _ _ _ _
        | true =>
          have hsz : s.size ≤ 200 := hfew.1
          have hE := X.encS_size false s
          have hone : piece_One.f op nm 0 false 1 s [] [] = some (X.maybeS op nm (X.encS false s), true, 0) := by
            unfold piece_One.f
            rw [if_pos ⟨hmd, h0, h1, by omega, rfl⟩]
            unfold oneT sMay
            rw [hop, hmy, hv]
            have : X.textS op nm 0 s = X.maybeS op nm (X.encS false s) := by unfold X.textS; rw [if_neg (by decide), hk']
            rw [this]; rfl
          have hdec : pct_Decode.f (X.encS false s) = some (s, true) := by unfold pct_Decode.f; rw [if_pos (by omega), X.decV_enc]
          by_cases hnm : X.ruleNamed op = true
          · have hm : X.maybeS op nm (X.encS false s) = X.namedS op nm (X.encS false s) := if_pos hnm
            obtain ⟨r, hr1, hr2⟩ := byte_split op (X.encS false s)
            rw [hm, hr1 nm] at hone
            have hx0 : (nm ++ r).extract 0 nm.size = nm := ByteArray.extract_append_eq_left rfl
            have hx1 : (nm ++ r).extract nm.size (nm ++ r).size = r := ByteArray.extract_append_eq_right rfl (by rw [ByteArray.size_append])
            have hsa : (nm ++ r).size = nm.size + r.size := ByteArray.size_append
            refine Ev.step (f := fun k => phalaropelaw11_PieceBack.j1 k nm s true (nm ++ r) true 0 false) (fun k => ?_) ?_
            · simp only [phalaropelaw11_PieceBack.j0]
              rw [hone]
              simp only [Option.bind_some, hnm, Bool.not_true, Bool.false_eq_true, if_false, if_true]
              rw [if_neg (by omega), if_pos (by omega), if_pos (by omega), hx0]
              simp
            · refine Ev.step (f := fun _ => some true) (fun k => ?_) (Ev.now true)
              simp only [phalaropelaw11_PieceBack.j1]
              have hd : (nm ++ r).size - nm.size = r.size := by omega
              rw [if_neg (by decide), if_pos (by omega), if_pos (by omega), hx1, hd]
              rcases hr2 with ⟨rfl, he⟩ | rfl
              · rw [he] at hdec
                rw [if_pos (nil_of_size rfl), hdec]
                simp
              · have hy : ((⟨#[61]⟩ : ByteArray) ++ X.encS false s).extract 1 ((⟨#[61]⟩ : ByteArray) ++ X.encS false s).size = X.encS false s := ByteArray.extract_append_eq_right rfl (by rw [ByteArray.size_append])
                have hz : ((⟨#[61]⟩ : ByteArray) ++ X.encS false s).size = 1 + (X.encS false s).size := ByteArray.size_append
                have hne : ((⟨#[61]⟩ : ByteArray) ++ X.encS false s).toList ≠ [] := fun h => by
                  have := congrArg List.length h
                  rw [ByteArray.toList_eq] at this
                  have h2 : ((⟨#[61]⟩ : ByteArray) ++ X.encS false s).data.toList.length = ((⟨#[61]⟩ : ByteArray) ++ X.encS false s).size := rfl
                  rw [h2, hz] at this; simp at this
                rw [if_neg hne, if_pos (by omega), hy, hdec]
                simp
          · have hm : X.maybeS op nm (X.encS false s) = X.encS false s := if_neg hnm
            rw [hm] at hone
            refine Ev.step (f := fun _ => some true) (fun k => ?_) (Ev.now true)
            simp only [phalaropelaw11_PieceBack.j0]
            rw [hone]
            simp only [Option.bind_some, hnm, hdec, Bool.not_true, Bool.false_eq_true, if_false, if_true]
            simp
    · simp only [if_neg hop]; exact up _ _ _ _ _
end Go.Proofs.Ytbjeegkmafbejaa.PL
namespace Go.Proofs.Ytbjeegkmafbejaa.Pure
open Go.RowKit Go.Proofs.Ytbjeegkmafbejaa.PL Go.Proofs.YtbjeegkmafbejaaW.PrintWords Go.Proofs.YtbjeegkmafbejaaW.PrintLast
theorem u8_in {a0 : Int} (hw : (Lit.int .u8 a0).wf = true) : 0 ≤ a0 ∧ a0 ≤ 255 := by
  have hw : (decide (IntKind.u8.min ≤ a0) && decide (a0 ≤ IntKind.u8.max)) = true := hw
  rwa [show IntKind.u8.min = 0 from by decide, show IntKind.u8.max = 255 from by decide, Bool.and_eq_true, decide_eq_true_eq, decide_eq_true_eq] at hw
theorem PieceBack : phalaropelaw11_PieceBack.Pure := fun a0 a1 a2 hw _ _ => PieceBack_pure a0 a1 a2 (u8_in hw).1 (u8_in hw).2
end Go.Proofs.Ytbjeegkmafbejaa.Pure
-- Printed by wip/xprint.py of this claim's authors, over the kit's print; not trusted: Lean checks it.
namespace Go.Proofs.Ytbjeegkmafbejaa.pieceBack
open Go.ChangeShapes Go.WideShapes Go.ChangeAt Go.RowKit
open Go.ChangeMaps (open_string shut_string)
set_option linter.unusedVariables false
theorem own : ownKnob Try.prog.godebug = none := by kernel_rfl
set_option maxRecDepth 100000 in
theorem lifted (os : Os) (started : os.Started) (H : Type) (enc : TypeId × Value → H) :
    ReturnsInHanded {} Try.checked os 7 .any (Rows.pieceBackSpec.pre6 enc Try.prog Try.f7 Rows.pieceBackRow.domain false) (Rows.pieceBackSpec.post enc Try.prog Try.f7 false true false false) := by
  refine returnsInHanded_of_change_sized (C := Try.checked) own started (by kernel_rfl) Try.func7
    (ChangeSpec.witness6 (enc := enc) (C := Try.checked) false ⟨#[], #[.int .u8 0, .string ByteArray.empty, .string ByteArray.empty], []⟩ 8 (by kernel_rfl) (by kernel_rfl) (by kernel_rfl) (by kernel_rfl)) ?_
  intro W base args ds gs before hval0 hW hcnd hsz0 _
  have hsz : (DataW.weightsEach Try.prog (Try.f7.params.toList ++ Rows.pieceBackSpec.plain.varTypes Try.prog) (ds ++ gs)).all (· ≤ reachBytes) = true := hsz0
  have hval : ∀ (j : Nat) t v, Try.f7.params[j]? = some t → args[j]? = some v → Value.okWide Try.prog W .any base t v := hval0
  have hW' := hW
  obtain ⟨p, q, hA0, hV, rfl, hfz, hnd⟩ := hW
  have hA : DataW.TrodAll enc Try.prog W 0 (fun _ => true) true Try.f7.params.toList args.toList ds p := hA0
  rw [Try.params7] at hA hval hsz
  obtain ⟨v0, vs0, d0, ds0, p0, q0, hargs, rfl, rfl, h0, r0⟩ := trodAll_cons hA
  obtain ⟨v1, vs1, d1, ds1, p1, q1, rfl, rfl, rfl, h1, r1⟩ := trodAll_cons r0
  obtain ⟨v2, vs2, d2, ds2, p2, q2, rfl, rfl, rfl, h2, r2⟩ := trodAll_cons r1
  obtain ⟨rfl, rfl, rfl⟩ := trodAll_nil r2
  obtain rfl : args = #[v0, v1, v2] := by cases args; simp_all
  obtain ⟨rfl, rfl⟩ := trodVars_none hV
  obtain ⟨a0, rfl, rfl, rfl, w0⟩ := open_int Try.underlying5 (hval 0 5 v0 rfl rfl) h0
  obtain ⟨a1, rfl, rfl, rfl, y1⟩ := open_string Try.underlying9 (hval 1 9 v1 rfl rfl) h1
  have w1 : a1.size ≤ 140737488351232 := by
    have z := sized_string hsz (j := 1) (t := 9) rfl rfl
    rw [Array.length_toList] at z
    exact z
  obtain ⟨a2, rfl, rfl, rfl, y2⟩ := open_string Try.underlying9 (hval 2 9 v2 rfl rfl) h2
  have w2 : a2.size ≤ 140737488351232 := by
    have z := sized_string hsz (j := 2) (t := 9) rfl rfl
    rw [Array.length_toList] at z
    exact z
  clear hA0 hval0 hsz0 hsz
  refine (PL.phalaropelaw11_PieceBack.walk Pure.PieceBack a0 a1 a2 W w0 w1 w2).mono fun e W' ⟨he, bel⟩ => ?_
  subst he
  exact ⟨_, rfl, _, _, _, [], _, [], hW', trodAll_mk1 (shut_bool Try.underlying4 _), (trodAll_cons_mk (shut_int Try.underlying5 w0) (trodAll_cons_mk (shut_string Try.underlying9 y1) (trodAll_cons_mk (shut_string Try.underlying9 y2) trodAll_mk0))), rfl, bel.frame _, fun h => by cases h⟩
theorem over : Rows.pieceBackRow.holds Try.pinned (OpenSpec.ofChange Rows.pieceBackSpec) :=
  OpenClaim.holds_of_wide 7 Try.f7 rfl rfl rfl rfl rfl rfl rfl ⟨rfl, rfl, rfl, rfl, rfl⟩ rfl rfl rfl rfl rfl (by kernel_rfl) Try.func7 (by kernel_rfl)
    (of_decide_eq_true (by kernel_rfl)) (by unfold Func.isWrapper; first | (rw [if_pos (by decide +kernel)]; kernel_rfl) | (rw [if_neg (by decide +kernel)]; exact ⟨rfl, rfl⟩))
    (fun os started H enc _ => lifted os started H enc)
theorem proved : Rows.PieceBackSaid := over
#print axioms proved
end Go.Proofs.Ytbjeegkmafbejaa.pieceBack
namespace Go.Proofs.Ytbjeegkmafbejaa
/-- The row, under a short name, for the claim. -/
theorem pieceBack_holds : Rows.PieceBackSaid := pieceBack.proved
end Go.Proofs.Ytbjeegkmafbejaa
