-- Printed by wip/xprint.py of this claim's authors, over the kit's print; not trusted: Lean checks it.
import Derived.Test.YtjhihohofhhknaaPAx0
import Derived.Test.YtjhihohofhhknaaPAx3
import Derived.Test.YtjhihohofhhknaaPAx4
import Derived.Test.YtjhihohofhhknaaPAx5
namespace Go.Proofs.Ytjhihohofhhknaa.PA
open Go.RowKit Go.Proofs.YtjhihohofhhknaaW.PrintWords Go.Proofs.YtjhihohofhhknaaW.PrintLast Go.Proofs.YtjhihohofhhknaaW.PrintMore
attribute [local go_sem] max2_int min2_int max_two min_two max_three min_three max_four min_four   -- for this text's walks alone
set_option linter.unusedVariables false
set_option linter.unusedSimpArgs false

theorem nar_pure {P : Program} {ops : Array Oper} {rest : List Oper} {o : Oper} {a : Act} {Q : Exit → Act → World → Prop} {W : World} (v : Value) (hgd : o.guard = none) (hrun : (execOp a.eval o).run P W = .ok (.value v) W) (h : wpList P ops Q rest (a.put o.dst v) W) : wpList P ops Q (o :: rest) a W := Kd.event_run hgd hrun h
theorem nar_load {W : World} {B : Nat} {s : ByteArray} {n : Int} {b : Bool} {c m : Int} {ops : Array Oper} {rest : List Oper} {o : Oper} {a : Act} {Q : Exit → Act → World → Prop} (hB : W.heap[B]? = some (.cells #[.string s, .int .i64 n, .bool b, .int .i64 c, .int .i64 m] 30 (0, 0))) (hgd : o.guard = none) (ho : o.op = .load 30 (.tmp 10)) (hx : a.eval (.tmp 10) = .pointer (some ⟨B, 0, none⟩)) (h : wpList Try.prog ops Q rest (a.put o.dst (.agg #[.string s, .int .i64 n, .bool b, .int .i64 c, .int .i64 m])) W) : wpList Try.prog ops Q (o :: rest) a W := by
  have c0 := (blk_cell hB 0).trans rfl
  have c1 := (blk_cell hB 1).trans rfl
  have c2 := (blk_cell hB 2).trans rfl
  have c3 := (blk_cell hB 3).trans rfl
  have c4 := (blk_cell hB 4).trans rfl
  refine nar_pure (.agg #[.string s, .int .i64 n, .bool b, .int .i64 c, .int .i64 m]) hgd ?_ h
  unfold execOp
  rw [ho]
  simp only [hx]
  go_simp
/-! ### phalaropelaw15_FitNarrower: function 3 -/
mutual
def phalaropelaw15_FitNarrower.j0 : Nat → List (S42) → List (S30) → Int → Bool → Bool → Option (Bool)
  | 0, _, _, _, _, _ => none
  | k + 1, x0, x1, x2, x7, x26 => if x26 = true then (some x7) else (phalaropelaw15_FitNarrower.l0 k x0 x1 x2 x7 ([] : List (S30)) 0)
def phalaropelaw15_FitNarrower.l0 : Nat → List (S42) → List (S30) → Int → Bool → List (S30) → Int → Option (Bool)
  | 0, _, _, _, _, _, _ => none
  | k + 1, x0, x1, x2, x7, x8, x9 => if x9 < (x1.length : Int) then (if 0 ≤ x9 then (if x8.length < 2932031007402 then (phalaropelaw15_FitNarrower.l0 k x0 x1 x2 x7 (x8 ++ [(⟨(rd_T30 x1 x9).f0, (rd_T30 x1 x9).f1, (rd_T30 x1 x9).f2, mx (wrap64 (((rd_T30 x1 x9).f3) - 1)) 1, (rd_T30 x1 x9).f4⟩ : S30)]) (wrap64 (x9 + 1))) else (none)) else (none)) else (if (wrap64 ((x0.length : Int) + 1)) = 0 then (none) else (if x7 = true then ((fit_Fit.f x0 x8).bind fun t147 => (if t147 = 0 then (if 0 ≤ (Int.tmod (wrap64 (x2)) (wrap64 ((x0.length : Int) + 1))) then (if (Int.tmod (wrap64 (x2)) (wrap64 ((x0.length : Int) + 1))) ≤ (x0.length : Int) then ((fit_Fit.f (x0.take ((Int.tmod (wrap64 (x2)) (wrap64 ((x0.length : Int) + 1))) : Int).toNat) x1).bind fun t152 => (some (t152 == 0))) else (none)) else (none)) else (some false))) else (some false)))
end
def phalaropelaw15_FitNarrower.f (k : Nat) (l0 : List (S42)) (l1 : List (S30)) (a2 : Int) : Option (Bool) := (phalaropelaw15_awake.f).bind fun t138 => ((phalaroperef07_Few.f k l0).bind fun t139 => (if t139 = true then ((phalaroperef14_Few.f k l1).bind fun t140 => (if t140 = true then ((fit_Fit.f l0 l1).bind fun t141 => (phalaropelaw15_FitNarrower.j0 k l0 l1 a2 t138 (t141 != 0))) else (phalaropelaw15_FitNarrower.j0 k l0 l1 a2 t138 true))) else (phalaropelaw15_FitNarrower.j0 k l0 l1 a2 t138 true)))
theorem phalaropelaw15_FitNarrower.mono_l : ∀ k, (∀ y0 y1 y2 y3 y4, LeO (phalaropelaw15_FitNarrower.j0 k y0 y1 y2 y3 y4) (phalaropelaw15_FitNarrower.j0 (k + 1) y0 y1 y2 y3 y4)) ∧ (∀ y0 y1 y2 y3 y4 y5, LeO (phalaropelaw15_FitNarrower.l0 k y0 y1 y2 y3 y4 y5) (phalaropelaw15_FitNarrower.l0 (k + 1) y0 y1 y2 y3 y4 y5))
  | 0 => ⟨fun _ _ _ _ _ r h => by simp [phalaropelaw15_FitNarrower.j0] at h, fun _ _ _ _ _ _ r h => by simp [phalaropelaw15_FitNarrower.l0] at h⟩
  | k + 1 => by
    obtain ⟨ih0, ih1⟩ := phalaropelaw15_FitNarrower.mono_l k
    refine ⟨?_, ?_⟩
    · intro y0 y1 y2 y3 y4
      unfold phalaropelaw15_FitNarrower.j0
      repeat' first
      | (with_reducible exact ih0 _ _ _ _ _)
      | (with_reducible exact ih1 _ _ _ _ _ _)
      | (with_reducible exact phalaroperef07_Few.mono _ _)
      | (with_reducible exact phalaroperef14_Few.mono _ _)
      | (with_reducible exact LeO.refl _)
      | (with_reducible exact LeO.none _)
      | (with_reducible refine LeO.ite ?_ ?_)
      | (with_reducible refine LeO.bind ?_ (fun _ => ?_))
      | exact ih0 _ _ _ _ _
      | exact ih1 _ _ _ _ _ _
      | exact phalaroperef07_Few.mono _ _
      | exact phalaroperef14_Few.mono _ _
      | exact LeO.none _
      | refine LeO.ite ?_ ?_
      | refine LeO.bind ?_ (fun _ => ?_)
    · intro y0 y1 y2 y3 y4 y5
      unfold phalaropelaw15_FitNarrower.l0
      repeat' first
      | (with_reducible exact ih0 _ _ _ _ _)
      | (with_reducible exact ih1 _ _ _ _ _ _)
      | (with_reducible exact phalaroperef07_Few.mono _ _)
      | (with_reducible exact phalaroperef14_Few.mono _ _)
      | (with_reducible exact LeO.refl _)
      | (with_reducible exact LeO.none _)
      | (with_reducible refine LeO.ite ?_ ?_)
      | (with_reducible refine LeO.bind ?_ (fun _ => ?_))
      | exact ih0 _ _ _ _ _
      | exact ih1 _ _ _ _ _ _
      | exact phalaroperef07_Few.mono _ _
      | exact phalaroperef14_Few.mono _ _
      | exact LeO.none _
      | refine LeO.ite ?_ ?_
      | refine LeO.bind ?_ (fun _ => ?_)
theorem phalaropelaw15_FitNarrower.mono : ∀ a0 a1 a2 k, LeO (phalaropelaw15_FitNarrower.f k a0 a1 a2) (phalaropelaw15_FitNarrower.f (k + 1) a0 a1 a2) := by
  intro a0 a1 a2 k
  obtain ⟨ih0, ih1⟩ := phalaropelaw15_FitNarrower.mono_l k
  unfold phalaropelaw15_FitNarrower.f
  repeat' first
      | (with_reducible exact ih0 _ _ _ _ _)
      | (with_reducible exact ih1 _ _ _ _ _ _)
      | (with_reducible exact phalaroperef07_Few.mono _ _)
      | (with_reducible exact phalaroperef14_Few.mono _ _)
      | (with_reducible exact LeO.refl _)
      | (with_reducible exact LeO.none _)
      | (with_reducible refine LeO.ite ?_ ?_)
      | (with_reducible refine LeO.bind ?_ (fun _ => ?_))
      | exact ih0 _ _ _ _ _
      | exact ih1 _ _ _ _ _ _
      | exact phalaroperef07_Few.mono _ _
      | exact phalaroperef14_Few.mono _ _
      | exact LeO.none _
      | refine LeO.ite ?_ ?_
      | refine LeO.bind ?_ (fun _ => ?_)
set_option maxHeartbeats 8000000 in
set_option maxRecDepth 100000 in
theorem phalaropelaw15_FitNarrower.calls (k : Nat) (A0 : Option Addr) (c0 : Nat) (l0 : List (S42)) (A1 : Option Addr) (c1 : Nat) (l1 : List (S30)) (a2 : Int) (r : Bool) (w : World) (hr0 : Kd.C k42 w A0 l0.length l0) (hc0 : l0.length ≤ c0) (hr1 : Kd.C k30 w A1 l1.length l1) (hc1 : l1.length ≤ c1) (h : phalaropelaw15_FitNarrower.f k l0 l1 a2 = some r) :
    Calls Try.prog 3 #[.slice A0 l0.length c0, .slice A1 l1.length c1, .int .u8 a2] w fun e w' => e = .returned (.bool r) ∧ Below w.heap.size w w' := by
  have hu30 := Try.underlying30
  have HR0 := Aside0.mk hr0
  have HC0 := Aside0.mk hc0
  clear hr0 hc0
  have HR1 := Aside0.mk hr1
  have HC1 := Aside0.mk hc1
  clear hr1 hc1
  have HB := Aside0.mk (Below.refl w.heap.size w)
  have H : ((phalaropelaw15_awake.f).bind fun t138 => ((phalaroperef07_Few.f k l0).bind fun t139 => (if t139 = true then ((phalaroperef14_Few.f k l1).bind fun t140 => (if t140 = true then ((fit_Fit.f l0 l1).bind fun t141 => (phalaropelaw15_FitNarrower.j0 k l0 l1 a2 t138 (t141 != 0))) else (phalaropelaw15_FitNarrower.j0 k l0 l1 a2 t138 true))) else (phalaropelaw15_FitNarrower.j0 k l0 l1 a2 t138 true)))) = some r := h
  clear h
  replace H := Option.bind_eq_some_iff.mp H
  obtain ⟨t138, A40, H⟩ := H
  replace H : ((phalaroperef07_Few.f k l0).bind fun t139 => (if t139 = true then ((phalaroperef14_Few.f k l1).bind fun t140 => (if t140 = true then ((fit_Fit.f l0 l1).bind fun t141 => (phalaropelaw15_FitNarrower.j0 k l0 l1 a2 t138 (t141 != 0))) else (phalaropelaw15_FitNarrower.j0 k l0 l1 a2 t138 true))) else (phalaropelaw15_FitNarrower.j0 k l0 l1 a2 t138 true))) = some r := H
  have A4 := Aside0.mk A40
  clear A40
  have HC5 := Aside0.mk H
  clear H
  go_enter Try.func3, Try.ntmps3
  go_upto_region 2 with (first | ((with_reducible refine gate_callee (f := 6) rfl ?_); refine goesL_ (some 12) rfl rfl Try.func6 (by kernel_rfl) rfl #[] rfl (by (try simp only [List.map_toArray, List.map_cons, List.map_nil]); first | done | rfl | (simp only [List.length_drop, List.length_take]; rfl)) ?_; (with_reducible refine (phalaropelaw15_awake.calls  t138 _ A4.out).mono ?_); rintro e w6 ⟨rfl, hb⟩; refine ⟨_, rfl, ?_⟩; have n0_ := Aside0.mk (below_step (by repeat (first | (with_reducible first | exact HB.out | apply below_alloc | apply pw_below_drewN | apply below_drew1) | exact HB.out)) hb); clear HB; have HB := n0_; clear n0_; (try clear hb); (try clear hb2); (try clear hk); (try clear hi)))
  (try simp only [Act.put, List.setIfInBounds_toArray, List.set_cons_zero, List.set_cons_succ])
  go_cut [26] (fun v26 wc => ∃ (kq : Nat) (x26_4 : Bool), v26 = .bool x26_4 ∧ Aside0 (phalaropelaw15_FitNarrower.j0 kq l0 l1 a2 t138 x26_4 = some r) ∧ Aside0 (kq ≤ k) ∧ Aside0 (Below w.heap.size w wc))
  case first =>
    have H := HC5.out
    clear HC5
    replace H := Option.bind_eq_some_iff.mp H
    obtain ⟨t139, A70, H⟩ := H
    replace H : (if t139 = true then ((phalaroperef14_Few.f k l1).bind fun t140 => (if t140 = true then ((fit_Fit.f l0 l1).bind fun t141 => (phalaropelaw15_FitNarrower.j0 k l0 l1 a2 t138 (t141 != 0))) else (phalaropelaw15_FitNarrower.j0 k l0 l1 a2 t138 true))) else (phalaropelaw15_FitNarrower.j0 k l0 l1 a2 t138 true)) = some r := H
    have A7 := Aside0.mk A70
    clear A70
    by_cases c8 : t139 = true
    · subst c8
      have H1 : ((phalaroperef14_Few.f k l1).bind fun t140 => (if t140 = true then ((fit_Fit.f l0 l1).bind fun t141 => (phalaropelaw15_FitNarrower.j0 k l0 l1 a2 t138 (t141 != 0))) else (phalaropelaw15_FitNarrower.j0 k l0 l1 a2 t138 true))) = some r := by rw [if_pos rfl] at H; exact H
      clear H
      have H := H1
      clear H1
      replace H := Option.bind_eq_some_iff.mp H
      obtain ⟨t140, A90, H⟩ := H
      replace H : (if t140 = true then ((fit_Fit.f l0 l1).bind fun t141 => (phalaropelaw15_FitNarrower.j0 k l0 l1 a2 t138 (t141 != 0))) else (phalaropelaw15_FitNarrower.j0 k l0 l1 a2 t138 true)) = some r := H
      have A9 := Aside0.mk A90
      clear A90
      by_cases c10 : t140 = true
      · subst c10
        have H1 : ((fit_Fit.f l0 l1).bind fun t141 => (phalaropelaw15_FitNarrower.j0 k l0 l1 a2 t138 (t141 != 0))) = some r := by rw [if_pos rfl] at H; exact H
        clear H
        have H := H1
        clear H1
        replace H := Option.bind_eq_some_iff.mp H
        obtain ⟨t141, A110, H⟩ := H
        replace H : (phalaropelaw15_FitNarrower.j0 k l0 l1 a2 t138 (t141 != 0)) = some r := H
        have A11 := Aside0.mk A110
        clear A110
        have H' := Aside0.mk H
        clear H
        go_wp2_with (first | ((with_reducible refine gate_callee (f := 7) rfl ?_); refine goesL_ (some 14) rfl rfl Try.func7 (by kernel_rfl) rfl #[.slice A0 l0.length c0] rfl (by (try simp only [List.map_toArray, List.map_cons, List.map_nil]); first | done | rfl | (simp only [List.length_drop, List.length_take]; rfl)) ?_; (with_reducible refine (phalaroperef07_Few.calls k _ _ l0 true _ ?side1 ?side2 A7.out).mono ?_); (case side1 => repeat (first | exact (Kd.C_below HR0.out HB.out) | (with_reducible refine Kd.C_alloc ?_ _) | (with_reducible refine Kd.C_drewN ?_ _) | (with_reducible refine Kd.C_drew ?_))); (case side2 => exact HC0.out); rintro e w' ⟨rfl, ⟨nd, rfl⟩⟩; refine ⟨_, rfl, ?_⟩) | (go_at_call 8; (with_reducible refine (phalaroperef14_Few.calls k _ _ l1 true _ ?side1 ?side2 A9.out).mono ?_); (case side1 => repeat (first | exact (Kd.C_below HR1.out (by repeat (first | (with_reducible first | exact HB.out | apply below_alloc | apply pw_below_drewN | apply below_drew1) | exact HB.out))) | (with_reducible refine Kd.C_alloc ?_ _) | (with_reducible refine Kd.C_drewN ?_ _) | (with_reducible refine Kd.C_drew ?_))); (case side2 => exact HC1.out); rintro e w' ⟨rfl, ⟨nd, rfl⟩⟩) | (go_at_call 9; (with_reducible refine (fit_Fit.calls _ _ l0 _ _ l1 t141 _ ?side1 ?side2 ?side3 ?side4 A11.out).mono ?_); (case side1 => repeat (first | exact (Kd.C_below HR0.out (by repeat (first | (with_reducible first | exact HB.out | apply below_alloc | apply pw_below_drewN | apply below_drew1) | exact HB.out))) | (with_reducible refine Kd.C_alloc ?_ _) | (with_reducible refine Kd.C_drewN ?_ _) | (with_reducible refine Kd.C_drew ?_))); (case side2 => exact HC0.out); (case side3 => repeat (first | exact (Kd.C_below HR1.out (by repeat (first | (with_reducible first | exact HB.out | apply below_alloc | apply pw_below_drewN | apply below_drew1) | exact HB.out))) | (with_reducible refine Kd.C_alloc ?_ _) | (with_reducible refine Kd.C_drewN ?_ _) | (with_reducible refine Kd.C_drew ?_))); (case side4 => exact HC1.out); rintro e w12 ⟨rfl, hb⟩; have n0_ := Aside0.mk (below_step (by repeat (first | (with_reducible first | exact HB.out | apply below_alloc | apply pw_below_drewN | apply below_drew1) | exact HB.out)) hb); clear HB; have HB := n0_; clear n0_; (try clear hb); (try clear hb2); (try clear hk); (try clear hi)))
        go_meet
        case rel => exact ⟨_, ((t141 != 0)), (by first | rfl | (simp; done) | (simp [*]; done)), H', ⟨by first | omega | exact Nat.le_refl _⟩, ⟨by repeat (first | (with_reducible first | exact HB.out | apply below_alloc | apply pw_below_drewN | apply below_drew1) | exact HB.out)⟩⟩
      · replace c10 := Bool.eq_false_iff.mpr c10
        subst c10
        have H1 : (phalaropelaw15_FitNarrower.j0 k l0 l1 a2 t138 true) = some r := by rw [if_neg (show ¬ (false = true) by decide)] at H; exact H
        clear H
        have H := H1
        clear H1
        have H' := Aside0.mk H
        clear H
        go_wp2_with (first | ((with_reducible refine gate_callee (f := 7) rfl ?_); refine goesL_ (some 14) rfl rfl Try.func7 (by kernel_rfl) rfl #[.slice A0 l0.length c0] rfl (by (try simp only [List.map_toArray, List.map_cons, List.map_nil]); first | done | rfl | (simp only [List.length_drop, List.length_take]; rfl)) ?_; (with_reducible refine (phalaroperef07_Few.calls k _ _ l0 true _ ?side1 ?side2 A7.out).mono ?_); (case side1 => repeat (first | exact (Kd.C_below HR0.out HB.out) | (with_reducible refine Kd.C_alloc ?_ _) | (with_reducible refine Kd.C_drewN ?_ _) | (with_reducible refine Kd.C_drew ?_))); (case side2 => exact HC0.out); rintro e w' ⟨rfl, ⟨nd, rfl⟩⟩; refine ⟨_, rfl, ?_⟩) | (go_at_call 8; (with_reducible refine (phalaroperef14_Few.calls k _ _ l1 false _ ?side1 ?side2 A9.out).mono ?_); (case side1 => repeat (first | exact (Kd.C_below HR1.out (by repeat (first | (with_reducible first | exact HB.out | apply below_alloc | apply pw_below_drewN | apply below_drew1) | exact HB.out))) | (with_reducible refine Kd.C_alloc ?_ _) | (with_reducible refine Kd.C_drewN ?_ _) | (with_reducible refine Kd.C_drew ?_))); (case side2 => exact HC1.out); rintro e w' ⟨rfl, ⟨nd, rfl⟩⟩))
        go_meet
        case rel => exact ⟨_, (true), (by first | rfl | (simp; done) | (simp [*]; done)), H', ⟨by first | omega | exact Nat.le_refl _⟩, ⟨by repeat (first | (with_reducible first | exact HB.out | apply below_alloc | apply pw_below_drewN | apply below_drew1) | exact HB.out)⟩⟩
    · replace c8 := Bool.eq_false_iff.mpr c8
      subst c8
      have H1 : (phalaropelaw15_FitNarrower.j0 k l0 l1 a2 t138 true) = some r := by rw [if_neg (show ¬ (false = true) by decide)] at H; exact H
      clear H
      have H := H1
      clear H1
      have H' := Aside0.mk H
      clear H
      go_wp2_with (first | ((with_reducible refine gate_callee (f := 7) rfl ?_); refine goesL_ (some 14) rfl rfl Try.func7 (by kernel_rfl) rfl #[.slice A0 l0.length c0] rfl (by (try simp only [List.map_toArray, List.map_cons, List.map_nil]); first | done | rfl | (simp only [List.length_drop, List.length_take]; rfl)) ?_; (with_reducible refine (phalaroperef07_Few.calls k _ _ l0 false _ ?side1 ?side2 A7.out).mono ?_); (case side1 => repeat (first | exact (Kd.C_below HR0.out HB.out) | (with_reducible refine Kd.C_alloc ?_ _) | (with_reducible refine Kd.C_drewN ?_ _) | (with_reducible refine Kd.C_drew ?_))); (case side2 => exact HC0.out); rintro e w' ⟨rfl, ⟨nd, rfl⟩⟩; refine ⟨_, rfl, ?_⟩))
      go_meet
      case rel => exact ⟨_, (true), (by first | rfl | (simp; done) | (simp [*]; done)), H', ⟨by first | omega | exact Nat.le_refl _⟩, ⟨by repeat (first | (with_reducible first | exact HB.out | apply below_alloc | apply pw_below_drewN | apply below_drew1) | exact HB.out)⟩⟩
  case rest =>
    clear HC5
    try clear c1
    try clear p2
    try clear c3
    try clear c6
    try clear c7
    try clear c8
    try clear c10
    obtain ⟨kq, x26_4, rfl, HA, HJ4, HB⟩ := hcut
    cases kq with
    | zero => exact absurd HA.out (by simp [phalaropelaw15_FitNarrower.j0])
    | succ kj4 =>
      have H := HA.out
      clear HA
      simp only [phalaropelaw15_FitNarrower.j0] at H
      by_cases c13 : x26_4 = true
      · subst c13
        have H1 : (some t138) = some r := by rw [if_pos rfl] at H; exact H
        clear H
        have H := H1
        clear H1
        obtain rfl := Option.some.inj H
        go_wp2
        go_ret
        exact ⟨by first | rfl | (simp [errW_none, errW_some] <;> rfl) | (simp [*, errW_none, errW_some] <;> rfl), by repeat (first | (with_reducible first | exact HB.out | apply below_alloc | apply pw_below_drewN | apply below_drew1) | exact HB.out)⟩
      · replace c13 := Bool.eq_false_iff.mpr c13
        subst c13
        have H1 : (phalaropelaw15_FitNarrower.l0 kj4 l0 l1 a2 t138 ([] : List (S30)) 0) = some r := by rw [if_neg (show ¬ (false = true) by decide)] at H; exact H
        clear H
        have H := H1
        clear H1
        have H' := Aside0.mk H
        clear H
        go_wp2
        go_loopg [8, 9] kj4 (fun kq v8 v9 w' => ∃ (x8_2 : List (S30)) (x9_2 : Int), v9 = .int .i64 x9_2 ∧ Aside0 (phalaropelaw15_FitNarrower.l0 kq l0 l1 a2 t138 x8_2 x9_2 = some r) ∧ Aside0 (kq ≤ kj4) ∧ Aside0 (Kd.R k30 30 w' w.heap.size (fun _ => True) v8 x8_2) ∧ Aside0 (Below w.heap.size w w'))
        case atStart => exact ⟨(([] : List (S30))), (0), (by first | rfl | (simp; done) | (simp [*]; done)), H', ⟨Nat.le_refl _⟩, ⟨by first | exact Kd.R_nil _ _ _ _ _ | exact Kd.N_nil _ _ _ _ _ | exact Kd.V_nil _ _ _ _ _ | exact Kd.Q_nil _ _ _ _ _ | exact Kd.S_nil _ _ _ _ _⟩, ⟨by repeat (first | (with_reducible first | exact HB.out | apply below_alloc | apply pw_below_drewN | apply below_drew1) | exact HB.out)⟩⟩
        case round =>
          clear H'
          try clear c1
          try clear p2
          try clear c3
          try clear c6
          try clear c7
          try clear c8
          try clear c10
          try clear c13
          try clear p2
          obtain ⟨x8_2, x9_2, rfl, HA, HK2, HO_8, HB⟩ := hrel
          cases gk with
          | zero => exact absurd HA.out (by simp [phalaropelaw15_FitNarrower.l0])
          | succ k2 =>
            have H := HA.out
            clear HA
            simp only [phalaropelaw15_FitNarrower.l0] at H
            by_cases c14 : x9_2 < (l1.length : Int)
            · rw [if_pos c14] at H
              have c14b0 : decide (x9_2 < (l1.length : Int)) = true := decide_eq_true c14
              clear c14
              by_cases c15 : 0 ≤ x9_2
              · rw [if_pos c15] at H
                have c15b0 : decide (0 ≤ x9_2) = true := decide_eq_true c15
                clear c15
                obtain ⟨ji16, hji16⟩ : ∃ j_ : Int, (mx (wrap64 (((rd_T30 l1 x9_2).f3) - 1)) 1) = j_ := ⟨_, rfl⟩
                replace H : (if x8_2.length < 2932031007402 then (phalaropelaw15_FitNarrower.l0 k2 l0 l1 a2 t138 (x8_2 ++ [(⟨(rd_T30 l1 x9_2).f0, (rd_T30 l1 x9_2).f1, (rd_T30 l1 x9_2).f2, ji16, (rd_T30 l1 x9_2).f4⟩ : S30)]) (wrap64 (x9_2 + 1))) else (none)) = some r := by first | (rw [hji16] at H; exact H) | (simp only [hji16] at H ⊢; exact H)
                have hji16_ : (if (wrap64 (((rd_T30 l1 x9_2).f3) - 1)) < 1 then 1 else (wrap64 (((rd_T30 l1 x9_2).f3) - 1))) = ji16 := hji16
                by_cases c17 : x8_2.length < 2932031007402
                · rw [if_pos c17] at H
                  have LMc17 := Aside0.mk c17
                  clear c17
                  obtain ⟨y144, hy144⟩ : ∃ y_ : List (S30), y_ = (x8_2 ++ [(⟨(rd_T30 l1 x9_2).f0, (rd_T30 l1 x9_2).f1, (rd_T30 l1 x9_2).f2, ji16, (rd_T30 l1 x9_2).f4⟩ : S30)]) := ⟨_, rfl⟩
                  replace H : (phalaropelaw15_FitNarrower.l0 k2 l0 l1 a2 t138 y144 (wrap64 (x9_2 + 1))) = some r := by first | (rw [hy144]; with_reducible exact H) | (have H2_ := (Option.bind_some _ _).symm.trans H; rw [hy144]; with_reducible exact H2_) | (have H2_ := (Option.bind_some _ _).symm.trans H; with_reducible exact H2_) | with_reducible exact H | (rw [hy144]; exact H) | exact H
                  have Ny144 := Aside0.mk hy144
                  clear hy144
                  have H' := Aside0.mk H
                  clear H
                  have p142 : 0 ≤ (x9_2 : Int) := of_decide_eq_true (by first | (with_reducible assumption) | assumption)
                  have q142 : x9_2 < (l1.length : Int) := of_decide_eq_true (by first | (with_reducible assumption) | assumption)
                  obtain ⟨ad142, e142, hx142_0, hx142_1, hx142_2, hx142_3, hx142_4⟩ := at_T30 HR1.out x9_2 p142 q142
                  cases e142
                  replace hx142_0 := (HB.out.cell (World.block_lt_of_cell? w _ hx142_0)).trans hx142_0
                  replace hx142_1 := (HB.out.cell (World.block_lt_of_cell? w _ hx142_1)).trans hx142_1
                  replace hx142_2 := (HB.out.cell (World.block_lt_of_cell? w _ hx142_2)).trans hx142_2
                  replace hx142_3 := (HB.out.cell (World.block_lt_of_cell? w _ hx142_3)).trans hx142_3
                  replace hx142_4 := (HB.out.cell (World.block_lt_of_cell? w _ hx142_4)).trans hx142_4
                  replace p142 := eq_true p142
                  replace q142 := eq_true q142
                  go_wp2_with (first | ((with_reducible refine gate_builtin (b := .max) (xs := #[.tmp 40, .const (.int .i64 1)]) rfl ?_); refine nar_pure (.int .i64 ji16) ?mg ?mr ?_; (case mg => rfl); (case mr => go_simp)) | ((with_reducible refine gate_dst (N := 44) rfl ?_); refine nar_load (B := gb143) (s := (rd_T30 l1 x9_2).f0) (n := (rd_T30 l1 x9_2).f1) (b := (rd_T30 l1 x9_2).f2) (c := ji16) (m := (rd_T30 l1 x9_2).f4) ?lb ?lg ?lo ?lx ?_; (case lg => rfl); (case lo => rfl); (case lx => rfl); (case lb => (with_reducible repeat (first | refine blk_drewN ?_ _ | refine blk_drew ?_ | refine blk_alloc ?_ _)); refine blk_put (cs := #[.string ((rd_T30 l1 x9_2).f0), .int .i64 ((rd_T30 l1 x9_2).f1), .bool ((rd_T30 l1 x9_2).f2), .int .i64 ((rd_T30 l1 x9_2).f3), .int .i64 ((rd_T30 l1 x9_2).f4)]) ?_ 3 _ rfl; (with_reducible repeat (first | refine blk_drewN ?_ _ | refine blk_drew ?_ | refine blk_alloc ?_ _)); refine blk_put (cs := #[.string ((rd_T30 l1 x9_2).f0), .int .i64 ((rd_T30 l1 x9_2).f1), .bool ((rd_T30 l1 x9_2).f2), .int .i64 ((rd_T30 l1 x9_2).f3), .int .i64 0]) ?_ 4 _ rfl; (with_reducible repeat (first | refine blk_drewN ?_ _ | refine blk_drew ?_ | refine blk_alloc ?_ _)); refine blk_put (cs := #[.string ((rd_T30 l1 x9_2).f0), .int .i64 ((rd_T30 l1 x9_2).f1), .bool ((rd_T30 l1 x9_2).f2), .int .i64 0, .int .i64 0]) ?_ 3 _ rfl; (with_reducible repeat (first | refine blk_drewN ?_ _ | refine blk_drew ?_ | refine blk_alloc ?_ _)); refine blk_put (cs := #[.string ((rd_T30 l1 x9_2).f0), .int .i64 ((rd_T30 l1 x9_2).f1), .bool false, .int .i64 0, .int .i64 0]) ?_ 2 _ rfl; (with_reducible repeat (first | refine blk_drewN ?_ _ | refine blk_drew ?_ | refine blk_alloc ?_ _)); refine blk_put (cs := #[.string ((rd_T30 l1 x9_2).f0), .int .i64 0, .bool false, .int .i64 0, .int .i64 0]) ?_ 1 _ rfl; (with_reducible repeat (first | refine blk_drewN ?_ _ | refine blk_drew ?_ | refine blk_alloc ?_ _)); refine blk_put (cs := #[.string (⟨#[]⟩ : ByteArray), .int .i64 0, .bool false, .int .i64 0, .int .i64 0]) ?_ 0 _ rfl; (with_reducible repeat (first | refine blk_drewN ?_ _ | refine blk_drew ?_ | refine blk_alloc ?_ _)); exact BK143.out)) | ((with_reducible refine gate_dst (N := 10) rfl ?_); refine box_event ?hg (N := 10) ?hd (cs := #[.string (⟨#[]⟩ : ByteArray), .int .i64 0, .bool false, .int .i64 0, .int .i64 0]) (t := 30) ?hr ?_; (case hd => rfl); (case hg => rfl); (case hr => first | (go_simp; done) | (go_simp; rfl)); intro gb143 hg w18 hbox hb; have n0_ := Aside0.mk (Kd.R_below (Kd.R_elderB (by (with_reducible repeat (first | apply Kd.R_alloc | apply Kd.R_drewN | apply Kd.R_drew)); exact HO_8.out) gb143 (Nat.le_of_eq hg.symm)) hb); have n1_ := Aside0.mk (below_step (by repeat (first | (with_reducible first | exact HB.out | apply below_alloc | apply pw_below_drewN | apply below_drew1) | exact HB.out)) hb); have n2_ := Aside0.mk (hbox); have n3_ := Aside0.mk ((by rw [hg]; exact (below_size (by repeat (first | (with_reducible first | exact HB.out | apply below_alloc | apply pw_below_drewN | apply below_drew1) | exact HB.out))) : w.heap.size ≤ gb143)); have n4_ := Aside0.mk ((by rw [hg]; exact (below_size (by repeat (first | (with_reducible first | exact HB.out | apply below_alloc | apply pw_below_drewN | apply below_drew1) | exact HB.out))) : w.heap.size ≤ gb143)); clear HO_8; clear HB; have HO_8 := n0_; have HB := n1_; have BK143 := n2_; have GW143 := n3_; have GE143 := n4_; clear n0_ n1_ n2_ n3_ n4_; clear hb hbox hg; have hcz19_0 : w18.cell? ⟨gb143, 0, none⟩ = some (.string (⟨#[]⟩ : ByteArray)) := (blk_cell BK143.out 0).trans rfl; have hcz19_1 : w18.cell? ⟨gb143, 1, none⟩ = some (.int .i64 0) := (blk_cell BK143.out 1).trans rfl; have hcz19_2 : w18.cell? ⟨gb143, 2, none⟩ = some (.bool false) := (blk_cell BK143.out 2).trans rfl; have hcz19_3 : w18.cell? ⟨gb143, 3, none⟩ = some (.int .i64 0) := (blk_cell BK143.out 3).trans rfl; have hcz19_4 : w18.cell? ⟨gb143, 4, none⟩ = some (.int .i64 0) := (blk_cell BK143.out 4).trans rfl; have hfz19_0 := blk_frozen BK143.out 0; have hfz19_1 := blk_frozen BK143.out 1; have hfz19_2 := blk_frozen BK143.out 2; have hfz19_3 := blk_frozen BK143.out 3; have hfz19_4 := blk_frozen BK143.out 4) | ((with_reducible refine gate_builtin (b := .append) (xs := #[.tmp 43, .tmp 45]) rfl ?_); at_builtin; refine Kd.R_append k30 (w0 := w) w.heap.size rfl (.tmp 43) (.tmp 45) 23 30 (.agg #[(.string ⟨#[]⟩), (.int .i64 0), (.bool false), (.int .i64 0), (.int .i64 0)]) 48 rfl Try.underlying23 info30 rfl (by decide) (by omega) u8 x8_2 (⟨(rd_T30 l1 x9_2).f0, (rd_T30 l1 x9_2).f1, (rd_T30 l1 x9_2).f2, ji16, (rd_T30 l1 x9_2).f4⟩ : S30) [.string ((rd_T30 l1 x9_2).f0), .int .i64 ((rd_T30 l1 x9_2).f1), .bool ((rd_T30 l1 x9_2).f2), .int .i64 ji16, .int .i64 ((rd_T30 l1 x9_2).f4)] (fun k_ => k_ ≠ gb143) (fun _ => False) rfl (by first | (go_simp; done) | (go_simp; rfl)) ?aP (fun _ hk => hk.elim) ?aF ?aO ?aB ?aS ?aL ?_; (case aP => exact k30_mkM _ _ _ (⟨(rd_T30 l1 x9_2).f0, (rd_T30 l1 x9_2).f1, (rd_T30 l1 x9_2).f2, ji16, (rd_T30 l1 x9_2).f4⟩ : S30)); (case aB => exact (by repeat (first | (with_reducible first | exact HB.out | apply below_alloc | apply pw_below_drewN | apply below_drew1 | refine below_set ?_ GE143.out) | exact HB.out))); (case aF => exact (fun k_ hk => Kd.freshB (g := gb143) (o := .cells #[.string ((rd_T30 l1 x9_2).f0), .int .i64 ((rd_T30 l1 x9_2).f1), .bool ((rd_T30 l1 x9_2).f2), .int .i64 ji16, .int .i64 ((rd_T30 l1 x9_2).f4)] 30 (0, 0)) (by (with_reducible repeat (first | refine blk_drewN ?_ _ | refine blk_drew ?_ | refine blk_alloc ?_ _)); refine blk_put (cs := #[.string ((rd_T30 l1 x9_2).f0), .int .i64 ((rd_T30 l1 x9_2).f1), .bool ((rd_T30 l1 x9_2).f2), .int .i64 ((rd_T30 l1 x9_2).f3), .int .i64 ((rd_T30 l1 x9_2).f4)]) ?_ 3 _ rfl; (with_reducible repeat (first | refine blk_drewN ?_ _ | refine blk_drew ?_ | refine blk_alloc ?_ _)); refine blk_put (cs := #[.string ((rd_T30 l1 x9_2).f0), .int .i64 ((rd_T30 l1 x9_2).f1), .bool ((rd_T30 l1 x9_2).f2), .int .i64 ((rd_T30 l1 x9_2).f3), .int .i64 0]) ?_ 4 _ rfl; (with_reducible repeat (first | refine blk_drewN ?_ _ | refine blk_drew ?_ | refine blk_alloc ?_ _)); refine blk_put (cs := #[.string ((rd_T30 l1 x9_2).f0), .int .i64 ((rd_T30 l1 x9_2).f1), .bool ((rd_T30 l1 x9_2).f2), .int .i64 0, .int .i64 0]) ?_ 3 _ rfl; (with_reducible repeat (first | refine blk_drewN ?_ _ | refine blk_drew ?_ | refine blk_alloc ?_ _)); refine blk_put (cs := #[.string ((rd_T30 l1 x9_2).f0), .int .i64 ((rd_T30 l1 x9_2).f1), .bool false, .int .i64 0, .int .i64 0]) ?_ 2 _ rfl; (with_reducible repeat (first | refine blk_drewN ?_ _ | refine blk_drew ?_ | refine blk_alloc ?_ _)); refine blk_put (cs := #[.string ((rd_T30 l1 x9_2).f0), .int .i64 0, .bool false, .int .i64 0, .int .i64 0]) ?_ 1 _ rfl; (with_reducible repeat (first | refine blk_drewN ?_ _ | refine blk_drew ?_ | refine blk_alloc ?_ _)); refine blk_put (cs := #[.string (⟨#[]⟩ : ByteArray), .int .i64 0, .bool false, .int .i64 0, .int .i64 0]) ?_ 0 _ rfl; (with_reducible repeat (first | refine blk_drewN ?_ _ | refine blk_drew ?_ | refine blk_alloc ?_ _)); exact BK143.out) k_ hk)); (case aO => exact (by (with_reducible repeat (first | apply Kd.R_alloc | apply Kd.R_drewN | apply Kd.R_drew)); exact Kd.R_mono (Kd.R_far (p := ⟨gb143, 3, none⟩) (Kd.R_far (p := ⟨gb143, 4, none⟩) (Kd.R_far (p := ⟨gb143, 3, none⟩) (Kd.R_far (p := ⟨gb143, 2, none⟩) (Kd.R_far (p := ⟨gb143, 1, none⟩) (Kd.R_far (p := ⟨gb143, 0, none⟩) (Kd.R_mono HO_8.out (fun k_ hk => (⟨hk, hk.2⟩ : _ ∧ k_ ≠ gb143))) (fun _ hk => hk.2) (.string ((rd_T30 l1 x9_2).f0))) (fun _ hk => hk.2) (.int .i64 ((rd_T30 l1 x9_2).f1))) (fun _ hk => hk.2) (.bool ((rd_T30 l1 x9_2).f2))) (fun _ hk => hk.2) (.int .i64 ((rd_T30 l1 x9_2).f3))) (fun _ hk => hk.2) (.int .i64 ((rd_T30 l1 x9_2).f4))) (fun _ hk => hk.2) (.int .i64 ji16)) (fun _ hk => hk.1.2))); (case aS => exact (below_size (by repeat (first | (with_reducible first | exact HB.out | apply below_alloc | apply pw_below_drewN | apply below_drew1 | refine below_set ?_ GE143.out) | exact HB.out)))); (case aL => have := LMc17.out; omega); intro v145 w20 ho hb hg hat; rw [← Ny144.out] at ho; have n0_ := Aside0.mk (blk_grown (g := gb143) (o := .cells #[.string ((rd_T30 l1 x9_2).f0), .int .i64 ((rd_T30 l1 x9_2).f1), .bool ((rd_T30 l1 x9_2).f2), .int .i64 ji16, .int .i64 ((rd_T30 l1 x9_2).f4)] 30 (0, 0)) (by (with_reducible repeat (first | refine blk_drewN ?_ _ | refine blk_drew ?_ | refine blk_alloc ?_ _)); refine blk_put (cs := #[.string ((rd_T30 l1 x9_2).f0), .int .i64 ((rd_T30 l1 x9_2).f1), .bool ((rd_T30 l1 x9_2).f2), .int .i64 ((rd_T30 l1 x9_2).f3), .int .i64 ((rd_T30 l1 x9_2).f4)]) ?_ 3 _ rfl; (with_reducible repeat (first | refine blk_drewN ?_ _ | refine blk_drew ?_ | refine blk_alloc ?_ _)); refine blk_put (cs := #[.string ((rd_T30 l1 x9_2).f0), .int .i64 ((rd_T30 l1 x9_2).f1), .bool ((rd_T30 l1 x9_2).f2), .int .i64 ((rd_T30 l1 x9_2).f3), .int .i64 0]) ?_ 4 _ rfl; (with_reducible repeat (first | refine blk_drewN ?_ _ | refine blk_drew ?_ | refine blk_alloc ?_ _)); refine blk_put (cs := #[.string ((rd_T30 l1 x9_2).f0), .int .i64 ((rd_T30 l1 x9_2).f1), .bool ((rd_T30 l1 x9_2).f2), .int .i64 0, .int .i64 0]) ?_ 3 _ rfl; (with_reducible repeat (first | refine blk_drewN ?_ _ | refine blk_drew ?_ | refine blk_alloc ?_ _)); refine blk_put (cs := #[.string ((rd_T30 l1 x9_2).f0), .int .i64 ((rd_T30 l1 x9_2).f1), .bool false, .int .i64 0, .int .i64 0]) ?_ 2 _ rfl; (with_reducible repeat (first | refine blk_drewN ?_ _ | refine blk_drew ?_ | refine blk_alloc ?_ _)); refine blk_put (cs := #[.string ((rd_T30 l1 x9_2).f0), .int .i64 0, .bool false, .int .i64 0, .int .i64 0]) ?_ 1 _ rfl; (with_reducible repeat (first | refine blk_drewN ?_ _ | refine blk_drew ?_ | refine blk_alloc ?_ _)); refine blk_put (cs := #[.string (⟨#[]⟩ : ByteArray), .int .i64 0, .bool false, .int .i64 0, .int .i64 0]) ?_ 0 _ rfl; (with_reducible repeat (first | refine blk_drewN ?_ _ | refine blk_drew ?_ | refine blk_alloc ?_ _)); exact BK143.out) hg (Kd.R_away HO_8.out (fun _ hk => hk.2))); have n1_ := Aside0.mk (hb); have n2_ := Aside0.mk (ho); clear BK143; clear HB; clear HO_8; have BK143 := n0_; have HB := n1_; have HO146 := n2_; clear n0_ n1_ n2_; clear ho hb hg hat))
                  go_roundg k2
                  case measure => have := HJ4.out; have := HK2.out; omega
                  case rel => exact ⟨(y144), (wrap64 (x9_2 + 1)), (by first | rfl | (simp; done) | (simp [*]; done)), H', ⟨by have := HJ4.out; have := HK2.out; omega⟩, ⟨by (with_reducible repeat (first | apply Kd.R_alloc | apply Kd.R_drewN | apply Kd.R_drew)); exact Kd.R_mono HO146.out (fun _ hk => trivial)⟩, ⟨by repeat (first | (with_reducible first | exact HB.out | apply below_alloc | apply pw_below_drewN | apply below_drew1 | refine below_set ?_ GE143.out) | exact HB.out)⟩⟩
                · rw [if_neg c17] at H
                  exact absurd H (by simp)
              · rw [if_neg c15] at H
                exact absurd H (by simp)
            · rw [if_neg c14] at H
              have c14b0 : decide (x9_2 < (l1.length : Int)) = false := decide_eq_false c14
              clear c14
              by_cases c21 : (wrap64 ((l0.length : Int) + 1)) = 0
              · rw [if_pos c21] at H
                exact absurd H (by simp)
              · rw [if_neg c21] at H
                have c21b0 : ((wrap64 ((l0.length : Int) + 1)) == 0) = false := beq_eq_false_iff_ne.mpr c21
                have c21b1 : ((wrap64 ((l0.length : Int) + 1)) != 0) = true := bne_iff_ne.mpr c21
                by_cases c22 : t138 = true
                · subst c22
                  have H1 : ((fit_Fit.f l0 x8_2).bind fun t147 => (if t147 = 0 then (if 0 ≤ (Int.tmod (wrap64 (a2)) (wrap64 ((l0.length : Int) + 1))) then (if (Int.tmod (wrap64 (a2)) (wrap64 ((l0.length : Int) + 1))) ≤ (l0.length : Int) then ((fit_Fit.f (l0.take ((Int.tmod (wrap64 (a2)) (wrap64 ((l0.length : Int) + 1))) : Int).toNat) l1).bind fun t152 => (some (t152 == 0))) else (none)) else (none)) else (some false))) = some r := by rw [if_pos rfl] at H; exact H
                  clear H
                  have H := H1
                  clear H1
                  replace H := Option.bind_eq_some_iff.mp H
                  obtain ⟨t147, A230, H⟩ := H
                  replace H : (if t147 = 0 then (if 0 ≤ (Int.tmod (wrap64 (a2)) (wrap64 ((l0.length : Int) + 1))) then (if (Int.tmod (wrap64 (a2)) (wrap64 ((l0.length : Int) + 1))) ≤ (l0.length : Int) then ((fit_Fit.f (l0.take ((Int.tmod (wrap64 (a2)) (wrap64 ((l0.length : Int) + 1))) : Int).toNat) l1).bind fun t152 => (some (t152 == 0))) else (none)) else (none)) else (some false)) = some r := H
                  have A23 := Aside0.mk A230
                  clear A230
                  by_cases c24 : t147 = 0
                  · rw [if_pos c24] at H
                    have c24b0 : (t147 == 0) = true := beq_iff_eq.mpr c24
                    have c24b1 : (t147 != 0) = false := bne_eq_false_iff_eq.mpr c24
                    clear c24
                    obtain ⟨ji25, hji25⟩ : ∃ j_ : Int, (Int.tmod (wrap64 (a2)) (wrap64 ((l0.length : Int) + 1))) = j_ := ⟨_, rfl⟩
                    replace H : (if 0 ≤ (ji25) then (if (ji25) ≤ (l0.length : Int) then ((fit_Fit.f (l0.take ((ji25) : Int).toNat) l1).bind fun t152 => (some (t152 == 0))) else (none)) else (none)) = some r := by first | (rw [hji25] at H; exact H) | (simp only [hji25] at H ⊢; exact H)
                    (try rw [hji25] at A23)
                    by_cases c26 : 0 ≤ (ji25)
                    · rw [if_pos c26] at H
                      have c26b0 := eq_true c26
                      have c26b1 : decide (0 ≤ (ji25)) = true := decide_eq_true c26
                      clear c26
                      by_cases c27 : (ji25) ≤ (l0.length : Int)
                      · rw [if_pos c27] at H
                        have c27b0 := eq_true c27
                        have c27b1 : decide ((ji25) ≤ (l0.length : Int)) = true := decide_eq_true c27
                        clear c27
                        obtain ⟨y148, hy148⟩ : ∃ y_ : List (S42), y_ = (l0.take ((ji25) : Int).toNat) := ⟨_, rfl⟩
                        replace H : ((fit_Fit.f y148 l1).bind fun t152 => (some (t152 == 0))) = some r := by first | (rw [hy148]; with_reducible exact H) | (have H2_ := (Option.bind_some _ _).symm.trans H; rw [hy148]; with_reducible exact H2_) | (have H2_ := (Option.bind_some _ _).symm.trans H; with_reducible exact H2_) | with_reducible exact H | (rw [hy148]; exact H) | exact H
                        have Ny148 := Aside0.mk hy148
                        clear hy148
                        replace H := Option.bind_eq_some_iff.mp H
                        obtain ⟨t152, A280, H⟩ := H
                        replace H : (some (t152 == 0)) = some r := H
                        have A28 := Aside0.mk A280
                        clear A280
                        obtain rfl := Option.some.inj H
                        obtain ⟨Ao29, co29, eo29⟩ := Kd.R_slice HO_8.out
                        subst eo29
                        go_wp2_with (first | (go_at_call 9; (with_reducible refine (fit_Fit.calls _ _ l0 _ _ x8_2 t147 _ ?side1 ?side2 ?side3 ?side4 A23.out).mono ?_); (case side1 => repeat (first | exact (Kd.C_below HR0.out HB.out) | (with_reducible refine Kd.C_alloc ?_ _) | (with_reducible refine Kd.C_drewN ?_ _) | (with_reducible refine Kd.C_drew ?_))); (case side2 => exact HC0.out); (case side3 => repeat (first | exact (Kd.R_reads' HO_8.out).2.2 | (with_reducible refine Kd.C_alloc ?_ _) | (with_reducible refine Kd.C_drewN ?_ _) | (with_reducible refine Kd.C_drew ?_))); (case side4 => exact (Kd.R_reads' HO_8.out).2.1); rintro e w30 ⟨rfl, hb⟩; have n0_ := Aside0.mk (Kd.R_below (by (with_reducible repeat (first | apply Kd.R_alloc | apply Kd.R_drewN | apply Kd.R_drew)); exact HO_8.out) hb); have n1_ := Aside0.mk (below_step (by repeat (first | (with_reducible first | exact HB.out | apply below_alloc | apply pw_below_drewN | apply below_drew1) | exact HB.out)) hb); clear HO_8; clear HB; have HO_8 := n0_; have HB := n1_; clear n0_ n1_; (try clear hb); (try clear hb2); (try clear hk); (try clear hi); have q31 : ((ji25) : Int) ≤ ((l0.length : Int) : Int) := of_decide_eq_true (by first | (with_reducible assumption) | assumption); obtain ⟨i031, hi031, _, hsz31, _⟩ := info_parts info42; have hroom31 : l0.length ≤ c0 := HC0.out; have hC31 : Kd.C k42 _ A0 l0.length l0 := HR0.out; have hcut31 := cut_to (P := Try.prog) 22 42 .i64 Try.underlying22 hi031 A0 l0.length c0 (ji25) (of_decide_eq_true (by first | (with_reducible assumption) | assumption)) q31 hroom31; have hr31 := Kd.C_take (m := ((ji25) : Int).toNat) hC31 (by omega); have hy31 : y148.length = ((ji25) : Int).toNat := (by rw [Ny148.out, List.length_take]; omega); rw [← Ny148.out] at hr31; rw [← hy31] at hcut31; have HR151 := Aside0.mk hr31; have HC151 := Aside0.mk (show y148.length ≤ c0 from by omega); clear hr31 hC31 hroom31 hi031 hsz31; have KY31 := Aside0.mk hy31; clear hy31; replace q31 := eq_true q31) | (go_at_call 9; (with_reducible refine (fit_Fit.calls _ _ y148 _ _ l1 t152 _ ?side1 ?side2 ?side3 ?side4 A28.out).mono ?_); (case side1 => repeat (first | exact (Kd.C_below HR151.out HB.out) | (with_reducible refine Kd.C_alloc ?_ _) | (with_reducible refine Kd.C_drewN ?_ _) | (with_reducible refine Kd.C_drew ?_))); (case side2 => exact HC151.out); (case side3 => repeat (first | exact (Kd.C_below HR1.out HB.out) | (with_reducible refine Kd.C_alloc ?_ _) | (with_reducible refine Kd.C_drewN ?_ _) | (with_reducible refine Kd.C_drew ?_))); (case side4 => exact HC1.out); rintro e w32 ⟨rfl, hb⟩; have n0_ := Aside0.mk (Kd.R_below (by (with_reducible repeat (first | apply Kd.R_alloc | apply Kd.R_drewN | apply Kd.R_drew)); exact HO_8.out) hb); have n1_ := Aside0.mk (below_step (by repeat (first | (with_reducible first | exact HB.out | apply below_alloc | apply pw_below_drewN | apply below_drew1) | exact HB.out)) hb); clear HO_8; clear HB; have HO_8 := n0_; have HB := n1_; clear n0_ n1_; (try clear hb); (try clear hb2); (try clear hk); (try clear hi)))
                        go_ret
                        exact ⟨by first | rfl | (simp [errW_none, errW_some] <;> rfl) | (simp only [← hji25]; first | rfl | (simp [errW_none, errW_some] <;> rfl)) | (simp [*, errW_none, errW_some] <;> rfl), by repeat (first | (with_reducible first | exact HB.out | apply below_alloc | apply pw_below_drewN | apply below_drew1) | exact HB.out)⟩
                      · rw [if_neg c27] at H
                        exact absurd H (by simp)
                    · rw [if_neg c26] at H
                      exact absurd H (by simp)
                  · rw [if_neg c24] at H
                    have c24b0 : (t147 == 0) = false := beq_eq_false_iff_ne.mpr c24
                    have c24b1 : (t147 != 0) = true := bne_iff_ne.mpr c24
                    obtain rfl := Option.some.inj H
                    obtain ⟨Ao33, co33, eo33⟩ := Kd.R_slice HO_8.out
                    subst eo33
                    go_wp2_with (first | (go_at_call 9; (with_reducible refine (fit_Fit.calls _ _ l0 _ _ x8_2 t147 _ ?side1 ?side2 ?side3 ?side4 A23.out).mono ?_); (case side1 => repeat (first | exact (Kd.C_below HR0.out HB.out) | (with_reducible refine Kd.C_alloc ?_ _) | (with_reducible refine Kd.C_drewN ?_ _) | (with_reducible refine Kd.C_drew ?_))); (case side2 => exact HC0.out); (case side3 => repeat (first | exact (Kd.R_reads' HO_8.out).2.2 | (with_reducible refine Kd.C_alloc ?_ _) | (with_reducible refine Kd.C_drewN ?_ _) | (with_reducible refine Kd.C_drew ?_))); (case side4 => exact (Kd.R_reads' HO_8.out).2.1); rintro e w34 ⟨rfl, hb⟩; have n0_ := Aside0.mk (Kd.R_below (by (with_reducible repeat (first | apply Kd.R_alloc | apply Kd.R_drewN | apply Kd.R_drew)); exact HO_8.out) hb); have n1_ := Aside0.mk (below_step (by repeat (first | (with_reducible first | exact HB.out | apply below_alloc | apply pw_below_drewN | apply below_drew1) | exact HB.out)) hb); clear HO_8; clear HB; have HO_8 := n0_; have HB := n1_; clear n0_ n1_; (try clear hb); (try clear hb2); (try clear hk); (try clear hi)))
                    go_ret
                    exact ⟨by first | rfl | (simp [errW_none, errW_some] <;> rfl) | (simp [*, errW_none, errW_some] <;> rfl), by repeat (first | (with_reducible first | exact HB.out | apply below_alloc | apply pw_below_drewN | apply below_drew1) | exact HB.out)⟩
                · replace c22 := Bool.eq_false_iff.mpr c22
                  subst c22
                  have H1 : (some false) = some r := by rw [if_neg (show ¬ (false = true) by decide)] at H; exact H
                  clear H
                  have H := H1
                  clear H1
                  obtain rfl := Option.some.inj H
                  go_wp2
                  go_ret
                  exact ⟨by first | rfl | (simp [errW_none, errW_some] <;> rfl) | (simp [*, errW_none, errW_some] <;> rfl), by repeat (first | (with_reducible first | exact HB.out | apply below_alloc | apply pw_below_drewN | apply below_drew1) | exact HB.out)⟩

/-! ### phalaroperef07_Has: function 11 -/
def phalaroperef07_Has.l0 : Nat → List ByteArray → ByteArray → Int → Option (Bool)
  | 0, _, _, _ => none
  | k + 1, x0, x1, x5 => if x5 < (x0.length : Int) then (if 0 ≤ x5 then (if (rdOf ByteArray.empty x0 x5).toList = x1.toList then (some true) else (phalaroperef07_Has.l0 k x0 x1 (wrap64 (x5 + 1)))) else (none)) else (some false)
def phalaroperef07_Has.f (k : Nat) (l0 : List ByteArray) (a1 : ByteArray) : Option (Bool) := phalaroperef07_Has.l0 k l0 a1 0
theorem phalaroperef07_Has.mono_l : ∀ k, (∀ y0 y1 y2, LeO (phalaroperef07_Has.l0 k y0 y1 y2) (phalaroperef07_Has.l0 (k + 1) y0 y1 y2))
  | 0 => fun _ _ _ r h => by simp [phalaroperef07_Has.l0] at h
  | k + 1 => by
    have ih0 := phalaroperef07_Has.mono_l k
    · intro y0 y1 y2
      unfold phalaroperef07_Has.l0
      repeat' first
      | (with_reducible exact ih0 _ _ _)
      | (with_reducible exact LeO.refl _)
      | (with_reducible exact LeO.none _)
      | (with_reducible refine LeO.ite ?_ ?_)
      | (with_reducible refine LeO.bind ?_ (fun _ => ?_))
      | exact ih0 _ _ _
      | exact LeO.none _
      | refine LeO.ite ?_ ?_
      | refine LeO.bind ?_ (fun _ => ?_)
theorem phalaroperef07_Has.mono : ∀ a0 a1 k, LeO (phalaroperef07_Has.f k a0 a1) (phalaroperef07_Has.f (k + 1) a0 a1) := by
  intro a0 a1 k
  have ih0 := phalaroperef07_Has.mono_l k
  unfold phalaroperef07_Has.f
  repeat' first
      | (with_reducible exact ih0 _ _ _)
      | (with_reducible exact LeO.refl _)
      | (with_reducible exact LeO.none _)
      | (with_reducible refine LeO.ite ?_ ?_)
      | (with_reducible refine LeO.bind ?_ (fun _ => ?_))
      | exact ih0 _ _ _
      | exact LeO.none _
      | refine LeO.ite ?_ ?_
      | refine LeO.bind ?_ (fun _ => ?_)
set_option maxHeartbeats 8000000 in
set_option maxRecDepth 100000 in
theorem phalaroperef07_Has.calls (k : Nat) (A0 : Option Addr) (c0 : Nat) (l0 : List ByteArray) (a1 : ByteArray) (r : Bool) (w : World) (hr0 : Kd.C Kd.string w A0 l0.length l0) (hc0 : l0.length ≤ c0) (h : phalaroperef07_Has.f k l0 a1 = some r) :
    Calls Try.prog 11 #[.slice A0 l0.length c0, .string a1] w fun e w' => e = .returned (.bool r) ∧ Drawn0 w w' := by
  have HR0 := Aside0.mk hr0
  have HC0 := Aside0.mk hc0
  clear hr0 hc0
  have H : (phalaroperef07_Has.l0 k l0 a1 0) = some r := h
  clear h
  have H' := Aside0.mk H
  clear H
  go_enter Try.func11, Try.ntmps11
  go_wp2
  go_loopg [5] k (fun kq v5 w' => ∃ (x5_1 : Int), v5 = .int .i64 x5_1 ∧ Aside0 (phalaroperef07_Has.l0 kq l0 a1 x5_1 = some r) ∧ Aside0 (kq ≤ k) ∧ Drawn0 w w')
  case atStart => exact ⟨(0), (by first | rfl | (simp; done) | (simp [*]; done)), H', ⟨Nat.le_refl _⟩, by repeat (first | exact Drawn0.refl _ | apply Drawn0.step)⟩
  case round =>
    clear H'
    try clear c1
    try clear p2
    obtain ⟨x5_1, rfl, HA, HK1, ⟨m1, rfl⟩⟩ := hrel
    cases gk with
    | zero => exact absurd HA.out (by simp [phalaroperef07_Has.l0])
    | succ k1 =>
      have H := HA.out
      clear HA
      simp only [phalaroperef07_Has.l0] at H
      by_cases c3 : x5_1 < (l0.length : Int)
      · rw [if_pos c3] at H
        have c3b0 : decide (x5_1 < (l0.length : Int)) = true := decide_eq_true c3
        clear c3
        by_cases c4 : 0 ≤ x5_1
        · rw [if_pos c4] at H
          have c4b0 : decide (0 ≤ x5_1) = true := decide_eq_true c4
          clear c4
          by_cases c5 : (rdOf ByteArray.empty l0 x5_1).toList = a1.toList
          · rw [if_pos c5] at H
            have c5b0 : ((rdOf ByteArray.empty l0 x5_1).toList == a1.toList) = true := beq_iff_eq.mpr c5
            have c5b1 : ((rdOf ByteArray.empty l0 x5_1).toList != a1.toList) = false := bne_eq_false_iff_eq.mpr c5
            clear c5
            obtain rfl := Option.some.inj H
            have p153 : 0 ≤ (x5_1 : Int) := of_decide_eq_true (by first | (with_reducible assumption) | assumption)
            have q153 : x5_1 < (l0.length : Int) := of_decide_eq_true (by first | (with_reducible assumption) | assumption)
            obtain ⟨ad153, e153, hx153_0⟩ := Kd.at_string HR0.out x5_1 p153 q153
            cases e153
            replace p153 := eq_true p153
            replace q153 := eq_true q153
            go_wp2
            go_ret
            exact ⟨by first | rfl | (simp; done) | (simp [*]; done), by repeat (first | exact Drawn0.refl _ | apply Drawn0.step)⟩
          · rw [if_neg c5] at H
            have c5b0 : ((rdOf ByteArray.empty l0 x5_1).toList == a1.toList) = false := beq_eq_false_iff_ne.mpr c5
            have c5b1 : ((rdOf ByteArray.empty l0 x5_1).toList != a1.toList) = true := bne_iff_ne.mpr c5
            have H' := Aside0.mk H
            clear H
            have p153 : 0 ≤ (x5_1 : Int) := of_decide_eq_true (by first | (with_reducible assumption) | assumption)
            have q153 : x5_1 < (l0.length : Int) := of_decide_eq_true (by first | (with_reducible assumption) | assumption)
            obtain ⟨ad153, e153, hx153_0⟩ := Kd.at_string HR0.out x5_1 p153 q153
            cases e153
            replace p153 := eq_true p153
            replace q153 := eq_true q153
            go_wp2
            go_roundg k1
            case measure => have := HK1.out; omega
            case rel => exact ⟨(wrap64 (x5_1 + 1)), (by first | rfl | (simp; done) | (simp [*]; done)), H', ⟨by have := HK1.out; omega⟩, by repeat (first | exact Drawn0.refl _ | apply Drawn0.step)⟩
        · rw [if_neg c4] at H
          exact absurd H (by simp)
      · rw [if_neg c3] at H
        have c3b0 : decide (x5_1 < (l0.length : Int)) = false := decide_eq_false c3
        clear c3
        obtain rfl := Option.some.inj H
        go_wp2
        go_ret
        exact ⟨by first | rfl | (simp; done) | (simp [*]; done), by repeat (first | exact Drawn0.refl _ | apply Drawn0.step)⟩

end Go.Proofs.Ytjhihohofhhknaa.PA
