/- Texts of this claim, those that nothing needs left out: PAx6. -/
import Derived.Test.YtecpjfipkejmoaaFtG2
import Derived.Test.YtecpjfipkejmoaaFtG3
import Derived.Test.YtecpjfipkejmoaaFtG4
section
namespace Go.Proofs.Ytecpjfipkejmoaa.PA
open Go.RowKit Go.Proofs.YtecpjfipkejmoaaW.PrintWords Go.Proofs.YtecpjfipkejmoaaW.PrintLast Go.Proofs.YtecpjfipkejmoaaW.PrintMore
attribute [local go_sem] max2_int min2_int max_two min_two max_three min_three max_four min_four   -- for this text's walks alone
set_option linter.unusedVariables false
set_option linter.unusedSimpArgs false
mutual
def phalaroperef17_Way.j0 : Nat → List (S35) → ByteArray → Int → Bool → Option ((List (S68)) × Bool)
  | 0, _, _, _, _ => none
  | k + 1, x0, x1, x2, x25 => if x25 = true then (some (([] : List (S68)), false)) else ((phalaroperef17_Table.f k x0 x1).bind fun t145 => (if 0 < (t145.length : Int) then (if 0 < ((rd_L4 t145 0).length : Int) then (if x2 ≥ (rd (rd_L4 t145 0) 0) then (some (([] : List (S68)), false)) else (phalaroperef17_Way.l0 k x0 x1 x2 t145 ([] : List (S68)) 0 0)) else (none)) else (none)))
def phalaroperef17_Way.l0 : Nat → List (S35) → ByteArray → Int → List (List Int) → List (S68) → Int → Int → Option ((List (S68)) × Bool)
  | 0, _, _, _, _, _, _, _ => none
  | k + 1, x0, x1, x2, x8, x9, x10, x11 => if 0 ≤ x11 then (if x11 < (x0.length : Int) then (if ((rd_T35 x0 x11).f0) = 4 then (some (x9, true)) else (if ((rd_T35 x0 x11).f0) = 3 then (if x9.length < 8796093022208 then (phalaroperef17_Way.j2 k x0 x1 x2 x8 (x9 ++ [(⟨(rd_T35 x0 x11).f3, x10⟩ : S68)]) x10 ((rd_T35 x0 x11).f4) ((rd_T35 x0 x11).f0) ((rd_T35 x0 x11).f1) ((rd_T35 x0 x11).f2) ((rd_T35 x0 x11).f3) ((rd_T35 x0 x11).f4)) else (none)) else (phalaroperef17_Way.j2 k x0 x1 x2 x8 x9 x10 x11 ((rd_T35 x0 x11).f0) ((rd_T35 x0 x11).f1) ((rd_T35 x0 x11).f2) ((rd_T35 x0 x11).f3) ((rd_T35 x0 x11).f4)))) else (none)) else (none)
def phalaroperef17_Way.j2 : Nat → List (S35) → ByteArray → Int → List (List Int) → List (S68) → Int → Int → Int → List (S65) → List Int → Int → Int → Option ((List (S68)) × Bool)
  | 0, _, _, _, _, _, _, _, _, _, _, _, _ => none
  | k + 1, x0, x1, x2, x8, x9, x10, x11, x153000, x153001, x153002, x153003, x153004 => if x153000 = 2 then (phalaroperef17_Way.l1 k x0 x1 x2 x8 x9 x10 0 x153000 x153001 x153002 x153003 x153004) else (phalaroperef17_Way.j4 k x0 x1 x2 x8 x9 x10 x11 x153000 x153001 x153002 x153003 x153004)
def phalaroperef17_Way.j4 : Nat → List (S35) → ByteArray → Int → List (List Int) → List (S68) → Int → Int → Int → List (S65) → List Int → Int → Int → Option ((List (S68)) × Bool)
  | 0, _, _, _, _, _, _, _, _, _, _, _, _ => none
  | k + 1, x0, x1, x2, x8, x9, x10, x11, x153000, x153001, x153002, x153003, x153004 => if x153000 = 1 then (phalaroperef17_Way.l2 k x0 x1 x2 x8 x9 x10 x11 0 x153000 x153001 x153002 x153003 x153004) else (phalaroperef17_Way.l0 k x0 x1 x2 x8 x9 x10 x11)
def phalaroperef17_Way.l2 : Nat → List (S35) → ByteArray → Int → List (List Int) → List (S68) → Int → Int → Int → Int → List (S65) → List Int → Int → Int → Option ((List (S68)) × Bool)
  | 0, _, _, _, _, _, _, _, _, _, _, _, _, _ => none
  | k + 1, x0, x1, x2, x8, x9, x10, x11, x14, x153000, x153001, x153002, x153003, x153004 => if x14 < (x153001.length : Int) then (if 0 ≤ x10 then (if x10 < (x1.size : Int) then (if 0 ≤ x14 then (if (bt x1 x10) ≥ ((rd_T65 x153001 x14).f0) then (if (bt x1 x10) ≤ ((rd_T65 x153001 x14).f1) then (phalaroperef17_Way.l2 k x0 x1 x2 x8 x9 x10 ((rd_T65 x153001 x14).f2) (wrap64 (x14 + 1)) x153000 x153001 x153002 x153003 x153004) else (phalaroperef17_Way.l2 k x0 x1 x2 x8 x9 x10 x11 (wrap64 (x14 + 1)) x153000 x153001 x153002 x153003 x153004)) else (phalaroperef17_Way.l2 k x0 x1 x2 x8 x9 x10 x11 (wrap64 (x14 + 1)) x153000 x153001 x153002 x153003 x153004)) else (none)) else (none)) else (none)) else (phalaroperef17_Way.l0 k x0 x1 x2 x8 x9 (wrap64 (x10 + 1)) x11)
def phalaroperef17_Way.l1 : Nat → List (S35) → ByteArray → Int → List (List Int) → List (S68) → Int → Int → Int → List (S65) → List Int → Int → Int → Option ((List (S68)) × Bool)
  | 0, _, _, _, _, _, _, _, _, _, _, _, _ => none
  | k + 1, x0, x1, x2, x8, x9, x10, x13, x153000, x153001, x153002, x153003, x153004 => if 0 ≤ x10 then (if x10 < (x8.length : Int) then (if 0 ≤ x13 then (if x13 < (x153002.length : Int) then (if 0 ≤ (rd x153002 x13) then (if (rd x153002 x13) < ((rd_L4 x8 x10).length : Int) then (if x2 ≥ (rd (rd_L4 x8 x10) (rd x153002 x13)) then (phalaroperef17_Way.l1 k x0 x1 (wrap64 (x2 - (rd (rd_L4 x8 x10) (rd x153002 x13)))) x8 x9 x10 (wrap64 (x13 + 1)) x153000 x153001 x153002 x153003 x153004) else (phalaroperef17_Way.j4 k x0 x1 x2 x8 x9 x10 (rd x153002 x13) x153000 x153001 x153002 x153003 x153004)) else (none)) else (none)) else (none)) else (none)) else (none)) else (none)
end
def phalaroperef17_Way.f (k : Nat) (l0 : List (S35)) (a1 : ByteArray) (a2 : Int) : Option ((List (S68)) × Bool) := (phalaroperef16_May.f k l0).bind fun t144 => (if t144 = true then (if a2 < 0 then (phalaroperef17_Way.j0 k l0 a1 a2 true) else (phalaroperef17_Way.j0 k l0 a1 a2 (decide (a2 ≥ 1000)))) else (phalaroperef17_Way.j0 k l0 a1 a2 true))
set_option maxHeartbeats 8000000 in
set_option maxRecDepth 100000 in
theorem phalaroperef17_Way.calls (k : Nat) (A0 : Option Addr) (c0 : Nat) (l0 : List (S35)) (a1 : ByteArray) (a2 : Int) (r1 : List (S68)) (r2 : Bool) (w : World) (hr0 : Kd.C k35 w A0 l0.length l0) (hc0 : l0.length ≤ c0) (h : phalaroperef17_Way.f k l0 a1 a2 = some (r1, r2)) :
    Calls Try.prog 12 #[.slice A0 l0.length c0, .string a1, .int .i64 a2] w fun e w' => ∃ v0_ : Value, e = .returned (.tuple #[v0_, .bool r2]) ∧ Kd.R k68 68 w' w.heap.size (fun _ => True) v0_ r1 ∧ Below w.heap.size w w' := by
  have hu35 := Try.underlying35
  have hu68 := Try.underlying68
  have HR0 := Aside0.mk hr0
  have HC0 := Aside0.mk hc0
  clear hr0 hc0
  have HB := Aside0.mk (Below.refl w.heap.size w)
  have H : ((phalaroperef16_May.f k l0).bind fun t144 => (if t144 = true then (if a2 < 0 then (phalaroperef17_Way.j0 k l0 a1 a2 true) else (phalaroperef17_Way.j0 k l0 a1 a2 (decide (a2 ≥ 1000)))) else (phalaroperef17_Way.j0 k l0 a1 a2 true))) = some (r1, r2) := h
  clear h
  have HC4 := Aside0.mk H
  clear H
  go_enter Try.func12, Try.ntmps12
  go_upto_region 1 with (fail)
  repeat (go_quiet (fail); go_upto_region 1 with (fail))
  go_cut [25] (fun v25 wc => ∃ (kq : Nat) (x25_3 : Bool), v25 = .bool x25_3 ∧ Aside0 (phalaroperef17_Way.j0 kq l0 a1 a2 x25_3 = some (r1, r2)) ∧ Aside0 (kq ≤ k) ∧ Aside0 (Below w.heap.size w wc))
  case first =>
    have H := HC4.out
    clear HC4
    replace H := Option.bind_eq_some_iff.mp H
    obtain ⟨t144, A50, H⟩ := H
    replace H : (if t144 = true then (if a2 < 0 then (phalaroperef17_Way.j0 k l0 a1 a2 true) else (phalaroperef17_Way.j0 k l0 a1 a2 (decide (a2 ≥ 1000)))) else (phalaroperef17_Way.j0 k l0 a1 a2 true)) = some (r1, r2) := H
    have A5 := Aside0.mk A50
    clear A50
    by_cases c6 : t144 = true
    · subst c6
      have H1 : (if a2 < 0 then (phalaroperef17_Way.j0 k l0 a1 a2 true) else (phalaroperef17_Way.j0 k l0 a1 a2 (decide (a2 ≥ 1000)))) = some (r1, r2) := by rw [if_pos rfl] at H; exact H
      clear H
      have H := H1
      clear H1
      by_cases c7 : a2 < 0
      · rw [if_pos c7] at H
        have c7b0 : decide (a2 < 0) = true := decide_eq_true c7
        clear c7
        (first | rw [c7b0] | (simp only [i64_w, i32_w]; rw [c7b0]) | skip)
        have H' := Aside0.mk H
        clear H
        go_wp2_with (first | (go_at_call 24; (with_reducible refine (phalaroperef16_May.calls k _ _ l0 true _ ?side1 ?side2 A5.out).mono ?_); (case side1 => repeat (first | exact (Kd.C_below HR0.out HB.out) | (with_reducible refine Kd.C_alloc ?_ _) | (with_reducible refine Kd.C_drewN ?_ _) | (with_reducible refine Kd.C_drew ?_))); (case side2 => exact HC0.out); rintro e w8 ⟨rfl, hb⟩; have n0_ := Aside0.mk (below_step (by repeat (first | (with_reducible first | exact HB.out | apply below_alloc | apply pw_below_drewN | apply below_drew1) | exact HB.out)) hb); clear HB; have HB := n0_; clear n0_; (try clear hb); (try clear hb2); (try clear hk); (try clear hi)))
        repeat (go_quiet (first | (go_at_call 24; (with_reducible refine (phalaroperef16_May.calls k _ _ l0 true _ ?side1 ?side2 A5.out).mono ?_); (case side1 => repeat (first | exact (Kd.C_below HR0.out HB.out) | (with_reducible refine Kd.C_alloc ?_ _) | (with_reducible refine Kd.C_drewN ?_ _) | (with_reducible refine Kd.C_drew ?_))); (case side2 => exact HC0.out); rintro e w8 ⟨rfl, hb⟩; have n0_ := Aside0.mk (below_step (by repeat (first | (with_reducible first | exact HB.out | apply below_alloc | apply pw_below_drewN | apply below_drew1) | exact HB.out)) hb); clear HB; have HB := n0_; clear n0_; (try clear hb); (try clear hb2); (try clear hk); (try clear hi))); try go_wp2_with (first | (go_at_call 24; (with_reducible refine (phalaroperef16_May.calls k _ _ l0 true _ ?side1 ?side2 A5.out).mono ?_); (case side1 => repeat (first | exact (Kd.C_below HR0.out HB.out) | (with_reducible refine Kd.C_alloc ?_ _) | (with_reducible refine Kd.C_drewN ?_ _) | (with_reducible refine Kd.C_drew ?_))); (case side2 => exact HC0.out); rintro e w8 ⟨rfl, hb⟩; have n0_ := Aside0.mk (below_step (by repeat (first | (with_reducible first | exact HB.out | apply below_alloc | apply pw_below_drewN | apply below_drew1) | exact HB.out)) hb); clear HB; have HB := n0_; clear n0_; (try clear hb); (try clear hb2); (try clear hk); (try clear hi))))
        go_meet
        case rel => exact ⟨_, (true), (by first | rfl | (simp; done) | (simp [*]; done)), H', ⟨by first | omega | exact Nat.le_refl _⟩, ⟨by repeat (first | (with_reducible first | exact HB.out | apply below_alloc | apply pw_below_drewN | apply below_drew1) | exact HB.out)⟩⟩
      · rw [if_neg c7] at H
        have c7b0 : decide (a2 < 0) = false := decide_eq_false c7
        clear c7
        (first | rw [c7b0] | (simp only [i64_w, i32_w]; rw [c7b0]) | skip)
        have H' := Aside0.mk H
        clear H
        go_wp2_with (first | (go_at_call 24; (with_reducible refine (phalaroperef16_May.calls k _ _ l0 true _ ?side1 ?side2 A5.out).mono ?_); (case side1 => repeat (first | exact (Kd.C_below HR0.out HB.out) | (with_reducible refine Kd.C_alloc ?_ _) | (with_reducible refine Kd.C_drewN ?_ _) | (with_reducible refine Kd.C_drew ?_))); (case side2 => exact HC0.out); rintro e w9 ⟨rfl, hb⟩; have n0_ := Aside0.mk (below_step (by repeat (first | (with_reducible first | exact HB.out | apply below_alloc | apply pw_below_drewN | apply below_drew1) | exact HB.out)) hb); clear HB; have HB := n0_; clear n0_; (try clear hb); (try clear hb2); (try clear hk); (try clear hi)))
        repeat (go_quiet (first | (go_at_call 24; (with_reducible refine (phalaroperef16_May.calls k _ _ l0 true _ ?side1 ?side2 A5.out).mono ?_); (case side1 => repeat (first | exact (Kd.C_below HR0.out HB.out) | (with_reducible refine Kd.C_alloc ?_ _) | (with_reducible refine Kd.C_drewN ?_ _) | (with_reducible refine Kd.C_drew ?_))); (case side2 => exact HC0.out); rintro e w9 ⟨rfl, hb⟩; have n0_ := Aside0.mk (below_step (by repeat (first | (with_reducible first | exact HB.out | apply below_alloc | apply pw_below_drewN | apply below_drew1) | exact HB.out)) hb); clear HB; have HB := n0_; clear n0_; (try clear hb); (try clear hb2); (try clear hk); (try clear hi))); try go_wp2_with (first | (go_at_call 24; (with_reducible refine (phalaroperef16_May.calls k _ _ l0 true _ ?side1 ?side2 A5.out).mono ?_); (case side1 => repeat (first | exact (Kd.C_below HR0.out HB.out) | (with_reducible refine Kd.C_alloc ?_ _) | (with_reducible refine Kd.C_drewN ?_ _) | (with_reducible refine Kd.C_drew ?_))); (case side2 => exact HC0.out); rintro e w9 ⟨rfl, hb⟩; have n0_ := Aside0.mk (below_step (by repeat (first | (with_reducible first | exact HB.out | apply below_alloc | apply pw_below_drewN | apply below_drew1) | exact HB.out)) hb); clear HB; have HB := n0_; clear n0_; (try clear hb); (try clear hb2); (try clear hk); (try clear hi))))
        go_meet
        case rel => exact ⟨_, (decide (a2 ≥ 1000)), (by first | rfl | (simp; done) | (simp [*]; done)), H', ⟨by first | omega | exact Nat.le_refl _⟩, ⟨by repeat (first | (with_reducible first | exact HB.out | apply below_alloc | apply pw_below_drewN | apply below_drew1) | exact HB.out)⟩⟩
    · replace c6 := Bool.eq_false_iff.mpr c6
      subst c6
      have H1 : (phalaroperef17_Way.j0 k l0 a1 a2 true) = some (r1, r2) := by rw [if_neg (show ¬ (false = true) by decide)] at H; exact H
      clear H
      have H := H1
      clear H1
      have H' := Aside0.mk H
      clear H
      go_wp2_with (first | (go_at_call 24; (with_reducible refine (phalaroperef16_May.calls k _ _ l0 false _ ?side1 ?side2 A5.out).mono ?_); (case side1 => repeat (first | exact (Kd.C_below HR0.out HB.out) | (with_reducible refine Kd.C_alloc ?_ _) | (with_reducible refine Kd.C_drewN ?_ _) | (with_reducible refine Kd.C_drew ?_))); (case side2 => exact HC0.out); rintro e w10 ⟨rfl, hb⟩; have n0_ := Aside0.mk (below_step (by repeat (first | (with_reducible first | exact HB.out | apply below_alloc | apply pw_below_drewN | apply below_drew1) | exact HB.out)) hb); clear HB; have HB := n0_; clear n0_; (try clear hb); (try clear hb2); (try clear hk); (try clear hi)))
      repeat (go_quiet (first | (go_at_call 24; (with_reducible refine (phalaroperef16_May.calls k _ _ l0 false _ ?side1 ?side2 A5.out).mono ?_); (case side1 => repeat (first | exact (Kd.C_below HR0.out HB.out) | (with_reducible refine Kd.C_alloc ?_ _) | (with_reducible refine Kd.C_drewN ?_ _) | (with_reducible refine Kd.C_drew ?_))); (case side2 => exact HC0.out); rintro e w10 ⟨rfl, hb⟩; have n0_ := Aside0.mk (below_step (by repeat (first | (with_reducible first | exact HB.out | apply below_alloc | apply pw_below_drewN | apply below_drew1) | exact HB.out)) hb); clear HB; have HB := n0_; clear n0_; (try clear hb); (try clear hb2); (try clear hk); (try clear hi))); try go_wp2_with (first | (go_at_call 24; (with_reducible refine (phalaroperef16_May.calls k _ _ l0 false _ ?side1 ?side2 A5.out).mono ?_); (case side1 => repeat (first | exact (Kd.C_below HR0.out HB.out) | (with_reducible refine Kd.C_alloc ?_ _) | (with_reducible refine Kd.C_drewN ?_ _) | (with_reducible refine Kd.C_drew ?_))); (case side2 => exact HC0.out); rintro e w10 ⟨rfl, hb⟩; have n0_ := Aside0.mk (below_step (by repeat (first | (with_reducible first | exact HB.out | apply below_alloc | apply pw_below_drewN | apply below_drew1) | exact HB.out)) hb); clear HB; have HB := n0_; clear n0_; (try clear hb); (try clear hb2); (try clear hk); (try clear hi))))
      go_meet
      case rel => exact ⟨_, (true), (by first | rfl | (simp; done) | (simp [*]; done)), H', ⟨by first | omega | exact Nat.le_refl _⟩, ⟨by repeat (first | (with_reducible first | exact HB.out | apply below_alloc | apply pw_below_drewN | apply below_drew1) | exact HB.out)⟩⟩
  case rest =>
    clear HC4
    try clear c1
    try clear p2
    try clear c6
    try clear c7
    try clear c7b0
    obtain ⟨kq, x25_3, rfl, HA, HJ3, HB⟩ := hcut
    cases kq with
    | zero => exact absurd HA.out (by simp [phalaroperef17_Way.j0])
    | succ kj3 =>
      have H := HA.out
      clear HA
      simp only [phalaroperef17_Way.j0] at H
      by_cases c11 : x25_3 = true
      · subst c11
        have H1 : (some (([] : List (S68)), false)) = some (r1, r2) := by rw [if_pos rfl] at H; exact H
        clear H
        have H := H1
        clear H1
        simp only [Option.some.injEq, Prod.mk.injEq] at H
        obtain ⟨rfl, rfl⟩ := H
        go_wp2
        repeat (go_quiet (fail); try go_wp2)
        go_ret2
        exact ⟨_, by first | rfl | (simp [errW_none, errW_some] <;> rfl) | (simp [*, errW_none, errW_some] <;> rfl), by first | exact Kd.R_nil _ _ _ _ _ | exact Kd.N_nil _ _ _ _ _ | exact Kd.V_nil _ _ _ _ _ | exact Kd.Q_nil _ _ _ _ _ | exact Kd.S_nil _ _ _ _ _, by repeat (first | (with_reducible first | exact HB.out | apply below_alloc | apply pw_below_drewN | apply below_drew1) | exact HB.out)⟩
      · replace c11 := Bool.eq_false_iff.mpr c11
        subst c11
        have H1 : ((phalaroperef17_Table.f kj3 l0 a1).bind fun t145 => (if 0 < (t145.length : Int) then (if 0 < ((rd_L4 t145 0).length : Int) then (if a2 ≥ (rd (rd_L4 t145 0) 0) then (some (([] : List (S68)), false)) else (phalaroperef17_Way.l0 kj3 l0 a1 a2 t145 ([] : List (S68)) 0 0)) else (none)) else (none))) = some (r1, r2) := by rw [if_neg (show ¬ (false = true) by decide)] at H; exact H
        clear H
        have H := H1
        clear H1
        replace H := Option.bind_eq_some_iff.mp H
        obtain ⟨t145, A120, H⟩ := H
        replace H : (if 0 < (t145.length : Int) then (if 0 < ((rd_L4 t145 0).length : Int) then (if a2 ≥ (rd (rd_L4 t145 0) 0) then (some (([] : List (S68)), false)) else (phalaroperef17_Way.l0 kj3 l0 a1 a2 t145 ([] : List (S68)) 0 0)) else (none)) else (none)) = some (r1, r2) := H
        have A12 := Aside0.mk A120
        clear A120
        by_cases c13 : 0 < (t145.length : Int)
        · rw [if_pos c13] at H
          have c13b0 : decide (0 < (t145.length : Int)) = true := decide_eq_true c13
          have c13b1 : decide (0 < t145.length) = true := decide_eq_true (by omega)
          clear c13
          by_cases c14 : 0 < ((rd_L4 t145 0).length : Int)
          · rw [if_pos c14] at H
            have c14b0 : decide (0 < ((rd_L4 t145 0).length : Int)) = true := decide_eq_true c14
            have c14b1 : decide (0 < (rd_L4 t145 0).length) = true := decide_eq_true (by omega)
            clear c14
            by_cases c15 : a2 ≥ (rd (rd_L4 t145 0) 0)
            · rw [if_pos c15] at H
              have c15b0 : decide ((rd (rd_L4 t145 0) 0) ≤ a2) = true := decide_eq_true c15
              clear c15
              simp only [Option.some.injEq, Prod.mk.injEq] at H
              obtain ⟨rfl, rfl⟩ := H
              go_wp2_with (first | (go_at_call 25; (with_reducible refine (phalaroperef17_Table.calls kj3 _ _ l0 a1 t145 _ ?side1 ?side2 A12.out).mono ?_); (case side1 => repeat (first | exact (Kd.C_below HR0.out HB.out) | (with_reducible refine Kd.C_alloc ?_ _) | (with_reducible refine Kd.C_drewN ?_ _) | (with_reducible refine Kd.C_drew ?_))); (case side2 => exact HC0.out); rintro e w16 ⟨v146, rfl, ho0, hb⟩; have n0_ := Aside0.mk (Kd.R_lower ho0 (below_size (by repeat (first | (with_reducible first | exact HB.out | apply below_alloc | apply pw_below_drewN | apply below_drew1) | exact HB.out)))); have n1_ := Aside0.mk (below_step (by repeat (first | (with_reducible first | exact HB.out | apply below_alloc | apply pw_below_drewN | apply below_drew1) | exact HB.out)) hb); clear HB; have HO147 := n0_; have HB := n1_; clear n0_ n1_; (try clear hb); (try clear hb2); (try clear hk); (try clear hi); (try clear ho0); obtain ⟨Ao17, co17, eo17⟩ := Kd.R_slice HO147.out; subst eo17; have p148 : 0 ≤ (0 : Int) := (by omega); have q148 : 0 < (t145.length : Int) := of_decide_eq_true (by first | (with_reducible assumption) | assumption); obtain ⟨ad148, A148_0, c148_0, e148, hx148_0, hl148_0, hi148_0⟩ := at_L4 (Kd.R_reads' HO147.out).2.2 0 p148 q148; cases e148; obtain ⟨ce148, hce148, hMe148, hcc148⟩ := Kd.R_get HO147.out [] 0 p148 (by first | exact q148 | exact of_decide_eq_true (by first | (with_reducible assumption) | assumption) | (have e_ := (Kd.R_reads' HO147.out).1; omega)); obtain ⟨ve148_0, rfl, ge148_0⟩ := hMe148; have hv148_0 := hcc148 0 _ rfl; rw [Nat.add_zero, show ((Kd.slice 3 (Kd.int .i64))).sz = 1 from rfl, Nat.mul_one] at hv148_0; replace hv148_0 := Option.some.inj (hv148_0.symm.trans hx148_0); rw [hv148_0] at ge148_0; have HL148_0 := Aside0.mk (show Kd.R (Kd.int .i64) 3 _ _ _ _ (rd_L4 t145 0) from ge148_0); clear hv148_0 ge148_0; clear hcc148 hce148; have qi148 : (0 < t145.length) = True := eq_true (by omega); (try rw [show ((0 : Int)).toNat = 0 from rfl] at hx148_0); (try rw [Addr.add_zero'] at hx148_0); have HR148_0 := Aside0.mk hi148_0; have HC148_0 := Aside0.mk hl148_0; clear hi148_0 hl148_0; replace p148 := eq_true p148; replace q148 := eq_true q148; have p149 : 0 ≤ (0 : Int) := (by omega); have q149 : 0 < ((rd_L4 t145 0).length : Int) := of_decide_eq_true (by first | (with_reducible assumption) | assumption); obtain ⟨ad149, e149, hx149_0⟩ := Kd.at_int (by repeat (first | (with_reducible exact HR148_0.out) | (with_reducible refine Kd.C_alloc ?_ _) | (with_reducible refine Kd.C_drewN ?_ _) | (with_reducible refine Kd.C_drew ?_) | exact HR148_0.out)) 0 p149 q149; cases e149; have qi149 : (0 < (rd_L4 t145 0).length) = True := eq_true (by omega); (try rw [show ((0 : Int)).toNat = 0 from rfl] at hx149_0); (try rw [Addr.add_zero'] at hx149_0); replace p149 := eq_true p149; replace q149 := eq_true q149))
              repeat (go_quiet (first | (go_at_call 25; (with_reducible refine (phalaroperef17_Table.calls kj3 _ _ l0 a1 t145 _ ?side1 ?side2 A12.out).mono ?_); (case side1 => repeat (first | exact (Kd.C_below HR0.out HB.out) | (with_reducible refine Kd.C_alloc ?_ _) | (with_reducible refine Kd.C_drewN ?_ _) | (with_reducible refine Kd.C_drew ?_))); (case side2 => exact HC0.out); rintro e w16 ⟨v146, rfl, ho0, hb⟩; have n0_ := Aside0.mk (Kd.R_lower ho0 (below_size (by repeat (first | (with_reducible first | exact HB.out | apply below_alloc | apply pw_below_drewN | apply below_drew1) | exact HB.out)))); have n1_ := Aside0.mk (below_step (by repeat (first | (with_reducible first | exact HB.out | apply below_alloc | apply pw_below_drewN | apply below_drew1) | exact HB.out)) hb); clear HB; have HO147 := n0_; have HB := n1_; clear n0_ n1_; (try clear hb); (try clear hb2); (try clear hk); (try clear hi); (try clear ho0); obtain ⟨Ao17, co17, eo17⟩ := Kd.R_slice HO147.out; subst eo17; have p148 : 0 ≤ (0 : Int) := (by omega); have q148 : 0 < (t145.length : Int) := of_decide_eq_true (by first | (with_reducible assumption) | assumption); obtain ⟨ad148, A148_0, c148_0, e148, hx148_0, hl148_0, hi148_0⟩ := at_L4 (Kd.R_reads' HO147.out).2.2 0 p148 q148; cases e148; obtain ⟨ce148, hce148, hMe148, hcc148⟩ := Kd.R_get HO147.out [] 0 p148 (by first | exact q148 | exact of_decide_eq_true (by first | (with_reducible assumption) | assumption) | (have e_ := (Kd.R_reads' HO147.out).1; omega)); obtain ⟨ve148_0, rfl, ge148_0⟩ := hMe148; have hv148_0 := hcc148 0 _ rfl; rw [Nat.add_zero, show ((Kd.slice 3 (Kd.int .i64))).sz = 1 from rfl, Nat.mul_one] at hv148_0; replace hv148_0 := Option.some.inj (hv148_0.symm.trans hx148_0); rw [hv148_0] at ge148_0; have HL148_0 := Aside0.mk (show Kd.R (Kd.int .i64) 3 _ _ _ _ (rd_L4 t145 0) from ge148_0); clear hv148_0 ge148_0; clear hcc148 hce148; have qi148 : (0 < t145.length) = True := eq_true (by omega); (try rw [show ((0 : Int)).toNat = 0 from rfl] at hx148_0); (try rw [Addr.add_zero'] at hx148_0); have HR148_0 := Aside0.mk hi148_0; have HC148_0 := Aside0.mk hl148_0; clear hi148_0 hl148_0; replace p148 := eq_true p148; replace q148 := eq_true q148; have p149 : 0 ≤ (0 : Int) := (by omega); have q149 : 0 < ((rd_L4 t145 0).length : Int) := of_decide_eq_true (by first | (with_reducible assumption) | assumption); obtain ⟨ad149, e149, hx149_0⟩ := Kd.at_int (by repeat (first | (with_reducible exact HR148_0.out) | (with_reducible refine Kd.C_alloc ?_ _) | (with_reducible refine Kd.C_drewN ?_ _) | (with_reducible refine Kd.C_drew ?_) | exact HR148_0.out)) 0 p149 q149; cases e149; have qi149 : (0 < (rd_L4 t145 0).length) = True := eq_true (by omega); (try rw [show ((0 : Int)).toNat = 0 from rfl] at hx149_0); (try rw [Addr.add_zero'] at hx149_0); replace p149 := eq_true p149; replace q149 := eq_true q149)); try go_wp2_with (first | (go_at_call 25; (with_reducible refine (phalaroperef17_Table.calls kj3 _ _ l0 a1 t145 _ ?side1 ?side2 A12.out).mono ?_); (case side1 => repeat (first | exact (Kd.C_below HR0.out HB.out) | (with_reducible refine Kd.C_alloc ?_ _) | (with_reducible refine Kd.C_drewN ?_ _) | (with_reducible refine Kd.C_drew ?_))); (case side2 => exact HC0.out); rintro e w16 ⟨v146, rfl, ho0, hb⟩; have n0_ := Aside0.mk (Kd.R_lower ho0 (below_size (by repeat (first | (with_reducible first | exact HB.out | apply below_alloc | apply pw_below_drewN | apply below_drew1) | exact HB.out)))); have n1_ := Aside0.mk (below_step (by repeat (first | (with_reducible first | exact HB.out | apply below_alloc | apply pw_below_drewN | apply below_drew1) | exact HB.out)) hb); clear HB; have HO147 := n0_; have HB := n1_; clear n0_ n1_; (try clear hb); (try clear hb2); (try clear hk); (try clear hi); (try clear ho0); obtain ⟨Ao17, co17, eo17⟩ := Kd.R_slice HO147.out; subst eo17; have p148 : 0 ≤ (0 : Int) := (by omega); have q148 : 0 < (t145.length : Int) := of_decide_eq_true (by first | (with_reducible assumption) | assumption); obtain ⟨ad148, A148_0, c148_0, e148, hx148_0, hl148_0, hi148_0⟩ := at_L4 (Kd.R_reads' HO147.out).2.2 0 p148 q148; cases e148; obtain ⟨ce148, hce148, hMe148, hcc148⟩ := Kd.R_get HO147.out [] 0 p148 (by first | exact q148 | exact of_decide_eq_true (by first | (with_reducible assumption) | assumption) | (have e_ := (Kd.R_reads' HO147.out).1; omega)); obtain ⟨ve148_0, rfl, ge148_0⟩ := hMe148; have hv148_0 := hcc148 0 _ rfl; rw [Nat.add_zero, show ((Kd.slice 3 (Kd.int .i64))).sz = 1 from rfl, Nat.mul_one] at hv148_0; replace hv148_0 := Option.some.inj (hv148_0.symm.trans hx148_0); rw [hv148_0] at ge148_0; have HL148_0 := Aside0.mk (show Kd.R (Kd.int .i64) 3 _ _ _ _ (rd_L4 t145 0) from ge148_0); clear hv148_0 ge148_0; clear hcc148 hce148; have qi148 : (0 < t145.length) = True := eq_true (by omega); (try rw [show ((0 : Int)).toNat = 0 from rfl] at hx148_0); (try rw [Addr.add_zero'] at hx148_0); have HR148_0 := Aside0.mk hi148_0; have HC148_0 := Aside0.mk hl148_0; clear hi148_0 hl148_0; replace p148 := eq_true p148; replace q148 := eq_true q148; have p149 : 0 ≤ (0 : Int) := (by omega); have q149 : 0 < ((rd_L4 t145 0).length : Int) := of_decide_eq_true (by first | (with_reducible assumption) | assumption); obtain ⟨ad149, e149, hx149_0⟩ := Kd.at_int (by repeat (first | (with_reducible exact HR148_0.out) | (with_reducible refine Kd.C_alloc ?_ _) | (with_reducible refine Kd.C_drewN ?_ _) | (with_reducible refine Kd.C_drew ?_) | exact HR148_0.out)) 0 p149 q149; cases e149; have qi149 : (0 < (rd_L4 t145 0).length) = True := eq_true (by omega); (try rw [show ((0 : Int)).toNat = 0 from rfl] at hx149_0); (try rw [Addr.add_zero'] at hx149_0); replace p149 := eq_true p149; replace q149 := eq_true q149)))
              go_ret2
              exact ⟨_, by first | rfl | (simp [errW_none, errW_some] <;> rfl) | (simp [*, errW_none, errW_some] <;> rfl), by first | exact Kd.R_nil _ _ _ _ _ | exact Kd.N_nil _ _ _ _ _ | exact Kd.V_nil _ _ _ _ _ | exact Kd.Q_nil _ _ _ _ _ | exact Kd.S_nil _ _ _ _ _, by repeat (first | (with_reducible first | exact HB.out | apply below_alloc | apply pw_below_drewN | apply below_drew1) | exact HB.out)⟩
            · rw [if_neg c15] at H
              have c15b0 : decide ((rd (rd_L4 t145 0) 0) ≤ a2) = false := decide_eq_false c15
              clear c15
              have H' := Aside0.mk H
              clear H
              go_wp2_with (first | (go_at_call 25; (with_reducible refine (phalaroperef17_Table.calls kj3 _ _ l0 a1 t145 _ ?side1 ?side2 A12.out).mono ?_); (case side1 => repeat (first | exact (Kd.C_below HR0.out HB.out) | (with_reducible refine Kd.C_alloc ?_ _) | (with_reducible refine Kd.C_drewN ?_ _) | (with_reducible refine Kd.C_drew ?_))); (case side2 => exact HC0.out); rintro e w18 ⟨v146, rfl, ho0, hb⟩; have n0_ := Aside0.mk (Kd.R_lower ho0 (below_size (by repeat (first | (with_reducible first | exact HB.out | apply below_alloc | apply pw_below_drewN | apply below_drew1) | exact HB.out)))); have n1_ := Aside0.mk (below_step (by repeat (first | (with_reducible first | exact HB.out | apply below_alloc | apply pw_below_drewN | apply below_drew1) | exact HB.out)) hb); clear HB; have HO147 := n0_; have HB := n1_; clear n0_ n1_; (try clear hb); (try clear hb2); (try clear hk); (try clear hi); (try clear ho0); obtain ⟨Ao19, co19, eo19⟩ := Kd.R_slice HO147.out; subst eo19; have p148 : 0 ≤ (0 : Int) := (by omega); have q148 : 0 < (t145.length : Int) := of_decide_eq_true (by first | (with_reducible assumption) | assumption); obtain ⟨ad148, A148_0, c148_0, e148, hx148_0, hl148_0, hi148_0⟩ := at_L4 (Kd.R_reads' HO147.out).2.2 0 p148 q148; cases e148; obtain ⟨ce148, hce148, hMe148, hcc148⟩ := Kd.R_get HO147.out [] 0 p148 (by first | exact q148 | exact of_decide_eq_true (by first | (with_reducible assumption) | assumption) | (have e_ := (Kd.R_reads' HO147.out).1; omega)); obtain ⟨ve148_0, rfl, ge148_0⟩ := hMe148; have hv148_0 := hcc148 0 _ rfl; rw [Nat.add_zero, show ((Kd.slice 3 (Kd.int .i64))).sz = 1 from rfl, Nat.mul_one] at hv148_0; replace hv148_0 := Option.some.inj (hv148_0.symm.trans hx148_0); rw [hv148_0] at ge148_0; have HL148_0 := Aside0.mk (show Kd.R (Kd.int .i64) 3 _ _ _ _ (rd_L4 t145 0) from ge148_0); clear hv148_0 ge148_0; clear hcc148 hce148; have qi148 : (0 < t145.length) = True := eq_true (by omega); (try rw [show ((0 : Int)).toNat = 0 from rfl] at hx148_0); (try rw [Addr.add_zero'] at hx148_0); have HR148_0 := Aside0.mk hi148_0; have HC148_0 := Aside0.mk hl148_0; clear hi148_0 hl148_0; replace p148 := eq_true p148; replace q148 := eq_true q148; have p149 : 0 ≤ (0 : Int) := (by omega); have q149 : 0 < ((rd_L4 t145 0).length : Int) := of_decide_eq_true (by first | (with_reducible assumption) | assumption); obtain ⟨ad149, e149, hx149_0⟩ := Kd.at_int (by repeat (first | (with_reducible exact HR148_0.out) | (with_reducible refine Kd.C_alloc ?_ _) | (with_reducible refine Kd.C_drewN ?_ _) | (with_reducible refine Kd.C_drew ?_) | exact HR148_0.out)) 0 p149 q149; cases e149; have qi149 : (0 < (rd_L4 t145 0).length) = True := eq_true (by omega); (try rw [show ((0 : Int)).toNat = 0 from rfl] at hx149_0); (try rw [Addr.add_zero'] at hx149_0); replace p149 := eq_true p149; replace q149 := eq_true q149))
              repeat (go_quiet (first | (go_at_call 25; (with_reducible refine (phalaroperef17_Table.calls kj3 _ _ l0 a1 t145 _ ?side1 ?side2 A12.out).mono ?_); (case side1 => repeat (first | exact (Kd.C_below HR0.out HB.out) | (with_reducible refine Kd.C_alloc ?_ _) | (with_reducible refine Kd.C_drewN ?_ _) | (with_reducible refine Kd.C_drew ?_))); (case side2 => exact HC0.out); rintro e w18 ⟨v146, rfl, ho0, hb⟩; have n0_ := Aside0.mk (Kd.R_lower ho0 (below_size (by repeat (first | (with_reducible first | exact HB.out | apply below_alloc | apply pw_below_drewN | apply below_drew1) | exact HB.out)))); have n1_ := Aside0.mk (below_step (by repeat (first | (with_reducible first | exact HB.out | apply below_alloc | apply pw_below_drewN | apply below_drew1) | exact HB.out)) hb); clear HB; have HO147 := n0_; have HB := n1_; clear n0_ n1_; (try clear hb); (try clear hb2); (try clear hk); (try clear hi); (try clear ho0); obtain ⟨Ao19, co19, eo19⟩ := Kd.R_slice HO147.out; subst eo19; have p148 : 0 ≤ (0 : Int) := (by omega); have q148 : 0 < (t145.length : Int) := of_decide_eq_true (by first | (with_reducible assumption) | assumption); obtain ⟨ad148, A148_0, c148_0, e148, hx148_0, hl148_0, hi148_0⟩ := at_L4 (Kd.R_reads' HO147.out).2.2 0 p148 q148; cases e148; obtain ⟨ce148, hce148, hMe148, hcc148⟩ := Kd.R_get HO147.out [] 0 p148 (by first | exact q148 | exact of_decide_eq_true (by first | (with_reducible assumption) | assumption) | (have e_ := (Kd.R_reads' HO147.out).1; omega)); obtain ⟨ve148_0, rfl, ge148_0⟩ := hMe148; have hv148_0 := hcc148 0 _ rfl; rw [Nat.add_zero, show ((Kd.slice 3 (Kd.int .i64))).sz = 1 from rfl, Nat.mul_one] at hv148_0; replace hv148_0 := Option.some.inj (hv148_0.symm.trans hx148_0); rw [hv148_0] at ge148_0; have HL148_0 := Aside0.mk (show Kd.R (Kd.int .i64) 3 _ _ _ _ (rd_L4 t145 0) from ge148_0); clear hv148_0 ge148_0; clear hcc148 hce148; have qi148 : (0 < t145.length) = True := eq_true (by omega); (try rw [show ((0 : Int)).toNat = 0 from rfl] at hx148_0); (try rw [Addr.add_zero'] at hx148_0); have HR148_0 := Aside0.mk hi148_0; have HC148_0 := Aside0.mk hl148_0; clear hi148_0 hl148_0; replace p148 := eq_true p148; replace q148 := eq_true q148; have p149 : 0 ≤ (0 : Int) := (by omega); have q149 : 0 < ((rd_L4 t145 0).length : Int) := of_decide_eq_true (by first | (with_reducible assumption) | assumption); obtain ⟨ad149, e149, hx149_0⟩ := Kd.at_int (by repeat (first | (with_reducible exact HR148_0.out) | (with_reducible refine Kd.C_alloc ?_ _) | (with_reducible refine Kd.C_drewN ?_ _) | (with_reducible refine Kd.C_drew ?_) | exact HR148_0.out)) 0 p149 q149; cases e149; have qi149 : (0 < (rd_L4 t145 0).length) = True := eq_true (by omega); (try rw [show ((0 : Int)).toNat = 0 from rfl] at hx149_0); (try rw [Addr.add_zero'] at hx149_0); replace p149 := eq_true p149; replace q149 := eq_true q149)); try go_wp2_with (first | (go_at_call 25; (with_reducible refine (phalaroperef17_Table.calls kj3 _ _ l0 a1 t145 _ ?side1 ?side2 A12.out).mono ?_); (case side1 => repeat (first | exact (Kd.C_below HR0.out HB.out) | (with_reducible refine Kd.C_alloc ?_ _) | (with_reducible refine Kd.C_drewN ?_ _) | (with_reducible refine Kd.C_drew ?_))); (case side2 => exact HC0.out); rintro e w18 ⟨v146, rfl, ho0, hb⟩; have n0_ := Aside0.mk (Kd.R_lower ho0 (below_size (by repeat (first | (with_reducible first | exact HB.out | apply below_alloc | apply pw_below_drewN | apply below_drew1) | exact HB.out)))); have n1_ := Aside0.mk (below_step (by repeat (first | (with_reducible first | exact HB.out | apply below_alloc | apply pw_below_drewN | apply below_drew1) | exact HB.out)) hb); clear HB; have HO147 := n0_; have HB := n1_; clear n0_ n1_; (try clear hb); (try clear hb2); (try clear hk); (try clear hi); (try clear ho0); obtain ⟨Ao19, co19, eo19⟩ := Kd.R_slice HO147.out; subst eo19; have p148 : 0 ≤ (0 : Int) := (by omega); have q148 : 0 < (t145.length : Int) := of_decide_eq_true (by first | (with_reducible assumption) | assumption); obtain ⟨ad148, A148_0, c148_0, e148, hx148_0, hl148_0, hi148_0⟩ := at_L4 (Kd.R_reads' HO147.out).2.2 0 p148 q148; cases e148; obtain ⟨ce148, hce148, hMe148, hcc148⟩ := Kd.R_get HO147.out [] 0 p148 (by first | exact q148 | exact of_decide_eq_true (by first | (with_reducible assumption) | assumption) | (have e_ := (Kd.R_reads' HO147.out).1; omega)); obtain ⟨ve148_0, rfl, ge148_0⟩ := hMe148; have hv148_0 := hcc148 0 _ rfl; rw [Nat.add_zero, show ((Kd.slice 3 (Kd.int .i64))).sz = 1 from rfl, Nat.mul_one] at hv148_0; replace hv148_0 := Option.some.inj (hv148_0.symm.trans hx148_0); rw [hv148_0] at ge148_0; have HL148_0 := Aside0.mk (show Kd.R (Kd.int .i64) 3 _ _ _ _ (rd_L4 t145 0) from ge148_0); clear hv148_0 ge148_0; clear hcc148 hce148; have qi148 : (0 < t145.length) = True := eq_true (by omega); (try rw [show ((0 : Int)).toNat = 0 from rfl] at hx148_0); (try rw [Addr.add_zero'] at hx148_0); have HR148_0 := Aside0.mk hi148_0; have HC148_0 := Aside0.mk hl148_0; clear hi148_0 hl148_0; replace p148 := eq_true p148; replace q148 := eq_true q148; have p149 : 0 ≤ (0 : Int) := (by omega); have q149 : 0 < ((rd_L4 t145 0).length : Int) := of_decide_eq_true (by first | (with_reducible assumption) | assumption); obtain ⟨ad149, e149, hx149_0⟩ := Kd.at_int (by repeat (first | (with_reducible exact HR148_0.out) | (with_reducible refine Kd.C_alloc ?_ _) | (with_reducible refine Kd.C_drewN ?_ _) | (with_reducible refine Kd.C_drew ?_) | exact HR148_0.out)) 0 p149 q149; cases e149; have qi149 : (0 < (rd_L4 t145 0).length) = True := eq_true (by omega); (try rw [show ((0 : Int)).toNat = 0 from rfl] at hx149_0); (try rw [Addr.add_zero'] at hx149_0); replace p149 := eq_true p149; replace q149 := eq_true q149)))
              go_loopg [2, 9, 10, 11] kj3 (fun kq v2 v9 v10 v11 w' => ∃ (x2_2 : Int) (x9_2 : List (S68)) (x10_2 : Int) (x11_2 : Int), v2 = .int .i64 x2_2 ∧ v10 = .int .i64 x10_2 ∧ v11 = .int .i64 x11_2 ∧ Aside0 (phalaroperef17_Way.l0 kq l0 a1 x2_2 t145 x9_2 x10_2 x11_2 = some (r1, r2)) ∧ Aside0 (kq ≤ kj3) ∧ Aside0 (Kd.R (Kd.slice 3 (Kd.int .i64)) 33 w' w.heap.size (fun _ => True) (.slice (some ad148) t145.length co19) t145) ∧ Aside0 (Kd.R k68 68 w' w.heap.size (fun _ => True) v9 x9_2) ∧ Aside0 (Below w.heap.size w w'))
              case atStart => exact ⟨(a2), (([] : List (S68))), (0), (0), (by first | rfl | (simp; done) | (simp [*]; done)), (by first | rfl | (simp; done) | (simp [*]; done)), (by first | rfl | (simp; done) | (simp [*]; done)), H', ⟨Nat.le_refl _⟩, ⟨by (with_reducible repeat (first | apply Kd.R_alloc | apply Kd.R_drewN | apply Kd.R_drew)); exact HO147.out⟩, ⟨by first | exact Kd.R_nil _ _ _ _ _ | exact Kd.N_nil _ _ _ _ _ | exact Kd.V_nil _ _ _ _ _ | exact Kd.Q_nil _ _ _ _ _ | exact Kd.S_nil _ _ _ _ _⟩, ⟨by repeat (first | (with_reducible first | exact HB.out | apply below_alloc | apply pw_below_drewN | apply below_drew1) | exact HB.out)⟩⟩
              case round =>
                clear H'
                try clear c1
                try clear p1
                try clear q1
                try clear hx1
                try clear qi1
                try clear p2
                try clear c6
                try clear c7
                try clear c7b0
                try clear c11
                try clear c12
                try clear c13
                try clear c13b0
                try clear c13b1
                try clear c14
                try clear c14b0
                try clear c14b1
                try clear p14
                try clear q14
                try clear hx14
                try clear qi14
                try clear c15
                try clear c15b0
                try clear hx148_0
                try clear hx149_0
                try clear p148
                try clear p149
                try clear p2
                try clear q148
                try clear q149
                obtain ⟨x2_2, x9_2, x10_2, x11_2, rfl, rfl, rfl, HA, HK2, HO_8, HO_9, HB⟩ := hrel
                cases gk with
                | zero => exact absurd HA.out (by simp [phalaroperef17_Way.l0])
                | succ k2 =>
                  have H := HA.out
                  clear HA
                  simp only [phalaroperef17_Way.l0] at H
                  by_cases c20 : 0 ≤ x11_2
                  · rw [if_pos c20] at H
                    have c20b0 : decide (0 ≤ x11_2) = true := decide_eq_true c20
                    clear c20
                    by_cases c21 : x11_2 < (l0.length : Int)
                    · rw [if_pos c21] at H
                      have c21b0 : decide (x11_2 < (l0.length : Int)) = true := decide_eq_true c21
                      clear c21
                      by_cases c22 : ((rd_T35 l0 x11_2).f0) = 4
                      · rw [if_pos c22] at H
                        have c22b0 : (((rd_T35 l0 x11_2).f0) == 4) = true := beq_iff_eq.mpr c22
                        have c22b1 : (((rd_T35 l0 x11_2).f0) != 4) = false := bne_eq_false_iff_eq.mpr c22
                        clear c22
                        simp only [Option.some.injEq, Prod.mk.injEq] at H
                        obtain ⟨rfl, rfl⟩ := H
                        have p150 : 0 ≤ (x11_2 : Int) := of_decide_eq_true (by first | (with_reducible assumption) | assumption)
                        have q150 : x11_2 < (l0.length : Int) := of_decide_eq_true (by first | (with_reducible assumption) | assumption)
                        obtain ⟨ad150, A150_1, c150_1, A150_2, c150_2, e150, hx150_0, hx150_1, hx150_2, hx150_3, hx150_4, hl150_1, hi150_1, hl150_2, hi150_2⟩ := at_T35 HR0.out x11_2 p150 q150
                        cases e150
                        replace hx150_0 := (HB.out.cell (World.block_lt_of_cell? w _ hx150_0)).trans hx150_0
                        replace hx150_1 := (HB.out.cell (World.block_lt_of_cell? w _ hx150_1)).trans hx150_1
                        replace hx150_2 := (HB.out.cell (World.block_lt_of_cell? w _ hx150_2)).trans hx150_2
                        replace hx150_3 := (HB.out.cell (World.block_lt_of_cell? w _ hx150_3)).trans hx150_3
                        replace hx150_4 := (HB.out.cell (World.block_lt_of_cell? w _ hx150_4)).trans hx150_4
                        have HR150_1 := Aside0.mk hi150_1
                        have HC150_1 := Aside0.mk hl150_1
                        clear hi150_1 hl150_1
                        have HR150_2 := Aside0.mk hi150_2
                        have HC150_2 := Aside0.mk hl150_2
                        clear hi150_2 hl150_2
                        replace p150 := eq_true p150
                        replace q150 := eq_true q150
                        go_wp2
                        repeat (go_quiet (fail); try go_wp2)
                        go_ret2
                        exact ⟨_, by first | rfl | (simp [errW_none, errW_some] <;> rfl) | (simp [*, errW_none, errW_some] <;> rfl), by (with_reducible repeat (first | apply Kd.R_alloc | apply Kd.R_drewN | apply Kd.R_drew)); exact HO_9.out, by repeat (first | (with_reducible first | exact HB.out | apply below_alloc | apply pw_below_drewN | apply below_drew1) | exact HB.out)⟩
                      · rw [if_neg c22] at H
                        have c22b0 : (((rd_T35 l0 x11_2).f0) == 4) = false := beq_eq_false_iff_ne.mpr c22
                        have c22b1 : (((rd_T35 l0 x11_2).f0) != 4) = true := bne_iff_ne.mpr c22
                        have HC23 := Aside0.mk H
                        clear H
                        have p150 : 0 ≤ (x11_2 : Int) := of_decide_eq_true (by first | (with_reducible assumption) | assumption)
                        have q150 : x11_2 < (l0.length : Int) := of_decide_eq_true (by first | (with_reducible assumption) | assumption)
                        obtain ⟨ad150, A150_1, c150_1, A150_2, c150_2, e150, hx150_0, hx150_1, hx150_2, hx150_3, hx150_4, hl150_1, hi150_1, hl150_2, hi150_2⟩ := at_T35 HR0.out x11_2 p150 q150
                        cases e150
                        replace hx150_0 := (HB.out.cell (World.block_lt_of_cell? w _ hx150_0)).trans hx150_0
                        replace hx150_1 := (HB.out.cell (World.block_lt_of_cell? w _ hx150_1)).trans hx150_1
                        replace hx150_2 := (HB.out.cell (World.block_lt_of_cell? w _ hx150_2)).trans hx150_2
                        replace hx150_3 := (HB.out.cell (World.block_lt_of_cell? w _ hx150_3)).trans hx150_3
                        replace hx150_4 := (HB.out.cell (World.block_lt_of_cell? w _ hx150_4)).trans hx150_4
                        have HR150_1 := Aside0.mk hi150_1
                        have HC150_1 := Aside0.mk hl150_1
                        clear hi150_1 hl150_1
                        have HR150_2 := Aside0.mk hi150_2
                        have HC150_2 := Aside0.mk hl150_2
                        clear hi150_2 hl150_2
                        replace p150 := eq_true p150
                        replace q150 := eq_true q150
                        have p151 : 0 ≤ (x11_2 : Int) := of_decide_eq_true (by first | (with_reducible assumption) | assumption)
                        have q151 : x11_2 < (l0.length : Int) := of_decide_eq_true (by first | (with_reducible assumption) | assumption)
                        obtain ⟨ad151, A151_1, c151_1, A151_2, c151_2, e151, hx151_0, hx151_1, hx151_2, hx151_3, hx151_4, hl151_1, hi151_1, hl151_2, hi151_2⟩ := at_T35 HR0.out x11_2 p151 q151
                        obtain rfl : ad150 = ad151 := (by injection e151)
                        replace hx151_0 := (HB.out.cell (World.block_lt_of_cell? w _ hx151_0)).trans hx151_0
                        replace hx151_1 := (HB.out.cell (World.block_lt_of_cell? w _ hx151_1)).trans hx151_1
                        replace hx151_2 := (HB.out.cell (World.block_lt_of_cell? w _ hx151_2)).trans hx151_2
                        replace hx151_3 := (HB.out.cell (World.block_lt_of_cell? w _ hx151_3)).trans hx151_3
                        replace hx151_4 := (HB.out.cell (World.block_lt_of_cell? w _ hx151_4)).trans hx151_4
                        have HR151_1 := Aside0.mk hi151_1
                        have HC151_1 := Aside0.mk hl151_1
                        clear hi151_1 hl151_1
                        have HR151_2 := Aside0.mk hi151_2
                        have HC151_2 := Aside0.mk hl151_2
                        clear hi151_2 hl151_2
                        replace p151 := eq_true p151
                        replace q151 := eq_true q151
                        have ea_ := Option.some.inj (hx150_1.symm.trans hx151_1)
                        injection ea_ with ea_ en_ ec_
                        subst ea_
                        subst ec_
                        clear en_
                        have ea_ := Option.some.inj (hx150_2.symm.trans hx151_2)
                        injection ea_ with ea_ en_ ec_
                        subst ea_
                        subst ec_
                        clear en_
                        go_upto_if 48 with (first | ((with_reducible refine gate_dst (N := 12) rfl ?_); refine box_event ?hg (N := 12) ?hd (cs := #[.int .i64 0, .slice none 0 0, .slice none 0 0, .int .i64 0, .int .i64 0]) (t := 35) ?hr ?_; (case hd => rfl); (case hg => rfl); (case hr => first | (go_simp; done) | (go_simp; rfl)); intro gb152 hg w24 hbox hb; have n0_ := Aside0.mk (Kd.R_below (by (with_reducible repeat (first | apply Kd.R_alloc | apply Kd.R_drewN | apply Kd.R_drew)); exact HO_8.out) hb); have n1_ := Aside0.mk (Kd.R_below (by (with_reducible repeat (first | apply Kd.R_alloc | apply Kd.R_drewN | apply Kd.R_drew)); exact HO_9.out) hb); have n2_ := Aside0.mk (below_step (by repeat (first | (with_reducible first | exact HB.out | apply below_alloc | apply pw_below_drewN | apply below_drew1) | exact HB.out)) hb); have n3_ := Aside0.mk (hbox); have n4_ := Aside0.mk ((by rw [hg]; exact (below_size (by repeat (first | (with_reducible first | exact HB.out | apply below_alloc | apply pw_below_drewN | apply below_drew1) | exact HB.out))) : w.heap.size ≤ gb152)); have n5_ := Aside0.mk ((by rw [hg]; exact (below_size (by repeat (first | (with_reducible first | exact HB.out | apply below_alloc | apply pw_below_drewN | apply below_drew1) | exact HB.out))) : w.heap.size ≤ gb152)); clear HO_8; clear HO_9; clear HB; have HO_8 := n0_; have HO_9 := n1_; have HB := n2_; have BK152 := n3_; have GW152 := n4_; have GE152 := n5_; clear n0_ n1_ n2_ n3_ n4_ n5_; clear hb hbox hg; have hcz25_0 : w24.cell? ⟨gb152, 0, none⟩ = some (.int .i64 0) := (blk_cell BK152.out 0).trans rfl; have hcz25_1 : w24.cell? ⟨gb152, 1, none⟩ = some (.slice none 0 0) := (blk_cell BK152.out 1).trans rfl; have hcz25_2 : w24.cell? ⟨gb152, 2, none⟩ = some (.slice none 0 0) := (blk_cell BK152.out 2).trans rfl; have hcz25_3 : w24.cell? ⟨gb152, 3, none⟩ = some (.int .i64 0) := (blk_cell BK152.out 3).trans rfl; have hcz25_4 : w24.cell? ⟨gb152, 4, none⟩ = some (.int .i64 0) := (blk_cell BK152.out 4).trans rfl; have hfz25_0 := blk_frozen BK152.out 0; have hfz25_1 := blk_frozen BK152.out 1; have hfz25_2 := blk_frozen BK152.out 2; have hfz25_3 := blk_frozen BK152.out 3; have hfz25_4 := blk_frozen BK152.out 4))
                        repeat (go_quiet (first | ((with_reducible refine gate_dst (N := 12) rfl ?_); refine box_event ?hg (N := 12) ?hd (cs := #[.int .i64 0, .slice none 0 0, .slice none 0 0, .int .i64 0, .int .i64 0]) (t := 35) ?hr ?_; (case hd => rfl); (case hg => rfl); (case hr => first | (go_simp; done) | (go_simp; rfl)); intro gb152 hg w24 hbox hb; have n0_ := Aside0.mk (Kd.R_below (by (with_reducible repeat (first | apply Kd.R_alloc | apply Kd.R_drewN | apply Kd.R_drew)); exact HO_8.out) hb); have n1_ := Aside0.mk (Kd.R_below (by (with_reducible repeat (first | apply Kd.R_alloc | apply Kd.R_drewN | apply Kd.R_drew)); exact HO_9.out) hb); have n2_ := Aside0.mk (below_step (by repeat (first | (with_reducible first | exact HB.out | apply below_alloc | apply pw_below_drewN | apply below_drew1) | exact HB.out)) hb); have n3_ := Aside0.mk (hbox); have n4_ := Aside0.mk ((by rw [hg]; exact (below_size (by repeat (first | (with_reducible first | exact HB.out | apply below_alloc | apply pw_below_drewN | apply below_drew1) | exact HB.out))) : w.heap.size ≤ gb152)); have n5_ := Aside0.mk ((by rw [hg]; exact (below_size (by repeat (first | (with_reducible first | exact HB.out | apply below_alloc | apply pw_below_drewN | apply below_drew1) | exact HB.out))) : w.heap.size ≤ gb152)); clear HO_8; clear HO_9; clear HB; have HO_8 := n0_; have HO_9 := n1_; have HB := n2_; have BK152 := n3_; have GW152 := n4_; have GE152 := n5_; clear n0_ n1_ n2_ n3_ n4_ n5_; clear hb hbox hg; have hcz25_0 : w24.cell? ⟨gb152, 0, none⟩ = some (.int .i64 0) := (blk_cell BK152.out 0).trans rfl; have hcz25_1 : w24.cell? ⟨gb152, 1, none⟩ = some (.slice none 0 0) := (blk_cell BK152.out 1).trans rfl; have hcz25_2 : w24.cell? ⟨gb152, 2, none⟩ = some (.slice none 0 0) := (blk_cell BK152.out 2).trans rfl; have hcz25_3 : w24.cell? ⟨gb152, 3, none⟩ = some (.int .i64 0) := (blk_cell BK152.out 3).trans rfl; have hcz25_4 : w24.cell? ⟨gb152, 4, none⟩ = some (.int .i64 0) := (blk_cell BK152.out 4).trans rfl; have hfz25_0 := blk_frozen BK152.out 0; have hfz25_1 := blk_frozen BK152.out 1; have hfz25_2 := blk_frozen BK152.out 2; have hfz25_3 := blk_frozen BK152.out 3; have hfz25_4 := blk_frozen BK152.out 4)); go_upto_if 48 with (first | ((with_reducible refine gate_dst (N := 12) rfl ?_); refine box_event ?hg (N := 12) ?hd (cs := #[.int .i64 0, .slice none 0 0, .slice none 0 0, .int .i64 0, .int .i64 0]) (t := 35) ?hr ?_; (case hd => rfl); (case hg => rfl); (case hr => first | (go_simp; done) | (go_simp; rfl)); intro gb152 hg w24 hbox hb; have n0_ := Aside0.mk (Kd.R_below (by (with_reducible repeat (first | apply Kd.R_alloc | apply Kd.R_drewN | apply Kd.R_drew)); exact HO_8.out) hb); have n1_ := Aside0.mk (Kd.R_below (by (with_reducible repeat (first | apply Kd.R_alloc | apply Kd.R_drewN | apply Kd.R_drew)); exact HO_9.out) hb); have n2_ := Aside0.mk (below_step (by repeat (first | (with_reducible first | exact HB.out | apply below_alloc | apply pw_below_drewN | apply below_drew1) | exact HB.out)) hb); have n3_ := Aside0.mk (hbox); have n4_ := Aside0.mk ((by rw [hg]; exact (below_size (by repeat (first | (with_reducible first | exact HB.out | apply below_alloc | apply pw_below_drewN | apply below_drew1) | exact HB.out))) : w.heap.size ≤ gb152)); have n5_ := Aside0.mk ((by rw [hg]; exact (below_size (by repeat (first | (with_reducible first | exact HB.out | apply below_alloc | apply pw_below_drewN | apply below_drew1) | exact HB.out))) : w.heap.size ≤ gb152)); clear HO_8; clear HO_9; clear HB; have HO_8 := n0_; have HO_9 := n1_; have HB := n2_; have BK152 := n3_; have GW152 := n4_; have GE152 := n5_; clear n0_ n1_ n2_ n3_ n4_ n5_; clear hb hbox hg; have hcz25_0 : w24.cell? ⟨gb152, 0, none⟩ = some (.int .i64 0) := (blk_cell BK152.out 0).trans rfl; have hcz25_1 : w24.cell? ⟨gb152, 1, none⟩ = some (.slice none 0 0) := (blk_cell BK152.out 1).trans rfl; have hcz25_2 : w24.cell? ⟨gb152, 2, none⟩ = some (.slice none 0 0) := (blk_cell BK152.out 2).trans rfl; have hcz25_3 : w24.cell? ⟨gb152, 3, none⟩ = some (.int .i64 0) := (blk_cell BK152.out 3).trans rfl; have hcz25_4 : w24.cell? ⟨gb152, 4, none⟩ = some (.int .i64 0) := (blk_cell BK152.out 4).trans rfl; have hfz25_0 := blk_frozen BK152.out 0; have hfz25_1 := blk_frozen BK152.out 1; have hfz25_2 := blk_frozen BK152.out 2; have hfz25_3 := blk_frozen BK152.out 3; have hfz25_4 := blk_frozen BK152.out 4)))
                        (try simp only [Act.put, List.setIfInBounds_toArray, List.set_cons_zero, List.set_cons_succ])
                        go_cut [9, 11] (fun v9 v11 wc => ∃ (kq : Nat) (x9_22 : List (S68)) (x11_22 : Int), v11 = .int .i64 x11_22 ∧ Aside0 (phalaroperef17_Way.j2 kq l0 a1 x2_2 t145 x9_22 x10_2 x11_22 ((rd_T35 l0 x11_2).f0) ((rd_T35 l0 x11_2).f1) ((rd_T35 l0 x11_2).f2) ((rd_T35 l0 x11_2).f3) ((rd_T35 l0 x11_2).f4) = some (r1, r2)) ∧ Aside0 (kq ≤ k2) ∧ Aside0 (Kd.R (Kd.slice 3 (Kd.int .i64)) 33 wc w.heap.size (fun _ => True) (.slice (some ad148) t145.length co19) t145) ∧ Aside0 (Kd.R k68 68 wc w.heap.size (fun _ => True) v9 x9_22) ∧ Aside0 (wc.heap[gb152]? = some (.cells #[.int .i64 ((rd_T35 l0 x11_2).f0), (.slice A150_1 ((rd_T35 l0 x11_2).f1).length c150_1), (.slice A150_2 ((rd_T35 l0 x11_2).f2).length c150_2), .int .i64 ((rd_T35 l0 x11_2).f3), .int .i64 ((rd_T35 l0 x11_2).f4)] 35 (0, 0))) ∧ Aside0 (Below w.heap.size w wc))
                        case first =>
                          have H := HC23.out
                          clear HC23
                          by_cases c26 : ((rd_T35 l0 x11_2).f0) = 3
                          · rw [if_pos c26] at H
                            have c26b0 : (((rd_T35 l0 x11_2).f0) == 3) = true := beq_iff_eq.mpr c26
                            have c26b1 : (((rd_T35 l0 x11_2).f0) != 3) = false := bne_eq_false_iff_eq.mpr c26
                            clear c26
                            (first | rw [c26b0] | (simp only [i64_w, i32_w]; rw [c26b0]) | skip)
                            by_cases c27 : x9_2.length < 8796093022208
                            · rw [if_pos c27] at H
                              have LMc27 := Aside0.mk c27
                              clear c27
                              obtain ⟨y153, hy153⟩ : ∃ y_ : List (S68), y_ = (x9_2 ++ [(⟨(rd_T35 l0 x11_2).f3, x10_2⟩ : S68)]) := ⟨_, rfl⟩
                              replace H : (phalaroperef17_Way.j2 k2 l0 a1 x2_2 t145 y153 x10_2 ((rd_T35 l0 x11_2).f4) ((rd_T35 l0 x11_2).f0) ((rd_T35 l0 x11_2).f1) ((rd_T35 l0 x11_2).f2) ((rd_T35 l0 x11_2).f3) ((rd_T35 l0 x11_2).f4)) = some (r1, r2) := by first | (rw [hy153]; with_reducible exact H) | (have H2_ := (Option.bind_some _ _).symm.trans H; rw [hy153]; with_reducible exact H2_) | (have H2_ := (Option.bind_some _ _).symm.trans H; with_reducible exact H2_) | with_reducible exact H | (rw [hy153]; exact H) | exact H
                              have Ny153 := Aside0.mk hy153
                              clear hy153
                              have H' := Aside0.mk H
                              clear H
                              have hcz28_0 : w24.cell? ⟨gb152, 0, none⟩ = some (.int .i64 0) := (blk_cell BK152.out 0).trans rfl
                              have hcz28_1 : w24.cell? ⟨gb152, 1, none⟩ = some (.slice none 0 0) := (blk_cell BK152.out 1).trans rfl
                              have hcz28_2 : w24.cell? ⟨gb152, 2, none⟩ = some (.slice none 0 0) := (blk_cell BK152.out 2).trans rfl
                              have hcz28_3 : w24.cell? ⟨gb152, 3, none⟩ = some (.int .i64 0) := (blk_cell BK152.out 3).trans rfl
                              have hcz28_4 : w24.cell? ⟨gb152, 4, none⟩ = some (.int .i64 0) := (blk_cell BK152.out 4).trans rfl
                              have hfz28_0 := blk_frozen BK152.out 0
                              have hfz28_1 := blk_frozen BK152.out 1
                              have hfz28_2 := blk_frozen BK152.out 2
                              have hfz28_3 := blk_frozen BK152.out 3
                              have hfz28_4 := blk_frozen BK152.out 4
                              go_wp2_with (first | ((with_reducible refine gate_builtin (b := .append) (xs := #[.tmp 49, .tmp 54]) rfl ?_); at_builtin; refine Kd.R_append k68 (w0 := w) w.heap.size rfl (.tmp 49) (.tmp 54) 38 68 (.agg #[(.int .i64 0), (.int .i64 0)]) 16 rfl Try.underlying38 info68 rfl (by decide) (by omega) u9 x9_2 (⟨(rd_T35 l0 x11_2).f3, x10_2⟩ : S68) [.int .i64 ((rd_T35 l0 x11_2).f3), .int .i64 x10_2] (fun _ => True) (fun _ => False) rfl (by first | (go_simp; done) | (go_simp; rfl)) ?aP (fun _ hk => hk.elim) ?aF ?aO ?aB ?aS ?aL ?_; (case aP => exact k68_mkM _ _ _ (⟨(rd_T35 l0 x11_2).f3, x10_2⟩ : S68)); (case aB => exact (by repeat (first | (with_reducible first | exact HB.out | apply below_alloc | apply pw_below_drewN | apply below_drew1 | refine below_set ?_ GE152.out) | exact HB.out))); (case aF => exact (fun _ _ => trivial)); (case aO => exact (by (with_reducible repeat (first | apply Kd.R_alloc | apply Kd.R_drewN | apply Kd.R_drew)); exact Kd.R_mono (Kd.R_far (p := ⟨gb152, 4, none⟩) (Kd.R_far (p := ⟨gb152, 3, none⟩) (Kd.R_far (p := ⟨gb152, 2, none⟩) (Kd.R_far (p := ⟨gb152, 1, none⟩) (Kd.R_far (p := ⟨gb152, 0, none⟩) (Kd.R_types HO_9.out BK152.out (by decide)) (fun _ hk => hk.2) (.int .i64 ((rd_T35 l0 x11_2).f0))) (fun _ hk => hk.2) (.slice A150_1 ((rd_T35 l0 x11_2).f1).length c150_1)) (fun _ hk => hk.2) (.slice A150_2 ((rd_T35 l0 x11_2).f2).length c150_2)) (fun _ hk => hk.2) (.int .i64 ((rd_T35 l0 x11_2).f3))) (fun _ hk => hk.2) (.int .i64 ((rd_T35 l0 x11_2).f4))) (fun _ hk => trivial))); (case aS => exact (below_size (by repeat (first | (with_reducible first | exact HB.out | apply below_alloc | apply pw_below_drewN | apply below_drew1 | refine below_set ?_ GE152.out) | exact HB.out)))); (case aL => have := LMc27.out; omega); intro v154 w29 ho hb hg hat; rw [← Ny153.out] at ho; have n0_ := Aside0.mk (Kd.R_over' (by (with_reducible repeat (first | apply Kd.R_alloc | apply Kd.R_drewN | apply Kd.R_drew)); exact (Kd.R_mono (Kd.R_far (p := ⟨gb152, 4, none⟩) (Kd.R_far (p := ⟨gb152, 3, none⟩) (Kd.R_far (p := ⟨gb152, 2, none⟩) (Kd.R_far (p := ⟨gb152, 1, none⟩) (Kd.R_far (p := ⟨gb152, 0, none⟩) (Kd.R_types HO_8.out BK152.out (by decide)) (fun _ hk => hk.2) (.int .i64 ((rd_T35 l0 x11_2).f0))) (fun _ hk => hk.2) (.slice A150_1 ((rd_T35 l0 x11_2).f1).length c150_1)) (fun _ hk => hk.2) (.slice A150_2 ((rd_T35 l0 x11_2).f2).length c150_2)) (fun _ hk => hk.2) (.int .i64 ((rd_T35 l0 x11_2).f3))) (fun _ hk => hk.2) (.int .i64 ((rd_T35 l0 x11_2).f4))) (fun _ h_ => h_.1))) (Kd.R_typed (by (with_reducible repeat (first | apply Kd.R_alloc | apply Kd.R_drewN | apply Kd.R_drew)); exact (Kd.R_mono (Kd.R_far (p := ⟨gb152, 4, none⟩) (Kd.R_far (p := ⟨gb152, 3, none⟩) (Kd.R_far (p := ⟨gb152, 2, none⟩) (Kd.R_far (p := ⟨gb152, 1, none⟩) (Kd.R_far (p := ⟨gb152, 0, none⟩) (Kd.R_types HO_9.out BK152.out (by decide)) (fun _ hk => hk.2) (.int .i64 ((rd_T35 l0 x11_2).f0))) (fun _ hk => hk.2) (.slice A150_1 ((rd_T35 l0 x11_2).f1).length c150_1)) (fun _ hk => hk.2) (.slice A150_2 ((rd_T35 l0 x11_2).f2).length c150_2)) (fun _ hk => hk.2) (.int .i64 ((rd_T35 l0 x11_2).f3))) (fun _ hk => hk.2) (.int .i64 ((rd_T35 l0 x11_2).f4))) (fun _ h_ => h_.1)))) (by decide) hg); have n1_ := Aside0.mk (blk_grown (g := gb152) (o := .cells #[.int .i64 ((rd_T35 l0 x11_2).f0), .slice A150_1 ((rd_T35 l0 x11_2).f1).length c150_1, .slice A150_2 ((rd_T35 l0 x11_2).f2).length c150_2, .int .i64 ((rd_T35 l0 x11_2).f3), .int .i64 ((rd_T35 l0 x11_2).f4)] 35 (0, 0)) (by (with_reducible repeat (first | refine blk_drewN ?_ _ | refine blk_drew ?_ | refine blk_alloc ?_ _)); refine blk_put (cs := #[.int .i64 ((rd_T35 l0 x11_2).f0), .slice A150_1 ((rd_T35 l0 x11_2).f1).length c150_1, .slice A150_2 ((rd_T35 l0 x11_2).f2).length c150_2, .int .i64 ((rd_T35 l0 x11_2).f3), .int .i64 0]) ?_ 4 _ rfl; (with_reducible repeat (first | refine blk_drewN ?_ _ | refine blk_drew ?_ | refine blk_alloc ?_ _)); refine blk_put (cs := #[.int .i64 ((rd_T35 l0 x11_2).f0), .slice A150_1 ((rd_T35 l0 x11_2).f1).length c150_1, .slice A150_2 ((rd_T35 l0 x11_2).f2).length c150_2, .int .i64 0, .int .i64 0]) ?_ 3 _ rfl; (with_reducible repeat (first | refine blk_drewN ?_ _ | refine blk_drew ?_ | refine blk_alloc ?_ _)); refine blk_put (cs := #[.int .i64 ((rd_T35 l0 x11_2).f0), .slice A150_1 ((rd_T35 l0 x11_2).f1).length c150_1, .slice none 0 0, .int .i64 0, .int .i64 0]) ?_ 2 _ rfl; (with_reducible repeat (first | refine blk_drewN ?_ _ | refine blk_drew ?_ | refine blk_alloc ?_ _)); refine blk_put (cs := #[.int .i64 ((rd_T35 l0 x11_2).f0), .slice none 0 0, .slice none 0 0, .int .i64 0, .int .i64 0]) ?_ 1 _ rfl; (with_reducible repeat (first | refine blk_drewN ?_ _ | refine blk_drew ?_ | refine blk_alloc ?_ _)); refine blk_put (cs := #[.int .i64 0, .slice none 0 0, .slice none 0 0, .int .i64 0, .int .i64 0]) ?_ 0 _ rfl; (with_reducible repeat (first | refine blk_drewN ?_ _ | refine blk_drew ?_ | refine blk_alloc ?_ _)); exact BK152.out) hg (Kd.R_ne HO_9.out BK152.out (by decide))); have n2_ := Aside0.mk (hb); have n3_ := Aside0.mk (ho); clear HO_8; clear BK152; clear HB; clear HO_9; have HO_8 := n0_; have BK152 := n1_; have HB := n2_; have HO155 := n3_; clear n0_ n1_ n2_ n3_; clear ho hb hg hat; have hcz30_0 : w29.cell? ⟨gb152, 0, none⟩ = some (.int .i64 ((rd_T35 l0 x11_2).f0)) := (blk_cell BK152.out 0).trans rfl; have hcz30_1 : w29.cell? ⟨gb152, 1, none⟩ = some (.slice A150_1 ((rd_T35 l0 x11_2).f1).length c150_1) := (blk_cell BK152.out 1).trans rfl; have hcz30_2 : w29.cell? ⟨gb152, 2, none⟩ = some (.slice A150_2 ((rd_T35 l0 x11_2).f2).length c150_2) := (blk_cell BK152.out 2).trans rfl; have hcz30_3 : w29.cell? ⟨gb152, 3, none⟩ = some (.int .i64 ((rd_T35 l0 x11_2).f3)) := (blk_cell BK152.out 3).trans rfl; have hcz30_4 : w29.cell? ⟨gb152, 4, none⟩ = some (.int .i64 ((rd_T35 l0 x11_2).f4)) := (blk_cell BK152.out 4).trans rfl; have hfz30_0 := blk_frozen BK152.out 0; have hfz30_1 := blk_frozen BK152.out 1; have hfz30_2 := blk_frozen BK152.out 2; have hfz30_3 := blk_frozen BK152.out 3; have hfz30_4 := blk_frozen BK152.out 4))
                              repeat (go_quiet (first | ((with_reducible refine gate_builtin (b := .append) (xs := #[.tmp 49, .tmp 54]) rfl ?_); at_builtin; refine Kd.R_append k68 (w0 := w) w.heap.size rfl (.tmp 49) (.tmp 54) 38 68 (.agg #[(.int .i64 0), (.int .i64 0)]) 16 rfl Try.underlying38 info68 rfl (by decide) (by omega) u9 x9_2 (⟨(rd_T35 l0 x11_2).f3, x10_2⟩ : S68) [.int .i64 ((rd_T35 l0 x11_2).f3), .int .i64 x10_2] (fun _ => True) (fun _ => False) rfl (by first | (go_simp; done) | (go_simp; rfl)) ?aP (fun _ hk => hk.elim) ?aF ?aO ?aB ?aS ?aL ?_; (case aP => exact k68_mkM _ _ _ (⟨(rd_T35 l0 x11_2).f3, x10_2⟩ : S68)); (case aB => exact (by repeat (first | (with_reducible first | exact HB.out | apply below_alloc | apply pw_below_drewN | apply below_drew1 | refine below_set ?_ GE152.out) | exact HB.out))); (case aF => exact (fun _ _ => trivial)); (case aO => exact (by (with_reducible repeat (first | apply Kd.R_alloc | apply Kd.R_drewN | apply Kd.R_drew)); exact Kd.R_mono (Kd.R_far (p := ⟨gb152, 4, none⟩) (Kd.R_far (p := ⟨gb152, 3, none⟩) (Kd.R_far (p := ⟨gb152, 2, none⟩) (Kd.R_far (p := ⟨gb152, 1, none⟩) (Kd.R_far (p := ⟨gb152, 0, none⟩) (Kd.R_types HO_9.out BK152.out (by decide)) (fun _ hk => hk.2) (.int .i64 ((rd_T35 l0 x11_2).f0))) (fun _ hk => hk.2) (.slice A150_1 ((rd_T35 l0 x11_2).f1).length c150_1)) (fun _ hk => hk.2) (.slice A150_2 ((rd_T35 l0 x11_2).f2).length c150_2)) (fun _ hk => hk.2) (.int .i64 ((rd_T35 l0 x11_2).f3))) (fun _ hk => hk.2) (.int .i64 ((rd_T35 l0 x11_2).f4))) (fun _ hk => trivial))); (case aS => exact (below_size (by repeat (first | (with_reducible first | exact HB.out | apply below_alloc | apply pw_below_drewN | apply below_drew1 | refine below_set ?_ GE152.out) | exact HB.out)))); (case aL => have := LMc27.out; omega); intro v154 w29 ho hb hg hat; rw [← Ny153.out] at ho; have n0_ := Aside0.mk (Kd.R_over' (by (with_reducible repeat (first | apply Kd.R_alloc | apply Kd.R_drewN | apply Kd.R_drew)); exact (Kd.R_mono (Kd.R_far (p := ⟨gb152, 4, none⟩) (Kd.R_far (p := ⟨gb152, 3, none⟩) (Kd.R_far (p := ⟨gb152, 2, none⟩) (Kd.R_far (p := ⟨gb152, 1, none⟩) (Kd.R_far (p := ⟨gb152, 0, none⟩) (Kd.R_types HO_8.out BK152.out (by decide)) (fun _ hk => hk.2) (.int .i64 ((rd_T35 l0 x11_2).f0))) (fun _ hk => hk.2) (.slice A150_1 ((rd_T35 l0 x11_2).f1).length c150_1)) (fun _ hk => hk.2) (.slice A150_2 ((rd_T35 l0 x11_2).f2).length c150_2)) (fun _ hk => hk.2) (.int .i64 ((rd_T35 l0 x11_2).f3))) (fun _ hk => hk.2) (.int .i64 ((rd_T35 l0 x11_2).f4))) (fun _ h_ => h_.1))) (Kd.R_typed (by (with_reducible repeat (first | apply Kd.R_alloc | apply Kd.R_drewN | apply Kd.R_drew)); exact (Kd.R_mono (Kd.R_far (p := ⟨gb152, 4, none⟩) (Kd.R_far (p := ⟨gb152, 3, none⟩) (Kd.R_far (p := ⟨gb152, 2, none⟩) (Kd.R_far (p := ⟨gb152, 1, none⟩) (Kd.R_far (p := ⟨gb152, 0, none⟩) (Kd.R_types HO_9.out BK152.out (by decide)) (fun _ hk => hk.2) (.int .i64 ((rd_T35 l0 x11_2).f0))) (fun _ hk => hk.2) (.slice A150_1 ((rd_T35 l0 x11_2).f1).length c150_1)) (fun _ hk => hk.2) (.slice A150_2 ((rd_T35 l0 x11_2).f2).length c150_2)) (fun _ hk => hk.2) (.int .i64 ((rd_T35 l0 x11_2).f3))) (fun _ hk => hk.2) (.int .i64 ((rd_T35 l0 x11_2).f4))) (fun _ h_ => h_.1)))) (by decide) hg); have n1_ := Aside0.mk (blk_grown (g := gb152) (o := .cells #[.int .i64 ((rd_T35 l0 x11_2).f0), .slice A150_1 ((rd_T35 l0 x11_2).f1).length c150_1, .slice A150_2 ((rd_T35 l0 x11_2).f2).length c150_2, .int .i64 ((rd_T35 l0 x11_2).f3), .int .i64 ((rd_T35 l0 x11_2).f4)] 35 (0, 0)) (by (with_reducible repeat (first | refine blk_drewN ?_ _ | refine blk_drew ?_ | refine blk_alloc ?_ _)); refine blk_put (cs := #[.int .i64 ((rd_T35 l0 x11_2).f0), .slice A150_1 ((rd_T35 l0 x11_2).f1).length c150_1, .slice A150_2 ((rd_T35 l0 x11_2).f2).length c150_2, .int .i64 ((rd_T35 l0 x11_2).f3), .int .i64 0]) ?_ 4 _ rfl; (with_reducible repeat (first | refine blk_drewN ?_ _ | refine blk_drew ?_ | refine blk_alloc ?_ _)); refine blk_put (cs := #[.int .i64 ((rd_T35 l0 x11_2).f0), .slice A150_1 ((rd_T35 l0 x11_2).f1).length c150_1, .slice A150_2 ((rd_T35 l0 x11_2).f2).length c150_2, .int .i64 0, .int .i64 0]) ?_ 3 _ rfl; (with_reducible repeat (first | refine blk_drewN ?_ _ | refine blk_drew ?_ | refine blk_alloc ?_ _)); refine blk_put (cs := #[.int .i64 ((rd_T35 l0 x11_2).f0), .slice A150_1 ((rd_T35 l0 x11_2).f1).length c150_1, .slice none 0 0, .int .i64 0, .int .i64 0]) ?_ 2 _ rfl; (with_reducible repeat (first | refine blk_drewN ?_ _ | refine blk_drew ?_ | refine blk_alloc ?_ _)); refine blk_put (cs := #[.int .i64 ((rd_T35 l0 x11_2).f0), .slice none 0 0, .slice none 0 0, .int .i64 0, .int .i64 0]) ?_ 1 _ rfl; (with_reducible repeat (first | refine blk_drewN ?_ _ | refine blk_drew ?_ | refine blk_alloc ?_ _)); refine blk_put (cs := #[.int .i64 0, .slice none 0 0, .slice none 0 0, .int .i64 0, .int .i64 0]) ?_ 0 _ rfl; (with_reducible repeat (first | refine blk_drewN ?_ _ | refine blk_drew ?_ | refine blk_alloc ?_ _)); exact BK152.out) hg (Kd.R_ne HO_9.out BK152.out (by decide))); have n2_ := Aside0.mk (hb); have n3_ := Aside0.mk (ho); clear HO_8; clear BK152; clear HB; clear HO_9; have HO_8 := n0_; have BK152 := n1_; have HB := n2_; have HO155 := n3_; clear n0_ n1_ n2_ n3_; clear ho hb hg hat; have hcz30_0 : w29.cell? ⟨gb152, 0, none⟩ = some (.int .i64 ((rd_T35 l0 x11_2).f0)) := (blk_cell BK152.out 0).trans rfl; have hcz30_1 : w29.cell? ⟨gb152, 1, none⟩ = some (.slice A150_1 ((rd_T35 l0 x11_2).f1).length c150_1) := (blk_cell BK152.out 1).trans rfl; have hcz30_2 : w29.cell? ⟨gb152, 2, none⟩ = some (.slice A150_2 ((rd_T35 l0 x11_2).f2).length c150_2) := (blk_cell BK152.out 2).trans rfl; have hcz30_3 : w29.cell? ⟨gb152, 3, none⟩ = some (.int .i64 ((rd_T35 l0 x11_2).f3)) := (blk_cell BK152.out 3).trans rfl; have hcz30_4 : w29.cell? ⟨gb152, 4, none⟩ = some (.int .i64 ((rd_T35 l0 x11_2).f4)) := (blk_cell BK152.out 4).trans rfl; have hfz30_0 := blk_frozen BK152.out 0; have hfz30_1 := blk_frozen BK152.out 1; have hfz30_2 := blk_frozen BK152.out 2; have hfz30_3 := blk_frozen BK152.out 3; have hfz30_4 := blk_frozen BK152.out 4)); try go_wp2_with (first | ((with_reducible refine gate_builtin (b := .append) (xs := #[.tmp 49, .tmp 54]) rfl ?_); at_builtin; refine Kd.R_append k68 (w0 := w) w.heap.size rfl (.tmp 49) (.tmp 54) 38 68 (.agg #[(.int .i64 0), (.int .i64 0)]) 16 rfl Try.underlying38 info68 rfl (by decide) (by omega) u9 x9_2 (⟨(rd_T35 l0 x11_2).f3, x10_2⟩ : S68) [.int .i64 ((rd_T35 l0 x11_2).f3), .int .i64 x10_2] (fun _ => True) (fun _ => False) rfl (by first | (go_simp; done) | (go_simp; rfl)) ?aP (fun _ hk => hk.elim) ?aF ?aO ?aB ?aS ?aL ?_; (case aP => exact k68_mkM _ _ _ (⟨(rd_T35 l0 x11_2).f3, x10_2⟩ : S68)); (case aB => exact (by repeat (first | (with_reducible first | exact HB.out | apply below_alloc | apply pw_below_drewN | apply below_drew1 | refine below_set ?_ GE152.out) | exact HB.out))); (case aF => exact (fun _ _ => trivial)); (case aO => exact (by (with_reducible repeat (first | apply Kd.R_alloc | apply Kd.R_drewN | apply Kd.R_drew)); exact Kd.R_mono (Kd.R_far (p := ⟨gb152, 4, none⟩) (Kd.R_far (p := ⟨gb152, 3, none⟩) (Kd.R_far (p := ⟨gb152, 2, none⟩) (Kd.R_far (p := ⟨gb152, 1, none⟩) (Kd.R_far (p := ⟨gb152, 0, none⟩) (Kd.R_types HO_9.out BK152.out (by decide)) (fun _ hk => hk.2) (.int .i64 ((rd_T35 l0 x11_2).f0))) (fun _ hk => hk.2) (.slice A150_1 ((rd_T35 l0 x11_2).f1).length c150_1)) (fun _ hk => hk.2) (.slice A150_2 ((rd_T35 l0 x11_2).f2).length c150_2)) (fun _ hk => hk.2) (.int .i64 ((rd_T35 l0 x11_2).f3))) (fun _ hk => hk.2) (.int .i64 ((rd_T35 l0 x11_2).f4))) (fun _ hk => trivial))); (case aS => exact (below_size (by repeat (first | (with_reducible first | exact HB.out | apply below_alloc | apply pw_below_drewN | apply below_drew1 | refine below_set ?_ GE152.out) | exact HB.out)))); (case aL => have := LMc27.out; omega); intro v154 w29 ho hb hg hat; rw [← Ny153.out] at ho; have n0_ := Aside0.mk (Kd.R_over' (by (with_reducible repeat (first | apply Kd.R_alloc | apply Kd.R_drewN | apply Kd.R_drew)); exact (Kd.R_mono (Kd.R_far (p := ⟨gb152, 4, none⟩) (Kd.R_far (p := ⟨gb152, 3, none⟩) (Kd.R_far (p := ⟨gb152, 2, none⟩) (Kd.R_far (p := ⟨gb152, 1, none⟩) (Kd.R_far (p := ⟨gb152, 0, none⟩) (Kd.R_types HO_8.out BK152.out (by decide)) (fun _ hk => hk.2) (.int .i64 ((rd_T35 l0 x11_2).f0))) (fun _ hk => hk.2) (.slice A150_1 ((rd_T35 l0 x11_2).f1).length c150_1)) (fun _ hk => hk.2) (.slice A150_2 ((rd_T35 l0 x11_2).f2).length c150_2)) (fun _ hk => hk.2) (.int .i64 ((rd_T35 l0 x11_2).f3))) (fun _ hk => hk.2) (.int .i64 ((rd_T35 l0 x11_2).f4))) (fun _ h_ => h_.1))) (Kd.R_typed (by (with_reducible repeat (first | apply Kd.R_alloc | apply Kd.R_drewN | apply Kd.R_drew)); exact (Kd.R_mono (Kd.R_far (p := ⟨gb152, 4, none⟩) (Kd.R_far (p := ⟨gb152, 3, none⟩) (Kd.R_far (p := ⟨gb152, 2, none⟩) (Kd.R_far (p := ⟨gb152, 1, none⟩) (Kd.R_far (p := ⟨gb152, 0, none⟩) (Kd.R_types HO_9.out BK152.out (by decide)) (fun _ hk => hk.2) (.int .i64 ((rd_T35 l0 x11_2).f0))) (fun _ hk => hk.2) (.slice A150_1 ((rd_T35 l0 x11_2).f1).length c150_1)) (fun _ hk => hk.2) (.slice A150_2 ((rd_T35 l0 x11_2).f2).length c150_2)) (fun _ hk => hk.2) (.int .i64 ((rd_T35 l0 x11_2).f3))) (fun _ hk => hk.2) (.int .i64 ((rd_T35 l0 x11_2).f4))) (fun _ h_ => h_.1)))) (by decide) hg); have n1_ := Aside0.mk (blk_grown (g := gb152) (o := .cells #[.int .i64 ((rd_T35 l0 x11_2).f0), .slice A150_1 ((rd_T35 l0 x11_2).f1).length c150_1, .slice A150_2 ((rd_T35 l0 x11_2).f2).length c150_2, .int .i64 ((rd_T35 l0 x11_2).f3), .int .i64 ((rd_T35 l0 x11_2).f4)] 35 (0, 0)) (by (with_reducible repeat (first | refine blk_drewN ?_ _ | refine blk_drew ?_ | refine blk_alloc ?_ _)); refine blk_put (cs := #[.int .i64 ((rd_T35 l0 x11_2).f0), .slice A150_1 ((rd_T35 l0 x11_2).f1).length c150_1, .slice A150_2 ((rd_T35 l0 x11_2).f2).length c150_2, .int .i64 ((rd_T35 l0 x11_2).f3), .int .i64 0]) ?_ 4 _ rfl; (with_reducible repeat (first | refine blk_drewN ?_ _ | refine blk_drew ?_ | refine blk_alloc ?_ _)); refine blk_put (cs := #[.int .i64 ((rd_T35 l0 x11_2).f0), .slice A150_1 ((rd_T35 l0 x11_2).f1).length c150_1, .slice A150_2 ((rd_T35 l0 x11_2).f2).length c150_2, .int .i64 0, .int .i64 0]) ?_ 3 _ rfl; (with_reducible repeat (first | refine blk_drewN ?_ _ | refine blk_drew ?_ | refine blk_alloc ?_ _)); refine blk_put (cs := #[.int .i64 ((rd_T35 l0 x11_2).f0), .slice A150_1 ((rd_T35 l0 x11_2).f1).length c150_1, .slice none 0 0, .int .i64 0, .int .i64 0]) ?_ 2 _ rfl; (with_reducible repeat (first | refine blk_drewN ?_ _ | refine blk_drew ?_ | refine blk_alloc ?_ _)); refine blk_put (cs := #[.int .i64 ((rd_T35 l0 x11_2).f0), .slice none 0 0, .slice none 0 0, .int .i64 0, .int .i64 0]) ?_ 1 _ rfl; (with_reducible repeat (first | refine blk_drewN ?_ _ | refine blk_drew ?_ | refine blk_alloc ?_ _)); refine blk_put (cs := #[.int .i64 0, .slice none 0 0, .slice none 0 0, .int .i64 0, .int .i64 0]) ?_ 0 _ rfl; (with_reducible repeat (first | refine blk_drewN ?_ _ | refine blk_drew ?_ | refine blk_alloc ?_ _)); exact BK152.out) hg (Kd.R_ne HO_9.out BK152.out (by decide))); have n2_ := Aside0.mk (hb); have n3_ := Aside0.mk (ho); clear HO_8; clear BK152; clear HB; clear HO_9; have HO_8 := n0_; have BK152 := n1_; have HB := n2_; have HO155 := n3_; clear n0_ n1_ n2_ n3_; clear ho hb hg hat; have hcz30_0 : w29.cell? ⟨gb152, 0, none⟩ = some (.int .i64 ((rd_T35 l0 x11_2).f0)) := (blk_cell BK152.out 0).trans rfl; have hcz30_1 : w29.cell? ⟨gb152, 1, none⟩ = some (.slice A150_1 ((rd_T35 l0 x11_2).f1).length c150_1) := (blk_cell BK152.out 1).trans rfl; have hcz30_2 : w29.cell? ⟨gb152, 2, none⟩ = some (.slice A150_2 ((rd_T35 l0 x11_2).f2).length c150_2) := (blk_cell BK152.out 2).trans rfl; have hcz30_3 : w29.cell? ⟨gb152, 3, none⟩ = some (.int .i64 ((rd_T35 l0 x11_2).f3)) := (blk_cell BK152.out 3).trans rfl; have hcz30_4 : w29.cell? ⟨gb152, 4, none⟩ = some (.int .i64 ((rd_T35 l0 x11_2).f4)) := (blk_cell BK152.out 4).trans rfl; have hfz30_0 := blk_frozen BK152.out 0; have hfz30_1 := blk_frozen BK152.out 1; have hfz30_2 := blk_frozen BK152.out 2; have hfz30_3 := blk_frozen BK152.out 3; have hfz30_4 := blk_frozen BK152.out 4)))
                              go_meet
                              case rel => exact ⟨_, (y153), ((rd_T35 l0 x11_2).f4), (by first | rfl | (simp; done) | (simp [*]; done)), H', ⟨by have := HJ3.out; have := HK2.out; first | omega | exact Nat.le_refl _⟩, ⟨by (with_reducible repeat (first | apply Kd.R_alloc | apply Kd.R_drewN | apply Kd.R_drew)); exact HO_8.out⟩, ⟨by (with_reducible repeat (first | apply Kd.R_alloc | apply Kd.R_drewN | apply Kd.R_drew)); exact HO155.out⟩, ⟨by (with_reducible repeat (first | refine blk_drewN ?_ _ | refine blk_drew ?_ | refine blk_alloc ?_ _)); exact BK152.out⟩, ⟨by repeat (first | (with_reducible first | exact HB.out | apply below_alloc | apply pw_below_drewN | apply below_drew1 | refine below_set ?_ GE152.out) | exact HB.out)⟩⟩
                            · rw [if_neg c27] at H
                              exact absurd H (by simp)
                          · rw [if_neg c26] at H
                            have c26b0 : (((rd_T35 l0 x11_2).f0) == 3) = false := beq_eq_false_iff_ne.mpr c26
                            have c26b1 : (((rd_T35 l0 x11_2).f0) != 3) = true := bne_iff_ne.mpr c26
                            (first | rw [c26b0] | (simp only [i64_w, i32_w]; rw [c26b0]) | skip)
                            have H' := Aside0.mk H
                            clear H
                            go_wp2
                            repeat (go_quiet (fail); try go_wp2)
                            go_meet
                            case rel => exact ⟨_, (x9_2), (x11_2), (by first | rfl | (simp; done) | (simp [*]; done)), H', ⟨by have := HJ3.out; have := HK2.out; first | omega | exact Nat.le_refl _⟩, ⟨by (with_reducible repeat (first | apply Kd.R_alloc | apply Kd.R_drewN | apply Kd.R_drew)); exact Kd.R_mono (Kd.R_far (p := ⟨gb152, 4, none⟩) (Kd.R_far (p := ⟨gb152, 3, none⟩) (Kd.R_far (p := ⟨gb152, 2, none⟩) (Kd.R_far (p := ⟨gb152, 1, none⟩) (Kd.R_far (p := ⟨gb152, 0, none⟩) (Kd.R_types HO_8.out BK152.out (by decide)) (fun _ hk => hk.2) (.int .i64 ((rd_T35 l0 x11_2).f0))) (fun _ hk => hk.2) (.slice A150_1 ((rd_T35 l0 x11_2).f1).length c150_1)) (fun _ hk => hk.2) (.slice A150_2 ((rd_T35 l0 x11_2).f2).length c150_2)) (fun _ hk => hk.2) (.int .i64 ((rd_T35 l0 x11_2).f3))) (fun _ hk => hk.2) (.int .i64 ((rd_T35 l0 x11_2).f4))) (fun _ hk => trivial)⟩, ⟨by (with_reducible repeat (first | apply Kd.R_alloc | apply Kd.R_drewN | apply Kd.R_drew)); exact Kd.R_mono (Kd.R_far (p := ⟨gb152, 4, none⟩) (Kd.R_far (p := ⟨gb152, 3, none⟩) (Kd.R_far (p := ⟨gb152, 2, none⟩) (Kd.R_far (p := ⟨gb152, 1, none⟩) (Kd.R_far (p := ⟨gb152, 0, none⟩) (Kd.R_types HO_9.out BK152.out (by decide)) (fun _ hk => hk.2) (.int .i64 ((rd_T35 l0 x11_2).f0))) (fun _ hk => hk.2) (.slice A150_1 ((rd_T35 l0 x11_2).f1).length c150_1)) (fun _ hk => hk.2) (.slice A150_2 ((rd_T35 l0 x11_2).f2).length c150_2)) (fun _ hk => hk.2) (.int .i64 ((rd_T35 l0 x11_2).f3))) (fun _ hk => hk.2) (.int .i64 ((rd_T35 l0 x11_2).f4))) (fun _ hk => trivial)⟩, ⟨by (with_reducible repeat (first | refine blk_drewN ?_ _ | refine blk_drew ?_ | refine blk_alloc ?_ _)); refine blk_put (cs := #[.int .i64 ((rd_T35 l0 x11_2).f0), .slice A150_1 ((rd_T35 l0 x11_2).f1).length c150_1, .slice A150_2 ((rd_T35 l0 x11_2).f2).length c150_2, .int .i64 ((rd_T35 l0 x11_2).f3), .int .i64 0]) ?_ 4 _ rfl; (with_reducible repeat (first | refine blk_drewN ?_ _ | refine blk_drew ?_ | refine blk_alloc ?_ _)); refine blk_put (cs := #[.int .i64 ((rd_T35 l0 x11_2).f0), .slice A150_1 ((rd_T35 l0 x11_2).f1).length c150_1, .slice A150_2 ((rd_T35 l0 x11_2).f2).length c150_2, .int .i64 0, .int .i64 0]) ?_ 3 _ rfl; (with_reducible repeat (first | refine blk_drewN ?_ _ | refine blk_drew ?_ | refine blk_alloc ?_ _)); refine blk_put (cs := #[.int .i64 ((rd_T35 l0 x11_2).f0), .slice A150_1 ((rd_T35 l0 x11_2).f1).length c150_1, .slice none 0 0, .int .i64 0, .int .i64 0]) ?_ 2 _ rfl; (with_reducible repeat (first | refine blk_drewN ?_ _ | refine blk_drew ?_ | refine blk_alloc ?_ _)); refine blk_put (cs := #[.int .i64 ((rd_T35 l0 x11_2).f0), .slice none 0 0, .slice none 0 0, .int .i64 0, .int .i64 0]) ?_ 1 _ rfl; (with_reducible repeat (first | refine blk_drewN ?_ _ | refine blk_drew ?_ | refine blk_alloc ?_ _)); refine blk_put (cs := #[.int .i64 0, .slice none 0 0, .slice none 0 0, .int .i64 0, .int .i64 0]) ?_ 0 _ rfl; (with_reducible repeat (first | refine blk_drewN ?_ _ | refine blk_drew ?_ | refine blk_alloc ?_ _)); exact BK152.out⟩, ⟨by repeat (first | (with_reducible first | exact HB.out | apply below_alloc | apply pw_below_drewN | apply below_drew1 | refine below_set ?_ GE152.out) | exact HB.out)⟩⟩
                        case rest =>
                          clear HC23
                          try clear c1
                          try clear p1
                          try clear q1
                          try clear hx1
                          try clear qi1
                          try clear c2
                          try clear p2
                          try clear c6
                          try clear c7
                          try clear c7b0
                          try clear c11
                          try clear c12
                          try clear c13
                          try clear c13b0
                          try clear c13b1
                          try clear c14
                          try clear c14b0
                          try clear c14b1
                          try clear p14
                          try clear q14
                          try clear hx14
                          try clear qi14
                          try clear c15
                          try clear c15b0
                          try clear p15
                          try clear q15
                          try clear hx15
                          try clear c20
                          try clear c20b0
                          try clear c21
                          try clear c21b0
                          try clear c22
                          try clear c22b0
                          try clear c22b1
                          try clear c26
                          try clear c26b0
                          try clear c26b1
                          try clear c27
                          try clear hcz25_0
                          try clear hcz25_1
                          try clear hcz25_2
                          try clear hcz25_3
                          try clear hcz25_4
                          try clear hcz28_0
                          try clear hcz28_1
                          try clear hcz28_2
                          try clear hcz28_3
                          try clear hcz28_4
                          try clear hcz30_0
                          try clear hcz30_1
                          try clear hcz30_2
                          try clear hcz30_3
                          try clear hcz30_4
                          try clear hfz25_0
                          try clear hfz25_1
                          try clear hfz25_2
                          try clear hfz25_3
                          try clear hfz25_4
                          try clear hfz28_0
                          try clear hfz28_1
                          try clear hfz28_2
                          try clear hfz28_3
                          try clear hfz28_4
                          try clear hfz30_0
                          try clear hfz30_1
                          try clear hfz30_2
                          try clear hfz30_3
                          try clear hfz30_4
                          try clear hx148_0
                          try clear hx149_0
                          try clear hx150_0
                          try clear hx150_1
                          try clear hx150_2
                          try clear hx150_3
                          try clear hx150_4
                          try clear hx151_0
                          try clear hx151_1
                          try clear hx151_2
                          try clear hx151_3
                          try clear hx151_4
                          try clear p1
                          try clear p14
                          try clear p148
                          try clear p149
                          try clear p150
                          try clear p151
                          try clear p2
                          try clear q1
                          try clear q14
                          try clear q148
                          try clear q149
                          try clear q150
                          try clear q151
                          obtain ⟨kq, x9_22, x11_22, rfl, HA, HJ22, HO_8, HO_9, BK152, HB⟩ := hcut
                          cases kq with
                          | zero => exact absurd HA.out (by simp [phalaroperef17_Way.j2])
                          | succ kj22 =>
                            have H := HA.out
                            clear HA
                            simp only [phalaroperef17_Way.j2] at H
                            have HC31 := Aside0.mk H
                            clear H
                            have hcz32_0 : wc.cell? ⟨gb152, 0, none⟩ = some (.int .i64 ((rd_T35 l0 x11_2).f0)) := (blk_cell BK152.out 0).trans rfl
                            have hcz32_1 : wc.cell? ⟨gb152, 1, none⟩ = some (.slice A150_1 ((rd_T35 l0 x11_2).f1).length c150_1) := (blk_cell BK152.out 1).trans rfl
                            have hcz32_2 : wc.cell? ⟨gb152, 2, none⟩ = some (.slice A150_2 ((rd_T35 l0 x11_2).f2).length c150_2) := (blk_cell BK152.out 2).trans rfl
                            have hcz32_3 : wc.cell? ⟨gb152, 3, none⟩ = some (.int .i64 ((rd_T35 l0 x11_2).f3)) := (blk_cell BK152.out 3).trans rfl
                            have hcz32_4 : wc.cell? ⟨gb152, 4, none⟩ = some (.int .i64 ((rd_T35 l0 x11_2).f4)) := (blk_cell BK152.out 4).trans rfl
                            have hfz32_0 := blk_frozen BK152.out 0
                            have hfz32_1 := blk_frozen BK152.out 1
                            have hfz32_2 := blk_frozen BK152.out 2
                            have hfz32_3 := blk_frozen BK152.out 3
                            have hfz32_4 := blk_frozen BK152.out 4
                            go_upto_if 60 with (fail)
                            repeat (go_quiet (fail); go_upto_if 60 with (fail))
                            go_cut [2, 11] (fun v2 v11 wc => ∃ (kq : Nat) (x2_30 : Int) (x11_30 : Int), v2 = .int .i64 x2_30 ∧ v11 = .int .i64 x11_30 ∧ Aside0 (phalaroperef17_Way.j4 kq l0 a1 x2_30 t145 x9_22 x10_2 x11_30 ((rd_T35 l0 x11_2).f0) ((rd_T35 l0 x11_2).f1) ((rd_T35 l0 x11_2).f2) ((rd_T35 l0 x11_2).f3) ((rd_T35 l0 x11_2).f4) = some (r1, r2)) ∧ Aside0 (kq ≤ kj22) ∧ Aside0 (Kd.R (Kd.slice 3 (Kd.int .i64)) 33 wc w.heap.size (fun _ => True) (.slice (some ad148) t145.length co19) t145) ∧ Aside0 (Kd.R k68 68 wc w.heap.size (fun _ => True) u9 x9_22) ∧ Aside0 (wc.heap[gb152]? = some (.cells #[.int .i64 ((rd_T35 l0 x11_2).f0), (.slice A150_1 ((rd_T35 l0 x11_2).f1).length c150_1), (.slice A150_2 ((rd_T35 l0 x11_2).f2).length c150_2), .int .i64 ((rd_T35 l0 x11_2).f3), .int .i64 ((rd_T35 l0 x11_2).f4)] 35 (0, 0))) ∧ Aside0 (Below w.heap.size w wc))
                            case first =>
                              have H := HC31.out
                              clear HC31
                              by_cases c33 : ((rd_T35 l0 x11_2).f0) = 2
                              · rw [if_pos c33] at H
                                have c33b0 : (((rd_T35 l0 x11_2).f0) == 2) = true := beq_iff_eq.mpr c33
                                have c33b1 : (((rd_T35 l0 x11_2).f0) != 2) = false := bne_eq_false_iff_eq.mpr c33
                                clear c33
                                (first | rw [c33b0] | (simp only [i64_w, i32_w]; rw [c33b0]) | skip)
                                have H' := Aside0.mk H
                                clear H
                                go_wp2
                                repeat (go_quiet (fail); try go_wp2)
                                go_loopg [2, 13] kj22 (fun kq v2 v13 w' => ∃ (x2_4 : Int) (x13_4 : Int), v2 = .int .i64 x2_4 ∧ v13 = .int .i64 x13_4 ∧ Aside0 (phalaroperef17_Way.l1 kq l0 a1 x2_4 t145 x9_22 x10_2 x13_4 ((rd_T35 l0 x11_2).f0) ((rd_T35 l0 x11_2).f1) ((rd_T35 l0 x11_2).f2) ((rd_T35 l0 x11_2).f3) ((rd_T35 l0 x11_2).f4) = some (r1, r2)) ∧ Aside0 (kq ≤ kj22) ∧ Aside0 (Kd.R (Kd.slice 3 (Kd.int .i64)) 33 w' w.heap.size (fun _ => True) (.slice (some ad148) t145.length co19) t145) ∧ Aside0 (Kd.R k68 68 w' w.heap.size (fun _ => True) u9 x9_22) ∧ Aside0 (w'.heap[gb152]? = some (.cells #[.int .i64 ((rd_T35 l0 x11_2).f0), (.slice A150_1 ((rd_T35 l0 x11_2).f1).length c150_1), (.slice A150_2 ((rd_T35 l0 x11_2).f2).length c150_2), .int .i64 ((rd_T35 l0 x11_2).f3), .int .i64 ((rd_T35 l0 x11_2).f4)] 35 (0, 0))) ∧ Aside0 (Below w.heap.size w w'))
                                case atStart => exact ⟨(x2_2), (0), (by first | rfl | (simp; done) | (simp [*]; done)), (by first | rfl | (simp; done) | (simp [*]; done)), H', ⟨Nat.le_refl _⟩, ⟨by (with_reducible repeat (first | apply Kd.R_alloc | apply Kd.R_drewN | apply Kd.R_drew)); exact HO_8.out⟩, ⟨by (with_reducible repeat (first | apply Kd.R_alloc | apply Kd.R_drewN | apply Kd.R_drew)); exact HO_9.out⟩, ⟨by (with_reducible repeat (first | refine blk_drewN ?_ _ | refine blk_drew ?_ | refine blk_alloc ?_ _)); exact BK152.out⟩, ⟨by repeat (first | (with_reducible first | exact HB.out | apply below_alloc | apply pw_below_drewN | apply below_drew1 | refine below_set ?_ GE152.out) | exact HB.out)⟩⟩
                                case round =>
                                  clear H'
                                  try clear c1
                                  try clear p1
                                  try clear q1
                                  try clear hx1
                                  try clear qi1
                                  try clear c2
                                  try clear p2
                                  try clear c3
                                  try clear c6
                                  try clear c7
                                  try clear c7b0
                                  try clear c11
                                  try clear c12
                                  try clear c13
                                  try clear c13b0
                                  try clear c13b1
                                  try clear c14
                                  try clear c14b0
                                  try clear c14b1
                                  try clear p14
                                  try clear q14
                                  try clear hx14
                                  try clear qi14
                                  try clear c15
                                  try clear c15b0
                                  try clear p15
                                  try clear q15
                                  try clear hx15
                                  try clear c20
                                  try clear c20b0
                                  try clear c21
                                  try clear c21b0
                                  try clear c22
                                  try clear c22b0
                                  try clear c22b1
                                  try clear c26
                                  try clear c26b0
                                  try clear c26b1
                                  try clear c27
                                  try clear c33
                                  try clear c33b0
                                  try clear c33b1
                                  try clear hcz25_0
                                  try clear hcz25_1
                                  try clear hcz25_2
                                  try clear hcz25_3
                                  try clear hcz25_4
                                  try clear hcz28_0
                                  try clear hcz28_1
                                  try clear hcz28_2
                                  try clear hcz28_3
                                  try clear hcz28_4
                                  try clear hcz30_0
                                  try clear hcz30_1
                                  try clear hcz30_2
                                  try clear hcz30_3
                                  try clear hcz30_4
                                  try clear hcz32_0
                                  try clear hcz32_1
                                  try clear hcz32_2
                                  try clear hcz32_3
                                  try clear hcz32_4
                                  try clear hfz25_0
                                  try clear hfz25_1
                                  try clear hfz25_2
                                  try clear hfz25_3
                                  try clear hfz25_4
                                  try clear hfz28_0
                                  try clear hfz28_1
                                  try clear hfz28_2
                                  try clear hfz28_3
                                  try clear hfz28_4
                                  try clear hfz30_0
                                  try clear hfz30_1
                                  try clear hfz30_2
                                  try clear hfz30_3
                                  try clear hfz30_4
                                  try clear hfz32_0
                                  try clear hfz32_1
                                  try clear hfz32_2
                                  try clear hfz32_3
                                  try clear hfz32_4
                                  try clear hx148_0
                                  try clear hx149_0
                                  try clear hx150_0
                                  try clear hx150_1
                                  try clear hx150_2
                                  try clear hx150_3
                                  try clear hx150_4
                                  try clear hx151_0
                                  try clear hx151_1
                                  try clear hx151_2
                                  try clear hx151_3
                                  try clear hx151_4
                                  try clear p1
                                  try clear p14
                                  try clear p148
                                  try clear p149
                                  try clear p15
                                  try clear p150
                                  try clear p151
                                  try clear p2
                                  try clear q1
                                  try clear q14
                                  try clear q148
                                  try clear q149
                                  try clear q15
                                  try clear q150
                                  try clear q151
                                  obtain ⟨x2_4, x13_4, rfl, rfl, HA, HK4, HO_8, HO_9, BK152, HB⟩ := hrel
                                  cases gk with
                                  | zero => exact absurd HA.out (by simp [phalaroperef17_Way.l1])
                                  | succ k4 =>
                                    have H := HA.out
                                    clear HA
                                    simp only [phalaroperef17_Way.l1] at H
                                    by_cases c34 : 0 ≤ x10_2
                                    · rw [if_pos c34] at H
                                      have c34b0 : decide (0 ≤ x10_2) = true := decide_eq_true c34
                                      clear c34
                                      by_cases c35 : x10_2 < (t145.length : Int)
                                      · rw [if_pos c35] at H
                                        have c35b0 : decide (x10_2 < (t145.length : Int)) = true := decide_eq_true c35
                                        clear c35
                                        by_cases c36 : 0 ≤ x13_4
                                        · rw [if_pos c36] at H
                                          have c36b0 : decide (0 ≤ x13_4) = true := decide_eq_true c36
                                          clear c36
                                          by_cases c37 : x13_4 < (((rd_T35 l0 x11_2).f2).length : Int)
                                          · rw [if_pos c37] at H
                                            have c37b0 : decide (x13_4 < (((rd_T35 l0 x11_2).f2).length : Int)) = true := decide_eq_true c37
                                            clear c37
                                            by_cases c38 : 0 ≤ (rd ((rd_T35 l0 x11_2).f2) x13_4)
                                            · rw [if_pos c38] at H
                                              have c38b0 : decide (0 ≤ (rd ((rd_T35 l0 x11_2).f2) x13_4)) = true := decide_eq_true c38
                                              clear c38
                                              by_cases c39 : (rd ((rd_T35 l0 x11_2).f2) x13_4) < ((rd_L4 t145 x10_2).length : Int)
                                              · rw [if_pos c39] at H
                                                have c39b0 : decide ((rd ((rd_T35 l0 x11_2).f2) x13_4) < ((rd_L4 t145 x10_2).length : Int)) = true := decide_eq_true c39
                                                clear c39
                                                by_cases c40 : x2_4 ≥ (rd (rd_L4 t145 x10_2) (rd ((rd_T35 l0 x11_2).f2) x13_4))
                                                · rw [if_pos c40] at H
                                                  have c40b0 : decide ((rd (rd_L4 t145 x10_2) (rd ((rd_T35 l0 x11_2).f2) x13_4)) ≤ x2_4) = true := decide_eq_true c40
                                                  clear c40
                                                  have H' := Aside0.mk H
                                                  clear H
                                                  have p156 : 0 ≤ (x10_2 : Int) := of_decide_eq_true (by first | (with_reducible assumption) | assumption)
                                                  have q156 : x10_2 < (t145.length : Int) := of_decide_eq_true (by first | (with_reducible assumption) | assumption)
                                                  obtain ⟨ad156, A156_0, c156_0, e156, hx156_0, hl156_0, hi156_0⟩ := at_L4 (Kd.R_reads' HO_8.out).2.2 x10_2 p156 q156
                                                  obtain rfl : ad148 = ad156 := (by injection e156)
                                                  obtain ⟨ce156, hce156, hMe156, hcc156⟩ := Kd.R_get HO_8.out [] x10_2 p156 (by first | exact q156 | exact of_decide_eq_true (by first | (with_reducible assumption) | assumption) | (have e_ := (Kd.R_reads' HO_8.out).1; omega))
                                                  obtain ⟨ve156_0, rfl, ge156_0⟩ := hMe156
                                                  have hv156_0 := hcc156 0 _ rfl
                                                  rw [Nat.add_zero, show ((Kd.slice 3 (Kd.int .i64))).sz = 1 from rfl, Nat.mul_one] at hv156_0
                                                  replace hv156_0 := Option.some.inj (hv156_0.symm.trans hx156_0)
                                                  rw [hv156_0] at ge156_0
                                                  have HL156_0 := Aside0.mk (show Kd.R (Kd.int .i64) 3 _ _ _ _ (rd_L4 t145 x10_2) from ge156_0)
                                                  clear hv156_0 ge156_0
                                                  clear hcc156 hce156
                                                  have HR156_0 := Aside0.mk hi156_0
                                                  have HC156_0 := Aside0.mk hl156_0
                                                  clear hi156_0 hl156_0
                                                  replace p156 := eq_true p156
                                                  replace q156 := eq_true q156
                                                  have hcz41_0 : wr.cell? ⟨gb152, 0, none⟩ = some (.int .i64 ((rd_T35 l0 x11_2).f0)) := (blk_cell BK152.out 0).trans rfl
                                                  have hcz41_1 : wr.cell? ⟨gb152, 1, none⟩ = some (.slice A150_1 ((rd_T35 l0 x11_2).f1).length c150_1) := (blk_cell BK152.out 1).trans rfl
                                                  have hcz41_2 : wr.cell? ⟨gb152, 2, none⟩ = some (.slice A150_2 ((rd_T35 l0 x11_2).f2).length c150_2) := (blk_cell BK152.out 2).trans rfl
                                                  have hcz41_3 : wr.cell? ⟨gb152, 3, none⟩ = some (.int .i64 ((rd_T35 l0 x11_2).f3)) := (blk_cell BK152.out 3).trans rfl
                                                  have hcz41_4 : wr.cell? ⟨gb152, 4, none⟩ = some (.int .i64 ((rd_T35 l0 x11_2).f4)) := (blk_cell BK152.out 4).trans rfl
                                                  have hfz41_0 := blk_frozen BK152.out 0
                                                  have hfz41_1 := blk_frozen BK152.out 1
                                                  have hfz41_2 := blk_frozen BK152.out 2
                                                  have hfz41_3 := blk_frozen BK152.out 3
                                                  have hfz41_4 := blk_frozen BK152.out 4
                                                  have p157 : 0 ≤ (x13_4 : Int) := of_decide_eq_true (by first | (with_reducible assumption) | assumption)
                                                  have q157 : x13_4 < (((rd_T35 l0 x11_2).f2).length : Int) := of_decide_eq_true (by first | (with_reducible assumption) | assumption)
                                                  obtain ⟨ad157, e157, hx157_0⟩ := Kd.at_int HR151_2.out x13_4 p157 q157
                                                  cases e157
                                                  replace hx157_0 := (HB.out.cell (World.block_lt_of_cell? w _ hx157_0)).trans hx157_0
                                                  replace p157 := eq_true p157
                                                  replace q157 := eq_true q157
                                                  have p158 : 0 ≤ ((rd ((rd_T35 l0 x11_2).f2) x13_4) : Int) := of_decide_eq_true (by first | (with_reducible assumption) | assumption)
                                                  have q158 : (rd ((rd_T35 l0 x11_2).f2) x13_4) < ((rd_L4 t145 x10_2).length : Int) := of_decide_eq_true (by first | (with_reducible assumption) | assumption)
                                                  obtain ⟨ad158, e158, hx158_0⟩ := Kd.at_int (by repeat (first | (with_reducible exact HR156_0.out) | (with_reducible refine Kd.C_alloc ?_ _) | (with_reducible refine Kd.C_drewN ?_ _) | (with_reducible refine Kd.C_drew ?_) | exact HR156_0.out)) (rd ((rd_T35 l0 x11_2).f2) x13_4) p158 q158
                                                  cases e158
                                                  replace p158 := eq_true p158
                                                  replace q158 := eq_true q158
                                                  have p159 : 0 ≤ (x10_2 : Int) := of_decide_eq_true (by first | (with_reducible assumption) | assumption)
                                                  have q159 : x10_2 < (t145.length : Int) := of_decide_eq_true (by first | (with_reducible assumption) | assumption)
                                                  obtain ⟨ad159, A159_0, c159_0, e159, hx159_0, hl159_0, hi159_0⟩ := at_L4 (Kd.R_reads' HO_8.out).2.2 x10_2 p159 q159
                                                  obtain rfl : ad148 = ad159 := (by injection e159)
                                                  obtain ⟨ce159, hce159, hMe159, hcc159⟩ := Kd.R_get HO_8.out [] x10_2 p159 (by first | exact q159 | exact of_decide_eq_true (by first | (with_reducible assumption) | assumption) | (have e_ := (Kd.R_reads' HO_8.out).1; omega))
                                                  obtain ⟨ve159_0, rfl, ge159_0⟩ := hMe159
                                                  have hv159_0 := hcc159 0 _ rfl
                                                  rw [Nat.add_zero, show ((Kd.slice 3 (Kd.int .i64))).sz = 1 from rfl, Nat.mul_one] at hv159_0
                                                  replace hv159_0 := Option.some.inj (hv159_0.symm.trans hx159_0)
                                                  rw [hv159_0] at ge159_0
                                                  have HL159_0 := Aside0.mk (show Kd.R (Kd.int .i64) 3 _ _ _ _ (rd_L4 t145 x10_2) from ge159_0)
                                                  clear hv159_0 ge159_0
                                                  clear hcc159 hce159
                                                  have HR159_0 := Aside0.mk hi159_0
                                                  have HC159_0 := Aside0.mk hl159_0
                                                  clear hi159_0 hl159_0
                                                  replace p159 := eq_true p159
                                                  replace q159 := eq_true q159
                                                  have ea_ := Option.some.inj (hx156_0.symm.trans hx159_0)
                                                  injection ea_ with ea_ en_ ec_
                                                  subst ea_
                                                  subst ec_
                                                  clear en_
                                                  have p160 : 0 ≤ (x13_4 : Int) := of_decide_eq_true (by first | (with_reducible assumption) | assumption)
                                                  have q160 : x13_4 < (((rd_T35 l0 x11_2).f2).length : Int) := of_decide_eq_true (by first | (with_reducible assumption) | assumption)
                                                  obtain ⟨ad160, e160, hx160_0⟩ := Kd.at_int HR151_2.out x13_4 p160 q160
                                                  obtain rfl : ad157 = ad160 := (by injection e160)
                                                  replace hx160_0 := (HB.out.cell (World.block_lt_of_cell? w _ hx160_0)).trans hx160_0
                                                  replace p160 := eq_true p160
                                                  replace q160 := eq_true q160
                                                  have p161 : 0 ≤ ((rd ((rd_T35 l0 x11_2).f2) x13_4) : Int) := of_decide_eq_true (by first | (with_reducible assumption) | assumption)
                                                  have q161 : (rd ((rd_T35 l0 x11_2).f2) x13_4) < ((rd_L4 t145 x10_2).length : Int) := of_decide_eq_true (by first | (with_reducible assumption) | assumption)
                                                  obtain ⟨ad161, e161, hx161_0⟩ := Kd.at_int (by repeat (first | (with_reducible exact HR159_0.out) | (with_reducible refine Kd.C_alloc ?_ _) | (with_reducible refine Kd.C_drewN ?_ _) | (with_reducible refine Kd.C_drew ?_) | exact HR159_0.out)) (rd ((rd_T35 l0 x11_2).f2) x13_4) p161 q161
                                                  cases e161
                                                  replace p161 := eq_true p161
                                                  replace q161 := eq_true q161
                                                  go_wp2
                                                  repeat (go_quiet (fail); try go_wp2)
                                                  go_roundg k4
                                                  case measure => have := HJ3.out; have := HK2.out; have := HJ22.out; have := HK4.out; omega
                                                  case rel => exact ⟨(wrap64 (x2_4 - (rd (rd_L4 t145 x10_2) (rd ((rd_T35 l0 x11_2).f2) x13_4)))), (wrap64 (x13_4 + 1)), (by first | rfl | (simp; done) | (simp [*]; done)), (by first | rfl | (simp; done) | (simp [*]; done)), H', ⟨by have := HJ3.out; have := HK2.out; have := HJ22.out; have := HK4.out; omega⟩, ⟨by (with_reducible repeat (first | apply Kd.R_alloc | apply Kd.R_drewN | apply Kd.R_drew)); exact HO_8.out⟩, ⟨by (with_reducible repeat (first | apply Kd.R_alloc | apply Kd.R_drewN | apply Kd.R_drew)); exact HO_9.out⟩, ⟨by (with_reducible repeat (first | refine blk_drewN ?_ _ | refine blk_drew ?_ | refine blk_alloc ?_ _)); exact BK152.out⟩, ⟨by repeat (first | (with_reducible first | exact HB.out | apply below_alloc | apply pw_below_drewN | apply below_drew1 | refine below_set ?_ GE152.out) | exact HB.out)⟩⟩
                                                · rw [if_neg c40] at H
                                                  have c40b0 : decide ((rd (rd_L4 t145 x10_2) (rd ((rd_T35 l0 x11_2).f2) x13_4)) ≤ x2_4) = false := decide_eq_false c40
                                                  clear c40
                                                  have H' := Aside0.mk H
                                                  clear H
                                                  have p156 : 0 ≤ (x10_2 : Int) := of_decide_eq_true (by first | (with_reducible assumption) | assumption)
                                                  have q156 : x10_2 < (t145.length : Int) := of_decide_eq_true (by first | (with_reducible assumption) | assumption)
                                                  obtain ⟨ad156, A156_0, c156_0, e156, hx156_0, hl156_0, hi156_0⟩ := at_L4 (Kd.R_reads' HO_8.out).2.2 x10_2 p156 q156
                                                  obtain rfl : ad148 = ad156 := (by injection e156)
                                                  obtain ⟨ce156, hce156, hMe156, hcc156⟩ := Kd.R_get HO_8.out [] x10_2 p156 (by first | exact q156 | exact of_decide_eq_true (by first | (with_reducible assumption) | assumption) | (have e_ := (Kd.R_reads' HO_8.out).1; omega))
                                                  obtain ⟨ve156_0, rfl, ge156_0⟩ := hMe156
                                                  have hv156_0 := hcc156 0 _ rfl
                                                  rw [Nat.add_zero, show ((Kd.slice 3 (Kd.int .i64))).sz = 1 from rfl, Nat.mul_one] at hv156_0
                                                  replace hv156_0 := Option.some.inj (hv156_0.symm.trans hx156_0)
                                                  rw [hv156_0] at ge156_0
                                                  have HL156_0 := Aside0.mk (show Kd.R (Kd.int .i64) 3 _ _ _ _ (rd_L4 t145 x10_2) from ge156_0)
                                                  clear hv156_0 ge156_0
                                                  clear hcc156 hce156
                                                  have HR156_0 := Aside0.mk hi156_0
                                                  have HC156_0 := Aside0.mk hl156_0
                                                  clear hi156_0 hl156_0
                                                  replace p156 := eq_true p156
                                                  replace q156 := eq_true q156
                                                  have hcz42_0 : wr.cell? ⟨gb152, 0, none⟩ = some (.int .i64 ((rd_T35 l0 x11_2).f0)) := (blk_cell BK152.out 0).trans rfl
                                                  have hcz42_1 : wr.cell? ⟨gb152, 1, none⟩ = some (.slice A150_1 ((rd_T35 l0 x11_2).f1).length c150_1) := (blk_cell BK152.out 1).trans rfl
                                                  have hcz42_2 : wr.cell? ⟨gb152, 2, none⟩ = some (.slice A150_2 ((rd_T35 l0 x11_2).f2).length c150_2) := (blk_cell BK152.out 2).trans rfl
                                                  have hcz42_3 : wr.cell? ⟨gb152, 3, none⟩ = some (.int .i64 ((rd_T35 l0 x11_2).f3)) := (blk_cell BK152.out 3).trans rfl
                                                  have hcz42_4 : wr.cell? ⟨gb152, 4, none⟩ = some (.int .i64 ((rd_T35 l0 x11_2).f4)) := (blk_cell BK152.out 4).trans rfl
                                                  have hfz42_0 := blk_frozen BK152.out 0
                                                  have hfz42_1 := blk_frozen BK152.out 1
                                                  have hfz42_2 := blk_frozen BK152.out 2
                                                  have hfz42_3 := blk_frozen BK152.out 3
                                                  have hfz42_4 := blk_frozen BK152.out 4
                                                  have p157 : 0 ≤ (x13_4 : Int) := of_decide_eq_true (by first | (with_reducible assumption) | assumption)
                                                  have q157 : x13_4 < (((rd_T35 l0 x11_2).f2).length : Int) := of_decide_eq_true (by first | (with_reducible assumption) | assumption)
                                                  obtain ⟨ad157, e157, hx157_0⟩ := Kd.at_int HR151_2.out x13_4 p157 q157
                                                  cases e157
                                                  replace hx157_0 := (HB.out.cell (World.block_lt_of_cell? w _ hx157_0)).trans hx157_0
                                                  replace p157 := eq_true p157
                                                  replace q157 := eq_true q157
                                                  have p158 : 0 ≤ ((rd ((rd_T35 l0 x11_2).f2) x13_4) : Int) := of_decide_eq_true (by first | (with_reducible assumption) | assumption)
                                                  have q158 : (rd ((rd_T35 l0 x11_2).f2) x13_4) < ((rd_L4 t145 x10_2).length : Int) := of_decide_eq_true (by first | (with_reducible assumption) | assumption)
                                                  obtain ⟨ad158, e158, hx158_0⟩ := Kd.at_int (by repeat (first | (with_reducible exact HR156_0.out) | (with_reducible refine Kd.C_alloc ?_ _) | (with_reducible refine Kd.C_drewN ?_ _) | (with_reducible refine Kd.C_drew ?_) | exact HR156_0.out)) (rd ((rd_T35 l0 x11_2).f2) x13_4) p158 q158
                                                  cases e158
                                                  replace p158 := eq_true p158
                                                  replace q158 := eq_true q158
                                                  have p162 : 0 ≤ (x13_4 : Int) := of_decide_eq_true (by first | (with_reducible assumption) | assumption)
                                                  have q162 : x13_4 < (((rd_T35 l0 x11_2).f2).length : Int) := of_decide_eq_true (by first | (with_reducible assumption) | assumption)
                                                  obtain ⟨ad162, e162, hx162_0⟩ := Kd.at_int HR151_2.out x13_4 p162 q162
                                                  obtain rfl : ad157 = ad162 := (by injection e162)
                                                  replace hx162_0 := (HB.out.cell (World.block_lt_of_cell? w _ hx162_0)).trans hx162_0
                                                  replace p162 := eq_true p162
                                                  replace q162 := eq_true q162
                                                  go_wp2
                                                  repeat (go_quiet (fail); try go_wp2)
                                                  go_meet
                                                  case rel => exact ⟨_, (x2_4), (rd ((rd_T35 l0 x11_2).f2) x13_4), (by first | rfl | (simp; done) | (simp [*]; done)), (by first | rfl | (simp; done) | (simp [*]; done)), H', ⟨by have := HJ3.out; have := HK2.out; have := HJ22.out; have := HK4.out; first | omega | exact Nat.le_refl _⟩, ⟨by (with_reducible repeat (first | apply Kd.R_alloc | apply Kd.R_drewN | apply Kd.R_drew)); exact HO_8.out⟩, ⟨by (with_reducible repeat (first | apply Kd.R_alloc | apply Kd.R_drewN | apply Kd.R_drew)); exact HO_9.out⟩, ⟨by (with_reducible repeat (first | refine blk_drewN ?_ _ | refine blk_drew ?_ | refine blk_alloc ?_ _)); exact BK152.out⟩, ⟨by repeat (first | (with_reducible first | exact HB.out | apply below_alloc | apply pw_below_drewN | apply below_drew1 | refine below_set ?_ GE152.out) | exact HB.out)⟩⟩
                                              · rw [if_neg c39] at H
                                                exact absurd H (by simp)
                                            · rw [if_neg c38] at H
                                              exact absurd H (by simp)
                                          · rw [if_neg c37] at H
                                            exact absurd H (by simp)
                                        · rw [if_neg c36] at H
                                          exact absurd H (by simp)
                                      · rw [if_neg c35] at H
                                        exact absurd H (by simp)
                                    · rw [if_neg c34] at H
                                      exact absurd H (by simp)
                              · rw [if_neg c33] at H
                                have c33b0 : (((rd_T35 l0 x11_2).f0) == 2) = false := beq_eq_false_iff_ne.mpr c33
                                have c33b1 : (((rd_T35 l0 x11_2).f0) != 2) = true := bne_iff_ne.mpr c33
                                (first | rw [c33b0] | (simp only [i64_w, i32_w]; rw [c33b0]) | skip)
                                have H' := Aside0.mk H
                                clear H
                                go_wp2
                                repeat (go_quiet (fail); try go_wp2)
                                go_meet
                                case rel => exact ⟨_, (x2_2), (x11_22), (by first | rfl | (simp; done) | (simp [*]; done)), (by first | rfl | (simp; done) | (simp [*]; done)), H', ⟨by have := HJ3.out; have := HK2.out; have := HJ22.out; first | omega | exact Nat.le_refl _⟩, ⟨by (with_reducible repeat (first | apply Kd.R_alloc | apply Kd.R_drewN | apply Kd.R_drew)); exact HO_8.out⟩, ⟨by (with_reducible repeat (first | apply Kd.R_alloc | apply Kd.R_drewN | apply Kd.R_drew)); exact HO_9.out⟩, ⟨by (with_reducible repeat (first | refine blk_drewN ?_ _ | refine blk_drew ?_ | refine blk_alloc ?_ _)); exact BK152.out⟩, ⟨by repeat (first | (with_reducible first | exact HB.out | apply below_alloc | apply pw_below_drewN | apply below_drew1 | refine below_set ?_ GE152.out) | exact HB.out)⟩⟩
                            case rest =>
                              clear HC31
                              try clear c1
                              try clear p1
                              try clear q1
                              try clear hx1
                              try clear qi1
                              try clear c2
                              try clear p2
                              try clear c3
                              try clear c4
                              try clear c6
                              try clear p6
                              try clear c7
                              try clear c7b0
                              try clear c11
                              try clear c12
                              try clear c13
                              try clear c13b0
                              try clear c13b1
                              try clear c14
                              try clear c14b0
                              try clear c14b1
                              try clear p14
                              try clear q14
                              try clear hx14
                              try clear qi14
                              try clear c15
                              try clear c15b0
                              try clear p15
                              try clear q15
                              try clear hx15
                              try clear p16
                              try clear q16
                              try clear hx16
                              try clear c20
                              try clear c20b0
                              try clear c21
                              try clear c21b0
                              try clear c22
                              try clear c22b0
                              try clear c22b1
                              try clear c26
                              try clear c26b0
                              try clear c26b1
                              try clear c27
                              try clear c33
                              try clear c33b0
                              try clear c33b1
                              try clear c34
                              try clear c34b0
                              try clear c35
                              try clear c35b0
                              try clear c36
                              try clear c36b0
                              try clear c37
                              try clear c37b0
                              try clear c38
                              try clear c38b0
                              try clear c39
                              try clear c39b0
                              try clear c40
                              try clear c40b0
                              try clear hcz25_0
                              try clear hcz25_1
                              try clear hcz25_2
                              try clear hcz25_3
                              try clear hcz25_4
                              try clear hcz28_0
                              try clear hcz28_1
                              try clear hcz28_2
                              try clear hcz28_3
                              try clear hcz28_4
                              try clear hcz30_0
                              try clear hcz30_1
                              try clear hcz30_2
                              try clear hcz30_3
                              try clear hcz30_4
                              try clear hcz32_0
                              try clear hcz32_1
                              try clear hcz32_2
                              try clear hcz32_3
                              try clear hcz32_4
                              try clear hcz41_0
                              try clear hcz41_1
                              try clear hcz41_2
                              try clear hcz41_3
                              try clear hcz41_4
                              try clear hcz42_0
                              try clear hcz42_1
                              try clear hcz42_2
                              try clear hcz42_3
                              try clear hcz42_4
                              try clear hfz25_0
                              try clear hfz25_1
                              try clear hfz25_2
                              try clear hfz25_3
                              try clear hfz25_4
                              try clear hfz28_0
                              try clear hfz28_1
                              try clear hfz28_2
                              try clear hfz28_3
                              try clear hfz28_4
                              try clear hfz30_0
                              try clear hfz30_1
                              try clear hfz30_2
                              try clear hfz30_3
                              try clear hfz30_4
                              try clear hfz32_0
                              try clear hfz32_1
                              try clear hfz32_2
                              try clear hfz32_3
                              try clear hfz32_4
                              try clear hfz41_0
                              try clear hfz41_1
                              try clear hfz41_2
                              try clear hfz41_3
                              try clear hfz41_4
                              try clear hfz42_0
                              try clear hfz42_1
                              try clear hfz42_2
                              try clear hfz42_3
                              try clear hfz42_4
                              try clear hx148_0
                              try clear hx149_0
                              try clear hx150_0
                              try clear hx150_1
                              try clear hx150_2
                              try clear hx150_3
                              try clear hx150_4
                              try clear hx151_0
                              try clear hx151_1
                              try clear hx151_2
                              try clear hx151_3
                              try clear hx151_4
                              try clear hx156_0
                              try clear hx157_0
                              try clear hx158_0
                              try clear hx159_0
                              try clear hx160_0
                              try clear hx161_0
                              try clear hx162_0
                              try clear p1
                              try clear p14
                              try clear p148
                              try clear p149
                              try clear p15
                              try clear p150
                              try clear p151
                              try clear p156
                              try clear p157
                              try clear p158
                              try clear p159
                              try clear p160
                              try clear p161
                              try clear p162
                              try clear p2
                              try clear q1
                              try clear q14
                              try clear q148
                              try clear q149
                              try clear q15
                              try clear q150
                              try clear q151
                              try clear q156
                              try clear q157
                              try clear q158
                              try clear q159
                              try clear q160
                              try clear q161
                              try clear q162
                              obtain ⟨kq, x2_30, x11_30, rfl, rfl, HA, HJ30, HO_8, HO_9, BK152, HB⟩ := hcut
                              cases kq with
                              | zero => exact absurd HA.out (by simp [phalaroperef17_Way.j4])
                              | succ kj30 =>
                                have H := HA.out
                                clear HA
                                simp only [phalaroperef17_Way.j4] at H
                                by_cases c43 : ((rd_T35 l0 x11_2).f0) = 1
                                · rw [if_pos c43] at H
                                  have c43b0 : (((rd_T35 l0 x11_2).f0) == 1) = true := beq_iff_eq.mpr c43
                                  have c43b1 : (((rd_T35 l0 x11_2).f0) != 1) = false := bne_eq_false_iff_eq.mpr c43
                                  clear c43
                                  have H' := Aside0.mk H
                                  clear H
                                  have hcz44_0 : wc.cell? ⟨gb152, 0, none⟩ = some (.int .i64 ((rd_T35 l0 x11_2).f0)) := (blk_cell BK152.out 0).trans rfl
                                  have hcz44_1 : wc.cell? ⟨gb152, 1, none⟩ = some (.slice A150_1 ((rd_T35 l0 x11_2).f1).length c150_1) := (blk_cell BK152.out 1).trans rfl
                                  have hcz44_2 : wc.cell? ⟨gb152, 2, none⟩ = some (.slice A150_2 ((rd_T35 l0 x11_2).f2).length c150_2) := (blk_cell BK152.out 2).trans rfl
                                  have hcz44_3 : wc.cell? ⟨gb152, 3, none⟩ = some (.int .i64 ((rd_T35 l0 x11_2).f3)) := (blk_cell BK152.out 3).trans rfl
                                  have hcz44_4 : wc.cell? ⟨gb152, 4, none⟩ = some (.int .i64 ((rd_T35 l0 x11_2).f4)) := (blk_cell BK152.out 4).trans rfl
                                  have hfz44_0 := blk_frozen BK152.out 0
                                  have hfz44_1 := blk_frozen BK152.out 1
                                  have hfz44_2 := blk_frozen BK152.out 2
                                  have hfz44_3 := blk_frozen BK152.out 3
                                  have hfz44_4 := blk_frozen BK152.out 4
                                  go_wp2
                                  repeat (go_quiet (fail); try go_wp2)
                                  go_loopg [11, 14] kj30 (fun kq v11 v14 w' => ∃ (x11_5 : Int) (x14_5 : Int), v11 = .int .i64 x11_5 ∧ v14 = .int .i64 x14_5 ∧ Aside0 (phalaroperef17_Way.l2 kq l0 a1 x2_30 t145 x9_22 x10_2 x11_5 x14_5 ((rd_T35 l0 x11_2).f0) ((rd_T35 l0 x11_2).f1) ((rd_T35 l0 x11_2).f2) ((rd_T35 l0 x11_2).f3) ((rd_T35 l0 x11_2).f4) = some (r1, r2)) ∧ Aside0 (kq ≤ kj30) ∧ Aside0 (Kd.R (Kd.slice 3 (Kd.int .i64)) 33 w' w.heap.size (fun _ => True) (.slice (some ad148) t145.length co19) t145) ∧ Aside0 (Kd.R k68 68 w' w.heap.size (fun _ => True) u9 x9_22) ∧ Aside0 (w'.heap[gb152]? = some (.cells #[.int .i64 ((rd_T35 l0 x11_2).f0), (.slice A150_1 ((rd_T35 l0 x11_2).f1).length c150_1), (.slice A150_2 ((rd_T35 l0 x11_2).f2).length c150_2), .int .i64 ((rd_T35 l0 x11_2).f3), .int .i64 ((rd_T35 l0 x11_2).f4)] 35 (0, 0))) ∧ Aside0 (Below w.heap.size w w'))
                                  case atStart => exact ⟨(x11_30), (0), (by first | rfl | (simp; done) | (simp [*]; done)), (by first | rfl | (simp; done) | (simp [*]; done)), H', ⟨Nat.le_refl _⟩, ⟨by (with_reducible repeat (first | apply Kd.R_alloc | apply Kd.R_drewN | apply Kd.R_drew)); exact HO_8.out⟩, ⟨by (with_reducible repeat (first | apply Kd.R_alloc | apply Kd.R_drewN | apply Kd.R_drew)); exact HO_9.out⟩, ⟨by (with_reducible repeat (first | refine blk_drewN ?_ _ | refine blk_drew ?_ | refine blk_alloc ?_ _)); exact BK152.out⟩, ⟨by repeat (first | (with_reducible first | exact HB.out | apply below_alloc | apply pw_below_drewN | apply below_drew1 | refine below_set ?_ GE152.out) | exact HB.out)⟩⟩
                                  case round =>
                                    clear H'
                                    try clear c1
                                    try clear p1
                                    try clear q1
                                    try clear hx1
                                    try clear qi1
                                    try clear c2
                                    try clear p2
                                    try clear c3
                                    try clear c4
                                    try clear c6
                                    try clear p6
                                    try clear c7
                                    try clear c7b0
                                    try clear c11
                                    try clear c12
                                    try clear c13
                                    try clear c13b0
                                    try clear c13b1
                                    try clear c14
                                    try clear c14b0
                                    try clear c14b1
                                    try clear p14
                                    try clear q14
                                    try clear hx14
                                    try clear qi14
                                    try clear c15
                                    try clear c15b0
                                    try clear p15
                                    try clear q15
                                    try clear hx15
                                    try clear p16
                                    try clear q16
                                    try clear hx16
                                    try clear c20
                                    try clear c20b0
                                    try clear c21
                                    try clear c21b0
                                    try clear c22
                                    try clear c22b0
                                    try clear c22b1
                                    try clear c26
                                    try clear c26b0
                                    try clear c26b1
                                    try clear c27
                                    try clear c33
                                    try clear c33b0
                                    try clear c33b1
                                    try clear c34
                                    try clear c34b0
                                    try clear c35
                                    try clear c35b0
                                    try clear c36
                                    try clear c36b0
                                    try clear c37
                                    try clear c37b0
                                    try clear c38
                                    try clear c38b0
                                    try clear c39
                                    try clear c39b0
                                    try clear c40
                                    try clear c40b0
                                    try clear c43
                                    try clear c43b0
                                    try clear c43b1
                                    try clear hcz25_0
                                    try clear hcz25_1
                                    try clear hcz25_2
                                    try clear hcz25_3
                                    try clear hcz25_4
                                    try clear hcz28_0
                                    try clear hcz28_1
                                    try clear hcz28_2
                                    try clear hcz28_3
                                    try clear hcz28_4
                                    try clear hcz30_0
                                    try clear hcz30_1
                                    try clear hcz30_2
                                    try clear hcz30_3
                                    try clear hcz30_4
                                    try clear hcz32_0
                                    try clear hcz32_1
                                    try clear hcz32_2
                                    try clear hcz32_3
                                    try clear hcz32_4
                                    try clear hcz41_0
                                    try clear hcz41_1
                                    try clear hcz41_2
                                    try clear hcz41_3
                                    try clear hcz41_4
                                    try clear hcz42_0
                                    try clear hcz42_1
                                    try clear hcz42_2
                                    try clear hcz42_3
                                    try clear hcz42_4
                                    try clear hcz44_0
                                    try clear hcz44_1
                                    try clear hcz44_2
                                    try clear hcz44_3
                                    try clear hcz44_4
                                    try clear hfz25_0
                                    try clear hfz25_1
                                    try clear hfz25_2
                                    try clear hfz25_3
                                    try clear hfz25_4
                                    try clear hfz28_0
                                    try clear hfz28_1
                                    try clear hfz28_2
                                    try clear hfz28_3
                                    try clear hfz28_4
                                    try clear hfz30_0
                                    try clear hfz30_1
                                    try clear hfz30_2
                                    try clear hfz30_3
                                    try clear hfz30_4
                                    try clear hfz32_0
                                    try clear hfz32_1
                                    try clear hfz32_2
                                    try clear hfz32_3
                                    try clear hfz32_4
                                    try clear hfz41_0
                                    try clear hfz41_1
                                    try clear hfz41_2
                                    try clear hfz41_3
                                    try clear hfz41_4
                                    try clear hfz42_0
                                    try clear hfz42_1
                                    try clear hfz42_2
                                    try clear hfz42_3
                                    try clear hfz42_4
                                    try clear hfz44_0
                                    try clear hfz44_1
                                    try clear hfz44_2
                                    try clear hfz44_3
                                    try clear hfz44_4
                                    try clear hx148_0
                                    try clear hx149_0
                                    try clear hx150_0
                                    try clear hx150_1
                                    try clear hx150_2
                                    try clear hx150_3
                                    try clear hx150_4
                                    try clear hx151_0
                                    try clear hx151_1
                                    try clear hx151_2
                                    try clear hx151_3
                                    try clear hx151_4
                                    try clear hx156_0
                                    try clear hx157_0
                                    try clear hx158_0
                                    try clear hx159_0
                                    try clear hx160_0
                                    try clear hx161_0
                                    try clear hx162_0
                                    try clear p1
                                    try clear p14
                                    try clear p148
                                    try clear p149
                                    try clear p15
                                    try clear p150
                                    try clear p151
                                    try clear p156
                                    try clear p157
                                    try clear p158
                                    try clear p159
                                    try clear p16
                                    try clear p160
                                    try clear p161
                                    try clear p162
                                    try clear p2
                                    try clear p6
                                    try clear q1
                                    try clear q14
                                    try clear q148
                                    try clear q149
                                    try clear q15
                                    try clear q150
                                    try clear q151
                                    try clear q156
                                    try clear q157
                                    try clear q158
                                    try clear q159
                                    try clear q16
                                    try clear q160
                                    try clear q161
                                    try clear q162
                                    obtain ⟨x11_5, x14_5, rfl, rfl, HA, HK5, HO_8, HO_9, BK152, HB⟩ := hrel
                                    cases gk with
                                    | zero => exact absurd HA.out (by simp [phalaroperef17_Way.l2])
                                    | succ k5 =>
                                      have H := HA.out
                                      clear HA
                                      simp only [phalaroperef17_Way.l2] at H
                                      by_cases c45 : x14_5 < (((rd_T35 l0 x11_2).f1).length : Int)
                                      · rw [if_pos c45] at H
                                        have c45b0 : decide (x14_5 < (((rd_T35 l0 x11_2).f1).length : Int)) = true := decide_eq_true c45
                                        clear c45
                                        by_cases c46 : 0 ≤ x10_2
                                        · rw [if_pos c46] at H
                                          have c46b0 : decide (0 ≤ x10_2) = true := decide_eq_true c46
                                          clear c46
                                          by_cases c47 : x10_2 < (a1.size : Int)
                                          · rw [if_pos c47] at H
                                            have c47b0 : decide (x10_2 < (a1.size : Int)) = true := decide_eq_true c47
                                            clear c47
                                            by_cases c49 : 0 ≤ x14_5
                                            · rw [if_pos c49] at H
                                              have c49b0 : decide (0 ≤ x14_5) = true := decide_eq_true c49
                                              clear c49
                                              by_cases c50 : (bt a1 x10_2) ≥ ((rd_T65 ((rd_T35 l0 x11_2).f1) x14_5).f0)
                                              · rw [if_pos c50] at H
                                                have c50b0 : decide (((rd_T65 ((rd_T35 l0 x11_2).f1) x14_5).f0) ≤ (bt a1 x10_2)) = true := decide_eq_true c50
                                                clear c50
                                                by_cases c52 : (bt a1 x10_2) ≤ ((rd_T65 ((rd_T35 l0 x11_2).f1) x14_5).f1)
                                                · rw [if_pos c52] at H
                                                  have c52b0 : decide ((bt a1 x10_2) ≤ ((rd_T65 ((rd_T35 l0 x11_2).f1) x14_5).f1)) = true := decide_eq_true c52
                                                  clear c52
                                                  have H' := Aside0.mk H
                                                  clear H
                                                  have hcz53_0 : wr.cell? ⟨gb152, 0, none⟩ = some (.int .i64 ((rd_T35 l0 x11_2).f0)) := (blk_cell BK152.out 0).trans rfl
                                                  have hcz53_1 : wr.cell? ⟨gb152, 1, none⟩ = some (.slice A150_1 ((rd_T35 l0 x11_2).f1).length c150_1) := (blk_cell BK152.out 1).trans rfl
                                                  have hcz53_2 : wr.cell? ⟨gb152, 2, none⟩ = some (.slice A150_2 ((rd_T35 l0 x11_2).f2).length c150_2) := (blk_cell BK152.out 2).trans rfl
                                                  have hcz53_3 : wr.cell? ⟨gb152, 3, none⟩ = some (.int .i64 ((rd_T35 l0 x11_2).f3)) := (blk_cell BK152.out 3).trans rfl
                                                  have hcz53_4 : wr.cell? ⟨gb152, 4, none⟩ = some (.int .i64 ((rd_T35 l0 x11_2).f4)) := (blk_cell BK152.out 4).trans rfl
                                                  have hfz53_0 := blk_frozen BK152.out 0
                                                  have hfz53_1 := blk_frozen BK152.out 1
                                                  have hfz53_2 := blk_frozen BK152.out 2
                                                  have hfz53_3 := blk_frozen BK152.out 3
                                                  have hfz53_4 := blk_frozen BK152.out 4
                                                  have p48 : 0 ≤ (x10_2 : Int) := of_decide_eq_true (by first | (with_reducible assumption) | assumption)
                                                  have q48 : x10_2 < (a1.size : Int) := of_decide_eq_true (by first | (with_reducible assumption) | assumption)
                                                  have hx48 := bt_at a1 x10_2
                                                  replace p48 := eq_true p48
                                                  replace q48 := eq_true q48
                                                  have p163 : 0 ≤ (x14_5 : Int) := of_decide_eq_true (by first | (with_reducible assumption) | assumption)
                                                  have q163 : x14_5 < (((rd_T35 l0 x11_2).f1).length : Int) := of_decide_eq_true (by first | (with_reducible assumption) | assumption)
                                                  obtain ⟨ad163, e163, hx163_0, hx163_1, hx163_2⟩ := at_T65 HR151_1.out x14_5 p163 q163
                                                  cases e163
                                                  replace hx163_0 := (HB.out.cell (World.block_lt_of_cell? w _ hx163_0)).trans hx163_0
                                                  replace hx163_1 := (HB.out.cell (World.block_lt_of_cell? w _ hx163_1)).trans hx163_1
                                                  replace hx163_2 := (HB.out.cell (World.block_lt_of_cell? w _ hx163_2)).trans hx163_2
                                                  replace p163 := eq_true p163
                                                  replace q163 := eq_true q163
                                                  have p51 : 0 ≤ (x10_2 : Int) := of_decide_eq_true (by first | (with_reducible assumption) | assumption)
                                                  have q51 : x10_2 < (a1.size : Int) := of_decide_eq_true (by first | (with_reducible assumption) | assumption)
                                                  have hx51 := bt_at a1 x10_2
                                                  replace p51 := eq_true p51
                                                  replace q51 := eq_true q51
                                                  have p164 : 0 ≤ (x14_5 : Int) := of_decide_eq_true (by first | (with_reducible assumption) | assumption)
                                                  have q164 : x14_5 < (((rd_T35 l0 x11_2).f1).length : Int) := of_decide_eq_true (by first | (with_reducible assumption) | assumption)
                                                  obtain ⟨ad164, e164, hx164_0, hx164_1, hx164_2⟩ := at_T65 HR151_1.out x14_5 p164 q164
                                                  obtain rfl : ad163 = ad164 := (by injection e164)
                                                  replace hx164_0 := (HB.out.cell (World.block_lt_of_cell? w _ hx164_0)).trans hx164_0
                                                  replace hx164_1 := (HB.out.cell (World.block_lt_of_cell? w _ hx164_1)).trans hx164_1
                                                  replace hx164_2 := (HB.out.cell (World.block_lt_of_cell? w _ hx164_2)).trans hx164_2
                                                  replace p164 := eq_true p164
                                                  replace q164 := eq_true q164
                                                  have p165 : 0 ≤ (x14_5 : Int) := of_decide_eq_true (by first | (with_reducible assumption) | assumption)
                                                  have q165 : x14_5 < (((rd_T35 l0 x11_2).f1).length : Int) := of_decide_eq_true (by first | (with_reducible assumption) | assumption)
                                                  obtain ⟨ad165, e165, hx165_0, hx165_1, hx165_2⟩ := at_T65 HR151_1.out x14_5 p165 q165
                                                  obtain rfl : ad163 = ad165 := (by injection e165)
                                                  replace hx165_0 := (HB.out.cell (World.block_lt_of_cell? w _ hx165_0)).trans hx165_0
                                                  replace hx165_1 := (HB.out.cell (World.block_lt_of_cell? w _ hx165_1)).trans hx165_1
                                                  replace hx165_2 := (HB.out.cell (World.block_lt_of_cell? w _ hx165_2)).trans hx165_2
                                                  replace p165 := eq_true p165
                                                  replace q165 := eq_true q165
                                                  go_wp2
                                                  repeat (go_quiet (fail); try go_wp2)
                                                  go_roundg k5
                                                  case measure => have := HJ3.out; have := HK2.out; have := HJ22.out; have := HJ30.out; have := HK5.out; omega
                                                  case rel => exact ⟨((rd_T65 ((rd_T35 l0 x11_2).f1) x14_5).f2), (wrap64 (x14_5 + 1)), (by first | rfl | (simp; done) | (simp [*]; done)), (by first | rfl | (simp; done) | (simp [*]; done)), H', ⟨by have := HJ3.out; have := HK2.out; have := HJ22.out; have := HJ30.out; have := HK5.out; omega⟩, ⟨by (with_reducible repeat (first | apply Kd.R_alloc | apply Kd.R_drewN | apply Kd.R_drew)); exact HO_8.out⟩, ⟨by (with_reducible repeat (first | apply Kd.R_alloc | apply Kd.R_drewN | apply Kd.R_drew)); exact HO_9.out⟩, ⟨by (with_reducible repeat (first | refine blk_drewN ?_ _ | refine blk_drew ?_ | refine blk_alloc ?_ _)); exact BK152.out⟩, ⟨by repeat (first | (with_reducible first | exact HB.out | apply below_alloc | apply pw_below_drewN | apply below_drew1 | refine below_set ?_ GE152.out) | exact HB.out)⟩⟩
                                                · rw [if_neg c52] at H
                                                  have c52b0 : decide ((bt a1 x10_2) ≤ ((rd_T65 ((rd_T35 l0 x11_2).f1) x14_5).f1)) = false := decide_eq_false c52
                                                  clear c52
                                                  have H' := Aside0.mk H
                                                  clear H
                                                  have hcz54_0 : wr.cell? ⟨gb152, 0, none⟩ = some (.int .i64 ((rd_T35 l0 x11_2).f0)) := (blk_cell BK152.out 0).trans rfl
                                                  have hcz54_1 : wr.cell? ⟨gb152, 1, none⟩ = some (.slice A150_1 ((rd_T35 l0 x11_2).f1).length c150_1) := (blk_cell BK152.out 1).trans rfl
                                                  have hcz54_2 : wr.cell? ⟨gb152, 2, none⟩ = some (.slice A150_2 ((rd_T35 l0 x11_2).f2).length c150_2) := (blk_cell BK152.out 2).trans rfl
                                                  have hcz54_3 : wr.cell? ⟨gb152, 3, none⟩ = some (.int .i64 ((rd_T35 l0 x11_2).f3)) := (blk_cell BK152.out 3).trans rfl
                                                  have hcz54_4 : wr.cell? ⟨gb152, 4, none⟩ = some (.int .i64 ((rd_T35 l0 x11_2).f4)) := (blk_cell BK152.out 4).trans rfl
                                                  have hfz54_0 := blk_frozen BK152.out 0
                                                  have hfz54_1 := blk_frozen BK152.out 1
                                                  have hfz54_2 := blk_frozen BK152.out 2
                                                  have hfz54_3 := blk_frozen BK152.out 3
                                                  have hfz54_4 := blk_frozen BK152.out 4
                                                  have p48 : 0 ≤ (x10_2 : Int) := of_decide_eq_true (by first | (with_reducible assumption) | assumption)
                                                  have q48 : x10_2 < (a1.size : Int) := of_decide_eq_true (by first | (with_reducible assumption) | assumption)
                                                  have hx48 := bt_at a1 x10_2
                                                  replace p48 := eq_true p48
                                                  replace q48 := eq_true q48
                                                  have p163 : 0 ≤ (x14_5 : Int) := of_decide_eq_true (by first | (with_reducible assumption) | assumption)
                                                  have q163 : x14_5 < (((rd_T35 l0 x11_2).f1).length : Int) := of_decide_eq_true (by first | (with_reducible assumption) | assumption)
                                                  obtain ⟨ad163, e163, hx163_0, hx163_1, hx163_2⟩ := at_T65 HR151_1.out x14_5 p163 q163
                                                  cases e163
                                                  replace hx163_0 := (HB.out.cell (World.block_lt_of_cell? w _ hx163_0)).trans hx163_0
                                                  replace hx163_1 := (HB.out.cell (World.block_lt_of_cell? w _ hx163_1)).trans hx163_1
                                                  replace hx163_2 := (HB.out.cell (World.block_lt_of_cell? w _ hx163_2)).trans hx163_2
                                                  replace p163 := eq_true p163
                                                  replace q163 := eq_true q163
                                                  have p51 : 0 ≤ (x10_2 : Int) := of_decide_eq_true (by first | (with_reducible assumption) | assumption)
                                                  have q51 : x10_2 < (a1.size : Int) := of_decide_eq_true (by first | (with_reducible assumption) | assumption)
                                                  have hx51 := bt_at a1 x10_2
                                                  replace p51 := eq_true p51
                                                  replace q51 := eq_true q51
                                                  have p164 : 0 ≤ (x14_5 : Int) := of_decide_eq_true (by first | (with_reducible assumption) | assumption)
                                                  have q164 : x14_5 < (((rd_T35 l0 x11_2).f1).length : Int) := of_decide_eq_true (by first | (with_reducible assumption) | assumption)
                                                  obtain ⟨ad164, e164, hx164_0, hx164_1, hx164_2⟩ := at_T65 HR151_1.out x14_5 p164 q164
                                                  obtain rfl : ad163 = ad164 := (by injection e164)
                                                  replace hx164_0 := (HB.out.cell (World.block_lt_of_cell? w _ hx164_0)).trans hx164_0
                                                  replace hx164_1 := (HB.out.cell (World.block_lt_of_cell? w _ hx164_1)).trans hx164_1
                                                  replace hx164_2 := (HB.out.cell (World.block_lt_of_cell? w _ hx164_2)).trans hx164_2
                                                  replace p164 := eq_true p164
                                                  replace q164 := eq_true q164
                                                  go_wp2
                                                  repeat (go_quiet (fail); try go_wp2)
                                                  go_roundg k5
                                                  case measure => have := HJ3.out; have := HK2.out; have := HJ22.out; have := HJ30.out; have := HK5.out; omega
                                                  case rel => exact ⟨(x11_5), (wrap64 (x14_5 + 1)), (by first | rfl | (simp; done) | (simp [*]; done)), (by first | rfl | (simp; done) | (simp [*]; done)), H', ⟨by have := HJ3.out; have := HK2.out; have := HJ22.out; have := HJ30.out; have := HK5.out; omega⟩, ⟨by (with_reducible repeat (first | apply Kd.R_alloc | apply Kd.R_drewN | apply Kd.R_drew)); exact HO_8.out⟩, ⟨by (with_reducible repeat (first | apply Kd.R_alloc | apply Kd.R_drewN | apply Kd.R_drew)); exact HO_9.out⟩, ⟨by (with_reducible repeat (first | refine blk_drewN ?_ _ | refine blk_drew ?_ | refine blk_alloc ?_ _)); exact BK152.out⟩, ⟨by repeat (first | (with_reducible first | exact HB.out | apply below_alloc | apply pw_below_drewN | apply below_drew1 | refine below_set ?_ GE152.out) | exact HB.out)⟩⟩
                                              · rw [if_neg c50] at H
                                                have c50b0 : decide (((rd_T65 ((rd_T35 l0 x11_2).f1) x14_5).f0) ≤ (bt a1 x10_2)) = false := decide_eq_false c50
                                                clear c50
                                                have H' := Aside0.mk H
                                                clear H
                                                have hcz55_0 : wr.cell? ⟨gb152, 0, none⟩ = some (.int .i64 ((rd_T35 l0 x11_2).f0)) := (blk_cell BK152.out 0).trans rfl
                                                have hcz55_1 : wr.cell? ⟨gb152, 1, none⟩ = some (.slice A150_1 ((rd_T35 l0 x11_2).f1).length c150_1) := (blk_cell BK152.out 1).trans rfl
                                                have hcz55_2 : wr.cell? ⟨gb152, 2, none⟩ = some (.slice A150_2 ((rd_T35 l0 x11_2).f2).length c150_2) := (blk_cell BK152.out 2).trans rfl
                                                have hcz55_3 : wr.cell? ⟨gb152, 3, none⟩ = some (.int .i64 ((rd_T35 l0 x11_2).f3)) := (blk_cell BK152.out 3).trans rfl
                                                have hcz55_4 : wr.cell? ⟨gb152, 4, none⟩ = some (.int .i64 ((rd_T35 l0 x11_2).f4)) := (blk_cell BK152.out 4).trans rfl
                                                have hfz55_0 := blk_frozen BK152.out 0
                                                have hfz55_1 := blk_frozen BK152.out 1
                                                have hfz55_2 := blk_frozen BK152.out 2
                                                have hfz55_3 := blk_frozen BK152.out 3
                                                have hfz55_4 := blk_frozen BK152.out 4
                                                have p48 : 0 ≤ (x10_2 : Int) := of_decide_eq_true (by first | (with_reducible assumption) | assumption)
                                                have q48 : x10_2 < (a1.size : Int) := of_decide_eq_true (by first | (with_reducible assumption) | assumption)
                                                have hx48 := bt_at a1 x10_2
                                                replace p48 := eq_true p48
                                                replace q48 := eq_true q48
                                                have p163 : 0 ≤ (x14_5 : Int) := of_decide_eq_true (by first | (with_reducible assumption) | assumption)
                                                have q163 : x14_5 < (((rd_T35 l0 x11_2).f1).length : Int) := of_decide_eq_true (by first | (with_reducible assumption) | assumption)
                                                obtain ⟨ad163, e163, hx163_0, hx163_1, hx163_2⟩ := at_T65 HR151_1.out x14_5 p163 q163
                                                cases e163
                                                replace hx163_0 := (HB.out.cell (World.block_lt_of_cell? w _ hx163_0)).trans hx163_0
                                                replace hx163_1 := (HB.out.cell (World.block_lt_of_cell? w _ hx163_1)).trans hx163_1
                                                replace hx163_2 := (HB.out.cell (World.block_lt_of_cell? w _ hx163_2)).trans hx163_2
                                                replace p163 := eq_true p163
                                                replace q163 := eq_true q163
                                                go_wp2
                                                repeat (go_quiet (fail); try go_wp2)
                                                go_roundg k5
                                                case measure => have := HJ3.out; have := HK2.out; have := HJ22.out; have := HJ30.out; have := HK5.out; omega
                                                case rel => exact ⟨(x11_5), (wrap64 (x14_5 + 1)), (by first | rfl | (simp; done) | (simp [*]; done)), (by first | rfl | (simp; done) | (simp [*]; done)), H', ⟨by have := HJ3.out; have := HK2.out; have := HJ22.out; have := HJ30.out; have := HK5.out; omega⟩, ⟨by (with_reducible repeat (first | apply Kd.R_alloc | apply Kd.R_drewN | apply Kd.R_drew)); exact HO_8.out⟩, ⟨by (with_reducible repeat (first | apply Kd.R_alloc | apply Kd.R_drewN | apply Kd.R_drew)); exact HO_9.out⟩, ⟨by (with_reducible repeat (first | refine blk_drewN ?_ _ | refine blk_drew ?_ | refine blk_alloc ?_ _)); exact BK152.out⟩, ⟨by repeat (first | (with_reducible first | exact HB.out | apply below_alloc | apply pw_below_drewN | apply below_drew1 | refine below_set ?_ GE152.out) | exact HB.out)⟩⟩
                                            · rw [if_neg c49] at H
                                              exact absurd H (by simp)
                                          · rw [if_neg c47] at H
                                            exact absurd H (by simp)
                                        · rw [if_neg c46] at H
                                          exact absurd H (by simp)
                                      · rw [if_neg c45] at H
                                        have c45b0 : decide (x14_5 < (((rd_T35 l0 x11_2).f1).length : Int)) = false := decide_eq_false c45
                                        clear c45
                                        have H' := Aside0.mk H
                                        clear H
                                        have hcz56_0 : wr.cell? ⟨gb152, 0, none⟩ = some (.int .i64 ((rd_T35 l0 x11_2).f0)) := (blk_cell BK152.out 0).trans rfl
                                        have hcz56_1 : wr.cell? ⟨gb152, 1, none⟩ = some (.slice A150_1 ((rd_T35 l0 x11_2).f1).length c150_1) := (blk_cell BK152.out 1).trans rfl
                                        have hcz56_2 : wr.cell? ⟨gb152, 2, none⟩ = some (.slice A150_2 ((rd_T35 l0 x11_2).f2).length c150_2) := (blk_cell BK152.out 2).trans rfl
                                        have hcz56_3 : wr.cell? ⟨gb152, 3, none⟩ = some (.int .i64 ((rd_T35 l0 x11_2).f3)) := (blk_cell BK152.out 3).trans rfl
                                        have hcz56_4 : wr.cell? ⟨gb152, 4, none⟩ = some (.int .i64 ((rd_T35 l0 x11_2).f4)) := (blk_cell BK152.out 4).trans rfl
                                        have hfz56_0 := blk_frozen BK152.out 0
                                        have hfz56_1 := blk_frozen BK152.out 1
                                        have hfz56_2 := blk_frozen BK152.out 2
                                        have hfz56_3 := blk_frozen BK152.out 3
                                        have hfz56_4 := blk_frozen BK152.out 4
                                        go_wp2
                                        repeat (go_quiet (fail); try go_wp2)
                                        go_roundg k5
                                        case measure => have := HJ3.out; have := HK2.out; have := HJ22.out; have := HJ30.out; have := HK5.out; omega
                                        case rel => exact ⟨(x2_30), (x9_22), (wrap64 (x10_2 + 1)), (x11_5), (by first | rfl | (simp; done) | (simp [*]; done)), (by first | rfl | (simp; done) | (simp [*]; done)), (by first | rfl | (simp; done) | (simp [*]; done)), H', ⟨by have := HJ3.out; have := HK2.out; have := HJ22.out; have := HJ30.out; have := HK5.out; omega⟩, ⟨by (with_reducible repeat (first | apply Kd.R_alloc | apply Kd.R_drewN | apply Kd.R_drew)); exact HO_8.out⟩, ⟨by (with_reducible repeat (first | apply Kd.R_alloc | apply Kd.R_drewN | apply Kd.R_drew)); exact HO_9.out⟩, ⟨by repeat (first | (with_reducible first | exact HB.out | apply below_alloc | apply pw_below_drewN | apply below_drew1 | refine below_set ?_ GE152.out) | exact HB.out)⟩⟩
                                · rw [if_neg c43] at H
                                  have c43b0 : (((rd_T35 l0 x11_2).f0) == 1) = false := beq_eq_false_iff_ne.mpr c43
                                  have c43b1 : (((rd_T35 l0 x11_2).f0) != 1) = true := bne_iff_ne.mpr c43
                                  have H' := Aside0.mk H
                                  clear H
                                  have hcz57_0 : wc.cell? ⟨gb152, 0, none⟩ = some (.int .i64 ((rd_T35 l0 x11_2).f0)) := (blk_cell BK152.out 0).trans rfl
                                  have hcz57_1 : wc.cell? ⟨gb152, 1, none⟩ = some (.slice A150_1 ((rd_T35 l0 x11_2).f1).length c150_1) := (blk_cell BK152.out 1).trans rfl
                                  have hcz57_2 : wc.cell? ⟨gb152, 2, none⟩ = some (.slice A150_2 ((rd_T35 l0 x11_2).f2).length c150_2) := (blk_cell BK152.out 2).trans rfl
                                  have hcz57_3 : wc.cell? ⟨gb152, 3, none⟩ = some (.int .i64 ((rd_T35 l0 x11_2).f3)) := (blk_cell BK152.out 3).trans rfl
                                  have hcz57_4 : wc.cell? ⟨gb152, 4, none⟩ = some (.int .i64 ((rd_T35 l0 x11_2).f4)) := (blk_cell BK152.out 4).trans rfl
                                  have hfz57_0 := blk_frozen BK152.out 0
                                  have hfz57_1 := blk_frozen BK152.out 1
                                  have hfz57_2 := blk_frozen BK152.out 2
                                  have hfz57_3 := blk_frozen BK152.out 3
                                  have hfz57_4 := blk_frozen BK152.out 4
                                  go_wp2
                                  repeat (go_quiet (fail); try go_wp2)
                                  go_roundg kj30
                                  case measure => have := HJ3.out; have := HK2.out; have := HJ22.out; have := HJ30.out; omega
                                  case rel => exact ⟨(x2_30), (x9_22), (x10_2), (x11_30), (by first | rfl | (simp; done) | (simp [*]; done)), (by first | rfl | (simp; done) | (simp [*]; done)), (by first | rfl | (simp; done) | (simp [*]; done)), H', ⟨by have := HJ3.out; have := HK2.out; have := HJ22.out; have := HJ30.out; omega⟩, ⟨by (with_reducible repeat (first | apply Kd.R_alloc | apply Kd.R_drewN | apply Kd.R_drew)); exact HO_8.out⟩, ⟨by (with_reducible repeat (first | apply Kd.R_alloc | apply Kd.R_drewN | apply Kd.R_drew)); exact HO_9.out⟩, ⟨by repeat (first | (with_reducible first | exact HB.out | apply below_alloc | apply pw_below_drewN | apply below_drew1 | refine below_set ?_ GE152.out) | exact HB.out)⟩⟩
                    · rw [if_neg c21] at H
                      exact absurd H (by simp)
                  · rw [if_neg c20] at H
                    exact absurd H (by simp)
          · rw [if_neg c14] at H
            exact absurd H (by simp)
        · rw [if_neg c13] at H
          exact absurd H (by simp)
end Go.Proofs.Ytecpjfipkejmoaa.PA
end
