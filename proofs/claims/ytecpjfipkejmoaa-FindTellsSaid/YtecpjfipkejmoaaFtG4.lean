/- Texts of this claim, those that nothing needs left out: PAx5. -/
import Derived.Test.YtecpjfipkejmoaaFtG2
section
namespace Go.Proofs.Ytecpjfipkejmoaa.PA
open Go.RowKit Go.Proofs.YtecpjfipkejmoaaW.PrintWords Go.Proofs.YtecpjfipkejmoaaW.PrintLast Go.Proofs.YtecpjfipkejmoaaW.PrintMore
attribute [local go_sem] max2_int min2_int max_two min_two max_three min_three max_four min_four   -- for this text's walks alone
set_option linter.unusedVariables false
set_option linter.unusedSimpArgs false
theorem row_slice {α : Type} {d : Kd α} {e : TypeId} {W : World} {base : Nat} {ok : Nat → Prop} {v : Value} {xs : List α} (h : Kd.R d e W base ok v xs) : ∃ A n c, v = .slice A n c := by
  obtain ⟨_, inner, ho, _⟩ := h
  rcases ho.2 with ⟨h, _⟩ | ⟨_, _, _, h, _⟩
  · exact ⟨_, _, _, h⟩
  · exact ⟨_, _, _, h⟩
mutual
def phalaroperef17_Table.l0 : Nat → List (S35) → ByteArray → List (List Int) → Int → Option ((List (List Int)))
  | 0, _, _, _, _ => none
  | k + 1, x0, x1, x5, x6 => if x6 ≥ 0 then (if 0 ≤ (x0.length : Int) then (if ((x0.length : Int) : Int).toNat ≤ 35184372088832 then (phalaroperef17_Table.l1 k x0 x1 x5 x6 (List.replicate ((x0.length : Int) : Int).toNat 0) (wrap64 ((x0.length : Int) - 1))) else (none)) else (none)) else (some x5)
def phalaroperef17_Table.l1 : Nat → List (S35) → ByteArray → List (List Int) → Int → List Int → Int → Option ((List (List Int)))
  | 0, _, _, _, _, _, _ => none
  | k + 1, x0, x1, x5, x6, x7, x8 => if x8 ≥ 0 then (if 0 ≤ x8 then (if x8 < (x0.length : Int) then (if ((rd_T35 x0 x8).f0) = 4 then (phalaroperef17_Table.j2 k x0 x1 x5 x6 x7 x8 0 (x6 == (x1.size : Int))) else (phalaroperef17_Table.j2 k x0 x1 x5 x6 x7 x8 0 false)) else (none)) else (none)) else (if 0 ≤ x6 then (if x6 < (x5.length : Int) then (phalaroperef17_Table.l0 k x0 x1 (x5.set (x6 : Int).toNat x7) (wrap64 (x6 - 1))) else (none)) else (none))
def phalaroperef17_Table.j2 : Nat → List (S35) → ByteArray → List (List Int) → Int → List Int → Int → Int → Bool → Option ((List (List Int)))
  | 0, _, _, _, _, _, _, _, _ => none
  | k + 1, x0, x1, x5, x6, x7, x8, x9, x43 => if x43 = true then (phalaroperef17_Table.j3 k x0 x1 x5 x6 x7 x8 1) else (phalaroperef17_Table.j3 k x0 x1 x5 x6 x7 x8 x9)
def phalaroperef17_Table.j3 : Nat → List (S35) → ByteArray → List (List Int) → Int → List Int → Int → Int → Option ((List (List Int)))
  | 0, _, _, _, _, _, _, _ => none
  | k + 1, x0, x1, x5, x6, x7, x8, x9 => if 0 ≤ x8 then (if x8 < (x0.length : Int) then (if ((rd_T35 x0 x8).f0) = 3 then (if 0 ≤ ((rd_T35 x0 x8).f4) then (if ((rd_T35 x0 x8).f4) < (x7.length : Int) then (phalaroperef17_Table.j4 k x0 x1 x5 x6 x7 x8 (rd x7 ((rd_T35 x0 x8).f4))) else (none)) else (none)) else (phalaroperef17_Table.j4 k x0 x1 x5 x6 x7 x8 x9)) else (none)) else (none)
def phalaroperef17_Table.j4 : Nat → List (S35) → ByteArray → List (List Int) → Int → List Int → Int → Int → Option ((List (List Int)))
  | 0, _, _, _, _, _, _, _ => none
  | k + 1, x0, x1, x5, x6, x7, x8, x9 => phalaroperef17_Table.l2 k x0 x1 x5 x6 x7 x8 x9 0
def phalaroperef17_Table.l2 : Nat → List (S35) → ByteArray → List (List Int) → Int → List Int → Int → Int → Int → Option ((List (List Int)))
  | 0, _, _, _, _, _, _, _, _ => none
  | k + 1, x0, x1, x5, x6, x7, x8, x9, x10 => if 0 ≤ x8 then (if x8 < (x0.length : Int) then (if x10 < (((rd_T35 x0 x8).f2).length : Int) then (if 0 ≤ x10 then (if 0 ≤ (rd ((rd_T35 x0 x8).f2) x10) then (if (rd ((rd_T35 x0 x8).f2) x10) < (x7.length : Int) then (phalaroperef17_Table.l2 k x0 x1 x5 x6 x7 x8 (mn (wrap64 (x9 + (rd x7 (rd ((rd_T35 x0 x8).f2) x10)))) 1000) (wrap64 (x10 + 1))) else (none)) else (none)) else (none)) else (phalaroperef17_Table.l3 k x0 x1 x5 x6 x7 x8 x9 0)) else (none)) else (none)
def phalaroperef17_Table.l3 : Nat → List (S35) → ByteArray → List (List Int) → Int → List Int → Int → Int → Int → Option ((List (List Int)))
  | 0, _, _, _, _, _, _, _, _ => none
  | k + 1, x0, x1, x5, x6, x7, x8, x9, x11 => if 0 ≤ x8 then (if x8 < (x0.length : Int) then (if x11 < (((rd_T35 x0 x8).f1).length : Int) then (phalaroperef17_Table.j7 k x0 x1 x5 x6 x7 x8 x9 x11 (decide (x6 < (x1.size : Int)))) else (phalaroperef17_Table.j7 k x0 x1 x5 x6 x7 x8 x9 x11 false)) else (none)) else (none)
def phalaroperef17_Table.j7 : Nat → List (S35) → ByteArray → List (List Int) → Int → List Int → Int → Int → Int → Bool → Option ((List (List Int)))
  | 0, _, _, _, _, _, _, _, _, _ => none
  | k + 1, x0, x1, x5, x6, x7, x8, x9, x11, x95 => if x95 = true then (if 0 ≤ x6 then (if x6 < (x1.size : Int) then (if 0 ≤ x8 then (if x8 < (x0.length : Int) then (if 0 ≤ x11 then (if x11 < (((rd_T35 x0 x8).f1).length : Int) then (if (bt x1 x6) ≥ ((rd_T65 ((rd_T35 x0 x8).f1) x11).f0) then (if (bt x1 x6) ≤ ((rd_T65 ((rd_T35 x0 x8).f1) x11).f1) then (if 0 ≤ (wrap64 (x6 + 1)) then (if (wrap64 (x6 + 1)) < (x5.length : Int) then (if 0 ≤ ((rd_T65 ((rd_T35 x0 x8).f1) x11).f2) then (if ((rd_T65 ((rd_T35 x0 x8).f1) x11).f2) < ((rd_L4 x5 (wrap64 (x6 + 1))).length : Int) then (phalaroperef17_Table.l3 k x0 x1 x5 x6 x7 x8 (rd (rd_L4 x5 (wrap64 (x6 + 1))) ((rd_T65 ((rd_T35 x0 x8).f1) x11).f2)) (wrap64 (x11 + 1))) else (none)) else (none)) else (none)) else (none)) else (phalaroperef17_Table.l3 k x0 x1 x5 x6 x7 x8 x9 (wrap64 (x11 + 1)))) else (phalaroperef17_Table.l3 k x0 x1 x5 x6 x7 x8 x9 (wrap64 (x11 + 1)))) else (none)) else (none)) else (none)) else (none)) else (none)) else (none)) else (if 0 ≤ x8 then (if x8 < (x7.length : Int) then (phalaroperef17_Table.l1 k x0 x1 x5 x6 (x7.set (x8 : Int).toNat x9) (wrap64 (x8 - 1))) else (none)) else (none))
end
def phalaroperef17_Table.f (k : Nat) (l0 : List (S35)) (a1 : ByteArray) : Option ((List (List Int))) := if 0 ≤ (wrap64 ((a1.size : Int) + 1)) then (if (wrap64 ((a1.size : Int) + 1) : Int).toNat ≤ 11728124029610 then (phalaroperef17_Table.l0 k l0 a1 (List.replicate (wrap64 ((a1.size : Int) + 1) : Int).toNat []) (a1.size : Int)) else (none)) else (none)
set_option maxHeartbeats 8000000 in
set_option maxRecDepth 100000 in
theorem phalaroperef17_Table.calls (k : Nat) (A0 : Option Addr) (c0 : Nat) (l0 : List (S35)) (a1 : ByteArray) (r : List (List Int)) (w : World) (hr0 : Kd.C k35 w A0 l0.length l0) (hc0 : l0.length ≤ c0) (h : phalaroperef17_Table.f k l0 a1 = some r) :
    Calls Try.prog 25 #[.slice A0 l0.length c0, .string a1] w fun e w' => ∃ v0_ : Value, e = .returned (v0_) ∧ Kd.R (Kd.slice 3 (Kd.int .i64)) 33 w' w.heap.size (fun _ => True) v0_ r ∧ Below w.heap.size w w' := by
  have HR0 := Aside0.mk hr0
  have HC0 := Aside0.mk hc0
  clear hr0 hc0
  have HB := Aside0.mk (Below.refl w.heap.size w)
  have H : (if 0 ≤ (wrap64 ((a1.size : Int) + 1)) then (if (wrap64 ((a1.size : Int) + 1) : Int).toNat ≤ 11728124029610 then (phalaroperef17_Table.l0 k l0 a1 (List.replicate (wrap64 ((a1.size : Int) + 1) : Int).toNat []) (a1.size : Int)) else (none)) else (none)) = some r := h
  clear h
  obtain ⟨ji3, hji3⟩ : ∃ j_ : Int, (wrap64 ((a1.size : Int) + 1)) = j_ := ⟨_, rfl⟩
  replace H : (if 0 ≤ (ji3) then (if (ji3 : Int).toNat ≤ 11728124029610 then (phalaroperef17_Table.l0 k l0 a1 (List.replicate (ji3 : Int).toNat []) (a1.size : Int)) else (none)) else (none)) = some r := by first | (rw [hji3] at H; exact H) | (simp only [hji3] at H ⊢; exact H)
  have hji3w : (IntKind.i64.wrap ((a1.size : Int) + 1)) = ji3 := (i64_w _).trans hji3
  by_cases c4 : 0 ≤ (ji3)
  · rw [if_pos c4] at H
    have c4b0 := eq_true c4
    have c4b1 : decide (0 ≤ (ji3)) = true := decide_eq_true c4
    clear c4
    by_cases c5 : (ji3 : Int).toNat ≤ 11728124029610
    · rw [if_pos c5] at H
      have c5b0 := eq_true c5
      have c5b1 : decide ((ji3 : Int).toNat ≤ 11728124029610) = true := decide_eq_true c5
      clear c5
      obtain ⟨y119, hy119⟩ : ∃ y_ : List (List Int), y_ = (List.replicate (ji3 : Int).toNat []) := ⟨_, rfl⟩
      replace H : (phalaroperef17_Table.l0 k l0 a1 y119 (a1.size : Int)) = some r := by first | (rw [hy119]; with_reducible exact H) | (have H2_ := (Option.bind_some _ _).symm.trans H; rw [hy119]; with_reducible exact H2_) | (have H2_ := (Option.bind_some _ _).symm.trans H; with_reducible exact H2_) | with_reducible exact H | (rw [hy119]; exact H) | exact H
      have Ny119 := Aside0.mk hy119
      clear hy119
      have H' := Aside0.mk H
      clear H
      go_enter Try.func25, Try.ntmps25
      go_wp2_with (first | ((with_reducible refine gate_dst (N := 15) rfl ?_); (try (refine gate_guard (by rfl) ?_; dsimp only)); refine Kd.R_make (Kd.slice 3 (Kd.int .i64)) _ 33 rfl (N := 15) rfl 66 _ _ rfl ji3 rfl rfl Try.underlying66 (.slice none 0 0) 24 info33 rfl (by decide) (by omega) [] (ok := fun _ => True) (okp := fun _ => True) ⟨_, rfl, Kd.R_nil _ _ _ _ _⟩ (fun _ hk => hk) trivial (of_decide_eq_true (by first | (with_reducible assumption) | assumption)) (Nat.le_trans (Nat.mul_le_mul_right _ (of_decide_eq_true (by first | (with_reducible assumption) | assumption) : ji3.toNat ≤ 11728124029610)) (by omega)) (Below.refl _ _) (Nat.le_refl _) ?_; intro v120 w6 ho7 hb hg_ hnew_; clear hg_ hnew_; (first | rw [← Ny119.out] at ho7 | (simp only [Int.reduceToNat] at ho7; rw [← Ny119.out] at ho7)); have n0_ := Aside0.mk (Kd.R_lower ho7 (below_size (by repeat (first | (with_reducible first | exact HB.out | apply below_alloc | apply pw_below_drewN | apply below_drew1) | exact HB.out)))); have n1_ := Aside0.mk (below_step (by repeat (first | (with_reducible first | exact HB.out | apply below_alloc | apply pw_below_drewN | apply below_drew1) | exact HB.out)) hb); clear HB; have HO121 := n0_; have HB := n1_; clear n0_ n1_; clear hb ho7))
      repeat (go_quiet (first | ((with_reducible refine gate_dst (N := 15) rfl ?_); (try (refine gate_guard (by rfl) ?_; dsimp only)); refine Kd.R_make (Kd.slice 3 (Kd.int .i64)) _ 33 rfl (N := 15) rfl 66 _ _ rfl ji3 rfl rfl Try.underlying66 (.slice none 0 0) 24 info33 rfl (by decide) (by omega) [] (ok := fun _ => True) (okp := fun _ => True) ⟨_, rfl, Kd.R_nil _ _ _ _ _⟩ (fun _ hk => hk) trivial (of_decide_eq_true (by first | (with_reducible assumption) | assumption)) (Nat.le_trans (Nat.mul_le_mul_right _ (of_decide_eq_true (by first | (with_reducible assumption) | assumption) : ji3.toNat ≤ 11728124029610)) (by omega)) (Below.refl _ _) (Nat.le_refl _) ?_; intro v120 w6 ho7 hb hg_ hnew_; clear hg_ hnew_; (first | rw [← Ny119.out] at ho7 | (simp only [Int.reduceToNat] at ho7; rw [← Ny119.out] at ho7)); have n0_ := Aside0.mk (Kd.R_lower ho7 (below_size (by repeat (first | (with_reducible first | exact HB.out | apply below_alloc | apply pw_below_drewN | apply below_drew1) | exact HB.out)))); have n1_ := Aside0.mk (below_step (by repeat (first | (with_reducible first | exact HB.out | apply below_alloc | apply pw_below_drewN | apply below_drew1) | exact HB.out)) hb); clear HB; have HO121 := n0_; have HB := n1_; clear n0_ n1_; clear hb ho7)); try go_wp2_with (first | ((with_reducible refine gate_dst (N := 15) rfl ?_); (try (refine gate_guard (by rfl) ?_; dsimp only)); refine Kd.R_make (Kd.slice 3 (Kd.int .i64)) _ 33 rfl (N := 15) rfl 66 _ _ rfl ji3 rfl rfl Try.underlying66 (.slice none 0 0) 24 info33 rfl (by decide) (by omega) [] (ok := fun _ => True) (okp := fun _ => True) ⟨_, rfl, Kd.R_nil _ _ _ _ _⟩ (fun _ hk => hk) trivial (of_decide_eq_true (by first | (with_reducible assumption) | assumption)) (Nat.le_trans (Nat.mul_le_mul_right _ (of_decide_eq_true (by first | (with_reducible assumption) | assumption) : ji3.toNat ≤ 11728124029610)) (by omega)) (Below.refl _ _) (Nat.le_refl _) ?_; intro v120 w6 ho7 hb hg_ hnew_; clear hg_ hnew_; (first | rw [← Ny119.out] at ho7 | (simp only [Int.reduceToNat] at ho7; rw [← Ny119.out] at ho7)); have n0_ := Aside0.mk (Kd.R_lower ho7 (below_size (by repeat (first | (with_reducible first | exact HB.out | apply below_alloc | apply pw_below_drewN | apply below_drew1) | exact HB.out)))); have n1_ := Aside0.mk (below_step (by repeat (first | (with_reducible first | exact HB.out | apply below_alloc | apply pw_below_drewN | apply below_drew1) | exact HB.out)) hb); clear HB; have HO121 := n0_; have HB := n1_; clear n0_ n1_; clear hb ho7)))
      go_loopg [6] k (fun kq v6 w' => ∃ (x5_1 : List (List Int)) (x6_1 : Int), v6 = .int .i64 x6_1 ∧ Aside0 (phalaroperef17_Table.l0 kq l0 a1 x5_1 x6_1 = some r) ∧ Aside0 (kq ≤ k) ∧ Aside0 (Kd.R (Kd.slice 3 (Kd.int .i64)) 33 w' w.heap.size (fun _ => True) v120 x5_1) ∧ Aside0 (Below w.heap.size w w'))
      case atStart => exact ⟨(y119), ((a1.size : Int)), (by first | rfl | (simp; done) | (simp [*]; done)), H', ⟨Nat.le_refl _⟩, ⟨by (with_reducible repeat (first | apply Kd.R_alloc | apply Kd.R_drewN | apply Kd.R_drew)); exact HO121.out⟩, ⟨by repeat (first | (with_reducible first | exact HB.out | apply below_alloc | apply pw_below_drewN | apply below_drew1) | exact HB.out)⟩⟩
      case round =>
        clear H'
        try clear c2
        try clear p2
        try clear c4
        try clear c4b0
        try clear c4b1
        try clear c5
        try clear c5b0
        try clear c5b1
        try clear p6
        obtain ⟨x5_1, x6_1, rfl, HA, HK1, HO_5, HB⟩ := hrel
        cases gk with
        | zero => exact absurd HA.out (by simp [phalaroperef17_Table.l0])
        | succ k1 =>
          have H := HA.out
          clear HA
          simp only [phalaroperef17_Table.l0] at H
          by_cases c8 : x6_1 ≥ 0
          · rw [if_pos c8] at H
            have c8b0 : decide (0 ≤ x6_1) = true := decide_eq_true c8
            clear c8
            by_cases c9 : 0 ≤ (l0.length : Int)
            · rw [if_pos c9] at H
              have c9b0 := eq_true c9
              have c9b1 : decide (0 ≤ (l0.length : Int)) = true := decide_eq_true c9
              clear c9
              by_cases c10 : ((l0.length : Int) : Int).toNat ≤ 35184372088832
              · rw [if_pos c10] at H
                have c10b0 := eq_true c10
                have c10b1 : decide (((l0.length : Int) : Int).toNat ≤ 35184372088832) = true := decide_eq_true c10
                clear c10
                obtain ⟨y122, hy122⟩ : ∃ y_ : List Int, y_ = (List.replicate ((l0.length : Int) : Int).toNat 0) := ⟨_, rfl⟩
                replace H : (phalaroperef17_Table.l1 k1 l0 a1 x5_1 x6_1 y122 (wrap64 ((l0.length : Int) - 1))) = some r := by first | (rw [hy122]; with_reducible exact H) | (have H2_ := (Option.bind_some _ _).symm.trans H; rw [hy122]; with_reducible exact H2_) | (have H2_ := (Option.bind_some _ _).symm.trans H; with_reducible exact H2_) | with_reducible exact H | (rw [hy122]; exact H) | exact H
                have Ny122 := Aside0.mk hy122
                clear hy122
                have H' := Aside0.mk H
                clear H
                go_wp2_with (first | ((with_reducible refine gate_dst (N := 24) rfl ?_); (try (refine gate_guard (by rfl) ?_; dsimp only)); refine Kd.R_make (Kd.int .i64) _ 3 rfl (N := 24) rfl 33 _ _ rfl (l0.length : Int) rfl rfl Try.underlying33 (.int .i64 0) 8 info3 rfl (by decide) (by omega) 0 (ok := fun _ => True) (okp := fun _ => True) rfl (fun _ hk => hk) trivial (of_decide_eq_true (by first | (with_reducible assumption) | assumption)) (Nat.le_trans (Nat.mul_le_mul_right _ (of_decide_eq_true (by first | (with_reducible assumption) | assumption) : (l0.length : Int).toNat ≤ 35184372088832)) (by omega)) (Below.refl _ _) (Nat.le_refl _) ?_; intro v123 w11 ho12 hb hg_ hnew_; clear hg_ hnew_; (first | rw [← Ny122.out] at ho12 | (simp only [Int.reduceToNat] at ho12; rw [← Ny122.out] at ho12)); have n0_ := Aside0.mk (Kd.R_elder' (by (with_reducible repeat (first | apply Kd.R_alloc | apply Kd.R_drewN | apply Kd.R_drew)); exact HO_5.out) (Kd.R_base ho12) hb); have n1_ := Aside0.mk (Kd.R_lower ho12 (below_size (by repeat (first | (with_reducible first | exact HB.out | apply below_alloc | apply pw_below_drewN | apply below_drew1) | exact HB.out)))); have n2_ := Aside0.mk (below_step (by repeat (first | (with_reducible first | exact HB.out | apply below_alloc | apply pw_below_drewN | apply below_drew1) | exact HB.out)) hb); clear HO_5; clear HB; have HO_5 := n0_; have HO124 := n1_; have HB := n2_; clear n0_ n1_ n2_; clear hb ho12))
                repeat (go_quiet (first | ((with_reducible refine gate_dst (N := 24) rfl ?_); (try (refine gate_guard (by rfl) ?_; dsimp only)); refine Kd.R_make (Kd.int .i64) _ 3 rfl (N := 24) rfl 33 _ _ rfl (l0.length : Int) rfl rfl Try.underlying33 (.int .i64 0) 8 info3 rfl (by decide) (by omega) 0 (ok := fun _ => True) (okp := fun _ => True) rfl (fun _ hk => hk) trivial (of_decide_eq_true (by first | (with_reducible assumption) | assumption)) (Nat.le_trans (Nat.mul_le_mul_right _ (of_decide_eq_true (by first | (with_reducible assumption) | assumption) : (l0.length : Int).toNat ≤ 35184372088832)) (by omega)) (Below.refl _ _) (Nat.le_refl _) ?_; intro v123 w11 ho12 hb hg_ hnew_; clear hg_ hnew_; (first | rw [← Ny122.out] at ho12 | (simp only [Int.reduceToNat] at ho12; rw [← Ny122.out] at ho12)); have n0_ := Aside0.mk (Kd.R_elder' (by (with_reducible repeat (first | apply Kd.R_alloc | apply Kd.R_drewN | apply Kd.R_drew)); exact HO_5.out) (Kd.R_base ho12) hb); have n1_ := Aside0.mk (Kd.R_lower ho12 (below_size (by repeat (first | (with_reducible first | exact HB.out | apply below_alloc | apply pw_below_drewN | apply below_drew1) | exact HB.out)))); have n2_ := Aside0.mk (below_step (by repeat (first | (with_reducible first | exact HB.out | apply below_alloc | apply pw_below_drewN | apply below_drew1) | exact HB.out)) hb); clear HO_5; clear HB; have HO_5 := n0_; have HO124 := n1_; have HB := n2_; clear n0_ n1_ n2_; clear hb ho12)); try go_wp2_with (first | ((with_reducible refine gate_dst (N := 24) rfl ?_); (try (refine gate_guard (by rfl) ?_; dsimp only)); refine Kd.R_make (Kd.int .i64) _ 3 rfl (N := 24) rfl 33 _ _ rfl (l0.length : Int) rfl rfl Try.underlying33 (.int .i64 0) 8 info3 rfl (by decide) (by omega) 0 (ok := fun _ => True) (okp := fun _ => True) rfl (fun _ hk => hk) trivial (of_decide_eq_true (by first | (with_reducible assumption) | assumption)) (Nat.le_trans (Nat.mul_le_mul_right _ (of_decide_eq_true (by first | (with_reducible assumption) | assumption) : (l0.length : Int).toNat ≤ 35184372088832)) (by omega)) (Below.refl _ _) (Nat.le_refl _) ?_; intro v123 w11 ho12 hb hg_ hnew_; clear hg_ hnew_; (first | rw [← Ny122.out] at ho12 | (simp only [Int.reduceToNat] at ho12; rw [← Ny122.out] at ho12)); have n0_ := Aside0.mk (Kd.R_elder' (by (with_reducible repeat (first | apply Kd.R_alloc | apply Kd.R_drewN | apply Kd.R_drew)); exact HO_5.out) (Kd.R_base ho12) hb); have n1_ := Aside0.mk (Kd.R_lower ho12 (below_size (by repeat (first | (with_reducible first | exact HB.out | apply below_alloc | apply pw_below_drewN | apply below_drew1) | exact HB.out)))); have n2_ := Aside0.mk (below_step (by repeat (first | (with_reducible first | exact HB.out | apply below_alloc | apply pw_below_drewN | apply below_drew1) | exact HB.out)) hb); clear HO_5; clear HB; have HO_5 := n0_; have HO124 := n1_; have HB := n2_; clear n0_ n1_ n2_; clear hb ho12)))
                go_loopg [8] k1 (fun kq v8 w' => ∃ (x7_2 : List Int) (x8_2 : Int), v8 = .int .i64 x8_2 ∧ Aside0 (phalaroperef17_Table.l1 kq l0 a1 x5_1 x6_1 x7_2 x8_2 = some r) ∧ Aside0 (kq ≤ k1) ∧ Aside0 (Kd.R (Kd.slice 3 (Kd.int .i64)) 33 w' w.heap.size (fun k_ => some k_ ≠ (v123 : Value).ownBlock) v120 x5_1) ∧ Aside0 (Kd.R (Kd.int .i64) 3 w' w.heap.size (fun _ => True) v123 x7_2) ∧ Aside0 (Below w.heap.size w w'))
                case atStart => exact ⟨(y122), (wrap64 ((l0.length : Int) - 1)), (by first | rfl | (simp; done) | (simp [*]; done)), H', ⟨Nat.le_refl _⟩, ⟨by (with_reducible repeat (first | apply Kd.R_alloc | apply Kd.R_drewN | apply Kd.R_drew)); exact Kd.R_mono HO_5.out (fun _ hk => hk.2)⟩, ⟨by (with_reducible repeat (first | apply Kd.R_alloc | apply Kd.R_drewN | apply Kd.R_drew)); exact HO124.out⟩, ⟨by repeat (first | (with_reducible first | exact HB.out | apply below_alloc | apply pw_below_drewN | apply below_drew1) | exact HB.out)⟩⟩
                case round =>
                  clear H'
                  try clear c1
                  try clear c2
                  try clear p2
                  try clear c4
                  try clear c4b0
                  try clear c4b1
                  try clear c5
                  try clear c5b0
                  try clear c5b1
                  try clear p6
                  try clear c8
                  try clear c8b0
                  try clear c9
                  try clear c9b0
                  try clear c9b1
                  try clear c10
                  try clear c10b0
                  try clear c10b1
                  try clear p2
                  try clear p6
                  obtain ⟨x7_2, x8_2, rfl, HA, HK2, HO_5, HO_7, HB⟩ := hrel
                  cases gk with
                  | zero => exact absurd HA.out (by simp [phalaroperef17_Table.l1])
                  | succ k2 =>
                    have H := HA.out
                    clear HA
                    simp only [phalaroperef17_Table.l1] at H
                    by_cases c13 : x8_2 ≥ 0
                    · rw [if_pos c13] at H
                      have c13b0 : decide (0 ≤ x8_2) = true := decide_eq_true c13
                      clear c13
                      have HC14 := Aside0.mk H
                      clear H
                      go_upto_region 10 with (fail)
                      repeat (go_quiet (fail); go_upto_region 10 with (fail))
                      go_cut [43] (fun v43 wc => ∃ (kq : Nat) (x43_13 : Bool), v43 = .bool x43_13 ∧ Aside0 (phalaroperef17_Table.j2 kq l0 a1 x5_1 x6_1 x7_2 x8_2 0 x43_13 = some r) ∧ Aside0 (kq ≤ k2) ∧ Aside0 (Kd.R (Kd.slice 3 (Kd.int .i64)) 33 wc w.heap.size (fun k_ => some k_ ≠ (v123 : Value).ownBlock) v120 x5_1) ∧ Aside0 (Kd.R (Kd.int .i64) 3 wc w.heap.size (fun _ => True) v123 x7_2) ∧ Aside0 (Below w.heap.size w wc))
                      case first =>
                        have H := HC14.out
                        clear HC14
                        by_cases c15 : 0 ≤ x8_2
                        · rw [if_pos c15] at H
                          have c15b0 : decide (0 ≤ x8_2) = true := decide_eq_true c15
                          clear c15
                          (first | rw [c15b0] | (simp only [i64_w, i32_w]; rw [c15b0]) | skip)
                          by_cases c16 : x8_2 < (l0.length : Int)
                          · rw [if_pos c16] at H
                            have c16b0 : decide (x8_2 < (l0.length : Int)) = true := decide_eq_true c16
                            clear c16
                            by_cases c17 : ((rd_T35 l0 x8_2).f0) = 4
                            · rw [if_pos c17] at H
                              have c17b0 : (((rd_T35 l0 x8_2).f0) == 4) = true := beq_iff_eq.mpr c17
                              have c17b1 : (((rd_T35 l0 x8_2).f0) != 4) = false := bne_eq_false_iff_eq.mpr c17
                              clear c17
                              have H' := Aside0.mk H
                              clear H
                              have p126 : 0 ≤ (x8_2 : Int) := of_decide_eq_true (by first | (with_reducible assumption) | assumption)
                              have q126 : x8_2 < (l0.length : Int) := of_decide_eq_true (by first | (with_reducible assumption) | assumption)
                              obtain ⟨ad126, A126_1, c126_1, A126_2, c126_2, e126, hx126_0, hx126_1, hx126_2, hx126_3, hx126_4, hl126_1, hi126_1, hl126_2, hi126_2⟩ := at_T35 HR0.out x8_2 p126 q126
                              cases e126
                              replace hx126_0 := (HB.out.cell (World.block_lt_of_cell? w _ hx126_0)).trans hx126_0
                              replace hx126_1 := (HB.out.cell (World.block_lt_of_cell? w _ hx126_1)).trans hx126_1
                              replace hx126_2 := (HB.out.cell (World.block_lt_of_cell? w _ hx126_2)).trans hx126_2
                              replace hx126_3 := (HB.out.cell (World.block_lt_of_cell? w _ hx126_3)).trans hx126_3
                              replace hx126_4 := (HB.out.cell (World.block_lt_of_cell? w _ hx126_4)).trans hx126_4
                              have HR126_1 := Aside0.mk hi126_1
                              have HC126_1 := Aside0.mk hl126_1
                              clear hi126_1 hl126_1
                              have HR126_2 := Aside0.mk hi126_2
                              have HC126_2 := Aside0.mk hl126_2
                              clear hi126_2 hl126_2
                              replace p126 := eq_true p126
                              replace q126 := eq_true q126
                              go_wp2
                              repeat (go_quiet (fail); try go_wp2)
                              go_meet
                              case rel => exact ⟨_, ((x6_1 == (a1.size : Int))), (by first | rfl | (simp; done) | (simp [*]; done)), H', ⟨by have := HK1.out; have := HK2.out; first | omega | exact Nat.le_refl _⟩, ⟨by (with_reducible repeat (first | apply Kd.R_alloc | apply Kd.R_drewN | apply Kd.R_drew)); exact HO_5.out⟩, ⟨by (with_reducible repeat (first | apply Kd.R_alloc | apply Kd.R_drewN | apply Kd.R_drew)); exact HO_7.out⟩, ⟨by repeat (first | (with_reducible first | exact HB.out | apply below_alloc | apply pw_below_drewN | apply below_drew1) | exact HB.out)⟩⟩
                            · rw [if_neg c17] at H
                              have c17b0 : (((rd_T35 l0 x8_2).f0) == 4) = false := beq_eq_false_iff_ne.mpr c17
                              have c17b1 : (((rd_T35 l0 x8_2).f0) != 4) = true := bne_iff_ne.mpr c17
                              have H' := Aside0.mk H
                              clear H
                              have p126 : 0 ≤ (x8_2 : Int) := of_decide_eq_true (by first | (with_reducible assumption) | assumption)
                              have q126 : x8_2 < (l0.length : Int) := of_decide_eq_true (by first | (with_reducible assumption) | assumption)
                              obtain ⟨ad126, A126_1, c126_1, A126_2, c126_2, e126, hx126_0, hx126_1, hx126_2, hx126_3, hx126_4, hl126_1, hi126_1, hl126_2, hi126_2⟩ := at_T35 HR0.out x8_2 p126 q126
                              cases e126
                              replace hx126_0 := (HB.out.cell (World.block_lt_of_cell? w _ hx126_0)).trans hx126_0
                              replace hx126_1 := (HB.out.cell (World.block_lt_of_cell? w _ hx126_1)).trans hx126_1
                              replace hx126_2 := (HB.out.cell (World.block_lt_of_cell? w _ hx126_2)).trans hx126_2
                              replace hx126_3 := (HB.out.cell (World.block_lt_of_cell? w _ hx126_3)).trans hx126_3
                              replace hx126_4 := (HB.out.cell (World.block_lt_of_cell? w _ hx126_4)).trans hx126_4
                              have HR126_1 := Aside0.mk hi126_1
                              have HC126_1 := Aside0.mk hl126_1
                              clear hi126_1 hl126_1
                              have HR126_2 := Aside0.mk hi126_2
                              have HC126_2 := Aside0.mk hl126_2
                              clear hi126_2 hl126_2
                              replace p126 := eq_true p126
                              replace q126 := eq_true q126
                              go_wp2
                              repeat (go_quiet (fail); try go_wp2)
                              go_meet
                              case rel => exact ⟨_, (false), (by first | rfl | (simp; done) | (simp [*]; done)), H', ⟨by have := HK1.out; have := HK2.out; first | omega | exact Nat.le_refl _⟩, ⟨by (with_reducible repeat (first | apply Kd.R_alloc | apply Kd.R_drewN | apply Kd.R_drew)); exact HO_5.out⟩, ⟨by (with_reducible repeat (first | apply Kd.R_alloc | apply Kd.R_drewN | apply Kd.R_drew)); exact HO_7.out⟩, ⟨by repeat (first | (with_reducible first | exact HB.out | apply below_alloc | apply pw_below_drewN | apply below_drew1) | exact HB.out)⟩⟩
                          · rw [if_neg c16] at H
                            exact absurd H (by simp)
                        · rw [if_neg c15] at H
                          exact absurd H (by simp)
                      case rest =>
                        clear HC14
                        try clear c1
                        try clear p1
                        try clear q1
                        try clear hx1
                        try clear c2
                        try clear p2
                        try clear c4
                        try clear c4b0
                        try clear c4b1
                        try clear c5
                        try clear c5b0
                        try clear c5b1
                        try clear p6
                        try clear c8
                        try clear c8b0
                        try clear c9
                        try clear c9b0
                        try clear c9b1
                        try clear c10
                        try clear c10b0
                        try clear c10b1
                        try clear c12
                        try clear p12
                        try clear q12
                        try clear hx12
                        try clear c13
                        try clear c13b0
                        try clear c15
                        try clear c15b0
                        try clear c16
                        try clear c16b0
                        try clear c17
                        try clear c17b0
                        try clear c17b1
                        try clear hx126_0
                        try clear hx126_1
                        try clear hx126_2
                        try clear hx126_3
                        try clear hx126_4
                        try clear p126
                        try clear p2
                        try clear p6
                        try clear q126
                        obtain ⟨kq, x43_13, rfl, HA, HJ13, HO_5, HO_7, HB⟩ := hcut
                        cases kq with
                        | zero => exact absurd HA.out (by simp [phalaroperef17_Table.j2])
                        | succ kj13 =>
                          have H := HA.out
                          clear HA
                          simp only [phalaroperef17_Table.j2] at H
                          have HC18 := Aside0.mk H
                          clear H
                          go_upto_if 43 with (fail)
                          repeat (go_quiet (fail); go_upto_if 43 with (fail))
                          go_cut [9] (fun v9 wc => ∃ (kq : Nat) (x9_17 : Int), v9 = .int .i64 x9_17 ∧ Aside0 (phalaroperef17_Table.j3 kq l0 a1 x5_1 x6_1 x7_2 x8_2 x9_17 = some r) ∧ Aside0 (kq ≤ kj13) ∧ Aside0 (Kd.R (Kd.slice 3 (Kd.int .i64)) 33 wc w.heap.size (fun k_ => some k_ ≠ (v123 : Value).ownBlock) v120 x5_1) ∧ Aside0 (Kd.R (Kd.int .i64) 3 wc w.heap.size (fun _ => True) v123 x7_2) ∧ Aside0 (Below w.heap.size w wc))
                          case first =>
                            have H := HC18.out
                            clear HC18
                            by_cases c19 : x43_13 = true
                            · subst c19
                              have H1 : (phalaroperef17_Table.j3 kj13 l0 a1 x5_1 x6_1 x7_2 x8_2 1) = some r := by rw [if_pos rfl] at H; exact H
                              clear H
                              have H := H1
                              clear H1
                              have H' := Aside0.mk H
                              clear H
                              go_wp2
                              repeat (go_quiet (fail); try go_wp2)
                              go_meet
                              case rel => exact ⟨_, (1), (by first | rfl | (simp; done) | (simp [*]; done)), H', ⟨by have := HK1.out; have := HK2.out; have := HJ13.out; first | omega | exact Nat.le_refl _⟩, ⟨by (with_reducible repeat (first | apply Kd.R_alloc | apply Kd.R_drewN | apply Kd.R_drew)); exact HO_5.out⟩, ⟨by (with_reducible repeat (first | apply Kd.R_alloc | apply Kd.R_drewN | apply Kd.R_drew)); exact HO_7.out⟩, ⟨by repeat (first | (with_reducible first | exact HB.out | apply below_alloc | apply pw_below_drewN | apply below_drew1) | exact HB.out)⟩⟩
                            · replace c19 := Bool.eq_false_iff.mpr c19
                              subst c19
                              have H1 : (phalaroperef17_Table.j3 kj13 l0 a1 x5_1 x6_1 x7_2 x8_2 0) = some r := by rw [if_neg (show ¬ (false = true) by decide)] at H; exact H
                              clear H
                              have H := H1
                              clear H1
                              have H' := Aside0.mk H
                              clear H
                              go_wp2
                              repeat (go_quiet (fail); try go_wp2)
                              go_meet
                              case rel => exact ⟨_, (0), (by first | rfl | (simp; done) | (simp [*]; done)), H', ⟨by have := HK1.out; have := HK2.out; have := HJ13.out; first | omega | exact Nat.le_refl _⟩, ⟨by (with_reducible repeat (first | apply Kd.R_alloc | apply Kd.R_drewN | apply Kd.R_drew)); exact HO_5.out⟩, ⟨by (with_reducible repeat (first | apply Kd.R_alloc | apply Kd.R_drewN | apply Kd.R_drew)); exact HO_7.out⟩, ⟨by repeat (first | (with_reducible first | exact HB.out | apply below_alloc | apply pw_below_drewN | apply below_drew1) | exact HB.out)⟩⟩
                          case rest =>
                            clear HC18
                            try clear c1
                            try clear p1
                            try clear q1
                            try clear hx1
                            try clear c2
                            try clear p2
                            try clear c4
                            try clear c4b0
                            try clear c4b1
                            try clear c5
                            try clear c5b0
                            try clear c5b1
                            try clear p6
                            try clear c8
                            try clear c8b0
                            try clear c9
                            try clear c9b0
                            try clear c9b1
                            try clear c10
                            try clear c10b0
                            try clear c10b1
                            try clear c12
                            try clear p12
                            try clear q12
                            try clear hx12
                            try clear c13
                            try clear c13b0
                            try clear c15
                            try clear c15b0
                            try clear c16
                            try clear c16b0
                            try clear c17
                            try clear c17b0
                            try clear c17b1
                            try clear c19
                            try clear hx126_0
                            try clear hx126_1
                            try clear hx126_2
                            try clear hx126_3
                            try clear hx126_4
                            try clear p1
                            try clear p12
                            try clear p126
                            try clear p2
                            try clear p6
                            try clear q1
                            try clear q12
                            try clear q126
                            obtain ⟨kq, x9_17, rfl, HA, HJ17, HO_5, HO_7, HB⟩ := hcut
                            cases kq with
                            | zero => exact absurd HA.out (by simp [phalaroperef17_Table.j3])
                            | succ kj17 =>
                              have H := HA.out
                              clear HA
                              simp only [phalaroperef17_Table.j3] at H
                              by_cases c20 : 0 ≤ x8_2
                              · rw [if_pos c20] at H
                                have c20b0 : decide (0 ≤ x8_2) = true := decide_eq_true c20
                                clear c20
                                by_cases c21 : x8_2 < (l0.length : Int)
                                · rw [if_pos c21] at H
                                  have c21b0 : decide (x8_2 < (l0.length : Int)) = true := decide_eq_true c21
                                  clear c21
                                  have HC22 := Aside0.mk H
                                  clear H
                                  have p127 : 0 ≤ (x8_2 : Int) := of_decide_eq_true (by first | (with_reducible assumption) | assumption)
                                  have q127 : x8_2 < (l0.length : Int) := of_decide_eq_true (by first | (with_reducible assumption) | assumption)
                                  obtain ⟨ad127, A127_1, c127_1, A127_2, c127_2, e127, hx127_0, hx127_1, hx127_2, hx127_3, hx127_4, hl127_1, hi127_1, hl127_2, hi127_2⟩ := at_T35 HR0.out x8_2 p127 q127
                                  cases e127
                                  replace hx127_0 := (HB.out.cell (World.block_lt_of_cell? w _ hx127_0)).trans hx127_0
                                  replace hx127_1 := (HB.out.cell (World.block_lt_of_cell? w _ hx127_1)).trans hx127_1
                                  replace hx127_2 := (HB.out.cell (World.block_lt_of_cell? w _ hx127_2)).trans hx127_2
                                  replace hx127_3 := (HB.out.cell (World.block_lt_of_cell? w _ hx127_3)).trans hx127_3
                                  replace hx127_4 := (HB.out.cell (World.block_lt_of_cell? w _ hx127_4)).trans hx127_4
                                  have HR127_1 := Aside0.mk hi127_1
                                  have HC127_1 := Aside0.mk hl127_1
                                  clear hi127_1 hl127_1
                                  have HR127_2 := Aside0.mk hi127_2
                                  have HC127_2 := Aside0.mk hl127_2
                                  clear hi127_2 hl127_2
                                  replace p127 := eq_true p127
                                  replace q127 := eq_true q127
                                  go_upto_if 49 with (fail)
                                  repeat (go_quiet (fail); go_upto_if 49 with (fail))
                                  go_cut [9] (fun v9 wc => ∃ (kq : Nat) (x9_21 : Int), v9 = .int .i64 x9_21 ∧ Aside0 (phalaroperef17_Table.j4 kq l0 a1 x5_1 x6_1 x7_2 x8_2 x9_21 = some r) ∧ Aside0 (kq ≤ kj17) ∧ Aside0 (Kd.R (Kd.slice 3 (Kd.int .i64)) 33 wc w.heap.size (fun k_ => some k_ ≠ (v123 : Value).ownBlock) v120 x5_1) ∧ Aside0 (Kd.R (Kd.int .i64) 3 wc w.heap.size (fun _ => True) v123 x7_2) ∧ Aside0 (Below w.heap.size w wc))
                                  case first =>
                                    have H := HC22.out
                                    clear HC22
                                    by_cases c23 : ((rd_T35 l0 x8_2).f0) = 3
                                    · rw [if_pos c23] at H
                                      have c23b0 : (((rd_T35 l0 x8_2).f0) == 3) = true := beq_iff_eq.mpr c23
                                      have c23b1 : (((rd_T35 l0 x8_2).f0) != 3) = false := bne_eq_false_iff_eq.mpr c23
                                      clear c23
                                      (first | rw [c23b0] | (simp only [i64_w, i32_w]; rw [c23b0]) | skip)
                                      by_cases c24 : 0 ≤ ((rd_T35 l0 x8_2).f4)
                                      · rw [if_pos c24] at H
                                        have c24b0 : decide (0 ≤ ((rd_T35 l0 x8_2).f4)) = true := decide_eq_true c24
                                        clear c24
                                        by_cases c25 : ((rd_T35 l0 x8_2).f4) < (x7_2.length : Int)
                                        · rw [if_pos c25] at H
                                          have c25b0 : decide (((rd_T35 l0 x8_2).f4) < (x7_2.length : Int)) = true := decide_eq_true c25
                                          clear c25
                                          have H' := Aside0.mk H
                                          clear H
                                          have p128 : 0 ≤ (x8_2 : Int) := of_decide_eq_true (by first | (with_reducible assumption) | assumption)
                                          have q128 : x8_2 < (l0.length : Int) := of_decide_eq_true (by first | (with_reducible assumption) | assumption)
                                          obtain ⟨ad128, A128_1, c128_1, A128_2, c128_2, e128, hx128_0, hx128_1, hx128_2, hx128_3, hx128_4, hl128_1, hi128_1, hl128_2, hi128_2⟩ := at_T35 HR0.out x8_2 p128 q128
                                          obtain rfl : ad127 = ad128 := (by injection e128)
                                          replace hx128_0 := (HB.out.cell (World.block_lt_of_cell? w _ hx128_0)).trans hx128_0
                                          replace hx128_1 := (HB.out.cell (World.block_lt_of_cell? w _ hx128_1)).trans hx128_1
                                          replace hx128_2 := (HB.out.cell (World.block_lt_of_cell? w _ hx128_2)).trans hx128_2
                                          replace hx128_3 := (HB.out.cell (World.block_lt_of_cell? w _ hx128_3)).trans hx128_3
                                          replace hx128_4 := (HB.out.cell (World.block_lt_of_cell? w _ hx128_4)).trans hx128_4
                                          have HR128_1 := Aside0.mk hi128_1
                                          have HC128_1 := Aside0.mk hl128_1
                                          clear hi128_1 hl128_1
                                          have HR128_2 := Aside0.mk hi128_2
                                          have HC128_2 := Aside0.mk hl128_2
                                          clear hi128_2 hl128_2
                                          replace p128 := eq_true p128
                                          replace q128 := eq_true q128
                                          obtain ⟨Ao26, co26, eo26⟩ := Kd.R_slice HO_7.out
                                          subst eo26
                                          have p129 : 0 ≤ (((rd_T35 l0 x8_2).f4) : Int) := of_decide_eq_true (by first | (with_reducible assumption) | assumption)
                                          have q129 : ((rd_T35 l0 x8_2).f4) < (x7_2.length : Int) := of_decide_eq_true (by first | (with_reducible assumption) | assumption)
                                          obtain ⟨ad129, e129, hx129_0⟩ := Kd.at_int (Kd.R_reads' HO_7.out).2.2 ((rd_T35 l0 x8_2).f4) p129 q129
                                          cases e129
                                          replace p129 := eq_true p129
                                          replace q129 := eq_true q129
                                          go_wp2
                                          repeat (go_quiet (fail); try go_wp2)
                                          go_meet
                                          case rel => exact ⟨_, (rd x7_2 ((rd_T35 l0 x8_2).f4)), (by first | rfl | (simp; done) | (simp [*]; done)), H', ⟨by have := HK1.out; have := HK2.out; have := HJ13.out; have := HJ17.out; first | omega | exact Nat.le_refl _⟩, ⟨by (with_reducible repeat (first | apply Kd.R_alloc | apply Kd.R_drewN | apply Kd.R_drew)); exact HO_5.out⟩, ⟨by (with_reducible repeat (first | apply Kd.R_alloc | apply Kd.R_drewN | apply Kd.R_drew)); exact HO_7.out⟩, ⟨by repeat (first | (with_reducible first | exact HB.out | apply below_alloc | apply pw_below_drewN | apply below_drew1) | exact HB.out)⟩⟩
                                        · rw [if_neg c25] at H
                                          exact absurd H (by simp)
                                      · rw [if_neg c24] at H
                                        exact absurd H (by simp)
                                    · rw [if_neg c23] at H
                                      have c23b0 : (((rd_T35 l0 x8_2).f0) == 3) = false := beq_eq_false_iff_ne.mpr c23
                                      have c23b1 : (((rd_T35 l0 x8_2).f0) != 3) = true := bne_iff_ne.mpr c23
                                      (first | rw [c23b0] | (simp only [i64_w, i32_w]; rw [c23b0]) | skip)
                                      have H' := Aside0.mk H
                                      clear H
                                      go_wp2
                                      repeat (go_quiet (fail); try go_wp2)
                                      go_meet
                                      case rel => exact ⟨_, (x9_17), (by first | rfl | (simp; done) | (simp [*]; done)), H', ⟨by have := HK1.out; have := HK2.out; have := HJ13.out; have := HJ17.out; first | omega | exact Nat.le_refl _⟩, ⟨by (with_reducible repeat (first | apply Kd.R_alloc | apply Kd.R_drewN | apply Kd.R_drew)); exact HO_5.out⟩, ⟨by (with_reducible repeat (first | apply Kd.R_alloc | apply Kd.R_drewN | apply Kd.R_drew)); exact HO_7.out⟩, ⟨by repeat (first | (with_reducible first | exact HB.out | apply below_alloc | apply pw_below_drewN | apply below_drew1) | exact HB.out)⟩⟩
                                  case rest =>
                                    clear HC22
                                    try clear c1
                                    try clear p1
                                    try clear q1
                                    try clear hx1
                                    try clear c2
                                    try clear p2
                                    try clear c4
                                    try clear c4b0
                                    try clear c4b1
                                    try clear c5
                                    try clear c5b0
                                    try clear c5b1
                                    try clear p6
                                    try clear c8
                                    try clear c8b0
                                    try clear c9
                                    try clear c9b0
                                    try clear c9b1
                                    try clear c10
                                    try clear c10b0
                                    try clear c10b1
                                    try clear c12
                                    try clear p12
                                    try clear q12
                                    try clear hx12
                                    try clear c13
                                    try clear c13b0
                                    try clear c15
                                    try clear c15b0
                                    try clear c16
                                    try clear c16b0
                                    try clear c17
                                    try clear c17b0
                                    try clear c17b1
                                    try clear c19
                                    try clear c20
                                    try clear c20b0
                                    try clear c21
                                    try clear c21b0
                                    try clear c23
                                    try clear c23b0
                                    try clear c23b1
                                    try clear c24
                                    try clear c24b0
                                    try clear c25
                                    try clear c25b0
                                    try clear hx126_0
                                    try clear hx126_1
                                    try clear hx126_2
                                    try clear hx126_3
                                    try clear hx126_4
                                    try clear hx127_0
                                    try clear hx127_1
                                    try clear hx127_2
                                    try clear hx127_3
                                    try clear hx127_4
                                    try clear hx128_0
                                    try clear hx128_1
                                    try clear hx128_2
                                    try clear hx128_3
                                    try clear hx128_4
                                    try clear hx129_0
                                    try clear p1
                                    try clear p12
                                    try clear p126
                                    try clear p127
                                    try clear p128
                                    try clear p129
                                    try clear p2
                                    try clear p6
                                    try clear q1
                                    try clear q12
                                    try clear q126
                                    try clear q127
                                    try clear q128
                                    try clear q129
                                    obtain ⟨kq, x9_21, rfl, HA, HJ21, HO_5, HO_7, HB⟩ := hcut
                                    cases kq with
                                    | zero => exact absurd HA.out (by simp [phalaroperef17_Table.j4])
                                    | succ kj21 =>
                                      have H := HA.out
                                      clear HA
                                      simp only [phalaroperef17_Table.j4] at H
                                      have H' := Aside0.mk H
                                      clear H
                                      go_wp2
                                      repeat (go_quiet (fail); try go_wp2)
                                      go_loopg [9, 10] kj21 (fun kq v9 v10 w' => ∃ (x9_6 : Int) (x10_6 : Int), v9 = .int .i64 x9_6 ∧ v10 = .int .i64 x10_6 ∧ Aside0 (phalaroperef17_Table.l2 kq l0 a1 x5_1 x6_1 x7_2 x8_2 x9_6 x10_6 = some r) ∧ Aside0 (kq ≤ kj21) ∧ Aside0 (Kd.R (Kd.slice 3 (Kd.int .i64)) 33 w' w.heap.size (fun k_ => some k_ ≠ (v123 : Value).ownBlock) v120 x5_1) ∧ Aside0 (Kd.R (Kd.int .i64) 3 w' w.heap.size (fun _ => True) v123 x7_2) ∧ Aside0 (Below w.heap.size w w'))
                                      case atStart => exact ⟨(x9_21), (0), (by first | rfl | (simp; done) | (simp [*]; done)), (by first | rfl | (simp; done) | (simp [*]; done)), H', ⟨Nat.le_refl _⟩, ⟨by (with_reducible repeat (first | apply Kd.R_alloc | apply Kd.R_drewN | apply Kd.R_drew)); exact HO_5.out⟩, ⟨by (with_reducible repeat (first | apply Kd.R_alloc | apply Kd.R_drewN | apply Kd.R_drew)); exact HO_7.out⟩, ⟨by repeat (first | (with_reducible first | exact HB.out | apply below_alloc | apply pw_below_drewN | apply below_drew1) | exact HB.out)⟩⟩
                                      case round =>
                                        clear H'
                                        try clear c1
                                        try clear p1
                                        try clear q1
                                        try clear hx1
                                        try clear c2
                                        try clear p2
                                        try clear c4
                                        try clear c4b0
                                        try clear c4b1
                                        try clear c5
                                        try clear c5b0
                                        try clear c5b1
                                        try clear p6
                                        try clear c8
                                        try clear c8b0
                                        try clear c9
                                        try clear c9b0
                                        try clear c9b1
                                        try clear c10
                                        try clear c10b0
                                        try clear c10b1
                                        try clear c12
                                        try clear p12
                                        try clear q12
                                        try clear hx12
                                        try clear c13
                                        try clear c13b0
                                        try clear c15
                                        try clear c15b0
                                        try clear c16
                                        try clear c16b0
                                        try clear c17
                                        try clear c17b0
                                        try clear c17b1
                                        try clear c19
                                        try clear c20
                                        try clear c20b0
                                        try clear c21
                                        try clear c21b0
                                        try clear c23
                                        try clear c23b0
                                        try clear c23b1
                                        try clear c24
                                        try clear c24b0
                                        try clear c25
                                        try clear c25b0
                                        try clear hx126_0
                                        try clear hx126_1
                                        try clear hx126_2
                                        try clear hx126_3
                                        try clear hx126_4
                                        try clear hx127_0
                                        try clear hx127_1
                                        try clear hx127_2
                                        try clear hx127_3
                                        try clear hx127_4
                                        try clear hx128_0
                                        try clear hx128_1
                                        try clear hx128_2
                                        try clear hx128_3
                                        try clear hx128_4
                                        try clear hx129_0
                                        try clear p1
                                        try clear p12
                                        try clear p126
                                        try clear p127
                                        try clear p128
                                        try clear p129
                                        try clear p2
                                        try clear p6
                                        try clear q1
                                        try clear q12
                                        try clear q126
                                        try clear q127
                                        try clear q128
                                        try clear q129
                                        obtain ⟨x9_6, x10_6, rfl, rfl, HA, HK6, HO_5, HO_7, HB⟩ := hrel
                                        cases gk with
                                        | zero => exact absurd HA.out (by simp [phalaroperef17_Table.l2])
                                        | succ k6 =>
                                          have H := HA.out
                                          clear HA
                                          simp only [phalaroperef17_Table.l2] at H
                                          by_cases c27 : 0 ≤ x8_2
                                          · rw [if_pos c27] at H
                                            have c27b0 : decide (0 ≤ x8_2) = true := decide_eq_true c27
                                            clear c27
                                            by_cases c28 : x8_2 < (l0.length : Int)
                                            · rw [if_pos c28] at H
                                              have c28b0 : decide (x8_2 < (l0.length : Int)) = true := decide_eq_true c28
                                              clear c28
                                              by_cases c29 : x10_6 < (((rd_T35 l0 x8_2).f2).length : Int)
                                              · rw [if_pos c29] at H
                                                have c29b0 : decide (x10_6 < (((rd_T35 l0 x8_2).f2).length : Int)) = true := decide_eq_true c29
                                                clear c29
                                                by_cases c30 : 0 ≤ x10_6
                                                · rw [if_pos c30] at H
                                                  have c30b0 : decide (0 ≤ x10_6) = true := decide_eq_true c30
                                                  clear c30
                                                  by_cases c31 : 0 ≤ (rd ((rd_T35 l0 x8_2).f2) x10_6)
                                                  · rw [if_pos c31] at H
                                                    have c31b0 : decide (0 ≤ (rd ((rd_T35 l0 x8_2).f2) x10_6)) = true := decide_eq_true c31
                                                    clear c31
                                                    by_cases c32 : (rd ((rd_T35 l0 x8_2).f2) x10_6) < (x7_2.length : Int)
                                                    · rw [if_pos c32] at H
                                                      have c32b0 : decide ((rd ((rd_T35 l0 x8_2).f2) x10_6) < (x7_2.length : Int)) = true := decide_eq_true c32
                                                      clear c32
                                                      obtain ⟨ji33, hji33⟩ : ∃ j_ : Int, (mn (wrap64 (x9_6 + (rd x7_2 (rd ((rd_T35 l0 x8_2).f2) x10_6)))) 1000) = j_ := ⟨_, rfl⟩
                                                      replace H : (phalaroperef17_Table.l2 k6 l0 a1 x5_1 x6_1 x7_2 x8_2 ji33 (wrap64 (x10_6 + 1))) = some r := by first | (rw [hji33] at H; exact H) | (simp only [hji33] at H ⊢; exact H)
                                                      have hji33_ : (if 1000 < (wrap64 (x9_6 + (rd x7_2 (rd ((rd_T35 l0 x8_2).f2) x10_6)))) then 1000 else (wrap64 (x9_6 + (rd x7_2 (rd ((rd_T35 l0 x8_2).f2) x10_6))))) = ji33 := hji33
                                                      have H' := Aside0.mk H
                                                      clear H
                                                      have p130 : 0 ≤ (x8_2 : Int) := of_decide_eq_true (by first | (with_reducible assumption) | assumption)
                                                      have q130 : x8_2 < (l0.length : Int) := of_decide_eq_true (by first | (with_reducible assumption) | assumption)
                                                      obtain ⟨ad130, A130_1, c130_1, A130_2, c130_2, e130, hx130_0, hx130_1, hx130_2, hx130_3, hx130_4, hl130_1, hi130_1, hl130_2, hi130_2⟩ := at_T35 HR0.out x8_2 p130 q130
                                                      obtain rfl : ad127 = ad130 := (by injection e130)
                                                      replace hx130_0 := (HB.out.cell (World.block_lt_of_cell? w _ hx130_0)).trans hx130_0
                                                      replace hx130_1 := (HB.out.cell (World.block_lt_of_cell? w _ hx130_1)).trans hx130_1
                                                      replace hx130_2 := (HB.out.cell (World.block_lt_of_cell? w _ hx130_2)).trans hx130_2
                                                      replace hx130_3 := (HB.out.cell (World.block_lt_of_cell? w _ hx130_3)).trans hx130_3
                                                      replace hx130_4 := (HB.out.cell (World.block_lt_of_cell? w _ hx130_4)).trans hx130_4
                                                      have HR130_1 := Aside0.mk hi130_1
                                                      have HC130_1 := Aside0.mk hl130_1
                                                      clear hi130_1 hl130_1
                                                      have HR130_2 := Aside0.mk hi130_2
                                                      have HC130_2 := Aside0.mk hl130_2
                                                      clear hi130_2 hl130_2
                                                      replace p130 := eq_true p130
                                                      replace q130 := eq_true q130
                                                      have p131 : 0 ≤ (x8_2 : Int) := of_decide_eq_true (by first | (with_reducible assumption) | assumption)
                                                      have q131 : x8_2 < (l0.length : Int) := of_decide_eq_true (by first | (with_reducible assumption) | assumption)
                                                      obtain ⟨ad131, A131_1, c131_1, A131_2, c131_2, e131, hx131_0, hx131_1, hx131_2, hx131_3, hx131_4, hl131_1, hi131_1, hl131_2, hi131_2⟩ := at_T35 HR0.out x8_2 p131 q131
                                                      obtain rfl : ad127 = ad131 := (by injection e131)
                                                      replace hx131_0 := (HB.out.cell (World.block_lt_of_cell? w _ hx131_0)).trans hx131_0
                                                      replace hx131_1 := (HB.out.cell (World.block_lt_of_cell? w _ hx131_1)).trans hx131_1
                                                      replace hx131_2 := (HB.out.cell (World.block_lt_of_cell? w _ hx131_2)).trans hx131_2
                                                      replace hx131_3 := (HB.out.cell (World.block_lt_of_cell? w _ hx131_3)).trans hx131_3
                                                      replace hx131_4 := (HB.out.cell (World.block_lt_of_cell? w _ hx131_4)).trans hx131_4
                                                      have HR131_1 := Aside0.mk hi131_1
                                                      have HC131_1 := Aside0.mk hl131_1
                                                      clear hi131_1 hl131_1
                                                      have HR131_2 := Aside0.mk hi131_2
                                                      have HC131_2 := Aside0.mk hl131_2
                                                      clear hi131_2 hl131_2
                                                      replace p131 := eq_true p131
                                                      replace q131 := eq_true q131
                                                      have ea_ := Option.some.inj (hx130_1.symm.trans hx131_1)
                                                      injection ea_ with ea_ en_ ec_
                                                      subst ea_
                                                      subst ec_
                                                      clear en_
                                                      have ea_ := Option.some.inj (hx130_2.symm.trans hx131_2)
                                                      injection ea_ with ea_ en_ ec_
                                                      subst ea_
                                                      subst ec_
                                                      clear en_
                                                      have p132 : 0 ≤ (x10_6 : Int) := of_decide_eq_true (by first | (with_reducible assumption) | assumption)
                                                      have q132 : x10_6 < (((rd_T35 l0 x8_2).f2).length : Int) := of_decide_eq_true (by first | (with_reducible assumption) | assumption)
                                                      obtain ⟨ad132, e132, hx132_0⟩ := Kd.at_int HR131_2.out x10_6 p132 q132
                                                      cases e132
                                                      replace hx132_0 := (HB.out.cell (World.block_lt_of_cell? w _ hx132_0)).trans hx132_0
                                                      replace p132 := eq_true p132
                                                      replace q132 := eq_true q132
                                                      obtain ⟨Ao34, co34, eo34⟩ := Kd.R_slice HO_7.out
                                                      subst eo34
                                                      have p133 : 0 ≤ ((rd ((rd_T35 l0 x8_2).f2) x10_6) : Int) := of_decide_eq_true (by first | (with_reducible assumption) | assumption)
                                                      have q133 : (rd ((rd_T35 l0 x8_2).f2) x10_6) < (x7_2.length : Int) := of_decide_eq_true (by first | (with_reducible assumption) | assumption)
                                                      obtain ⟨ad133, e133, hx133_0⟩ := Kd.at_int (Kd.R_reads' HO_7.out).2.2 (rd ((rd_T35 l0 x8_2).f2) x10_6) p133 q133
                                                      cases e133
                                                      replace p133 := eq_true p133
                                                      replace q133 := eq_true q133
                                                      go_wp2
                                                      repeat (go_quiet (fail); try go_wp2)
                                                      go_roundg k6
                                                      case measure => have := HK1.out; have := HK2.out; have := HJ13.out; have := HJ17.out; have := HJ21.out; have := HK6.out; omega
                                                      case rel => exact ⟨(ji33), (wrap64 (x10_6 + 1)), (by first | rfl | (simp; done) | (simp only [← hji33] <;> (first | rfl | simp)) | (simp [*]; done)), (by first | rfl | (simp; done) | (simp [*]; done)), H', ⟨by have := HK1.out; have := HK2.out; have := HJ13.out; have := HJ17.out; have := HJ21.out; have := HK6.out; omega⟩, ⟨by (with_reducible repeat (first | apply Kd.R_alloc | apply Kd.R_drewN | apply Kd.R_drew)); exact HO_5.out⟩, ⟨by (with_reducible repeat (first | apply Kd.R_alloc | apply Kd.R_drewN | apply Kd.R_drew)); exact HO_7.out⟩, ⟨by repeat (first | (with_reducible first | exact HB.out | apply below_alloc | apply pw_below_drewN | apply below_drew1) | exact HB.out)⟩⟩
                                                    · rw [if_neg c32] at H
                                                      exact absurd H (by simp)
                                                  · rw [if_neg c31] at H
                                                    exact absurd H (by simp)
                                                · rw [if_neg c30] at H
                                                  exact absurd H (by simp)
                                              · rw [if_neg c29] at H
                                                have c29b0 : decide (x10_6 < (((rd_T35 l0 x8_2).f2).length : Int)) = false := decide_eq_false c29
                                                clear c29
                                                have H' := Aside0.mk H
                                                clear H
                                                have p130 : 0 ≤ (x8_2 : Int) := of_decide_eq_true (by first | (with_reducible assumption) | assumption)
                                                have q130 : x8_2 < (l0.length : Int) := of_decide_eq_true (by first | (with_reducible assumption) | assumption)
                                                obtain ⟨ad130, A130_1, c130_1, A130_2, c130_2, e130, hx130_0, hx130_1, hx130_2, hx130_3, hx130_4, hl130_1, hi130_1, hl130_2, hi130_2⟩ := at_T35 HR0.out x8_2 p130 q130
                                                obtain rfl : ad127 = ad130 := (by injection e130)
                                                replace hx130_0 := (HB.out.cell (World.block_lt_of_cell? w _ hx130_0)).trans hx130_0
                                                replace hx130_1 := (HB.out.cell (World.block_lt_of_cell? w _ hx130_1)).trans hx130_1
                                                replace hx130_2 := (HB.out.cell (World.block_lt_of_cell? w _ hx130_2)).trans hx130_2
                                                replace hx130_3 := (HB.out.cell (World.block_lt_of_cell? w _ hx130_3)).trans hx130_3
                                                replace hx130_4 := (HB.out.cell (World.block_lt_of_cell? w _ hx130_4)).trans hx130_4
                                                have HR130_1 := Aside0.mk hi130_1
                                                have HC130_1 := Aside0.mk hl130_1
                                                clear hi130_1 hl130_1
                                                have HR130_2 := Aside0.mk hi130_2
                                                have HC130_2 := Aside0.mk hl130_2
                                                clear hi130_2 hl130_2
                                                replace p130 := eq_true p130
                                                replace q130 := eq_true q130
                                                go_wp2
                                                repeat (go_quiet (fail); try go_wp2)
                                                go_loopg [9, 11] k6 (fun kq v9 v11 w' => ∃ (x9_7 : Int) (x11_7 : Int), v9 = .int .i64 x9_7 ∧ v11 = .int .i64 x11_7 ∧ Aside0 (phalaroperef17_Table.l3 kq l0 a1 x5_1 x6_1 x7_2 x8_2 x9_7 x11_7 = some r) ∧ Aside0 (kq ≤ k6) ∧ Aside0 (Kd.R (Kd.slice 3 (Kd.int .i64)) 33 w' w.heap.size (fun k_ => some k_ ≠ (v123 : Value).ownBlock) v120 x5_1) ∧ Aside0 (Kd.R (Kd.int .i64) 3 w' w.heap.size (fun _ => True) v123 x7_2) ∧ Aside0 (Below w.heap.size w w'))
                                                case atStart => exact ⟨(x9_6), (0), (by first | rfl | (simp; done) | (simp [*]; done)), (by first | rfl | (simp; done) | (simp [*]; done)), H', ⟨Nat.le_refl _⟩, ⟨by (with_reducible repeat (first | apply Kd.R_alloc | apply Kd.R_drewN | apply Kd.R_drew)); exact HO_5.out⟩, ⟨by (with_reducible repeat (first | apply Kd.R_alloc | apply Kd.R_drewN | apply Kd.R_drew)); exact HO_7.out⟩, ⟨by repeat (first | (with_reducible first | exact HB.out | apply below_alloc | apply pw_below_drewN | apply below_drew1) | exact HB.out)⟩⟩
                                                case round =>
                                                  clear H'
                                                  try clear c1
                                                  try clear p1
                                                  try clear q1
                                                  try clear hx1
                                                  try clear c2
                                                  try clear p2
                                                  try clear c3
                                                  try clear c4
                                                  try clear c4b0
                                                  try clear c4b1
                                                  try clear c5
                                                  try clear c5b0
                                                  try clear c5b1
                                                  try clear p6
                                                  try clear c8
                                                  try clear c8b0
                                                  try clear c9
                                                  try clear c9b0
                                                  try clear c9b1
                                                  try clear c10
                                                  try clear c10b0
                                                  try clear c10b1
                                                  try clear c12
                                                  try clear p12
                                                  try clear q12
                                                  try clear hx12
                                                  try clear c13
                                                  try clear c13b0
                                                  try clear p13
                                                  try clear q13
                                                  try clear hx13
                                                  try clear c15
                                                  try clear c15b0
                                                  try clear c16
                                                  try clear c16b0
                                                  try clear c17
                                                  try clear c17b0
                                                  try clear c17b1
                                                  try clear c19
                                                  try clear c20
                                                  try clear c20b0
                                                  try clear c21
                                                  try clear c21b0
                                                  try clear c23
                                                  try clear c23b0
                                                  try clear c23b1
                                                  try clear c24
                                                  try clear c24b0
                                                  try clear c25
                                                  try clear c25b0
                                                  try clear c27
                                                  try clear c27b0
                                                  try clear c28
                                                  try clear c28b0
                                                  try clear c29
                                                  try clear c29b0
                                                  try clear c30
                                                  try clear c30b0
                                                  try clear c31
                                                  try clear c31b0
                                                  try clear c32
                                                  try clear c32b0
                                                  try clear hx126_0
                                                  try clear hx126_1
                                                  try clear hx126_2
                                                  try clear hx126_3
                                                  try clear hx126_4
                                                  try clear hx127_0
                                                  try clear hx127_1
                                                  try clear hx127_2
                                                  try clear hx127_3
                                                  try clear hx127_4
                                                  try clear hx128_0
                                                  try clear hx128_1
                                                  try clear hx128_2
                                                  try clear hx128_3
                                                  try clear hx128_4
                                                  try clear hx129_0
                                                  try clear hx130_0
                                                  try clear hx130_1
                                                  try clear hx130_2
                                                  try clear hx130_3
                                                  try clear hx130_4
                                                  try clear hx131_0
                                                  try clear hx131_1
                                                  try clear hx131_2
                                                  try clear hx131_3
                                                  try clear hx131_4
                                                  try clear hx132_0
                                                  try clear hx133_0
                                                  try clear p1
                                                  try clear p12
                                                  try clear p126
                                                  try clear p127
                                                  try clear p128
                                                  try clear p129
                                                  try clear p130
                                                  try clear p131
                                                  try clear p132
                                                  try clear p133
                                                  try clear p2
                                                  try clear p6
                                                  try clear q1
                                                  try clear q12
                                                  try clear q126
                                                  try clear q127
                                                  try clear q128
                                                  try clear q129
                                                  try clear q130
                                                  try clear q131
                                                  try clear q132
                                                  try clear q133
                                                  obtain ⟨x9_7, x11_7, rfl, rfl, HA, HK7, HO_5, HO_7, HB⟩ := hrel
                                                  cases gk with
                                                  | zero => exact absurd HA.out (by simp [phalaroperef17_Table.l3])
                                                  | succ k7 =>
                                                    have H := HA.out
                                                    clear HA
                                                    simp only [phalaroperef17_Table.l3] at H
                                                    have HC35 := Aside0.mk H
                                                    clear H
                                                    go_upto_region 19 with (fail)
                                                    repeat (go_quiet (fail); go_upto_region 19 with (fail))
                                                    go_cut [95] (fun v95 wc => ∃ (kq : Nat) (x95_34 : Bool), v95 = .bool x95_34 ∧ Aside0 (phalaroperef17_Table.j7 kq l0 a1 x5_1 x6_1 x7_2 x8_2 x9_7 x11_7 x95_34 = some r) ∧ Aside0 (kq ≤ k7) ∧ Aside0 (Kd.R (Kd.slice 3 (Kd.int .i64)) 33 wc w.heap.size (fun k_ => some k_ ≠ (v123 : Value).ownBlock) v120 x5_1) ∧ Aside0 (Kd.R (Kd.int .i64) 3 wc w.heap.size (fun _ => True) v123 x7_2) ∧ Aside0 (Below w.heap.size w wc))
                                                    case first =>
                                                      have H := HC35.out
                                                      clear HC35
                                                      by_cases c36 : 0 ≤ x8_2
                                                      · rw [if_pos c36] at H
                                                        have c36b0 : decide (0 ≤ x8_2) = true := decide_eq_true c36
                                                        clear c36
                                                        (first | rw [c36b0] | (simp only [i64_w, i32_w]; rw [c36b0]) | skip)
                                                        by_cases c37 : x8_2 < (l0.length : Int)
                                                        · rw [if_pos c37] at H
                                                          have c37b0 : decide (x8_2 < (l0.length : Int)) = true := decide_eq_true c37
                                                          clear c37
                                                          by_cases c38 : x11_7 < (((rd_T35 l0 x8_2).f1).length : Int)
                                                          · rw [if_pos c38] at H
                                                            have c38b0 : decide (x11_7 < (((rd_T35 l0 x8_2).f1).length : Int)) = true := decide_eq_true c38
                                                            clear c38
                                                            have H' := Aside0.mk H
                                                            clear H
                                                            have p134 : 0 ≤ (x8_2 : Int) := of_decide_eq_true (by first | (with_reducible assumption) | assumption)
                                                            have q134 : x8_2 < (l0.length : Int) := of_decide_eq_true (by first | (with_reducible assumption) | assumption)
                                                            obtain ⟨ad134, A134_1, c134_1, A134_2, c134_2, e134, hx134_0, hx134_1, hx134_2, hx134_3, hx134_4, hl134_1, hi134_1, hl134_2, hi134_2⟩ := at_T35 HR0.out x8_2 p134 q134
                                                            obtain rfl : ad127 = ad134 := (by injection e134)
                                                            replace hx134_0 := (HB.out.cell (World.block_lt_of_cell? w _ hx134_0)).trans hx134_0
                                                            replace hx134_1 := (HB.out.cell (World.block_lt_of_cell? w _ hx134_1)).trans hx134_1
                                                            replace hx134_2 := (HB.out.cell (World.block_lt_of_cell? w _ hx134_2)).trans hx134_2
                                                            replace hx134_3 := (HB.out.cell (World.block_lt_of_cell? w _ hx134_3)).trans hx134_3
                                                            replace hx134_4 := (HB.out.cell (World.block_lt_of_cell? w _ hx134_4)).trans hx134_4
                                                            have HR134_1 := Aside0.mk hi134_1
                                                            have HC134_1 := Aside0.mk hl134_1
                                                            clear hi134_1 hl134_1
                                                            have HR134_2 := Aside0.mk hi134_2
                                                            have HC134_2 := Aside0.mk hl134_2
                                                            clear hi134_2 hl134_2
                                                            replace p134 := eq_true p134
                                                            replace q134 := eq_true q134
                                                            go_wp2
                                                            repeat (go_quiet (fail); try go_wp2)
                                                            go_meet
                                                            case rel => exact ⟨_, (decide (x6_1 < (a1.size : Int))), (by first | rfl | (simp; done) | (simp [*]; done)), H', ⟨by have := HK1.out; have := HK2.out; have := HJ13.out; have := HJ17.out; have := HJ21.out; have := HK6.out; have := HK7.out; first | omega | exact Nat.le_refl _⟩, ⟨by (with_reducible repeat (first | apply Kd.R_alloc | apply Kd.R_drewN | apply Kd.R_drew)); exact HO_5.out⟩, ⟨by (with_reducible repeat (first | apply Kd.R_alloc | apply Kd.R_drewN | apply Kd.R_drew)); exact HO_7.out⟩, ⟨by repeat (first | (with_reducible first | exact HB.out | apply below_alloc | apply pw_below_drewN | apply below_drew1) | exact HB.out)⟩⟩
                                                          · rw [if_neg c38] at H
                                                            have c38b0 : decide (x11_7 < (((rd_T35 l0 x8_2).f1).length : Int)) = false := decide_eq_false c38
                                                            clear c38
                                                            have H' := Aside0.mk H
                                                            clear H
                                                            have p134 : 0 ≤ (x8_2 : Int) := of_decide_eq_true (by first | (with_reducible assumption) | assumption)
                                                            have q134 : x8_2 < (l0.length : Int) := of_decide_eq_true (by first | (with_reducible assumption) | assumption)
                                                            obtain ⟨ad134, A134_1, c134_1, A134_2, c134_2, e134, hx134_0, hx134_1, hx134_2, hx134_3, hx134_4, hl134_1, hi134_1, hl134_2, hi134_2⟩ := at_T35 HR0.out x8_2 p134 q134
                                                            obtain rfl : ad127 = ad134 := (by injection e134)
                                                            replace hx134_0 := (HB.out.cell (World.block_lt_of_cell? w _ hx134_0)).trans hx134_0
                                                            replace hx134_1 := (HB.out.cell (World.block_lt_of_cell? w _ hx134_1)).trans hx134_1
                                                            replace hx134_2 := (HB.out.cell (World.block_lt_of_cell? w _ hx134_2)).trans hx134_2
                                                            replace hx134_3 := (HB.out.cell (World.block_lt_of_cell? w _ hx134_3)).trans hx134_3
                                                            replace hx134_4 := (HB.out.cell (World.block_lt_of_cell? w _ hx134_4)).trans hx134_4
                                                            have HR134_1 := Aside0.mk hi134_1
                                                            have HC134_1 := Aside0.mk hl134_1
                                                            clear hi134_1 hl134_1
                                                            have HR134_2 := Aside0.mk hi134_2
                                                            have HC134_2 := Aside0.mk hl134_2
                                                            clear hi134_2 hl134_2
                                                            replace p134 := eq_true p134
                                                            replace q134 := eq_true q134
                                                            go_wp2
                                                            repeat (go_quiet (fail); try go_wp2)
                                                            go_meet
                                                            case rel => exact ⟨_, (false), (by first | rfl | (simp; done) | (simp [*]; done)), H', ⟨by have := HK1.out; have := HK2.out; have := HJ13.out; have := HJ17.out; have := HJ21.out; have := HK6.out; have := HK7.out; first | omega | exact Nat.le_refl _⟩, ⟨by (with_reducible repeat (first | apply Kd.R_alloc | apply Kd.R_drewN | apply Kd.R_drew)); exact HO_5.out⟩, ⟨by (with_reducible repeat (first | apply Kd.R_alloc | apply Kd.R_drewN | apply Kd.R_drew)); exact HO_7.out⟩, ⟨by repeat (first | (with_reducible first | exact HB.out | apply below_alloc | apply pw_below_drewN | apply below_drew1) | exact HB.out)⟩⟩
                                                        · rw [if_neg c37] at H
                                                          exact absurd H (by simp)
                                                      · rw [if_neg c36] at H
                                                        exact absurd H (by simp)
                                                    case rest =>
                                                      clear HC35
                                                      try clear c1
                                                      try clear p1
                                                      try clear q1
                                                      try clear hx1
                                                      try clear c2
                                                      try clear p2
                                                      try clear c3
                                                      try clear c4
                                                      try clear c4b0
                                                      try clear c4b1
                                                      try clear c5
                                                      try clear c5b0
                                                      try clear c5b1
                                                      try clear p6
                                                      try clear c8
                                                      try clear c8b0
                                                      try clear c9
                                                      try clear c9b0
                                                      try clear c9b1
                                                      try clear c10
                                                      try clear c10b0
                                                      try clear c10b1
                                                      try clear c12
                                                      try clear p12
                                                      try clear q12
                                                      try clear hx12
                                                      try clear c13
                                                      try clear c13b0
                                                      try clear p13
                                                      try clear q13
                                                      try clear hx13
                                                      try clear c15
                                                      try clear c15b0
                                                      try clear c16
                                                      try clear c16b0
                                                      try clear c17
                                                      try clear c17b0
                                                      try clear c17b1
                                                      try clear c19
                                                      try clear c20
                                                      try clear c20b0
                                                      try clear c21
                                                      try clear c21b0
                                                      try clear c23
                                                      try clear c23b0
                                                      try clear c23b1
                                                      try clear c24
                                                      try clear c24b0
                                                      try clear c25
                                                      try clear c25b0
                                                      try clear c27
                                                      try clear c27b0
                                                      try clear c28
                                                      try clear c28b0
                                                      try clear c29
                                                      try clear c29b0
                                                      try clear c30
                                                      try clear c30b0
                                                      try clear c31
                                                      try clear c31b0
                                                      try clear c32
                                                      try clear c32b0
                                                      try clear c36
                                                      try clear c36b0
                                                      try clear c37
                                                      try clear c37b0
                                                      try clear c38
                                                      try clear c38b0
                                                      try clear hx126_0
                                                      try clear hx126_1
                                                      try clear hx126_2
                                                      try clear hx126_3
                                                      try clear hx126_4
                                                      try clear hx127_0
                                                      try clear hx127_1
                                                      try clear hx127_2
                                                      try clear hx127_3
                                                      try clear hx127_4
                                                      try clear hx128_0
                                                      try clear hx128_1
                                                      try clear hx128_2
                                                      try clear hx128_3
                                                      try clear hx128_4
                                                      try clear hx129_0
                                                      try clear hx130_0
                                                      try clear hx130_1
                                                      try clear hx130_2
                                                      try clear hx130_3
                                                      try clear hx130_4
                                                      try clear hx131_0
                                                      try clear hx131_1
                                                      try clear hx131_2
                                                      try clear hx131_3
                                                      try clear hx131_4
                                                      try clear hx132_0
                                                      try clear hx133_0
                                                      try clear hx134_0
                                                      try clear hx134_1
                                                      try clear hx134_2
                                                      try clear hx134_3
                                                      try clear hx134_4
                                                      try clear p1
                                                      try clear p12
                                                      try clear p126
                                                      try clear p127
                                                      try clear p128
                                                      try clear p129
                                                      try clear p13
                                                      try clear p130
                                                      try clear p131
                                                      try clear p132
                                                      try clear p133
                                                      try clear p134
                                                      try clear p2
                                                      try clear p6
                                                      try clear q1
                                                      try clear q12
                                                      try clear q126
                                                      try clear q127
                                                      try clear q128
                                                      try clear q129
                                                      try clear q13
                                                      try clear q130
                                                      try clear q131
                                                      try clear q132
                                                      try clear q133
                                                      try clear q134
                                                      obtain ⟨kq, x95_34, rfl, HA, HJ34, HO_5, HO_7, HB⟩ := hcut
                                                      cases kq with
                                                      | zero => exact absurd HA.out (by simp [phalaroperef17_Table.j7])
                                                      | succ kj34 =>
                                                        have H := HA.out
                                                        clear HA
                                                        simp only [phalaroperef17_Table.j7] at H
                                                        by_cases c39 : x95_34 = true
                                                        · subst c39
                                                          have H1 : (if 0 ≤ x6_1 then (if x6_1 < (a1.size : Int) then (if 0 ≤ x8_2 then (if x8_2 < (l0.length : Int) then (if 0 ≤ x11_7 then (if x11_7 < (((rd_T35 l0 x8_2).f1).length : Int) then (if (bt a1 x6_1) ≥ ((rd_T65 ((rd_T35 l0 x8_2).f1) x11_7).f0) then (if (bt a1 x6_1) ≤ ((rd_T65 ((rd_T35 l0 x8_2).f1) x11_7).f1) then (if 0 ≤ (wrap64 (x6_1 + 1)) then (if (wrap64 (x6_1 + 1)) < (x5_1.length : Int) then (if 0 ≤ ((rd_T65 ((rd_T35 l0 x8_2).f1) x11_7).f2) then (if ((rd_T65 ((rd_T35 l0 x8_2).f1) x11_7).f2) < ((rd_L4 x5_1 (wrap64 (x6_1 + 1))).length : Int) then (phalaroperef17_Table.l3 kj34 l0 a1 x5_1 x6_1 x7_2 x8_2 (rd (rd_L4 x5_1 (wrap64 (x6_1 + 1))) ((rd_T65 ((rd_T35 l0 x8_2).f1) x11_7).f2)) (wrap64 (x11_7 + 1))) else (none)) else (none)) else (none)) else (none)) else (phalaroperef17_Table.l3 kj34 l0 a1 x5_1 x6_1 x7_2 x8_2 x9_7 (wrap64 (x11_7 + 1)))) else (phalaroperef17_Table.l3 kj34 l0 a1 x5_1 x6_1 x7_2 x8_2 x9_7 (wrap64 (x11_7 + 1)))) else (none)) else (none)) else (none)) else (none)) else (none)) else (none)) = some r := by rw [if_pos rfl] at H; exact H
                                                          clear H
                                                          have H := H1
                                                          clear H1
                                                          by_cases c40 : 0 ≤ x6_1
                                                          · rw [if_pos c40] at H
                                                            have c40b0 : decide (0 ≤ x6_1) = true := decide_eq_true c40
                                                            clear c40
                                                            by_cases c41 : x6_1 < (a1.size : Int)
                                                            · rw [if_pos c41] at H
                                                              have c41b0 : decide (x6_1 < (a1.size : Int)) = true := decide_eq_true c41
                                                              clear c41
                                                              by_cases c43 : 0 ≤ x8_2
                                                              · rw [if_pos c43] at H
                                                                have c43b0 : decide (0 ≤ x8_2) = true := decide_eq_true c43
                                                                clear c43
                                                                by_cases c44 : x8_2 < (l0.length : Int)
                                                                · rw [if_pos c44] at H
                                                                  have c44b0 : decide (x8_2 < (l0.length : Int)) = true := decide_eq_true c44
                                                                  clear c44
                                                                  by_cases c45 : 0 ≤ x11_7
                                                                  · rw [if_pos c45] at H
                                                                    have c45b0 : decide (0 ≤ x11_7) = true := decide_eq_true c45
                                                                    clear c45
                                                                    by_cases c46 : x11_7 < (((rd_T35 l0 x8_2).f1).length : Int)
                                                                    · rw [if_pos c46] at H
                                                                      have c46b0 : decide (x11_7 < (((rd_T35 l0 x8_2).f1).length : Int)) = true := decide_eq_true c46
                                                                      clear c46
                                                                      by_cases c47 : (bt a1 x6_1) ≥ ((rd_T65 ((rd_T35 l0 x8_2).f1) x11_7).f0)
                                                                      · rw [if_pos c47] at H
                                                                        have c47b0 : decide (((rd_T65 ((rd_T35 l0 x8_2).f1) x11_7).f0) ≤ (bt a1 x6_1)) = true := decide_eq_true c47
                                                                        clear c47
                                                                        by_cases c49 : (bt a1 x6_1) ≤ ((rd_T65 ((rd_T35 l0 x8_2).f1) x11_7).f1)
                                                                        · rw [if_pos c49] at H
                                                                          have c49b0 : decide ((bt a1 x6_1) ≤ ((rd_T65 ((rd_T35 l0 x8_2).f1) x11_7).f1)) = true := decide_eq_true c49
                                                                          clear c49
                                                                          obtain ⟨ji50, hji50⟩ : ∃ j_ : Int, (wrap64 (x6_1 + 1)) = j_ := ⟨_, rfl⟩
                                                                          replace H : (if 0 ≤ (ji50) then (if (ji50) < (x5_1.length : Int) then (if 0 ≤ ((rd_T65 ((rd_T35 l0 x8_2).f1) x11_7).f2) then (if ((rd_T65 ((rd_T35 l0 x8_2).f1) x11_7).f2) < ((rd_L4 x5_1 (ji50)).length : Int) then (phalaroperef17_Table.l3 kj34 l0 a1 x5_1 x6_1 x7_2 x8_2 (rd (rd_L4 x5_1 (ji50)) ((rd_T65 ((rd_T35 l0 x8_2).f1) x11_7).f2)) (wrap64 (x11_7 + 1))) else (none)) else (none)) else (none)) else (none)) = some r := by first | (rw [hji50] at H; exact H) | (simp only [hji50] at H ⊢; exact H)
                                                                          have hji50w : (IntKind.i64.wrap (x6_1 + 1)) = ji50 := (i64_w _).trans hji50
                                                                          by_cases c51 : 0 ≤ (ji50)
                                                                          · rw [if_pos c51] at H
                                                                            have c51b0 : decide (0 ≤ (ji50)) = true := decide_eq_true c51
                                                                            clear c51
                                                                            by_cases c52 : (ji50) < (x5_1.length : Int)
                                                                            · rw [if_pos c52] at H
                                                                              have c52b0 : decide ((ji50) < (x5_1.length : Int)) = true := decide_eq_true c52
                                                                              clear c52
                                                                              by_cases c53 : 0 ≤ ((rd_T65 ((rd_T35 l0 x8_2).f1) x11_7).f2)
                                                                              · rw [if_pos c53] at H
                                                                                have c53b0 : decide (0 ≤ ((rd_T65 ((rd_T35 l0 x8_2).f1) x11_7).f2)) = true := decide_eq_true c53
                                                                                clear c53
                                                                                by_cases c54 : ((rd_T65 ((rd_T35 l0 x8_2).f1) x11_7).f2) < ((rd_L4 x5_1 (ji50)).length : Int)
                                                                                · rw [if_pos c54] at H
                                                                                  have c54b0 : decide (((rd_T65 ((rd_T35 l0 x8_2).f1) x11_7).f2) < ((rd_L4 x5_1 (ji50)).length : Int)) = true := decide_eq_true c54
                                                                                  clear c54
                                                                                  have H' := Aside0.mk H
                                                                                  clear H
                                                                                  have p42 : 0 ≤ (x6_1 : Int) := of_decide_eq_true (by first | (with_reducible assumption) | assumption)
                                                                                  have q42 : x6_1 < (a1.size : Int) := of_decide_eq_true (by first | (with_reducible assumption) | assumption)
                                                                                  have hx42 := bt_at a1 x6_1
                                                                                  replace p42 := eq_true p42
                                                                                  replace q42 := eq_true q42
                                                                                  have p135 : 0 ≤ (x8_2 : Int) := of_decide_eq_true (by first | (with_reducible assumption) | assumption)
                                                                                  have q135 : x8_2 < (l0.length : Int) := of_decide_eq_true (by first | (with_reducible assumption) | assumption)
                                                                                  obtain ⟨ad135, A135_1, c135_1, A135_2, c135_2, e135, hx135_0, hx135_1, hx135_2, hx135_3, hx135_4, hl135_1, hi135_1, hl135_2, hi135_2⟩ := at_T35 HR0.out x8_2 p135 q135
                                                                                  obtain rfl : ad127 = ad135 := (by injection e135)
                                                                                  replace hx135_0 := (HB.out.cell (World.block_lt_of_cell? w _ hx135_0)).trans hx135_0
                                                                                  replace hx135_1 := (HB.out.cell (World.block_lt_of_cell? w _ hx135_1)).trans hx135_1
                                                                                  replace hx135_2 := (HB.out.cell (World.block_lt_of_cell? w _ hx135_2)).trans hx135_2
                                                                                  replace hx135_3 := (HB.out.cell (World.block_lt_of_cell? w _ hx135_3)).trans hx135_3
                                                                                  replace hx135_4 := (HB.out.cell (World.block_lt_of_cell? w _ hx135_4)).trans hx135_4
                                                                                  have HR135_1 := Aside0.mk hi135_1
                                                                                  have HC135_1 := Aside0.mk hl135_1
                                                                                  clear hi135_1 hl135_1
                                                                                  have HR135_2 := Aside0.mk hi135_2
                                                                                  have HC135_2 := Aside0.mk hl135_2
                                                                                  clear hi135_2 hl135_2
                                                                                  replace p135 := eq_true p135
                                                                                  replace q135 := eq_true q135
                                                                                  have p136 : 0 ≤ (x11_7 : Int) := of_decide_eq_true (by first | (with_reducible assumption) | assumption)
                                                                                  have q136 : x11_7 < (((rd_T35 l0 x8_2).f1).length : Int) := of_decide_eq_true (by first | (with_reducible assumption) | assumption)
                                                                                  obtain ⟨ad136, e136, hx136_0, hx136_1, hx136_2⟩ := at_T65 HR135_1.out x11_7 p136 q136
                                                                                  cases e136
                                                                                  replace hx136_0 := (HB.out.cell (World.block_lt_of_cell? w _ hx136_0)).trans hx136_0
                                                                                  replace hx136_1 := (HB.out.cell (World.block_lt_of_cell? w _ hx136_1)).trans hx136_1
                                                                                  replace hx136_2 := (HB.out.cell (World.block_lt_of_cell? w _ hx136_2)).trans hx136_2
                                                                                  replace p136 := eq_true p136
                                                                                  replace q136 := eq_true q136
                                                                                  have p48 : 0 ≤ (x6_1 : Int) := of_decide_eq_true (by first | (with_reducible assumption) | assumption)
                                                                                  have q48 : x6_1 < (a1.size : Int) := of_decide_eq_true (by first | (with_reducible assumption) | assumption)
                                                                                  have hx48 := bt_at a1 x6_1
                                                                                  replace p48 := eq_true p48
                                                                                  replace q48 := eq_true q48
                                                                                  have p137 : 0 ≤ (x8_2 : Int) := of_decide_eq_true (by first | (with_reducible assumption) | assumption)
                                                                                  have q137 : x8_2 < (l0.length : Int) := of_decide_eq_true (by first | (with_reducible assumption) | assumption)
                                                                                  obtain ⟨ad137, A137_1, c137_1, A137_2, c137_2, e137, hx137_0, hx137_1, hx137_2, hx137_3, hx137_4, hl137_1, hi137_1, hl137_2, hi137_2⟩ := at_T35 HR0.out x8_2 p137 q137
                                                                                  obtain rfl : ad127 = ad137 := (by injection e137)
                                                                                  replace hx137_0 := (HB.out.cell (World.block_lt_of_cell? w _ hx137_0)).trans hx137_0
                                                                                  replace hx137_1 := (HB.out.cell (World.block_lt_of_cell? w _ hx137_1)).trans hx137_1
                                                                                  replace hx137_2 := (HB.out.cell (World.block_lt_of_cell? w _ hx137_2)).trans hx137_2
                                                                                  replace hx137_3 := (HB.out.cell (World.block_lt_of_cell? w _ hx137_3)).trans hx137_3
                                                                                  replace hx137_4 := (HB.out.cell (World.block_lt_of_cell? w _ hx137_4)).trans hx137_4
                                                                                  have HR137_1 := Aside0.mk hi137_1
                                                                                  have HC137_1 := Aside0.mk hl137_1
                                                                                  clear hi137_1 hl137_1
                                                                                  have HR137_2 := Aside0.mk hi137_2
                                                                                  have HC137_2 := Aside0.mk hl137_2
                                                                                  clear hi137_2 hl137_2
                                                                                  replace p137 := eq_true p137
                                                                                  replace q137 := eq_true q137
                                                                                  have ea_ := Option.some.inj (hx135_1.symm.trans hx137_1)
                                                                                  injection ea_ with ea_ en_ ec_
                                                                                  subst ea_
                                                                                  subst ec_
                                                                                  clear en_
                                                                                  have ea_ := Option.some.inj (hx135_2.symm.trans hx137_2)
                                                                                  injection ea_ with ea_ en_ ec_
                                                                                  subst ea_
                                                                                  subst ec_
                                                                                  clear en_
                                                                                  have p138 : 0 ≤ (x11_7 : Int) := of_decide_eq_true (by first | (with_reducible assumption) | assumption)
                                                                                  have q138 : x11_7 < (((rd_T35 l0 x8_2).f1).length : Int) := of_decide_eq_true (by first | (with_reducible assumption) | assumption)
                                                                                  obtain ⟨ad138, e138, hx138_0, hx138_1, hx138_2⟩ := at_T65 HR137_1.out x11_7 p138 q138
                                                                                  cases e138
                                                                                  replace hx138_0 := (HB.out.cell (World.block_lt_of_cell? w _ hx138_0)).trans hx138_0
                                                                                  replace hx138_1 := (HB.out.cell (World.block_lt_of_cell? w _ hx138_1)).trans hx138_1
                                                                                  replace hx138_2 := (HB.out.cell (World.block_lt_of_cell? w _ hx138_2)).trans hx138_2
                                                                                  replace p138 := eq_true p138
                                                                                  replace q138 := eq_true q138
                                                                                  obtain ⟨Ao55, co55, eo55⟩ := Kd.R_slice HO_5.out
                                                                                  subst eo55
                                                                                  have p139 : 0 ≤ ((ji50) : Int) := of_decide_eq_true (by first | (with_reducible assumption) | assumption)
                                                                                  have q139 : (ji50) < (x5_1.length : Int) := of_decide_eq_true (by first | (with_reducible assumption) | assumption)
                                                                                  obtain ⟨ad139, A139_0, c139_0, e139, hx139_0, hl139_0, hi139_0⟩ := at_L4 (Kd.R_reads' HO_5.out).2.2 (ji50) p139 q139
                                                                                  cases e139
                                                                                  obtain ⟨ce139, hce139, hMe139, hcc139⟩ := Kd.R_get HO_5.out [] (ji50) p139 (by first | exact q139 | exact of_decide_eq_true (by first | (with_reducible assumption) | assumption) | (have e_ := (Kd.R_reads' HO_5.out).1; omega))
                                                                                  obtain ⟨ve139_0, rfl, ge139_0⟩ := hMe139
                                                                                  have hv139_0 := hcc139 0 _ rfl
                                                                                  rw [Nat.add_zero, show ((Kd.slice 3 (Kd.int .i64))).sz = 1 from rfl, Nat.mul_one] at hv139_0
                                                                                  replace hv139_0 := Option.some.inj (hv139_0.symm.trans hx139_0)
                                                                                  rw [hv139_0] at ge139_0
                                                                                  have HL139_0 := Aside0.mk (show Kd.R (Kd.int .i64) 3 _ _ _ _ (rd_L4 x5_1 (ji50)) from ge139_0)
                                                                                  clear hv139_0 ge139_0
                                                                                  clear hcc139 hce139
                                                                                  have HR139_0 := Aside0.mk hi139_0
                                                                                  have HC139_0 := Aside0.mk hl139_0
                                                                                  clear hi139_0 hl139_0
                                                                                  replace p139 := eq_true p139
                                                                                  replace q139 := eq_true q139
                                                                                  have p140 : 0 ≤ (x8_2 : Int) := of_decide_eq_true (by first | (with_reducible assumption) | assumption)
                                                                                  have q140 : x8_2 < (l0.length : Int) := of_decide_eq_true (by first | (with_reducible assumption) | assumption)
                                                                                  obtain ⟨ad140, A140_1, c140_1, A140_2, c140_2, e140, hx140_0, hx140_1, hx140_2, hx140_3, hx140_4, hl140_1, hi140_1, hl140_2, hi140_2⟩ := at_T35 HR0.out x8_2 p140 q140
                                                                                  obtain rfl : ad127 = ad140 := (by injection e140)
                                                                                  replace hx140_0 := (HB.out.cell (World.block_lt_of_cell? w _ hx140_0)).trans hx140_0
                                                                                  replace hx140_1 := (HB.out.cell (World.block_lt_of_cell? w _ hx140_1)).trans hx140_1
                                                                                  replace hx140_2 := (HB.out.cell (World.block_lt_of_cell? w _ hx140_2)).trans hx140_2
                                                                                  replace hx140_3 := (HB.out.cell (World.block_lt_of_cell? w _ hx140_3)).trans hx140_3
                                                                                  replace hx140_4 := (HB.out.cell (World.block_lt_of_cell? w _ hx140_4)).trans hx140_4
                                                                                  have HR140_1 := Aside0.mk hi140_1
                                                                                  have HC140_1 := Aside0.mk hl140_1
                                                                                  clear hi140_1 hl140_1
                                                                                  have HR140_2 := Aside0.mk hi140_2
                                                                                  have HC140_2 := Aside0.mk hl140_2
                                                                                  clear hi140_2 hl140_2
                                                                                  replace p140 := eq_true p140
                                                                                  replace q140 := eq_true q140
                                                                                  have ea_ := Option.some.inj (hx135_1.symm.trans hx140_1)
                                                                                  injection ea_ with ea_ en_ ec_
                                                                                  subst ea_
                                                                                  subst ec_
                                                                                  clear en_
                                                                                  have ea_ := Option.some.inj (hx135_2.symm.trans hx140_2)
                                                                                  injection ea_ with ea_ en_ ec_
                                                                                  subst ea_
                                                                                  subst ec_
                                                                                  clear en_
                                                                                  have p141 : 0 ≤ (x11_7 : Int) := of_decide_eq_true (by first | (with_reducible assumption) | assumption)
                                                                                  have q141 : x11_7 < (((rd_T35 l0 x8_2).f1).length : Int) := of_decide_eq_true (by first | (with_reducible assumption) | assumption)
                                                                                  obtain ⟨ad141, e141, hx141_0, hx141_1, hx141_2⟩ := at_T65 HR140_1.out x11_7 p141 q141
                                                                                  cases e141
                                                                                  replace hx141_0 := (HB.out.cell (World.block_lt_of_cell? w _ hx141_0)).trans hx141_0
                                                                                  replace hx141_1 := (HB.out.cell (World.block_lt_of_cell? w _ hx141_1)).trans hx141_1
                                                                                  replace hx141_2 := (HB.out.cell (World.block_lt_of_cell? w _ hx141_2)).trans hx141_2
                                                                                  replace p141 := eq_true p141
                                                                                  replace q141 := eq_true q141
                                                                                  have p142 : 0 ≤ (((rd_T65 ((rd_T35 l0 x8_2).f1) x11_7).f2) : Int) := of_decide_eq_true (by first | (with_reducible assumption) | assumption)
                                                                                  have q142 : ((rd_T65 ((rd_T35 l0 x8_2).f1) x11_7).f2) < ((rd_L4 x5_1 (ji50)).length : Int) := of_decide_eq_true (by first | (with_reducible assumption) | assumption)
                                                                                  obtain ⟨ad142, e142, hx142_0⟩ := Kd.at_int (by repeat (first | (with_reducible exact HR139_0.out) | (with_reducible refine Kd.C_alloc ?_ _) | (with_reducible refine Kd.C_drewN ?_ _) | (with_reducible refine Kd.C_drew ?_) | exact HR139_0.out)) ((rd_T65 ((rd_T35 l0 x8_2).f1) x11_7).f2) p142 q142
                                                                                  cases e142
                                                                                  replace p142 := eq_true p142
                                                                                  replace q142 := eq_true q142
                                                                                  go_wp2
                                                                                  repeat (go_quiet (fail); try go_wp2)
                                                                                  go_roundg kj34
                                                                                  case measure => have := HK1.out; have := HK2.out; have := HJ13.out; have := HJ17.out; have := HJ21.out; have := HK6.out; have := HK7.out; have := HJ34.out; omega
                                                                                  case rel => exact ⟨(rd (rd_L4 x5_1 (ji50)) ((rd_T65 ((rd_T35 l0 x8_2).f1) x11_7).f2)), (wrap64 (x11_7 + 1)), (by first | rfl | (simp; done) | (simp only [← hji50] <;> (first | rfl | simp)) | (simp [*]; done)), (by first | rfl | (simp; done) | (simp [*]; done)), H', ⟨by have := HK1.out; have := HK2.out; have := HJ13.out; have := HJ17.out; have := HJ21.out; have := HK6.out; have := HK7.out; have := HJ34.out; omega⟩, ⟨by (with_reducible repeat (first | apply Kd.R_alloc | apply Kd.R_drewN | apply Kd.R_drew)); exact HO_5.out⟩, ⟨by (with_reducible repeat (first | apply Kd.R_alloc | apply Kd.R_drewN | apply Kd.R_drew)); exact HO_7.out⟩, ⟨by repeat (first | (with_reducible first | exact HB.out | apply below_alloc | apply pw_below_drewN | apply below_drew1) | exact HB.out)⟩⟩
                                                                                · rw [if_neg c54] at H
                                                                                  exact absurd H (by simp)
                                                                              · rw [if_neg c53] at H
                                                                                exact absurd H (by simp)
                                                                            · rw [if_neg c52] at H
                                                                              exact absurd H (by simp)
                                                                          · rw [if_neg c51] at H
                                                                            exact absurd H (by simp)
                                                                        · rw [if_neg c49] at H
                                                                          have c49b0 : decide ((bt a1 x6_1) ≤ ((rd_T65 ((rd_T35 l0 x8_2).f1) x11_7).f1)) = false := decide_eq_false c49
                                                                          clear c49
                                                                          have H' := Aside0.mk H
                                                                          clear H
                                                                          have p42 : 0 ≤ (x6_1 : Int) := of_decide_eq_true (by first | (with_reducible assumption) | assumption)
                                                                          have q42 : x6_1 < (a1.size : Int) := of_decide_eq_true (by first | (with_reducible assumption) | assumption)
                                                                          have hx42 := bt_at a1 x6_1
                                                                          replace p42 := eq_true p42
                                                                          replace q42 := eq_true q42
                                                                          have p135 : 0 ≤ (x8_2 : Int) := of_decide_eq_true (by first | (with_reducible assumption) | assumption)
                                                                          have q135 : x8_2 < (l0.length : Int) := of_decide_eq_true (by first | (with_reducible assumption) | assumption)
                                                                          obtain ⟨ad135, A135_1, c135_1, A135_2, c135_2, e135, hx135_0, hx135_1, hx135_2, hx135_3, hx135_4, hl135_1, hi135_1, hl135_2, hi135_2⟩ := at_T35 HR0.out x8_2 p135 q135
                                                                          obtain rfl : ad127 = ad135 := (by injection e135)
                                                                          replace hx135_0 := (HB.out.cell (World.block_lt_of_cell? w _ hx135_0)).trans hx135_0
                                                                          replace hx135_1 := (HB.out.cell (World.block_lt_of_cell? w _ hx135_1)).trans hx135_1
                                                                          replace hx135_2 := (HB.out.cell (World.block_lt_of_cell? w _ hx135_2)).trans hx135_2
                                                                          replace hx135_3 := (HB.out.cell (World.block_lt_of_cell? w _ hx135_3)).trans hx135_3
                                                                          replace hx135_4 := (HB.out.cell (World.block_lt_of_cell? w _ hx135_4)).trans hx135_4
                                                                          have HR135_1 := Aside0.mk hi135_1
                                                                          have HC135_1 := Aside0.mk hl135_1
                                                                          clear hi135_1 hl135_1
                                                                          have HR135_2 := Aside0.mk hi135_2
                                                                          have HC135_2 := Aside0.mk hl135_2
                                                                          clear hi135_2 hl135_2
                                                                          replace p135 := eq_true p135
                                                                          replace q135 := eq_true q135
                                                                          have p136 : 0 ≤ (x11_7 : Int) := of_decide_eq_true (by first | (with_reducible assumption) | assumption)
                                                                          have q136 : x11_7 < (((rd_T35 l0 x8_2).f1).length : Int) := of_decide_eq_true (by first | (with_reducible assumption) | assumption)
                                                                          obtain ⟨ad136, e136, hx136_0, hx136_1, hx136_2⟩ := at_T65 HR135_1.out x11_7 p136 q136
                                                                          cases e136
                                                                          replace hx136_0 := (HB.out.cell (World.block_lt_of_cell? w _ hx136_0)).trans hx136_0
                                                                          replace hx136_1 := (HB.out.cell (World.block_lt_of_cell? w _ hx136_1)).trans hx136_1
                                                                          replace hx136_2 := (HB.out.cell (World.block_lt_of_cell? w _ hx136_2)).trans hx136_2
                                                                          replace p136 := eq_true p136
                                                                          replace q136 := eq_true q136
                                                                          have p48 : 0 ≤ (x6_1 : Int) := of_decide_eq_true (by first | (with_reducible assumption) | assumption)
                                                                          have q48 : x6_1 < (a1.size : Int) := of_decide_eq_true (by first | (with_reducible assumption) | assumption)
                                                                          have hx48 := bt_at a1 x6_1
                                                                          replace p48 := eq_true p48
                                                                          replace q48 := eq_true q48
                                                                          have p137 : 0 ≤ (x8_2 : Int) := of_decide_eq_true (by first | (with_reducible assumption) | assumption)
                                                                          have q137 : x8_2 < (l0.length : Int) := of_decide_eq_true (by first | (with_reducible assumption) | assumption)
                                                                          obtain ⟨ad137, A137_1, c137_1, A137_2, c137_2, e137, hx137_0, hx137_1, hx137_2, hx137_3, hx137_4, hl137_1, hi137_1, hl137_2, hi137_2⟩ := at_T35 HR0.out x8_2 p137 q137
                                                                          obtain rfl : ad127 = ad137 := (by injection e137)
                                                                          replace hx137_0 := (HB.out.cell (World.block_lt_of_cell? w _ hx137_0)).trans hx137_0
                                                                          replace hx137_1 := (HB.out.cell (World.block_lt_of_cell? w _ hx137_1)).trans hx137_1
                                                                          replace hx137_2 := (HB.out.cell (World.block_lt_of_cell? w _ hx137_2)).trans hx137_2
                                                                          replace hx137_3 := (HB.out.cell (World.block_lt_of_cell? w _ hx137_3)).trans hx137_3
                                                                          replace hx137_4 := (HB.out.cell (World.block_lt_of_cell? w _ hx137_4)).trans hx137_4
                                                                          have HR137_1 := Aside0.mk hi137_1
                                                                          have HC137_1 := Aside0.mk hl137_1
                                                                          clear hi137_1 hl137_1
                                                                          have HR137_2 := Aside0.mk hi137_2
                                                                          have HC137_2 := Aside0.mk hl137_2
                                                                          clear hi137_2 hl137_2
                                                                          replace p137 := eq_true p137
                                                                          replace q137 := eq_true q137
                                                                          have ea_ := Option.some.inj (hx135_1.symm.trans hx137_1)
                                                                          injection ea_ with ea_ en_ ec_
                                                                          subst ea_
                                                                          subst ec_
                                                                          clear en_
                                                                          have ea_ := Option.some.inj (hx135_2.symm.trans hx137_2)
                                                                          injection ea_ with ea_ en_ ec_
                                                                          subst ea_
                                                                          subst ec_
                                                                          clear en_
                                                                          have p138 : 0 ≤ (x11_7 : Int) := of_decide_eq_true (by first | (with_reducible assumption) | assumption)
                                                                          have q138 : x11_7 < (((rd_T35 l0 x8_2).f1).length : Int) := of_decide_eq_true (by first | (with_reducible assumption) | assumption)
                                                                          obtain ⟨ad138, e138, hx138_0, hx138_1, hx138_2⟩ := at_T65 HR137_1.out x11_7 p138 q138
                                                                          cases e138
                                                                          replace hx138_0 := (HB.out.cell (World.block_lt_of_cell? w _ hx138_0)).trans hx138_0
                                                                          replace hx138_1 := (HB.out.cell (World.block_lt_of_cell? w _ hx138_1)).trans hx138_1
                                                                          replace hx138_2 := (HB.out.cell (World.block_lt_of_cell? w _ hx138_2)).trans hx138_2
                                                                          replace p138 := eq_true p138
                                                                          replace q138 := eq_true q138
                                                                          go_wp2
                                                                          repeat (go_quiet (fail); try go_wp2)
                                                                          go_roundg kj34
                                                                          case measure => have := HK1.out; have := HK2.out; have := HJ13.out; have := HJ17.out; have := HJ21.out; have := HK6.out; have := HK7.out; have := HJ34.out; omega
                                                                          case rel => exact ⟨(x9_7), (wrap64 (x11_7 + 1)), (by first | rfl | (simp; done) | (simp [*]; done)), (by first | rfl | (simp; done) | (simp [*]; done)), H', ⟨by have := HK1.out; have := HK2.out; have := HJ13.out; have := HJ17.out; have := HJ21.out; have := HK6.out; have := HK7.out; have := HJ34.out; omega⟩, ⟨by (with_reducible repeat (first | apply Kd.R_alloc | apply Kd.R_drewN | apply Kd.R_drew)); exact HO_5.out⟩, ⟨by (with_reducible repeat (first | apply Kd.R_alloc | apply Kd.R_drewN | apply Kd.R_drew)); exact HO_7.out⟩, ⟨by repeat (first | (with_reducible first | exact HB.out | apply below_alloc | apply pw_below_drewN | apply below_drew1) | exact HB.out)⟩⟩
                                                                      · rw [if_neg c47] at H
                                                                        have c47b0 : decide (((rd_T65 ((rd_T35 l0 x8_2).f1) x11_7).f0) ≤ (bt a1 x6_1)) = false := decide_eq_false c47
                                                                        clear c47
                                                                        have H' := Aside0.mk H
                                                                        clear H
                                                                        have p42 : 0 ≤ (x6_1 : Int) := of_decide_eq_true (by first | (with_reducible assumption) | assumption)
                                                                        have q42 : x6_1 < (a1.size : Int) := of_decide_eq_true (by first | (with_reducible assumption) | assumption)
                                                                        have hx42 := bt_at a1 x6_1
                                                                        replace p42 := eq_true p42
                                                                        replace q42 := eq_true q42
                                                                        have p135 : 0 ≤ (x8_2 : Int) := of_decide_eq_true (by first | (with_reducible assumption) | assumption)
                                                                        have q135 : x8_2 < (l0.length : Int) := of_decide_eq_true (by first | (with_reducible assumption) | assumption)
                                                                        obtain ⟨ad135, A135_1, c135_1, A135_2, c135_2, e135, hx135_0, hx135_1, hx135_2, hx135_3, hx135_4, hl135_1, hi135_1, hl135_2, hi135_2⟩ := at_T35 HR0.out x8_2 p135 q135
                                                                        obtain rfl : ad127 = ad135 := (by injection e135)
                                                                        replace hx135_0 := (HB.out.cell (World.block_lt_of_cell? w _ hx135_0)).trans hx135_0
                                                                        replace hx135_1 := (HB.out.cell (World.block_lt_of_cell? w _ hx135_1)).trans hx135_1
                                                                        replace hx135_2 := (HB.out.cell (World.block_lt_of_cell? w _ hx135_2)).trans hx135_2
                                                                        replace hx135_3 := (HB.out.cell (World.block_lt_of_cell? w _ hx135_3)).trans hx135_3
                                                                        replace hx135_4 := (HB.out.cell (World.block_lt_of_cell? w _ hx135_4)).trans hx135_4
                                                                        have HR135_1 := Aside0.mk hi135_1
                                                                        have HC135_1 := Aside0.mk hl135_1
                                                                        clear hi135_1 hl135_1
                                                                        have HR135_2 := Aside0.mk hi135_2
                                                                        have HC135_2 := Aside0.mk hl135_2
                                                                        clear hi135_2 hl135_2
                                                                        replace p135 := eq_true p135
                                                                        replace q135 := eq_true q135
                                                                        have p136 : 0 ≤ (x11_7 : Int) := of_decide_eq_true (by first | (with_reducible assumption) | assumption)
                                                                        have q136 : x11_7 < (((rd_T35 l0 x8_2).f1).length : Int) := of_decide_eq_true (by first | (with_reducible assumption) | assumption)
                                                                        obtain ⟨ad136, e136, hx136_0, hx136_1, hx136_2⟩ := at_T65 HR135_1.out x11_7 p136 q136
                                                                        cases e136
                                                                        replace hx136_0 := (HB.out.cell (World.block_lt_of_cell? w _ hx136_0)).trans hx136_0
                                                                        replace hx136_1 := (HB.out.cell (World.block_lt_of_cell? w _ hx136_1)).trans hx136_1
                                                                        replace hx136_2 := (HB.out.cell (World.block_lt_of_cell? w _ hx136_2)).trans hx136_2
                                                                        replace p136 := eq_true p136
                                                                        replace q136 := eq_true q136
                                                                        go_wp2
                                                                        repeat (go_quiet (fail); try go_wp2)
                                                                        go_roundg kj34
                                                                        case measure => have := HK1.out; have := HK2.out; have := HJ13.out; have := HJ17.out; have := HJ21.out; have := HK6.out; have := HK7.out; have := HJ34.out; omega
                                                                        case rel => exact ⟨(x9_7), (wrap64 (x11_7 + 1)), (by first | rfl | (simp; done) | (simp [*]; done)), (by first | rfl | (simp; done) | (simp [*]; done)), H', ⟨by have := HK1.out; have := HK2.out; have := HJ13.out; have := HJ17.out; have := HJ21.out; have := HK6.out; have := HK7.out; have := HJ34.out; omega⟩, ⟨by (with_reducible repeat (first | apply Kd.R_alloc | apply Kd.R_drewN | apply Kd.R_drew)); exact HO_5.out⟩, ⟨by (with_reducible repeat (first | apply Kd.R_alloc | apply Kd.R_drewN | apply Kd.R_drew)); exact HO_7.out⟩, ⟨by repeat (first | (with_reducible first | exact HB.out | apply below_alloc | apply pw_below_drewN | apply below_drew1) | exact HB.out)⟩⟩
                                                                    · rw [if_neg c46] at H
                                                                      exact absurd H (by simp)
                                                                  · rw [if_neg c45] at H
                                                                    exact absurd H (by simp)
                                                                · rw [if_neg c44] at H
                                                                  exact absurd H (by simp)
                                                              · rw [if_neg c43] at H
                                                                exact absurd H (by simp)
                                                            · rw [if_neg c41] at H
                                                              exact absurd H (by simp)
                                                          · rw [if_neg c40] at H
                                                            exact absurd H (by simp)
                                                        · replace c39 := Bool.eq_false_iff.mpr c39
                                                          subst c39
                                                          have H1 : (if 0 ≤ x8_2 then (if x8_2 < (x7_2.length : Int) then (phalaroperef17_Table.l1 kj34 l0 a1 x5_1 x6_1 (x7_2.set (x8_2 : Int).toNat x9_7) (wrap64 (x8_2 - 1))) else (none)) else (none)) = some r := by rw [if_neg (show ¬ (false = true) by decide)] at H; exact H
                                                          clear H
                                                          have H := H1
                                                          clear H1
                                                          by_cases c56 : 0 ≤ x8_2
                                                          · rw [if_pos c56] at H
                                                            have c56b0 : decide (0 ≤ x8_2) = true := decide_eq_true c56
                                                            clear c56
                                                            by_cases c57 : x8_2 < (x7_2.length : Int)
                                                            · rw [if_pos c57] at H
                                                              have c57b0 : decide (x8_2 < (x7_2.length : Int)) = true := decide_eq_true c57
                                                              clear c57
                                                              obtain ⟨y143, hy143⟩ : ∃ y_ : List Int, y_ = (x7_2.set (x8_2 : Int).toNat x9_7) := ⟨_, rfl⟩
                                                              replace H : (phalaroperef17_Table.l1 kj34 l0 a1 x5_1 x6_1 y143 (wrap64 (x8_2 - 1))) = some r := by first | (rw [hy143]; with_reducible exact H) | (have H2_ := (Option.bind_some _ _).symm.trans H; rw [hy143]; with_reducible exact H2_) | (have H2_ := (Option.bind_some _ _).symm.trans H; with_reducible exact H2_) | with_reducible exact H | (rw [hy143]; exact H) | exact H
                                                              have Ny143 := Aside0.mk hy143
                                                              clear hy143
                                                              have H' := Aside0.mk H
                                                              clear H
                                                              have p58 : 0 ≤ (x8_2 : Int) := of_decide_eq_true (by first | (with_reducible assumption) | assumption)
                                                              have q58 : (x8_2 : Int) < ((x7_2.length : Int) : Int) := of_decide_eq_true (by first | (with_reducible assumption) | assumption)
                                                              obtain ⟨go58, co58, eo58, gb58, gl58, cl58, HG58⟩ := Kd.R_form HO_7.out (by omega)
                                                              (first | cases eo58 | (injection eo58 with ea_ en_ ec_; (first | subst ea_ | (injection ea_ with ea_; subst ea_)); subst ec_; clear en_))
                                                              have GB58 := Aside0.mk gb58
                                                              have GG58 := Aside0.mk HG58
                                                              clear gb58 gl58 HG58
                                                              obtain ⟨hx58_0, hf58_0⟩ := Kd.R_celln 0 HO_7.out (x8_2 : Int) p58 q58
                                                              replace p58 := eq_true p58
                                                              replace q58 := eq_true q58
                                                              have HP59 := Kd.R_putg HO_7.out (x8_2 : Int) x9_7
                                                              go_wp2_with (first | ((with_reducible refine gate_store (t := 3) (p := 145) rfl ?_); (try (rw [drewN_self wc]; generalize hq_ : World.drewN wc _ = wc; have n0_ := Aside0.mk (Kd.R_at hq_ HO_5.out); have n1_ := Aside0.mk (Kd.R_at hq_ HO_7.out); have n2_ := Aside0.mk (below_at hq_ HB.out); clear hq_ HO_5 HO_7 HB; have HO_5 := n0_; have HO_7 := n1_; have HB := n2_; clear n0_ n1_ n2_; (try (have HP59 := Kd.R_putg HO_7.out (x8_2 : Int) x9_7)))); refine store_event (t := 3) (p := 145) (v := ?vo_w60) (w1 := (wc.setCell ⟨go58, (x8_2 : Int).toNat, none⟩ (.int .i64 x9_7))) ?hg ?ho ?hn ?hr ?_; (case ho => rfl); (case hg => rfl); (case hn => rfl); (case hr => first | (go_simp; done) | (go_simp; rfl)); intro w60 hw; have hg : wc.grownBy w60 (some go58) := (by rw [hw]; exact HP59.2); have hp_ : Kd.R (Kd.int .i64) 3 w60 w.heap.size (fun _ => True) (.slice (some ⟨go58, 0, none⟩) x7_2.length co58) y143 := (by rw [hw, Ny143.out]; exact HP59.1); clear HP59; have n0_ := Aside0.mk (Kd.R_after (v := (.slice (some ⟨go58, 0, none⟩) x7_2.length co58)) (v1 := (.slice (some ⟨go58, 0, none⟩) x7_2.length co58)) (ok := (fun _ => True)) (by (with_reducible repeat (first | apply Kd.R_alloc | apply Kd.R_drewN | apply Kd.R_drew)); exact Kd.R_mono HO_5.out (fun _ hk => ⟨trivial, hk⟩)) hg (.inl rfl)); have n1_ := Aside0.mk (hp_); have n2_ := Aside0.mk ((by rw [hw]; exact below_set (HB.out) GB58.out : Below w.heap.size w w60)); clear HO_5; clear HO_7; clear HB; have HO_5 := n0_; have HO_7 := n1_; have HB := n2_; clear n0_ n1_ n2_; clear hg hw hp_))
                                                              repeat (go_quiet (first | ((with_reducible refine gate_store (t := 3) (p := 145) rfl ?_); (try (rw [drewN_self wc]; generalize hq_ : World.drewN wc _ = wc; have n0_ := Aside0.mk (Kd.R_at hq_ HO_5.out); have n1_ := Aside0.mk (Kd.R_at hq_ HO_7.out); have n2_ := Aside0.mk (below_at hq_ HB.out); clear hq_ HO_5 HO_7 HB; have HO_5 := n0_; have HO_7 := n1_; have HB := n2_; clear n0_ n1_ n2_; (try (have HP59 := Kd.R_putg HO_7.out (x8_2 : Int) x9_7)))); refine store_event (t := 3) (p := 145) (v := ?vo_w60) (w1 := (wc.setCell ⟨go58, (x8_2 : Int).toNat, none⟩ (.int .i64 x9_7))) ?hg ?ho ?hn ?hr ?_; (case ho => rfl); (case hg => rfl); (case hn => rfl); (case hr => first | (go_simp; done) | (go_simp; rfl)); intro w60 hw; have hg : wc.grownBy w60 (some go58) := (by rw [hw]; exact HP59.2); have hp_ : Kd.R (Kd.int .i64) 3 w60 w.heap.size (fun _ => True) (.slice (some ⟨go58, 0, none⟩) x7_2.length co58) y143 := (by rw [hw, Ny143.out]; exact HP59.1); clear HP59; have n0_ := Aside0.mk (Kd.R_after (v := (.slice (some ⟨go58, 0, none⟩) x7_2.length co58)) (v1 := (.slice (some ⟨go58, 0, none⟩) x7_2.length co58)) (ok := (fun _ => True)) (by (with_reducible repeat (first | apply Kd.R_alloc | apply Kd.R_drewN | apply Kd.R_drew)); exact Kd.R_mono HO_5.out (fun _ hk => ⟨trivial, hk⟩)) hg (.inl rfl)); have n1_ := Aside0.mk (hp_); have n2_ := Aside0.mk ((by rw [hw]; exact below_set (HB.out) GB58.out : Below w.heap.size w w60)); clear HO_5; clear HO_7; clear HB; have HO_5 := n0_; have HO_7 := n1_; have HB := n2_; clear n0_ n1_ n2_; clear hg hw hp_)); try go_wp2_with (first | ((with_reducible refine gate_store (t := 3) (p := 145) rfl ?_); (try (rw [drewN_self wc]; generalize hq_ : World.drewN wc _ = wc; have n0_ := Aside0.mk (Kd.R_at hq_ HO_5.out); have n1_ := Aside0.mk (Kd.R_at hq_ HO_7.out); have n2_ := Aside0.mk (below_at hq_ HB.out); clear hq_ HO_5 HO_7 HB; have HO_5 := n0_; have HO_7 := n1_; have HB := n2_; clear n0_ n1_ n2_; (try (have HP59 := Kd.R_putg HO_7.out (x8_2 : Int) x9_7)))); refine store_event (t := 3) (p := 145) (v := ?vo_w60) (w1 := (wc.setCell ⟨go58, (x8_2 : Int).toNat, none⟩ (.int .i64 x9_7))) ?hg ?ho ?hn ?hr ?_; (case ho => rfl); (case hg => rfl); (case hn => rfl); (case hr => first | (go_simp; done) | (go_simp; rfl)); intro w60 hw; have hg : wc.grownBy w60 (some go58) := (by rw [hw]; exact HP59.2); have hp_ : Kd.R (Kd.int .i64) 3 w60 w.heap.size (fun _ => True) (.slice (some ⟨go58, 0, none⟩) x7_2.length co58) y143 := (by rw [hw, Ny143.out]; exact HP59.1); clear HP59; have n0_ := Aside0.mk (Kd.R_after (v := (.slice (some ⟨go58, 0, none⟩) x7_2.length co58)) (v1 := (.slice (some ⟨go58, 0, none⟩) x7_2.length co58)) (ok := (fun _ => True)) (by (with_reducible repeat (first | apply Kd.R_alloc | apply Kd.R_drewN | apply Kd.R_drew)); exact Kd.R_mono HO_5.out (fun _ hk => ⟨trivial, hk⟩)) hg (.inl rfl)); have n1_ := Aside0.mk (hp_); have n2_ := Aside0.mk ((by rw [hw]; exact below_set (HB.out) GB58.out : Below w.heap.size w w60)); clear HO_5; clear HO_7; clear HB; have HO_5 := n0_; have HO_7 := n1_; have HB := n2_; clear n0_ n1_ n2_; clear hg hw hp_)))
                                                              go_roundg kj34
                                                              case measure => have := HK1.out; have := HK2.out; have := HJ13.out; have := HJ17.out; have := HJ21.out; have := HK6.out; have := HK7.out; have := HJ34.out; omega
                                                              case rel => exact ⟨(y143), (wrap64 (x8_2 - 1)), (by first | rfl | (simp; done) | (simp [*]; done)), H', ⟨by have := HK1.out; have := HK2.out; have := HJ13.out; have := HJ17.out; have := HJ21.out; have := HK6.out; have := HK7.out; have := HJ34.out; omega⟩, ⟨by (with_reducible repeat (first | apply Kd.R_alloc | apply Kd.R_drewN | apply Kd.R_drew)); exact Kd.R_mono HO_5.out (fun _ hk => hk.2)⟩, ⟨by (with_reducible repeat (first | apply Kd.R_alloc | apply Kd.R_drewN | apply Kd.R_drew)); exact HO_7.out⟩, ⟨by repeat (first | (with_reducible first | exact HB.out | apply below_alloc | apply pw_below_drewN | apply below_drew1) | exact HB.out)⟩⟩
                                                            · rw [if_neg c57] at H
                                                              exact absurd H (by simp)
                                                          · rw [if_neg c56] at H
                                                            exact absurd H (by simp)
                                            · rw [if_neg c28] at H
                                              exact absurd H (by simp)
                                          · rw [if_neg c27] at H
                                            exact absurd H (by simp)
                                · rw [if_neg c21] at H
                                  exact absurd H (by simp)
                              · rw [if_neg c20] at H
                                exact absurd H (by simp)
                    · rw [if_neg c13] at H
                      have c13b0 : decide (0 ≤ x8_2) = false := decide_eq_false c13
                      clear c13
                      by_cases c61 : 0 ≤ x6_1
                      · rw [if_pos c61] at H
                        have c61b0 : decide (0 ≤ x6_1) = true := decide_eq_true c61
                        clear c61
                        by_cases c62 : x6_1 < (x5_1.length : Int)
                        · rw [if_pos c62] at H
                          have c62b0 : decide (x6_1 < (x5_1.length : Int)) = true := decide_eq_true c62
                          clear c62
                          obtain ⟨y125, hy125⟩ : ∃ y_ : List (List Int), y_ = (x5_1.set (x6_1 : Int).toNat x7_2) := ⟨_, rfl⟩
                          replace H : (phalaroperef17_Table.l0 k2 l0 a1 y125 (wrap64 (x6_1 - 1))) = some r := by first | (rw [hy125]; with_reducible exact H) | (have H2_ := (Option.bind_some _ _).symm.trans H; rw [hy125]; with_reducible exact H2_) | (have H2_ := (Option.bind_some _ _).symm.trans H; with_reducible exact H2_) | with_reducible exact H | (rw [hy125]; exact H) | exact H
                          have Ny125 := Aside0.mk hy125
                          clear hy125
                          have H' := Aside0.mk H
                          clear H
                          have p63 : 0 ≤ (x6_1 : Int) := of_decide_eq_true (by first | (with_reducible assumption) | assumption)
                          have q63 : (x6_1 : Int) < ((x5_1.length : Int) : Int) := of_decide_eq_true (by first | (with_reducible assumption) | assumption)
                          obtain ⟨go63, co63, eo63, gb63, gl63, cl63, HG63⟩ := Kd.R_form HO_5.out (by omega)
                          (first | cases eo63 | (injection eo63 with ea_ en_ ec_; (first | subst ea_ | (injection ea_ with ea_; subst ea_)); subst ec_; clear en_))
                          have GB63 := Aside0.mk gb63
                          have GG63 := Aside0.mk HG63
                          clear gb63 gl63 HG63
                          obtain ⟨ce63, hcl63, hM63, hcc63, hfr63⟩ := Kd.R_elem HO_5.out [] (x6_1 : Int) p63 q63
                          obtain ⟨ve63_0, rfl, ge63_0⟩ := hM63
                          have hx63_0 := hcc63 0 _ rfl
                          have hf63_0 := hfr63 0
                          (try simp only [show ((Kd.slice 3 (Kd.int .i64))).sz = 1 from rfl, Nat.mul_one, Nat.add_zero] at hx63_0)
                          (try simp only [show ((Kd.slice 3 (Kd.int .i64))).sz = 1 from rfl, Nat.mul_one, Nat.add_zero] at hf63_0)
                          clear hcl63 hcc63 hfr63; (try clear hM63)
                          replace p63 := eq_true p63
                          replace q63 := eq_true q63
                          have HX64 := Aside0.mk (show Kd.R (Kd.slice 3 (Kd.int .i64)) 33 wr w.heap.size (fun _ => True) (.slice (some ⟨go63, 0, none⟩) x5_1.length co63) x5_1 from (by (with_reducible repeat (first | apply Kd.R_alloc | apply Kd.R_drewN | apply Kd.R_drew)); exact Kd.R_mono HO_5.out (fun _ hk => trivial)))
                          obtain ⟨ce64, hcl64, hM64, hcc64, hfr64⟩ := Kd.R_elem HX64.out [] (x6_1 : Int) (of_decide_eq_true (by first | (with_reducible assumption) | assumption)) (by have h_ : (x6_1 : Int) < ((x5_1.length : Int) : Int) := of_decide_eq_true (by first | (with_reducible assumption) | assumption); first | exact h_ | (have e_ := (Kd.R_reads' HO_5.out).1; omega) | simpa using h_)
                          obtain ⟨ve64_0, rfl, ge64_0⟩ := hM64
                          have HP64 := Kd.R_seg HX64.out (x6_1 : Int) (of_decide_eq_true (by first | (with_reducible assumption) | assumption)) (by have h_ : (x6_1 : Int) < ((x5_1.length : Int) : Int) := of_decide_eq_true (by first | (with_reducible assumption) | assumption); first | exact h_ | (have e_ := (Kd.R_reads' HO_5.out).1; omega) | simpa using h_) (seg := [v123]) (j := 0) hcl64 hcc64 (show 1 ≤ 1 from by decide) (x' := x7_2) (Kd.M_row (Kd.R_mono (Kd.R_apart' (HO_7.out) (Kd.R_typed HO_5.out) (by decide)) (fun k_ hk => ⟨trivial, fun e_ => (hk.2) (by rw [e_]; rfl)⟩))) (fun _ hk => hk)
                          have hx64_0 := hcc64 0 _ rfl
                          (try simp only [show ((Kd.slice 3 (Kd.int .i64))).sz = 1 from rfl, Nat.mul_one, Nat.add_zero] at hx64_0)
                          have hf64_0 := hfr64 0
                          (try simp only [show ((Kd.slice 3 (Kd.int .i64))).sz = 1 from rfl, Nat.mul_one, Nat.add_zero] at hf64_0)
                          clear hcl64 hcc64 hfr64; (try clear hM64)
                          (try simp only [show ((Kd.slice 3 (Kd.int .i64))).sz = 1 from rfl, Nat.mul_one, Nat.add_zero] at HP64)
                          obtain ⟨A_, n_, c_, e_⟩ := row_slice HO_7.out
                          go_wp2_with (first | ((with_reducible refine gate_store (t := 33) (p := 149) rfl ?_); (try (rw [drewN_self wr]; generalize hq_ : World.drewN wr _ = wr; have n0_ := Aside0.mk (Kd.R_at hq_ HO_5.out); have n1_ := Aside0.mk (below_at hq_ HB.out); clear hq_ HO_5 HB; have HO_5 := n0_; have HB := n1_; clear n0_ n1_; (try (have HX64 := Aside0.mk (show Kd.R (Kd.slice 3 (Kd.int .i64)) 33 wr w.heap.size (fun _ => True) (.slice (some ⟨go63, 0, none⟩) x5_1.length co63) x5_1 from (by (with_reducible repeat (first | apply Kd.R_alloc | apply Kd.R_drewN | apply Kd.R_drew)); exact Kd.R_mono HO_5.out (fun _ hk => trivial))))); (try (obtain ⟨ce64, hcl64, hM64, hcc64, hfr64⟩ := Kd.R_elem HX64.out [] (x6_1 : Int) (of_decide_eq_true (by first | (with_reducible assumption) | assumption)) (by have h_ : (x6_1 : Int) < ((x5_1.length : Int) : Int) := of_decide_eq_true (by first | (with_reducible assumption) | assumption); first | exact h_ | (have e_ := (Kd.R_reads' HO_5.out).1; omega) | simpa using h_))); (try (obtain ⟨ve64_0, rfl, ge64_0⟩ := hM64)); (try (have HP64 := Kd.R_seg HX64.out (x6_1 : Int) (of_decide_eq_true (by first | (with_reducible assumption) | assumption)) (by have h_ : (x6_1 : Int) < ((x5_1.length : Int) : Int) := of_decide_eq_true (by first | (with_reducible assumption) | assumption); first | exact h_ | (have e_ := (Kd.R_reads' HO_5.out).1; omega) | simpa using h_) (seg := [v123]) (j := 0) hcl64 hcc64 (show 1 ≤ 1 from by decide) (x' := x7_2) (Kd.M_row (Kd.R_mono (Kd.R_apart' (HO_7.out) (Kd.R_typed HO_5.out) (by decide)) (fun k_ hk => ⟨trivial, fun e_ => (hk.2) (by rw [e_]; rfl)⟩))) (fun _ hk => hk))); (try (have hx64_0 := hcc64 0 _ rfl)); (try (try simp only [show ((Kd.slice 3 (Kd.int .i64))).sz = 1 from rfl, Nat.mul_one, Nat.add_zero] at hx64_0)); (try (have hf64_0 := hfr64 0)); (try (try simp only [show ((Kd.slice 3 (Kd.int .i64))).sz = 1 from rfl, Nat.mul_one, Nat.add_zero] at hf64_0)); (try (clear hcl64 hcc64 hfr64; (try clear hM64))); (try (try simp only [show ((Kd.slice 3 (Kd.int .i64))).sz = 1 from rfl, Nat.mul_one, Nat.add_zero] at HP64)))); refine store_event (t := 33) (p := 149) (v := ?vo_w65) (w1 := (wr.setCell ⟨go63, (x6_1 : Int).toNat, none⟩ (v123))) ?hg ?ho ?hn ?hr ?_; (case ho => rfl); (case hg => rfl); (case hn => rfl); (case hr => first | (go_simp; done) | (go_simp; rfl)); intro w65 hw; have hg : wr.grownBy w65 (some go63) := (by rw [hw]; exact HP64.2); have hp_ : Kd.R (Kd.slice 3 (Kd.int .i64)) 33 w65 w.heap.size (fun _ => True) (.slice (some ⟨go63, 0, none⟩) x5_1.length co63) y125 := (by rw [hw, Ny125.out]; exact HP64.1); clear HP64; have n0_ := Aside0.mk (hp_); have n1_ := Aside0.mk ((by rw [hw]; exact below_set (HB.out) GB63.out : Below w.heap.size w w65)); clear HO_5; clear HB; clear HO_7; have HO_5 := n0_; have HB := n1_; clear n0_ n1_; clear hg hw hp_))
                          repeat (go_quiet (first | ((with_reducible refine gate_store (t := 33) (p := 149) rfl ?_); (try (rw [drewN_self wr]; generalize hq_ : World.drewN wr _ = wr; have n0_ := Aside0.mk (Kd.R_at hq_ HO_5.out); have n1_ := Aside0.mk (below_at hq_ HB.out); clear hq_ HO_5 HB; have HO_5 := n0_; have HB := n1_; clear n0_ n1_; (try (have HX64 := Aside0.mk (show Kd.R (Kd.slice 3 (Kd.int .i64)) 33 wr w.heap.size (fun _ => True) (.slice (some ⟨go63, 0, none⟩) x5_1.length co63) x5_1 from (by (with_reducible repeat (first | apply Kd.R_alloc | apply Kd.R_drewN | apply Kd.R_drew)); exact Kd.R_mono HO_5.out (fun _ hk => trivial))))); (try (obtain ⟨ce64, hcl64, hM64, hcc64, hfr64⟩ := Kd.R_elem HX64.out [] (x6_1 : Int) (of_decide_eq_true (by first | (with_reducible assumption) | assumption)) (by have h_ : (x6_1 : Int) < ((x5_1.length : Int) : Int) := of_decide_eq_true (by first | (with_reducible assumption) | assumption); first | exact h_ | (have e_ := (Kd.R_reads' HO_5.out).1; omega) | simpa using h_))); (try (obtain ⟨ve64_0, rfl, ge64_0⟩ := hM64)); (try (have HP64 := Kd.R_seg HX64.out (x6_1 : Int) (of_decide_eq_true (by first | (with_reducible assumption) | assumption)) (by have h_ : (x6_1 : Int) < ((x5_1.length : Int) : Int) := of_decide_eq_true (by first | (with_reducible assumption) | assumption); first | exact h_ | (have e_ := (Kd.R_reads' HO_5.out).1; omega) | simpa using h_) (seg := [v123]) (j := 0) hcl64 hcc64 (show 1 ≤ 1 from by decide) (x' := x7_2) (Kd.M_row (Kd.R_mono (Kd.R_apart' (HO_7.out) (Kd.R_typed HO_5.out) (by decide)) (fun k_ hk => ⟨trivial, fun e_ => (hk.2) (by rw [e_]; rfl)⟩))) (fun _ hk => hk))); (try (have hx64_0 := hcc64 0 _ rfl)); (try (try simp only [show ((Kd.slice 3 (Kd.int .i64))).sz = 1 from rfl, Nat.mul_one, Nat.add_zero] at hx64_0)); (try (have hf64_0 := hfr64 0)); (try (try simp only [show ((Kd.slice 3 (Kd.int .i64))).sz = 1 from rfl, Nat.mul_one, Nat.add_zero] at hf64_0)); (try (clear hcl64 hcc64 hfr64; (try clear hM64))); (try (try simp only [show ((Kd.slice 3 (Kd.int .i64))).sz = 1 from rfl, Nat.mul_one, Nat.add_zero] at HP64)))); refine store_event (t := 33) (p := 149) (v := ?vo_w65) (w1 := (wr.setCell ⟨go63, (x6_1 : Int).toNat, none⟩ (v123))) ?hg ?ho ?hn ?hr ?_; (case ho => rfl); (case hg => rfl); (case hn => rfl); (case hr => first | (go_simp; done) | (go_simp; rfl)); intro w65 hw; have hg : wr.grownBy w65 (some go63) := (by rw [hw]; exact HP64.2); have hp_ : Kd.R (Kd.slice 3 (Kd.int .i64)) 33 w65 w.heap.size (fun _ => True) (.slice (some ⟨go63, 0, none⟩) x5_1.length co63) y125 := (by rw [hw, Ny125.out]; exact HP64.1); clear HP64; have n0_ := Aside0.mk (hp_); have n1_ := Aside0.mk ((by rw [hw]; exact below_set (HB.out) GB63.out : Below w.heap.size w w65)); clear HO_5; clear HB; clear HO_7; have HO_5 := n0_; have HB := n1_; clear n0_ n1_; clear hg hw hp_)); try go_wp2_with (first | ((with_reducible refine gate_store (t := 33) (p := 149) rfl ?_); (try (rw [drewN_self wr]; generalize hq_ : World.drewN wr _ = wr; have n0_ := Aside0.mk (Kd.R_at hq_ HO_5.out); have n1_ := Aside0.mk (below_at hq_ HB.out); clear hq_ HO_5 HB; have HO_5 := n0_; have HB := n1_; clear n0_ n1_; (try (have HX64 := Aside0.mk (show Kd.R (Kd.slice 3 (Kd.int .i64)) 33 wr w.heap.size (fun _ => True) (.slice (some ⟨go63, 0, none⟩) x5_1.length co63) x5_1 from (by (with_reducible repeat (first | apply Kd.R_alloc | apply Kd.R_drewN | apply Kd.R_drew)); exact Kd.R_mono HO_5.out (fun _ hk => trivial))))); (try (obtain ⟨ce64, hcl64, hM64, hcc64, hfr64⟩ := Kd.R_elem HX64.out [] (x6_1 : Int) (of_decide_eq_true (by first | (with_reducible assumption) | assumption)) (by have h_ : (x6_1 : Int) < ((x5_1.length : Int) : Int) := of_decide_eq_true (by first | (with_reducible assumption) | assumption); first | exact h_ | (have e_ := (Kd.R_reads' HO_5.out).1; omega) | simpa using h_))); (try (obtain ⟨ve64_0, rfl, ge64_0⟩ := hM64)); (try (have HP64 := Kd.R_seg HX64.out (x6_1 : Int) (of_decide_eq_true (by first | (with_reducible assumption) | assumption)) (by have h_ : (x6_1 : Int) < ((x5_1.length : Int) : Int) := of_decide_eq_true (by first | (with_reducible assumption) | assumption); first | exact h_ | (have e_ := (Kd.R_reads' HO_5.out).1; omega) | simpa using h_) (seg := [v123]) (j := 0) hcl64 hcc64 (show 1 ≤ 1 from by decide) (x' := x7_2) (Kd.M_row (Kd.R_mono (Kd.R_apart' (HO_7.out) (Kd.R_typed HO_5.out) (by decide)) (fun k_ hk => ⟨trivial, fun e_ => (hk.2) (by rw [e_]; rfl)⟩))) (fun _ hk => hk))); (try (have hx64_0 := hcc64 0 _ rfl)); (try (try simp only [show ((Kd.slice 3 (Kd.int .i64))).sz = 1 from rfl, Nat.mul_one, Nat.add_zero] at hx64_0)); (try (have hf64_0 := hfr64 0)); (try (try simp only [show ((Kd.slice 3 (Kd.int .i64))).sz = 1 from rfl, Nat.mul_one, Nat.add_zero] at hf64_0)); (try (clear hcl64 hcc64 hfr64; (try clear hM64))); (try (try simp only [show ((Kd.slice 3 (Kd.int .i64))).sz = 1 from rfl, Nat.mul_one, Nat.add_zero] at HP64)))); refine store_event (t := 33) (p := 149) (v := ?vo_w65) (w1 := (wr.setCell ⟨go63, (x6_1 : Int).toNat, none⟩ (v123))) ?hg ?ho ?hn ?hr ?_; (case ho => rfl); (case hg => rfl); (case hn => rfl); (case hr => first | (go_simp; done) | (go_simp; rfl)); intro w65 hw; have hg : wr.grownBy w65 (some go63) := (by rw [hw]; exact HP64.2); have hp_ : Kd.R (Kd.slice 3 (Kd.int .i64)) 33 w65 w.heap.size (fun _ => True) (.slice (some ⟨go63, 0, none⟩) x5_1.length co63) y125 := (by rw [hw, Ny125.out]; exact HP64.1); clear HP64; have n0_ := Aside0.mk (hp_); have n1_ := Aside0.mk ((by rw [hw]; exact below_set (HB.out) GB63.out : Below w.heap.size w w65)); clear HO_5; clear HB; clear HO_7; have HO_5 := n0_; have HB := n1_; clear n0_ n1_; clear hg hw hp_)))
                          go_roundg k2
                          case measure => have := HK1.out; have := HK2.out; omega
                          case rel => exact ⟨(y125), (wrap64 (x6_1 - 1)), (by first | rfl | (simp; done) | (simp [*]; done)), H', ⟨by have := HK1.out; have := HK2.out; omega⟩, ⟨by (with_reducible repeat (first | apply Kd.R_alloc | apply Kd.R_drewN | apply Kd.R_drew)); exact HO_5.out⟩, ⟨by repeat (first | (with_reducible first | exact HB.out | apply below_alloc | apply pw_below_drewN | apply below_drew1) | exact HB.out)⟩⟩
                        · rw [if_neg c62] at H
                          exact absurd H (by simp)
                      · rw [if_neg c61] at H
                        exact absurd H (by simp)
              · rw [if_neg c10] at H
                exact absurd H (by simp)
            · rw [if_neg c9] at H
              exact absurd H (by simp)
          · rw [if_neg c8] at H
            have c8b0 : decide (0 ≤ x6_1) = false := decide_eq_false c8
            clear c8
            obtain rfl := Option.some.inj H
            go_wp2
            repeat (go_quiet (fail); try go_wp2)
            go_ret
            exact ⟨_, by first | rfl | (simp [errW_none, errW_some] <;> rfl) | (simp only [← hji3]; first | rfl | (simp [errW_none, errW_some] <;> rfl)) | (simp [*, errW_none, errW_some] <;> rfl), by (with_reducible repeat (first | apply Kd.R_alloc | apply Kd.R_drewN | apply Kd.R_drew)); exact HO_5.out, by repeat (first | (with_reducible first | exact HB.out | apply below_alloc | apply pw_below_drewN | apply below_drew1) | exact HB.out)⟩
    · rw [if_neg c5] at H
      exact absurd H (by simp)
  · rw [if_neg c4] at H
    exact absurd H (by simp)
end Go.Proofs.Ytecpjfipkejmoaa.PA
end
