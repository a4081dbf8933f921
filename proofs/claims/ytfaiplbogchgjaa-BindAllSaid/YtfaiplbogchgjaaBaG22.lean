/- Texts of this claim, those that nothing needs left out: PAx9 Zba. -/
import Derived.Test.YtfaiplbogchgjaaBaG16
import Derived.Test.YtfaiplbogchgjaaBaG21
import Derived.Test.YtfaiplbogchgjaaBaG17
import Derived.Test.YtfaiplbogchgjaaBaG18
import Derived.Test.YtfaiplbogchgjaaBaG20
import Derived.Test.YtfaiplbogchgjaaBaG19
section
namespace Go.Proofs.Ytfaiplbogchgjaa.PA
open Go.RowKit Go.Proofs.YtfaiplbogchgjaaW.PrintWords Go.Proofs.YtfaiplbogchgjaaW.PrintLast Go.Proofs.YtfaiplbogchgjaaW.PrintMore
attribute [local go_sem] max2_int min2_int max_two min_two max_three min_three max_four min_four   -- for this text's walks alone
set_option linter.unusedVariables false
set_option linter.unusedSimpArgs false
mutual
def phalaroperef09_Few.l0 : Nat → List (S38) → Int → Option (Bool)
  | 0, _, _ => none
  | k + 1, x0, x3 => if x3 < (x0.length : Int) then (phalaroperef09_Few.j1 k x0 x3 (decide (x3 < 21))) else (phalaroperef09_Few.j1 k x0 x3 false)
def phalaroperef09_Few.j1 : Nat → List (S38) → Int → Bool → Option (Bool)
  | 0, _, _, _ => none
  | k + 1, x0, x3, x11 => if x11 = true then (if 0 ≤ x3 then (if x3 < (x0.length : Int) then (if (((rd_T38 x0 x3).f0).size : Int) > 200 then (some false) else ((phalaroperef08_Few.f k ((rd_T38 x0 x3).f1.f0) ((rd_T38 x0 x3).f1.f1) ((rd_T38 x0 x3).f1.f2) ((rd_T38 x0 x3).f1.f3)).bind fun t224 => (if t224 = true then (phalaroperef09_Few.l0 k x0 (wrap64 (x3 + 1))) else (some false)))) else (none)) else (none)) else (some (decide ((x0.length : Int) ≤ 20)))
end
def phalaroperef09_Few.f (k : Nat) (l0 : List (S38)) : Option (Bool) := phalaroperef09_Few.l0 k l0 0
set_option maxHeartbeats 8000000 in
set_option maxRecDepth 100000 in
theorem phalaroperef09_Few.calls (k : Nat) (A0 : Option Addr) (c0 : Nat) (l0 : List (S38)) (r : Bool) (w : World) (hr0 : Kd.C k38 w A0 l0.length l0) (hc0 : l0.length ≤ c0) (h : phalaroperef09_Few.f k l0 = some r) :
    Calls Try.prog 10 #[.slice A0 l0.length c0] w fun e w' => e = .returned (.bool r) ∧ Below w.heap.size w w' := by
  have hu28 := Try.underlying28
  have HR0 := Aside0.mk hr0
  have HC0 := Aside0.mk hc0
  clear hr0 hc0
  have HB := Aside0.mk (Below.refl w.heap.size w)
  have H : (phalaroperef09_Few.l0 k l0 0) = some r := h
  clear h
  have H' := Aside0.mk H
  clear H
  go_enter Try.func10, Try.ntmps10
  go_wp2
  go_loopg [3] k (fun kq v3 w' => ∃ (x3_1 : Int), v3 = .int .i64 x3_1 ∧ Aside0 (phalaroperef09_Few.l0 kq l0 x3_1 = some r) ∧ Aside0 (kq ≤ k) ∧ Aside0 (Below w.heap.size w w'))
  case atStart => exact ⟨(0), (by first | rfl | (simp; done) | (simp [*]; done)), H', ⟨Nat.le_refl _⟩, ⟨by repeat (first | (with_reducible first | exact HB.out | apply below_alloc | apply pw_below_drewN | apply below_drew1) | exact HB.out)⟩⟩
  case round =>
    clear H'
    try clear c1
    obtain ⟨x3_1, rfl, HA, HK1, HB⟩ := hrel
    cases gk with
    | zero => exact absurd HA.out (by simp [phalaroperef09_Few.l0])
    | succ k1 =>
      have H := HA.out
      clear HA
      simp only [phalaroperef09_Few.l0] at H
      have HC2 := Aside0.mk H
      clear H
      go_upto_region 2 with (fail)
      go_cut [11] (fun v11 wc => ∃ (kq : Nat) (x11_1 : Bool), v11 = .bool x11_1 ∧ Aside0 (phalaroperef09_Few.j1 kq l0 x3_1 x11_1 = some r) ∧ Aside0 (kq ≤ k1) ∧ Aside0 (Below w.heap.size w wc))
      case first =>
        have H := HC2.out
        clear HC2
        by_cases c3 : x3_1 < (l0.length : Int)
        · rw [if_pos c3] at H
          have c3b0 : decide (x3_1 < (l0.length : Int)) = true := decide_eq_true c3
          clear c3
          (first | rw [c3b0] | (simp only [i64_w, i32_w]; rw [c3b0]) | skip)
          have H' := Aside0.mk H
          clear H
          go_wp2
          go_meet
          case rel => exact ⟨_, (decide (x3_1 < 21)), (by first | rfl | (simp; done) | (simp [*]; done)), H', ⟨by have := HK1.out; first | omega | exact Nat.le_refl _⟩, ⟨by repeat (first | (with_reducible first | exact HB.out | apply below_alloc | apply pw_below_drewN | apply below_drew1) | exact HB.out)⟩⟩
        · rw [if_neg c3] at H
          have c3b0 : decide (x3_1 < (l0.length : Int)) = false := decide_eq_false c3
          clear c3
          (first | rw [c3b0] | (simp only [i64_w, i32_w]; rw [c3b0]) | skip)
          have H' := Aside0.mk H
          clear H
          go_wp2
          go_meet
          case rel => exact ⟨_, (false), (by first | rfl | (simp; done) | (simp [*]; done)), H', ⟨by have := HK1.out; first | omega | exact Nat.le_refl _⟩, ⟨by repeat (first | (with_reducible first | exact HB.out | apply below_alloc | apply pw_below_drewN | apply below_drew1) | exact HB.out)⟩⟩
      case rest =>
        clear HC2
        try clear c1
        try clear p2
        try clear c3
        try clear c3b0
        obtain ⟨kq, x11_1, rfl, HA, HJ1, HB⟩ := hcut
        cases kq with
        | zero => exact absurd HA.out (by simp [phalaroperef09_Few.j1])
        | succ kj1 =>
          have H := HA.out
          clear HA
          simp only [phalaroperef09_Few.j1] at H
          by_cases c4 : x11_1 = true
          · subst c4
            have H1 : (if 0 ≤ x3_1 then (if x3_1 < (l0.length : Int) then (if (((rd_T38 l0 x3_1).f0).size : Int) > 200 then (some false) else ((phalaroperef08_Few.f kj1 ((rd_T38 l0 x3_1).f1.f0) ((rd_T38 l0 x3_1).f1.f1) ((rd_T38 l0 x3_1).f1.f2) ((rd_T38 l0 x3_1).f1.f3)).bind fun t224 => (if t224 = true then (phalaroperef09_Few.l0 kj1 l0 (wrap64 (x3_1 + 1))) else (some false)))) else (none)) else (none)) = some r := by rw [if_pos rfl] at H; exact H
            clear H
            have H := H1
            clear H1
            by_cases c5 : 0 ≤ x3_1
            · rw [if_pos c5] at H
              have c5b0 : decide (0 ≤ x3_1) = true := decide_eq_true c5
              clear c5
              by_cases c6 : x3_1 < (l0.length : Int)
              · rw [if_pos c6] at H
                have c6b0 : decide (x3_1 < (l0.length : Int)) = true := decide_eq_true c6
                clear c6
                by_cases c7 : (((rd_T38 l0 x3_1).f0).size : Int) > 200
                · rw [if_pos c7] at H
                  have c7b0 : decide (200 < (((rd_T38 l0 x3_1).f0).size : Int)) = true := decide_eq_true c7
                  have c7b1 : decide (200 < ((rd_T38 l0 x3_1).f0).size) = true := decide_eq_true (by omega)
                  clear c7
                  obtain rfl := Option.some.inj H
                  have p222 : 0 ≤ (x3_1 : Int) := of_decide_eq_true (by first | (with_reducible assumption) | assumption)
                  have q222 : x3_1 < (l0.length : Int) := of_decide_eq_true (by first | (with_reducible assumption) | assumption)
                  obtain ⟨ad222, A222_3, c222_3, A222_4, c222_4, e222, hx222_0, hx222_1, hx222_2, hx222_3, hx222_4, hl222_3, hi222_3, hl222_4, hi222_4⟩ := at_T38 HR0.out x3_1 p222 q222
                  cases e222
                  replace hx222_0 := (HB.out.cell (World.block_lt_of_cell? w _ hx222_0)).trans hx222_0
                  replace hx222_1 := (HB.out.cell (World.block_lt_of_cell? w _ hx222_1)).trans hx222_1
                  replace hx222_2 := (HB.out.cell (World.block_lt_of_cell? w _ hx222_2)).trans hx222_2
                  replace hx222_3 := (HB.out.cell (World.block_lt_of_cell? w _ hx222_3)).trans hx222_3
                  replace hx222_4 := (HB.out.cell (World.block_lt_of_cell? w _ hx222_4)).trans hx222_4
                  have HR222_3 := Aside0.mk hi222_3
                  have HC222_3 := Aside0.mk hl222_3
                  clear hi222_3 hl222_3
                  have HR222_4 := Aside0.mk hi222_4
                  have HC222_4 := Aside0.mk hl222_4
                  clear hi222_4 hl222_4
                  replace p222 := eq_true p222
                  replace q222 := eq_true q222
                  go_wp2
                  go_ret
                  exact ⟨by first | rfl | (simp [errW_none, errW_some] <;> rfl) | (simp [*, errW_none, errW_some] <;> rfl), by repeat (first | (with_reducible first | exact HB.out | apply below_alloc | apply pw_below_drewN | apply below_drew1) | exact HB.out)⟩
                · rw [if_neg c7] at H
                  have c7b0 : decide (200 < (((rd_T38 l0 x3_1).f0).size : Int)) = false := decide_eq_false c7
                  have c7b1 : decide (200 < ((rd_T38 l0 x3_1).f0).size) = false := decide_eq_false (by omega)
                  clear c7
                  replace H := Option.bind_eq_some_iff.mp H
                  obtain ⟨t224, A80, H⟩ := H
                  replace H : (if t224 = true then (phalaroperef09_Few.l0 kj1 l0 (wrap64 (x3_1 + 1))) else (some false)) = some r := H
                  have A8 := Aside0.mk A80
                  clear A80
                  by_cases c9 : t224 = true
                  · subst c9
                    have H1 : (phalaroperef09_Few.l0 kj1 l0 (wrap64 (x3_1 + 1))) = some r := by rw [if_pos rfl] at H; exact H
                    clear H
                    have H := H1
                    clear H1
                    have H' := Aside0.mk H
                    clear H
                    have p222 : 0 ≤ (x3_1 : Int) := of_decide_eq_true (by first | (with_reducible assumption) | assumption)
                    have q222 : x3_1 < (l0.length : Int) := of_decide_eq_true (by first | (with_reducible assumption) | assumption)
                    obtain ⟨ad222, A222_3, c222_3, A222_4, c222_4, e222, hx222_0, hx222_1, hx222_2, hx222_3, hx222_4, hl222_3, hi222_3, hl222_4, hi222_4⟩ := at_T38 HR0.out x3_1 p222 q222
                    cases e222
                    replace hx222_0 := (HB.out.cell (World.block_lt_of_cell? w _ hx222_0)).trans hx222_0
                    replace hx222_1 := (HB.out.cell (World.block_lt_of_cell? w _ hx222_1)).trans hx222_1
                    replace hx222_2 := (HB.out.cell (World.block_lt_of_cell? w _ hx222_2)).trans hx222_2
                    replace hx222_3 := (HB.out.cell (World.block_lt_of_cell? w _ hx222_3)).trans hx222_3
                    replace hx222_4 := (HB.out.cell (World.block_lt_of_cell? w _ hx222_4)).trans hx222_4
                    have HR222_3 := Aside0.mk hi222_3
                    have HC222_3 := Aside0.mk hl222_3
                    clear hi222_3 hl222_3
                    have HR222_4 := Aside0.mk hi222_4
                    have HC222_4 := Aside0.mk hl222_4
                    clear hi222_4 hl222_4
                    replace p222 := eq_true p222
                    replace q222 := eq_true q222
                    have p223 : 0 ≤ (x3_1 : Int) := of_decide_eq_true (by first | (with_reducible assumption) | assumption)
                    have q223 : x3_1 < (l0.length : Int) := of_decide_eq_true (by first | (with_reducible assumption) | assumption)
                    obtain ⟨ad223, A223_3, c223_3, A223_4, c223_4, e223, hx223_0, hx223_1, hx223_2, hx223_3, hx223_4, hl223_3, hi223_3, hl223_4, hi223_4⟩ := at_T38 HR0.out x3_1 p223 q223
                    obtain rfl : ad222 = ad223 := (by injection e223)
                    replace hx223_0 := (HB.out.cell (World.block_lt_of_cell? w _ hx223_0)).trans hx223_0
                    replace hx223_1 := (HB.out.cell (World.block_lt_of_cell? w _ hx223_1)).trans hx223_1
                    replace hx223_2 := (HB.out.cell (World.block_lt_of_cell? w _ hx223_2)).trans hx223_2
                    replace hx223_3 := (HB.out.cell (World.block_lt_of_cell? w _ hx223_3)).trans hx223_3
                    replace hx223_4 := (HB.out.cell (World.block_lt_of_cell? w _ hx223_4)).trans hx223_4
                    have HR223_3 := Aside0.mk hi223_3
                    have HC223_3 := Aside0.mk hl223_3
                    clear hi223_3 hl223_3
                    have HR223_4 := Aside0.mk hi223_4
                    have HC223_4 := Aside0.mk hl223_4
                    clear hi223_4 hl223_4
                    replace p223 := eq_true p223
                    replace q223 := eq_true q223
                    have ea_ := Option.some.inj (hx222_3.symm.trans hx223_3)
                    injection ea_ with ea_ en_ ec_
                    subst ea_
                    subst ec_
                    clear en_
                    have ea_ := Option.some.inj (hx222_4.symm.trans hx223_4)
                    injection ea_ with ea_ en_ ec_
                    subst ea_
                    subst ec_
                    clear en_
                    go_wp2_with (first | (go_at_call 23; (with_reducible refine (phalaroperef08_Few.calls kj1 ((rd_T38 l0 x3_1).f1.f0) ((rd_T38 l0 x3_1).f1.f1) _ _ ((rd_T38 l0 x3_1).f1.f2) _ _ ((rd_T38 l0 x3_1).f1.f3) true _ ?side1 ?side2 ?side3 ?side4 A8.out).mono ?_); (case side1 => repeat (first | exact (Kd.C_below HR223_3.out HB.out) | (with_reducible refine Kd.C_alloc ?_ _) | (with_reducible refine Kd.C_drewN ?_ _) | (with_reducible refine Kd.C_drew ?_))); (case side2 => exact HC223_3.out); (case side3 => repeat (first | exact (Kd.C_below HR223_4.out HB.out) | (with_reducible refine Kd.C_alloc ?_ _) | (with_reducible refine Kd.C_drewN ?_ _) | (with_reducible refine Kd.C_drew ?_))); (case side4 => exact HC223_4.out); rintro e w10 ⟨rfl, hb⟩; have n0_ := Aside0.mk (below_step (by repeat (first | (with_reducible first | exact HB.out | apply below_alloc | apply pw_below_drewN | apply below_drew1) | exact HB.out)) hb); clear HB; have HB := n0_; clear n0_; (try clear hb); (try clear hb2); (try clear hk); (try clear hi)))
                    go_roundg kj1
                    case measure => have := HK1.out; have := HJ1.out; omega
                    case rel => exact ⟨(wrap64 (x3_1 + 1)), (by first | rfl | (simp; done) | (simp [*]; done)), H', ⟨by have := HK1.out; have := HJ1.out; omega⟩, ⟨by repeat (first | (with_reducible first | exact HB.out | apply below_alloc | apply pw_below_drewN | apply below_drew1) | exact HB.out)⟩⟩
                  · replace c9 := Bool.eq_false_iff.mpr c9
                    subst c9
                    have H1 : (some false) = some r := by rw [if_neg (show ¬ (false = true) by decide)] at H; exact H
                    clear H
                    have H := H1
                    clear H1
                    obtain rfl := Option.some.inj H
                    have p222 : 0 ≤ (x3_1 : Int) := of_decide_eq_true (by first | (with_reducible assumption) | assumption)
                    have q222 : x3_1 < (l0.length : Int) := of_decide_eq_true (by first | (with_reducible assumption) | assumption)
                    obtain ⟨ad222, A222_3, c222_3, A222_4, c222_4, e222, hx222_0, hx222_1, hx222_2, hx222_3, hx222_4, hl222_3, hi222_3, hl222_4, hi222_4⟩ := at_T38 HR0.out x3_1 p222 q222
                    cases e222
                    replace hx222_0 := (HB.out.cell (World.block_lt_of_cell? w _ hx222_0)).trans hx222_0
                    replace hx222_1 := (HB.out.cell (World.block_lt_of_cell? w _ hx222_1)).trans hx222_1
                    replace hx222_2 := (HB.out.cell (World.block_lt_of_cell? w _ hx222_2)).trans hx222_2
                    replace hx222_3 := (HB.out.cell (World.block_lt_of_cell? w _ hx222_3)).trans hx222_3
                    replace hx222_4 := (HB.out.cell (World.block_lt_of_cell? w _ hx222_4)).trans hx222_4
                    have HR222_3 := Aside0.mk hi222_3
                    have HC222_3 := Aside0.mk hl222_3
                    clear hi222_3 hl222_3
                    have HR222_4 := Aside0.mk hi222_4
                    have HC222_4 := Aside0.mk hl222_4
                    clear hi222_4 hl222_4
                    replace p222 := eq_true p222
                    replace q222 := eq_true q222
                    have p223 : 0 ≤ (x3_1 : Int) := of_decide_eq_true (by first | (with_reducible assumption) | assumption)
                    have q223 : x3_1 < (l0.length : Int) := of_decide_eq_true (by first | (with_reducible assumption) | assumption)
                    obtain ⟨ad223, A223_3, c223_3, A223_4, c223_4, e223, hx223_0, hx223_1, hx223_2, hx223_3, hx223_4, hl223_3, hi223_3, hl223_4, hi223_4⟩ := at_T38 HR0.out x3_1 p223 q223
                    obtain rfl : ad222 = ad223 := (by injection e223)
                    replace hx223_0 := (HB.out.cell (World.block_lt_of_cell? w _ hx223_0)).trans hx223_0
                    replace hx223_1 := (HB.out.cell (World.block_lt_of_cell? w _ hx223_1)).trans hx223_1
                    replace hx223_2 := (HB.out.cell (World.block_lt_of_cell? w _ hx223_2)).trans hx223_2
                    replace hx223_3 := (HB.out.cell (World.block_lt_of_cell? w _ hx223_3)).trans hx223_3
                    replace hx223_4 := (HB.out.cell (World.block_lt_of_cell? w _ hx223_4)).trans hx223_4
                    have HR223_3 := Aside0.mk hi223_3
                    have HC223_3 := Aside0.mk hl223_3
                    clear hi223_3 hl223_3
                    have HR223_4 := Aside0.mk hi223_4
                    have HC223_4 := Aside0.mk hl223_4
                    clear hi223_4 hl223_4
                    replace p223 := eq_true p223
                    replace q223 := eq_true q223
                    have ea_ := Option.some.inj (hx222_3.symm.trans hx223_3)
                    injection ea_ with ea_ en_ ec_
                    subst ea_
                    subst ec_
                    clear en_
                    have ea_ := Option.some.inj (hx222_4.symm.trans hx223_4)
                    injection ea_ with ea_ en_ ec_
                    subst ea_
                    subst ec_
                    clear en_
                    go_wp2_with (first | (go_at_call 23; (with_reducible refine (phalaroperef08_Few.calls kj1 ((rd_T38 l0 x3_1).f1.f0) ((rd_T38 l0 x3_1).f1.f1) _ _ ((rd_T38 l0 x3_1).f1.f2) _ _ ((rd_T38 l0 x3_1).f1.f3) false _ ?side1 ?side2 ?side3 ?side4 A8.out).mono ?_); (case side1 => repeat (first | exact (Kd.C_below HR223_3.out HB.out) | (with_reducible refine Kd.C_alloc ?_ _) | (with_reducible refine Kd.C_drewN ?_ _) | (with_reducible refine Kd.C_drew ?_))); (case side2 => exact HC223_3.out); (case side3 => repeat (first | exact (Kd.C_below HR223_4.out HB.out) | (with_reducible refine Kd.C_alloc ?_ _) | (with_reducible refine Kd.C_drewN ?_ _) | (with_reducible refine Kd.C_drew ?_))); (case side4 => exact HC223_4.out); rintro e w11 ⟨rfl, hb⟩; have n0_ := Aside0.mk (below_step (by repeat (first | (with_reducible first | exact HB.out | apply below_alloc | apply pw_below_drewN | apply below_drew1) | exact HB.out)) hb); clear HB; have HB := n0_; clear n0_; (try clear hb); (try clear hb2); (try clear hk); (try clear hi)))
                    go_ret
                    exact ⟨by first | rfl | (simp [errW_none, errW_some] <;> rfl) | (simp [*, errW_none, errW_some] <;> rfl), by repeat (first | (with_reducible first | exact HB.out | apply below_alloc | apply pw_below_drewN | apply below_drew1) | exact HB.out)⟩
              · rw [if_neg c6] at H
                exact absurd H (by simp)
            · rw [if_neg c5] at H
              exact absurd H (by simp)
          · replace c4 := Bool.eq_false_iff.mpr c4
            subst c4
            have H1 : (some (decide ((l0.length : Int) ≤ 20))) = some r := by rw [if_neg (show ¬ (false = true) by decide)] at H; exact H
            clear H
            have H := H1
            clear H1
            obtain rfl := Option.some.inj H
            go_wp2
            go_ret
            exact ⟨by first | rfl | (simp [errW_none, errW_some] <;> rfl) | (simp [*, errW_none, errW_some] <;> rfl), by repeat (first | (with_reducible first | exact HB.out | apply below_alloc | apply pw_below_drewN | apply below_drew1) | exact HB.out)⟩
end Go.Proofs.Ytfaiplbogchgjaa.PA
end
section
namespace Go.Proofs.Ytfaiplbogchgjaa.PA
set_option linter.unusedSimpArgs false
set_option linter.unusedVariables false
open Go.RowKit Go.Proofs.YtfaiplbogchgjaaW.PrintWords Go.Proofs.YtfaiplbogchgjaaW.PrintLast
theorem w1 (i : Nat) (h : i < 9223372036854775806) : wrap64 ((i : Int) + 1) = ((i + 1 : Nat) : Int) := by unfold wrap64; omega
theorem rdOf_at (l : List ByteArray) (i : Nat) (h : i < l.length) : rdOf ByteArray.empty l (i : Int) = l[i] := rdOf_get l i h
theorem rdb_at (l : List S38) (i : Nat) (h : i < l.length) : rd_T38 l (i : Int) = l[i] := by
  unfold rd_T38; rw [Int.toNat_natCast, List.getD_eq_getElem?_getD, List.getElem?_eq_getElem h]; rfl
section
variable (vk : Int) (s : ByteArray) (l : List ByteArray) (p : List S50)
theorem rtexts_l1 (h3 : vk = 3) (hp : p.length ≤ 100000) (d : Nat) : ∀ (k i : Nat) (acc : List ByteArray), i + d = p.length → d < k → acc.length + 2 * d ≤ 300000 →
    phalaroperef08_Texts.l1 k acc (i : Int) vk s l p = some (acc ++ (p.drop i).flatMap (fun x => [x.f0, x.f1])) := by
  induction d with
  | zero =>
    intro k i acc hi hk ha
    obtain ⟨k, rfl⟩ : ∃ m, k = m + 1 := ⟨k - 1, by omega⟩
    simp only [phalaroperef08_Texts.l1]
    rw [if_neg (by omega), List.drop_eq_nil_of_le (by omega)]
    simp
  | succ d ih =>
    intro k i acc hi hk ha
    obtain ⟨k, rfl⟩ : ∃ m, k = m + 1 := ⟨k - 1, by omega⟩
    simp only [phalaroperef08_Texts.l1]
    rw [if_pos (by omega), if_pos h3, if_pos (by omega), rd_at p i (by omega)]
    simp only [Option.bind_some, List.length_cons, List.length_nil]
    rw [if_pos (by omega), w1 i (by omega),
      ih k (i + 1) _ (by omega) (by omega) (by rw [List.length_append]; simp; omega), List.drop_eq_getElem_cons (show i < p.length by omega), List.flatMap_cons, List.append_assoc]
theorem rtexts_l1_not (h3 : vk ≠ 3) (k i : Nat) (acc : List ByteArray) (hk : 0 < k) : phalaroperef08_Texts.l1 k acc (i : Int) vk s l p = some acc := by
  obtain ⟨k, rfl⟩ : ∃ m, k = m + 1 := ⟨k - 1, by omega⟩
  simp only [phalaroperef08_Texts.l1]
  split
  · first | rfl | rw [if_neg h3]
  · rfl
theorem rtexts_l0 (h2 : vk = 2) (hl : l.length ≤ 100000) (d : Nat) : ∀ (k i : Nat) (acc : List ByteArray), i + d = l.length → d + 3 < k → acc.length + d ≤ 300000 →
    phalaroperef08_Texts.l0 k acc (i : Int) vk s l p = some (acc ++ l.drop i) := by
  induction d with
  | zero =>
    intro k i acc hi hk ha
    obtain ⟨k, rfl⟩ : ∃ m, k = m + 2 := ⟨k - 2, by omega⟩
    simp only [phalaroperef08_Texts.l0, phalaroperef08_Texts.j2]
    rw [if_neg (by omega), List.drop_eq_nil_of_le (by omega), List.append_nil]
    exact rtexts_l1_not vk s l p (by omega) k 0 acc (by omega)
  | succ d ih =>
    intro k i acc hi hk ha
    obtain ⟨k, rfl⟩ : ∃ m, k = m + 1 := ⟨k - 1, by omega⟩
    simp only [phalaroperef08_Texts.l0]
    rw [if_pos (by omega), if_pos h2, if_pos (by omega), if_pos (by omega), rdOf_at l i (by omega), w1 i (by omega),
      ih k (i + 1) _ (by omega) (by omega) (by rw [List.length_append]; simp; omega), List.drop_eq_getElem_cons (show i < l.length by omega), List.append_assoc]
    rfl
theorem rtexts_l0_not (h2 : vk ≠ 2) (k : Nat) (acc : List ByteArray) : phalaroperef08_Texts.l0 (k + 2) acc 0 vk s l p = phalaroperef08_Texts.l1 k acc 0 vk s l p := by
  simp only [phalaroperef08_Texts.l0, phalaroperef08_Texts.j2]
  split
  · first | rfl | rw [if_neg h2]
  · rfl
theorem rtexts_f (k : Nat) (hm : modest ⟨vk, s, l, p⟩) (hk : l.length + p.length + 10 < k) : phalaroperef08_Texts.f k vk s l p = some (textsOf ⟨vk, s, l, p⟩) := by
  obtain ⟨_, hl, hp, _, _⟩ := hm
  dsimp only at hl hp
  obtain ⟨k, rfl⟩ : ∃ m, k = m + 3 := ⟨k - 3, by omega⟩
  unfold phalaroperef08_Texts.f textsOf
  by_cases h1 : vk = 1
  · rw [if_pos h1, if_pos h1, if_pos (by simp)]
    simp only [phalaroperef08_Texts.j0]
    rw [rtexts_l0_not vk s l p (by omega)]
    exact rtexts_l1_not vk s l p (by omega) k 0 _ (by omega)
  rw [if_neg h1, if_neg h1]
  simp only [phalaroperef08_Texts.j0]
  by_cases h2 : vk = 2
  · rw [if_pos h2]
    have := rtexts_l0 vk s l p h2 hl l.length (k + 2) 0 [] (by omega) (by omega) (by simp; omega)
    simpa using this
  rw [if_neg h2, rtexts_l0_not vk s l p h2]
  by_cases h3 : vk = 3
  · rw [if_pos h3]
    have := rtexts_l1 vk s l p h3 hp p.length k 0 [] (by omega) (by omega) (by simp; omega)
    simpa using this
  · rw [if_neg h3]
    exact rtexts_l1_not vk s l p h3 k 0 [] (by omega)
end
def FewV (s : ByteArray) (l : List ByteArray) (p : List S50) : Prop :=
  s.size ≤ 200 ∧ l.length ≤ 30 ∧ p.length ≤ 30 ∧ (∀ x ∈ l, x.size ≤ 200) ∧ ∀ x ∈ p, x.f0.size ≤ 200 ∧ x.f1.size ≤ 200
theorem FewV.modest {k : Int} {s : ByteArray} {l : List ByteArray} {p : List S50} (h : FewV s l p) : modest ⟨k, s, l, p⟩ := by
  obtain ⟨h0, h1, h2, h3, h4⟩ := h
  exact ⟨show s.size ≤ 1000000 by omega, show l.length ≤ 100000 by omega, show p.length ≤ 100000 by omega, fun x hx => by have := h3 x hx; omega, fun x hx => by have := h4 x hx; omega⟩
section
variable (vk : Int) (s : ByteArray) (l : List ByteArray) (p : List S50)
theorem few_l1 (d : Nat) : ∀ (k i : Nat), i + d = 31 → 2 * d + 3 < k → (∀ j (hj : j < p.length), j < i → p[j].f0.size ≤ 200 ∧ p[j].f1.size ≤ 200) →
    ∃ b, phalaroperef08_Few.l1 k (i : Int) vk s l p = some b ∧ (b = true → s.size ≤ 200 ∧ l.length ≤ 30 ∧ p.length ≤ 30 ∧ ∀ x ∈ p, x.f0.size ≤ 200 ∧ x.f1.size ≤ 200) := by
  induction d with
  | zero =>
    intro k i hi hk hj
    obtain ⟨k, rfl⟩ : ∃ m, k = m + 2 := ⟨k - 2, by omega⟩
    simp only [phalaroperef08_Few.l1, phalaroperef08_Few.j3]
    have hne : ¬ ((i : Int) < 31) := by omega
    rw [decide_eq_false hne]
    have : ∀ {α : Type} (c : Prop) [Decidable c] (x : α), (if c then x else x) = x := fun c _ x => by split <;> rfl
    simp only [Bool.false_eq_true, if_false, this]
    by_cases h1 : (s.size : Int) ≤ 200
    · by_cases h2 : (l.length : Int) ≤ 30
      · refine ⟨decide ((p.length : Int) ≤ 30), by rw [if_pos h1, if_pos h2], fun h => ?_⟩
        rw [decide_eq_true_iff] at h
        refine ⟨by omega, by omega, by omega, fun x hx => ?_⟩
        obtain ⟨j, hjl, rfl⟩ := List.mem_iff_getElem.1 hx
        exact hj j hjl (by omega)
      · exact ⟨false, by rw [if_pos h1, if_neg h2], fun h => by cases h⟩
    · exact ⟨false, by rw [if_neg h1], fun h => by cases h⟩
  | succ d ih =>
    intro k i hi hk hj
    obtain ⟨k, rfl⟩ : ∃ m, k = m + 2 := ⟨k - 2, by omega⟩
    simp only [phalaroperef08_Few.l1, phalaroperef08_Few.j3]
    have hlt : ((i : Int) < 31) := by omega
    rw [decide_eq_true hlt]
    by_cases hp : (i : Int) < (p.length : Int)
    · have hp' : i < p.length := by omega
      rw [if_pos hp, if_pos rfl, if_pos (by omega), if_pos hp, rd_at p i hp']
      by_cases h1 : ((p[i].f0).size : Int) > 200
      · exact ⟨false, by rw [if_pos h1], fun h => by cases h⟩
      by_cases h2 : ((p[i].f1).size : Int) > 200
      · exact ⟨false, by rw [if_neg h1, if_pos h2], fun h => by cases h⟩
      rw [if_neg h1, if_neg h2, w1 i (by omega)]
      exact ih k (i + 1) (by omega) (by omega) (fun j hjl hji => by
        rcases Nat.lt_or_ge j i with h | h
        · exact hj j hjl h
        · obtain rfl : j = i := by omega
          exact ⟨by omega, by omega⟩)
    · rw [if_neg hp]
      simp only [Bool.false_eq_true, if_false]
      by_cases h1 : (s.size : Int) ≤ 200
      · by_cases h2 : (l.length : Int) ≤ 30
        · refine ⟨decide ((p.length : Int) ≤ 30), by rw [if_pos h1, if_pos h2], fun h => ?_⟩
          rw [decide_eq_true_iff] at h
          refine ⟨by omega, by omega, by omega, fun x hx => ?_⟩
          obtain ⟨j, hjl, rfl⟩ := List.mem_iff_getElem.1 hx
          exact hj j hjl (by omega)
        · exact ⟨false, by rw [if_pos h1, if_neg h2], fun h => by cases h⟩
      · exact ⟨false, by rw [if_neg h1], fun h => by cases h⟩
theorem few_l0 (d : Nat) : ∀ (k i : Nat), i + d = 31 → 2 * d + 80 < k → (∀ j (hj : j < l.length), j < i → l[j].size ≤ 200) →
    ∃ b, phalaroperef08_Few.l0 k (i : Int) vk s l p = some b ∧ (b = true → FewV s l p) := by
  induction d with
  | zero =>
    intro k i hi hk hj
    obtain ⟨k, rfl⟩ : ∃ m, k = m + 2 := ⟨k - 2, by omega⟩
    simp only [phalaroperef08_Few.l0, phalaroperef08_Few.j1]
    have hne : ¬ ((i : Int) < 31) := by omega
    rw [decide_eq_false hne]
    have : ∀ {α : Type} (c : Prop) [Decidable c] (x : α), (if c then x else x) = x := fun c _ x => by split <;> rfl
    simp only [Bool.false_eq_true, if_false, this]
    obtain ⟨b, e, hb⟩ := few_l1 vk s l p 31 k 0 (by omega) (by omega) (fun j _ h => by omega)
    refine ⟨b, e, fun h => ?_⟩
    obtain ⟨h0, h1, h2, h3⟩ := hb h
    refine ⟨h0, h1, h2, fun x hx => ?_, h3⟩
    obtain ⟨j, hjl, rfl⟩ := List.mem_iff_getElem.1 hx
    exact hj j hjl (by omega)
  | succ d ih =>
    intro k i hi hk hj
    obtain ⟨k, rfl⟩ : ∃ m, k = m + 2 := ⟨k - 2, by omega⟩
    simp only [phalaroperef08_Few.l0, phalaroperef08_Few.j1]
    have hlt : ((i : Int) < 31) := by omega
    rw [decide_eq_true hlt]
    by_cases hp : (i : Int) < (l.length : Int)
    · have hp' : i < l.length := by omega
      rw [if_pos hp, if_pos rfl, if_pos (by omega), if_pos hp, rdOf_at l i hp']
      by_cases h1 : ((l[i]).size : Int) > 200
      · exact ⟨false, by rw [if_pos h1], fun h => by cases h⟩
      rw [if_neg h1, w1 i (by omega)]
      exact ih k (i + 1) (by omega) (by omega) (fun j hjl hji => by
        rcases Nat.lt_or_ge j i with h | h
        · exact hj j hjl h
        · obtain rfl : j = i := by omega
          omega)
    · rw [if_neg hp]
      simp only [Bool.false_eq_true, if_false]
      obtain ⟨b, e, hb⟩ := few_l1 vk s l p 31 k 0 (by omega) (by omega) (fun j _ h => by omega)
      refine ⟨b, e, fun h => ?_⟩
      obtain ⟨h0, h1, h2, h3⟩ := hb h
      refine ⟨h0, h1, h2, fun x hx => ?_, h3⟩
      obtain ⟨j, hjl, rfl⟩ := List.mem_iff_getElem.1 hx
      exact hj j hjl (by omega)
theorem few_f (k : Nat) (hk : 200 < k) : ∃ b, phalaroperef08_Few.f k vk s l p = some b ∧ (b = true → FewV s l p) :=
  few_l0 vk s l p 31 k 0 (by omega) (by omega) (fun j _ h => by omega)
end
theorem evOf_l0 (T : List ByteArray) (m : Nat) (hT : T.length = 2 * m) (hm : m ≤ 300000) (vk : Int) (s : ByteArray) (d : Nat) : ∀ i, i + d = m → Ev (fun k => phalaroperef08_Of.l0 k T ((2 * i : Nat) : Int) vk s ((List.range i).map fun j => ⟨X.gAt T (2 * j), X.gAt T (2 * j + 1)⟩)) (vk, s, [], pairsOf T, true) := by
  induction d with
  | zero =>
    intro i hi
    refine Ev.step (f := fun _ => some (vk, s, [], pairsOf T, true)) (fun k => ?_) (Ev.now _)
    simp only [phalaroperef08_Of.l0]
    rw [hT, if_neg (by unfold wrap64; omega)]
    unfold pairsOf
    rw [show T.length / 2 = i from by omega]
  | succ d ih =>
    intro i hi
    refine Ev.step (fun k => ?_) (ih (i + 1) (by omega))
    have e1 : wrap64 (((2 * i : Nat) : Int) + 1) = ((2 * i + 1 : Nat) : Int) := by unfold wrap64; omega
    have e2 : wrap64 (((2 * i : Nat) : Int) + 2) = ((2 * (i + 1) : Nat) : Int) := by unfold wrap64; omega
    simp only [phalaroperef08_Of.l0]
    rw [hT, e1, e2, if_pos (by omega), if_pos (by omega), if_pos (by omega), if_pos (by omega), if_pos (by rw [List.length_map, List.length_range]; omega), rdOf_at T _ (by omega), rdOf_at T _ (by omega)]
    congr 1
    rw [List.range_succ, List.map_append, List.map_singleton, gAt_get T _ (by omega), gAt_get T _ (by omega)]
theorem evOf (vk : Int) (T : List ByteArray) (hT : T.length ≤ 300000) : Ev (fun k => phalaroperef08_Of.f k vk T) (ofV vk T) := by
  unfold ofV
  have z2 : Ev (fun k => phalaroperef08_Of.j2 k T true vk ⟨#[]⟩) (0, ⟨#[]⟩, [], [], false) := Ev.step (f := fun _ => some (0, ⟨#[]⟩, [], [], false)) (fun k => by simp only [phalaroperef08_Of.j2]; rfl) (Ev.now _)
  have j1 : ¬ (vk = 2 ∧ 0 < T.length) → Ev (fun k => phalaroperef08_Of.j1 k vk T false vk ⟨#[]⟩) (if vk = 3 ∧ 0 < T.length ∧ T.length % 2 = 0 then (3, ⟨#[]⟩, [], pairsOf T, true) else (0, ⟨#[]⟩, [], [], false)) := fun n2 => by
    by_cases h3 : vk = 3
    · by_cases h0 : T.length = 0
      · rw [if_neg (by omega)]
        refine Ev.step (fun k => ?_) z2
        simp only [phalaroperef08_Of.j1]
        rw [if_neg (by decide), if_pos h3, if_pos (by omega)]
      · by_cases ho : T.length % 2 = 0
        · rw [if_pos ⟨h3, by omega, ho⟩]
          refine Ev.step (f := fun k => phalaroperef08_Of.j2 k T false vk ⟨#[]⟩) (fun k => ?_) (Ev.step (f := fun k => phalaroperef08_Of.l0 k T 0 vk ⟨#[]⟩ []) (fun k => ?_) ?_)
          · simp only [phalaroperef08_Of.j1]
            rw [if_neg (by decide), if_pos h3, if_neg (by omega), show (((T.length : Int) % 2) == 1) = false from by rw [beq_eq_false_iff_ne]; omega]
          · simp only [phalaroperef08_Of.j2]
            rw [if_neg (by decide)]
          · have := evOf_l0 T (T.length / 2) (by omega) (by omega) vk ⟨#[]⟩ (T.length / 2) 0 (by omega)
            rw [h3] at this ⊢
            exact this
        · rw [if_neg (by omega)]
          refine Ev.step (fun k => ?_) z2
          simp only [phalaroperef08_Of.j1]
          rw [if_neg (by decide), if_pos h3, if_neg (by omega), show (((T.length : Int) % 2) == 1) = true from by rw [beq_iff_eq]; omega]
    · rw [if_neg (fun h => h3 h.1)]
      refine Ev.step (fun k => ?_) z2
      simp only [phalaroperef08_Of.j1]
      rw [if_neg (by decide), if_neg h3]
  have j0 : ¬ (vk = 1 ∧ T.length = 1) → Ev (fun k => phalaroperef08_Of.j0 k vk T false vk ⟨#[]⟩) (if vk = 2 ∧ 0 < T.length then (2, ⟨#[]⟩, T, [], true) else if vk = 3 ∧ 0 < T.length ∧ T.length % 2 = 0 then (3, ⟨#[]⟩, [], pairsOf T, true) else (0, ⟨#[]⟩, [], [], false)) := fun n1 => by
    by_cases h2 : vk = 2
    · by_cases h0 : 0 < T.length
      · rw [if_pos ⟨h2, h0⟩]
        refine Ev.step (f := fun k => phalaroperef08_Of.j1 k vk T true vk ⟨#[]⟩) (fun k => ?_) (Ev.step (f := fun _ => some (2, ⟨#[]⟩, T, [], true)) (fun k => ?_) (Ev.now _))
        · simp only [phalaroperef08_Of.j0]
          rw [if_neg (by decide), if_pos h2, decide_eq_true (by omega)]
        · simp only [phalaroperef08_Of.j1, if_true, Option.bind_some, List.nil_append, List.length_nil]
          rw [if_pos (by omega), h2]
      · rw [if_neg (fun h => h0 h.2)]
        refine Ev.step (fun k => ?_) (j1 (fun h => h0 h.2))
        simp only [phalaroperef08_Of.j0]
        rw [if_neg (by decide), if_pos h2, decide_eq_false (by omega)]
    · rw [if_neg (fun h => h2 h.1)]
      refine Ev.step (fun k => ?_) (j1 (fun h => h2 h.1))
      simp only [phalaroperef08_Of.j0]
      rw [if_neg (by decide), if_neg h2]
  by_cases h1 : vk = 1
  · by_cases hl : T.length = 1
    · rw [if_pos ⟨h1, hl⟩]
      refine Ev.congr (f := fun k => phalaroperef08_Of.j0 k vk T true vk ⟨#[]⟩) (fun k => ?_) (Ev.step (f := fun _ => some (1, X.gAt T 0, [], [], true)) (fun k => ?_) (Ev.now _))
      · unfold phalaroperef08_Of.f
        rw [if_pos h1, show ((T.length : Int) == 1) = true from by rw [beq_iff_eq]; omega]
      · simp only [phalaroperef08_Of.j0, if_true]
        rw [if_pos (by omega), h1, gAt_get T 0 (by omega)]
        have := rdOf_at T 0 (by omega)
        rw [show ((0 : Nat) : Int) = 0 from rfl] at this
        rw [this]
    · rw [if_neg (fun h => hl h.2)]
      refine Ev.congr (fun k => ?_) (j0 (fun h => hl h.2))
      unfold phalaroperef08_Of.f
      rw [if_pos h1, show ((T.length : Int) == 1) = false from by rw [beq_eq_false_iff_ne]; omega]
  · rw [if_neg (fun h => h1 h.1)]
    refine Ev.congr (fun k => ?_) (j0 (fun h => h1 h.1))
    unfold phalaroperef08_Of.f
    rw [if_neg h1]
theorem evTexts (v : S28) (hm : modest v) : Ev (fun k => phalaroperef08_Texts.f k v.f0 v.f1 v.f2 v.f3) (textsOf v) := ⟨v.f2.length + v.f3.length + 11, fun k hk => rtexts_f v.f0 v.f1 v.f2 v.f3 k hm (by omega)⟩
theorem texts_len {v : S28} (hm : modest v) : (textsOf v).length ≤ 200000 := by
  obtain ⟨_, hl, hp, _, _⟩ := hm
  unfold textsOf
  split
  · simp
  · split
    · omega
    · split
      · rw [flat_len]; omega
      · simp
theorem evCanon (v : S28) (hm : modest v) : Ev (fun k => phalaroperef08_Canon.f k v.f0 v.f1 v.f2 v.f3) ((canonS v).f0, (canonS v).f1, (canonS v).f2, (canonS v).f3) := by
  refine Ev.congr (f := fun k => (phalaroperef08_Texts.f k v.f0 v.f1 v.f2 v.f3).bind fun t => (phalaroperef08_Of.f k v.f0 t).bind fun bt => some (bt.1, bt.2.1, bt.2.2.1, bt.2.2.2.1)) (fun k => rfl) (Ev.bind (evTexts v hm) (Ev.bind (evOf v.f0 (textsOf v) (by have := texts_len hm; omega)) (Ev.now _)))
theorem canon_kind (v : S28) : ((canonS v).f0 != 0) = defS v := by
  rw [canonS_eq]
  unfold defS textsOf
  by_cases h1 : v.f0 = 1
  · simp [h1]
  · by_cases h2 : v.f0 = 2
    · by_cases h : 0 < v.f2.length
      · simp [h2, h]
      · simp [h2, h]
    · by_cases h3 : v.f0 = 3
      · have := flat_len v.f3
        by_cases h : 0 < v.f3.length
        · rw [if_neg h1, if_neg (fun h => h2 h.1), if_pos ⟨h3, h⟩, if_neg h1, if_neg h2, if_pos h3, this, decide_eq_true (by omega)]; rfl
        · rw [if_neg h1, if_neg (fun h => h2 h.1), if_neg (fun h' => h h'.2), if_neg h1, if_neg h2, if_pos h3, this, decide_eq_false (by omega)]; rfl
      · simp [h1, h2, h3]
theorem canon_undef {v : S28} (h : defS v = false) : canonS v = z28 := by
  have hk := canon_kind v
  rw [h] at hk
  rw [canonS_eq] at hk ⊢
  split at hk
  · simp at hk
  · split at hk
    · simp at hk
    · split at hk
      · simp at hk
      · rename_i a b c
        rw [if_neg a, if_neg b, if_neg c]; rfl
theorem str_eq {a b : ByteArray} : a.toList = b.toList ↔ a.data.toList = b.data.toList := by rw [ByteArray.toList_eq, ByteArray.toList_eq]
theorem evGet_l0 (l : List S38) (hm : modestB l) (nm : ByteArray) (d : Nat) : ∀ i : Nat, i + d = l.length → (∀ j (h : j < l.length), j < i → l[j].f0.data.toList ≠ nm.data.toList) → Ev (fun k => phalaroperef09_Get.l0 k l nm (i : Int)) (getT l nm) := by
  induction d with
  | zero =>
    intro i hi hn
    refine Ev.step (f := fun _ => some (0, ⟨#[]⟩, [], [], false)) (fun k => ?_) ?_
    · simp only [phalaroperef09_Get.l0]
      rw [if_neg (by omega)]
    · have : getL l nm.data.toList = none := by
        unfold getL
        rw [List.find?_eq_none.2 (fun x hx => by
          obtain ⟨j, hj, rfl⟩ := List.getElem_of_mem hx
          simpa using hn j hj (by omega))]
        rfl
      unfold getT
      rw [this]
      exact Ev.now _
  | succ d ih =>
    intro i hi hn
    have hlt : i < l.length := by omega
    by_cases he : l[i].f0.toList = nm.toList
    · refine Ev.step (f := fun k => (phalaroperef08_Canon.f k l[i].f1.f0 l[i].f1.f1 l[i].f1.f2 l[i].f1.f3).bind fun bt => some (bt.1, bt.2.1, bt.2.2.1, bt.2.2.2, (bt.1 != 0))) (fun k => ?_) ?_
      · simp only [phalaroperef09_Get.l0]
        rw [if_pos (by omega), if_pos (by omega), rdb_at l i hlt, if_pos he]
      · have hf : l.find? (fun x => x.f0.data.toList == nm.data.toList) = some l[i] := by
          rw [List.find?_eq_some_iff_getElem]
          exact ⟨by simpa using str_eq.1 he, i, hlt, rfl, fun j hj => by simpa using hn j (by omega) hj⟩
        have hg : getT l nm = ((canonS l[i].f1).f0, (canonS l[i].f1).f1, (canonS l[i].f1).f2, (canonS l[i].f1).f3, ((canonS l[i].f1).f0 != 0)) := by
          unfold getT getL
          rw [hf, canon_kind]
          simp only [Option.bind_some]
          cases hd : defS l[i].f1 with
          | true => rfl
          | false => rw [canon_undef hd]; rfl
        rw [hg]
        exact Ev.bind (evCanon l[i].f1 (hm.2 _ (List.getElem_mem hlt)).2) (Ev.now _)
    · refine Ev.step (fun k => ?_) (ih (i + 1) (by omega) (fun j hj hji => by
        rcases Nat.lt_or_ge j i with h | h
        · exact hn j hj h
        · obtain rfl : j = i := by omega
          exact fun h => he (str_eq.2 h)))
      simp only [phalaroperef09_Get.l0]
      rw [if_pos (by omega), if_pos (by omega), rdb_at l i hlt, if_neg he, w1 i (by have := hm.1; omega)]
theorem evGet (l : List S38) (hm : modestB l) (nm : ByteArray) : Ev (fun k => phalaroperef09_Get.f k l nm) (getT l nm) := evGet_l0 l hm nm l.length 0 (by omega) (fun j _ h => by omega)
theorem evTexts05_l0 (a b : List ByteArray) (hl : a.length = b.length) (ha : a.length ≤ 1000000) (d : Nat) : ∀ i : Nat, i + d = a.length → a.take i = b.take i → Ev (fun k => phalaroperef05_Texts.l0 k a b (i : Int)) (decide (a = b)) := by
  induction d with
  | zero =>
    intro i hi ht
    refine Ev.step (f := fun _ => some true) (fun k => ?_) ?_
    · simp only [phalaroperef05_Texts.l0]
      rw [if_neg (by omega)]
    · rw [List.take_of_length_le (by omega), List.take_of_length_le (by omega)] at ht
      rw [decide_eq_true ht]
      exact Ev.now _
  | succ d ih =>
    intro i hi ht
    by_cases he : a[i].toList = b[i].toList
    · refine Ev.step (fun k => ?_) (ih (i + 1) (by omega) (by
        rw [List.take_succ_eq_append_getElem (by omega), List.take_succ_eq_append_getElem (by omega), ht, show a[i] = b[i] from ByteArray.ext (Array.ext' (str_eq.1 he))]))
      simp only [phalaroperef05_Texts.l0]
      rw [if_pos (by omega), if_pos (by omega), if_pos (by omega), rdOf_at a i (by omega), rdOf_at b i (by omega), if_pos he, w1 i (by omega)]
    · refine Ev.step (f := fun _ => some false) (fun k => ?_) ?_
      · simp only [phalaroperef05_Texts.l0]
        rw [if_pos (by omega), if_pos (by omega), if_pos (by omega), rdOf_at a i (by omega), rdOf_at b i (by omega), if_neg he]
      · rw [decide_eq_false (fun h => he (by subst h; rfl))]
        exact Ev.now _
theorem evTexts05 (a b : List ByteArray) (ha : a.length ≤ 1000000) : Ev (fun k => phalaroperef05_Texts.f k a b) (decide (a = b)) := by
  by_cases hl : a.length = b.length
  · refine Ev.congr (fun k => ?_) (evTexts05_l0 a b hl ha a.length 0 (by omega) (by simp))
    unfold phalaroperef05_Texts.f
    rw [if_pos (by omega)]; rfl
  · refine Ev.congr (f := fun _ => some false) (fun k => ?_) ?_
    · unfold phalaroperef05_Texts.f
      rw [if_neg (by omega)]
    · rw [decide_eq_false (fun h => hl (by rw [h]))]
      exact Ev.now _
theorem evVery_l0 (a b : S28) (hl : a.f3.length = b.f3.length) (ha : a.f3.length ≤ 1000000) (ha2 : a.f2.length ≤ 1000000) (d : Nat) : ∀ i : Nat, i + d = a.f3.length → a.f3.take i = b.f3.take i → Ev (fun k => phalaroperef08_Very.l0 k (i : Int) a.f0 a.f1 a.f2 a.f3 b.f0 b.f1 b.f2 b.f3) (decide (a = b)) := by
  induction d with
  | zero =>
    intro i hi ht
    rw [List.take_of_length_le (by omega), List.take_of_length_le (by omega)] at ht
    by_cases h0 : a.f0 = b.f0
    · by_cases h1 : a.f1.toList = b.f1.toList
      · refine Ev.step (f := fun k => (phalaroperef05_Texts.f k a.f2 b.f2).bind fun t => some t) (fun k => ?_) ?_
        · simp only [phalaroperef08_Very.l0]
          rw [if_neg (by omega), if_pos h0, if_pos h1]
        · have e : decide (a = b) = decide (a.f2 = b.f2) := by
            rw [Bool.eq_iff_iff, decide_eq_true_iff, decide_eq_true_iff]
            constructor
            · rintro rfl; rfl
            · intro h2
              have h1' : a.f1 = b.f1 := ByteArray.ext (Array.ext' (str_eq.1 h1))
              cases a; cases b; simp_all
          rw [e]
          exact Ev.bind (evTexts05 a.f2 b.f2 ha2) (Ev.now _)
      · refine Ev.step (f := fun _ => some false) (fun k => ?_) ?_
        · simp only [phalaroperef08_Very.l0]
          rw [if_neg (by omega), if_pos h0, if_neg h1]
        · rw [decide_eq_false (fun h => h1 (by rw [h]))]
          exact Ev.now _
    · refine Ev.step (f := fun _ => some false) (fun k => ?_) ?_
      · simp only [phalaroperef08_Very.l0]
        rw [if_neg (by omega), if_neg h0]
      · rw [decide_eq_false (fun h => h0 (by rw [h]))]
        exact Ev.now _
  | succ d ih =>
    intro i hi ht
    by_cases he : a.f3[i].f0.toList = b.f3[i].f0.toList ∧ a.f3[i].f1.toList = b.f3[i].f1.toList
    · have hp : a.f3[i] = b.f3[i] := by
        have e0 : a.f3[i].f0 = b.f3[i].f0 := ByteArray.ext (Array.ext' (str_eq.1 he.1))
        have e1 : a.f3[i].f1 = b.f3[i].f1 := ByteArray.ext (Array.ext' (str_eq.1 he.2))
        rcases hx : a.f3[i] with ⟨x0, x1⟩
        rcases hy : b.f3[i] with ⟨y0, y1⟩
        rw [hx, hy] at e0 e1
        dsimp only at e0 e1
        rw [e0, e1]
      refine Ev.step (fun k => ?_) (ih (i + 1) (by omega) (by
        rw [List.take_succ_eq_append_getElem (by omega), List.take_succ_eq_append_getElem (by omega), ht, hp]))
      simp only [phalaroperef08_Very.l0]
      rw [if_pos (by omega), if_pos (by omega), if_pos (by omega), rd_at a.f3 i (by omega), rd_at b.f3 i (by omega), if_neg (by simp [he.1, he.2]), w1 i (by omega)]
    · refine Ev.step (f := fun _ => some false) (fun k => ?_) ?_
      · simp only [phalaroperef08_Very.l0]
        rw [if_pos (by omega), if_pos (by omega), if_pos (by omega), rd_at a.f3 i (by omega), rd_at b.f3 i (by omega), if_pos (by
          by_cases h0 : a.f3[i].f0.toList = b.f3[i].f0.toList
          · have h1 : ¬ a.f3[i].f1.toList = b.f3[i].f1.toList := fun h => he ⟨h0, h⟩
            simp [h0, h1]
          · simp [h0])]
      · rw [decide_eq_false (fun h => he (by subst h; exact ⟨rfl, rfl⟩))]
        exact Ev.now _
theorem evVery (a b : S28) (ha : a.f3.length ≤ 1000000) (ha2 : a.f2.length ≤ 1000000) : Ev (fun k => phalaroperef08_Very.f k a.f0 a.f1 a.f2 a.f3 b.f0 b.f1 b.f2 b.f3) (decide (a = b)) := by
  by_cases hl : a.f3.length = b.f3.length
  · refine Ev.congr (fun k => ?_) (evVery_l0 a b hl ha ha2 a.f3.length 0 (by omega) (by simp))
    unfold phalaroperef08_Very.f
    rw [if_pos (by omega)]; rfl
  · refine Ev.congr (f := fun _ => some false) (fun k => ?_) ?_
    · unfold phalaroperef08_Very.f
      rw [if_neg (by omega)]
    · rw [decide_eq_false (fun h => hl (by rw [h]))]
      exact Ev.now _
def hasN (l : List ByteArray) (nm : ByteArray) : Bool := l.any fun y => y.toList == nm.toList
theorem rhas_l0 (l : List ByteArray) (nm : ByteArray) (hl : l.length ≤ 1000000) (d : Nat) : ∀ k i : Nat, i + d = l.length → d < k → phalaroperef07_Has.l0 k l nm (i : Int) = some (hasN (l.drop i) nm) := by
  induction d with
  | zero =>
    intro k i hi hk
    obtain ⟨k, rfl⟩ : ∃ m, k = m + 1 := ⟨k - 1, by omega⟩
    simp only [phalaroperef07_Has.l0]
    rw [if_neg (by omega), List.drop_eq_nil_iff.2 (by omega)]
    rfl
  | succ d ih =>
    intro k i hi hk
    obtain ⟨k, rfl⟩ : ∃ m, k = m + 1 := ⟨k - 1, by omega⟩
    have hlt : i < l.length := by omega
    simp only [phalaroperef07_Has.l0]
    rw [if_pos (by omega), if_pos (by omega), rdOf_at l i hlt, w1 i (by omega), ih k (i + 1) (by omega) (by omega), List.drop_eq_getElem_cons hlt]
    unfold hasN
    rw [List.any_cons]
    by_cases h : l[i].toList = nm.toList
    · rw [if_pos h, beq_iff_eq.2 h]; rfl
    · rw [if_neg h, beq_eq_false_iff_ne.2 h]; rfl
theorem evHas (l : List ByteArray) (nm : ByteArray) (hl : l.length ≤ 1000000) : Ev (fun k => phalaroperef07_Has.f k l nm) (hasN l nm) := ⟨l.length + 1, fun k hk => rhas_l0 l nm hl l.length k 0 (by omega) (by omega)⟩
def FewB (l : List S38) : Prop := l.length ≤ 20 ∧ ∀ x ∈ l, x.f0.size ≤ 200 ∧ FewV x.f1.f1 x.f1.f2 x.f1.f3
theorem FewB.modest {l : List S38} (h : FewB l) : modestB l := ⟨by have := h.1; omega, fun x hx => ⟨by have := (h.2 x hx).1; omega, (h.2 x hx).2.modest⟩⟩
theorem evFew_l0 (l : List S38) (d : Nat) : ∀ i : Nat, i + d = 21 → (∀ j (h : j < l.length), j < i → l[j].f0.size ≤ 200 ∧ FewV l[j].f1.f1 l[j].f1.f2 l[j].f1.f3) → ∃ b, Ev (fun k => phalaroperef09_Few.l0 k l (i : Int)) b ∧ (b = true → FewB l) := by
  have fin : ∀ i : Nat, ¬ ((i : Int) < l.length ∧ i < 21) → i ≤ 21 → (∀ j (h : j < l.length), j < i → l[j].f0.size ≤ 200 ∧ FewV l[j].f1.f1 l[j].f1.f2 l[j].f1.f3) → ∃ b, Ev (fun k => phalaroperef09_Few.l0 k l (i : Int)) b ∧ (b = true → FewB l) := fun i hi h21 hn => by
    refine ⟨decide ((l.length : Int) ≤ 20), Ev.step (f := fun k => phalaroperef09_Few.j1 k l (i : Int) false) (fun k => ?_) (Ev.step (f := fun _ => some (decide ((l.length : Int) ≤ 20))) (fun k => ?_) (Ev.now _)), fun h => ?_⟩
    · simp only [phalaroperef09_Few.l0]
      by_cases hl : (i : Int) < l.length
      · rw [if_pos hl, decide_eq_false (by omega)]
      · rw [if_neg hl]
    · simp only [phalaroperef09_Few.j1]
      rw [if_neg (by decide)]
    · rw [decide_eq_true_iff] at h
      refine ⟨by omega, fun x hx => ?_⟩
      obtain ⟨j, hj, rfl⟩ := List.getElem_of_mem hx
      exact hn j hj (by omega)
  induction d with
  | zero => intro i hi hn; exact fin i (by omega) (by omega) hn
  | succ d ih =>
    intro i hi hn
    by_cases hl : (i : Int) < l.length
    · have hlt : i < l.length := by omega
      have s1 : ∀ k, phalaroperef09_Few.l0 (k + 1) l (i : Int) = phalaroperef09_Few.j1 k l (i : Int) true := fun k => by
        simp only [phalaroperef09_Few.l0]
        rw [if_pos hl, decide_eq_true (by omega)]
      by_cases hs : ((l[i].f0).size : Int) > 200
      · refine ⟨false, Ev.step s1 (Ev.step (f := fun _ => some false) (fun k => ?_) (Ev.now _)), fun h => by cases h⟩
        simp only [phalaroperef09_Few.j1, if_true]
        rw [if_pos (by omega), if_pos hl, rdb_at l i hlt, if_pos hs]
      · obtain ⟨b, hb, hfv⟩ := few_f l[i].f1.f0 l[i].f1.f1 l[i].f1.f2 l[i].f1.f3 201 (by omega)
        have eb : Ev (fun k => phalaroperef08_Few.f k l[i].f1.f0 l[i].f1.f1 l[i].f1.f2 l[i].f1.f3) b := Ev.of (fun k => phalaroperef08_Few.mono _ _ _ _ _) hb
        cases b with
        | false =>
          refine ⟨false, Ev.step s1 (Ev.step (f := fun k => (phalaroperef08_Few.f k l[i].f1.f0 l[i].f1.f1 l[i].f1.f2 l[i].f1.f3).bind fun t => if t = true then phalaroperef09_Few.l0 k l ((i + 1 : Nat) : Int) else some false) (fun k => ?_) (Ev.bind eb (Ev.now _))), fun h => by cases h⟩
          simp only [phalaroperef09_Few.j1, if_true]
          rw [if_pos (by omega), if_pos hl, rdb_at l i hlt, if_neg hs, w1 i (by omega)]
        | true =>
          obtain ⟨b, h1, h2⟩ := ih (i + 1) (by omega) (fun j hj hji => by
            rcases Nat.lt_or_ge j i with h | h
            · exact hn j hj h
            · obtain rfl : j = i := by omega
              exact ⟨by omega, hfv rfl⟩)
          refine ⟨b, Ev.step s1 (Ev.step (f := fun k => (phalaroperef08_Few.f k l[i].f1.f0 l[i].f1.f1 l[i].f1.f2 l[i].f1.f3).bind fun t => if t = true then phalaroperef09_Few.l0 k l ((i + 1 : Nat) : Int) else some false) (fun k => ?_) (Ev.bind eb h1)), h2⟩
          simp only [phalaroperef09_Few.j1, if_true]
          rw [if_pos (by omega), if_pos hl, rdb_at l i hlt, if_neg hs, w1 i (by omega)]
    · exact fin i (by omega) (by omega) hn
theorem evFew (l : List S38) : ∃ b, Ev (fun k => phalaroperef09_Few.f k l) b ∧ (b = true → FewB l) := evFew_l0 l 21 0 (by omega) (fun j _ h => by omega)
end Go.Proofs.Ytfaiplbogchgjaa.PA
end
