/- Texts of this claim, those that nothing needs left out: PAx3. -/
import Derived.Test.YtacnflelkpkbhaaMtG3
import Derived.Test.YtacnflelkpkbhaaMtG5
section
namespace Go.Proofs.Ytacnflelkpkbhaa.PA
open Go.RowKit Go.Proofs.YtacnflelkpkbhaaW.PrintWords Go.Proofs.YtacnflelkpkbhaaW.PrintLast Go.Proofs.YtacnflelkpkbhaaW.PrintMore
attribute [local go_sem] max2_int min2_int max_two min_two max_three min_three max_four min_four   -- for this text's walks alone
set_option linter.unusedVariables false
set_option linter.unusedSimpArgs false
mutual
def phalaroperef16_May.l0 : Nat → List (S46) → Int → Option (Bool)
  | 0, _, _ => none
  | k + 1, x0, x3 => if x3 < (x0.length : Int) then (phalaroperef16_May.j1 k x0 x3 (decide (x3 < 100001))) else (phalaroperef16_May.j1 k x0 x3 false)
def phalaroperef16_May.j1 : Nat → List (S46) → Int → Bool → Option (Bool)
  | 0, _, _, _ => none
  | k + 1, x0, x3, x13 => if x13 = true then (if 0 ≤ x3 then (if x3 < (x0.length : Int) then (if ((rd_T46 x0 x3).f0) < 1 then (phalaroperef16_May.j2 k x0 x3 true ((rd_T46 x0 x3).f0) ((rd_T46 x0 x3).f1) ((rd_T46 x0 x3).f2) ((rd_T46 x0 x3).f3) ((rd_T46 x0 x3).f4)) else (if ((rd_T46 x0 x3).f0) > 4 then (phalaroperef16_May.j2 k x0 x3 true ((rd_T46 x0 x3).f0) ((rd_T46 x0 x3).f1) ((rd_T46 x0 x3).f2) ((rd_T46 x0 x3).f3) ((rd_T46 x0 x3).f4)) else (if ((rd_T46 x0 x3).f0) = 1 then ((phalaroperef16_eater.f k ((rd_T46 x0 x3).f0) ((rd_T46 x0 x3).f1) ((rd_T46 x0 x3).f2) ((rd_T46 x0 x3).f3) ((rd_T46 x0 x3).f4) (x0.length : Int)).bind fun t110 => (phalaroperef16_May.j2 k x0 x3 (!t110) ((rd_T46 x0 x3).f0) ((rd_T46 x0 x3).f1) ((rd_T46 x0 x3).f2) ((rd_T46 x0 x3).f3) ((rd_T46 x0 x3).f4))) else (if (((rd_T46 x0 x3).f1).length : Int) > 0 then (phalaroperef16_May.j2 k x0 x3 true ((rd_T46 x0 x3).f0) ((rd_T46 x0 x3).f1) ((rd_T46 x0 x3).f2) ((rd_T46 x0 x3).f3) ((rd_T46 x0 x3).f4)) else (phalaroperef16_May.j2 k x0 x3 false ((rd_T46 x0 x3).f0) ((rd_T46 x0 x3).f1) ((rd_T46 x0 x3).f2) ((rd_T46 x0 x3).f3) ((rd_T46 x0 x3).f4)))))) else (none)) else (none)) else (if (x0.length : Int) ≥ 1 then (some (decide ((x0.length : Int) ≤ 100000))) else (some false))
def phalaroperef16_May.j2 : Nat → List (S46) → Int → Bool → Int → List (S50) → List Int → Int → Int → Option (Bool)
  | 0, _, _, _, _, _, _, _, _ => none
  | k + 1, x0, x3, x50, x110000, x110001, x110002, x110003, x110004 => if x50 = true then (some false) else (phalaroperef16_May.l1 k x0 x3 0 x110000 x110001 x110002 x110003 x110004)
def phalaroperef16_May.l1 : Nat → List (S46) → Int → Int → Int → List (S50) → List Int → Int → Int → Option (Bool)
  | 0, _, _, _, _, _, _, _, _ => none
  | k + 1, x0, x3, x5, x110000, x110001, x110002, x110003, x110004 => if x5 < (x110002.length : Int) then (if x110000 = 2 then (if 0 ≤ x5 then (if (rd x110002 x5) ≤ x3 then (some false) else (if (rd x110002 x5) ≥ (x0.length : Int) then (some false) else (phalaroperef16_May.l1 k x0 x3 (wrap64 (x5 + 1)) x110000 x110001 x110002 x110003 x110004))) else (none)) else (some false)) else (if x110000 = 3 then (if x110004 ≤ x3 then (some false) else (if x110004 ≥ (x0.length : Int) then (some false) else (phalaroperef16_May.l0 k x0 (wrap64 (x3 + 1))))) else (if x110004 = 0 then (phalaroperef16_May.l0 k x0 (wrap64 (x3 + 1))) else (some false)))
end
def phalaroperef16_May.f (k : Nat) (l0 : List (S46)) : Option (Bool) := phalaroperef16_May.l0 k l0 0
set_option maxHeartbeats 8000000 in
set_option maxRecDepth 100000 in
theorem phalaroperef16_May.calls (k : Nat) (A0 : Option Addr) (c0 : Nat) (l0 : List (S46)) (r : Bool) (w : World) (hr0 : Kd.C k46 w A0 l0.length l0) (hc0 : l0.length ≤ c0) (h : phalaroperef16_May.f k l0 = some r) :
    Calls Try.prog 11 #[.slice A0 l0.length c0] w fun e w' => e = .returned (.bool r) ∧ Below w.heap.size w w' := by
  have hu46 := Try.underlying46
  have HR0 := Aside0.mk hr0
  have HC0 := Aside0.mk hc0
  clear hr0 hc0
  have HB := Aside0.mk (Below.refl w.heap.size w)
  have H : (phalaroperef16_May.l0 k l0 0) = some r := h
  clear h
  have H' := Aside0.mk H
  clear H
  go_enter Try.func11, Try.ntmps11
  go_wp2
  go_loopg [3] k (fun kq v3 w' => ∃ (x3_1 : Int), v3 = .int .i64 x3_1 ∧ Aside0 (phalaroperef16_May.l0 kq l0 x3_1 = some r) ∧ Aside0 (kq ≤ k) ∧ Aside0 (Below w.heap.size w w'))
  case atStart => exact ⟨(0), (by first | rfl | (simp; done) | (simp [*]; done)), H', ⟨Nat.le_refl _⟩, ⟨by repeat (first | (with_reducible first | exact HB.out | apply below_alloc | apply pw_below_drewN | apply below_drew1) | exact HB.out)⟩⟩
  case round =>
    clear H'
    try clear c1
    obtain ⟨x3_1, rfl, HA, HK1, HB⟩ := hrel
    cases gk with
    | zero => exact absurd HA.out (by simp [phalaroperef16_May.l0])
    | succ k1 =>
      have H := HA.out
      clear HA
      simp only [phalaroperef16_May.l0] at H
      have HC2 := Aside0.mk H
      clear H
      go_upto_region 2 with (fail)
      go_cut [13] (fun v13 wc => ∃ (kq : Nat) (x13_1 : Bool), v13 = .bool x13_1 ∧ Aside0 (phalaroperef16_May.j1 kq l0 x3_1 x13_1 = some r) ∧ Aside0 (kq ≤ k1) ∧ Aside0 (Below w.heap.size w wc))
      case first =>
        have H := HC2.out
        clear HC2
        by_cases c3 : x3_1 < (l0.length : Int)
        · rw [if_pos c3] at H
          have c3b0 : decide (x3_1 < (l0.length : Int)) = true := decide_eq_true c3
          clear c3
          (first | rw [c3b0] | (simp only [i64_w, i32_w]; rw [c3b0]) | skip)
          have H' := Aside0.mk H
          clear H
          go_wp2
          go_meet
          case rel => exact ⟨_, (decide (x3_1 < 100001)), (by first | rfl | (simp; done) | (simp [*]; done)), H', ⟨by have := HK1.out; first | omega | exact Nat.le_refl _⟩, ⟨by repeat (first | (with_reducible first | exact HB.out | apply below_alloc | apply pw_below_drewN | apply below_drew1) | exact HB.out)⟩⟩
        · rw [if_neg c3] at H
          have c3b0 : decide (x3_1 < (l0.length : Int)) = false := decide_eq_false c3
          clear c3
          (first | rw [c3b0] | (simp only [i64_w, i32_w]; rw [c3b0]) | skip)
          have H' := Aside0.mk H
          clear H
          go_wp2
          go_meet
          case rel => exact ⟨_, (false), (by first | rfl | (simp; done) | (simp [*]; done)), H', ⟨by have := HK1.out; first | omega | exact Nat.le_refl _⟩, ⟨by repeat (first | (with_reducible first | exact HB.out | apply below_alloc | apply pw_below_drewN | apply below_drew1) | exact HB.out)⟩⟩
      case rest =>
        clear HC2
        try clear c1
        try clear p2
        try clear c3
        try clear c3b0
        obtain ⟨kq, x13_1, rfl, HA, HJ1, HB⟩ := hcut
        cases kq with
        | zero => exact absurd HA.out (by simp [phalaroperef16_May.j1])
        | succ kj1 =>
          have H := HA.out
          clear HA
          simp only [phalaroperef16_May.j1] at H
          by_cases c4 : x13_1 = true
          · subst c4
            have H1 : (if 0 ≤ x3_1 then (if x3_1 < (l0.length : Int) then (if ((rd_T46 l0 x3_1).f0) < 1 then (phalaroperef16_May.j2 kj1 l0 x3_1 true ((rd_T46 l0 x3_1).f0) ((rd_T46 l0 x3_1).f1) ((rd_T46 l0 x3_1).f2) ((rd_T46 l0 x3_1).f3) ((rd_T46 l0 x3_1).f4)) else (if ((rd_T46 l0 x3_1).f0) > 4 then (phalaroperef16_May.j2 kj1 l0 x3_1 true ((rd_T46 l0 x3_1).f0) ((rd_T46 l0 x3_1).f1) ((rd_T46 l0 x3_1).f2) ((rd_T46 l0 x3_1).f3) ((rd_T46 l0 x3_1).f4)) else (if ((rd_T46 l0 x3_1).f0) = 1 then ((phalaroperef16_eater.f kj1 ((rd_T46 l0 x3_1).f0) ((rd_T46 l0 x3_1).f1) ((rd_T46 l0 x3_1).f2) ((rd_T46 l0 x3_1).f3) ((rd_T46 l0 x3_1).f4) (l0.length : Int)).bind fun t110 => (phalaroperef16_May.j2 kj1 l0 x3_1 (!t110) ((rd_T46 l0 x3_1).f0) ((rd_T46 l0 x3_1).f1) ((rd_T46 l0 x3_1).f2) ((rd_T46 l0 x3_1).f3) ((rd_T46 l0 x3_1).f4))) else (if (((rd_T46 l0 x3_1).f1).length : Int) > 0 then (phalaroperef16_May.j2 kj1 l0 x3_1 true ((rd_T46 l0 x3_1).f0) ((rd_T46 l0 x3_1).f1) ((rd_T46 l0 x3_1).f2) ((rd_T46 l0 x3_1).f3) ((rd_T46 l0 x3_1).f4)) else (phalaroperef16_May.j2 kj1 l0 x3_1 false ((rd_T46 l0 x3_1).f0) ((rd_T46 l0 x3_1).f1) ((rd_T46 l0 x3_1).f2) ((rd_T46 l0 x3_1).f3) ((rd_T46 l0 x3_1).f4)))))) else (none)) else (none)) = some r := by rw [if_pos rfl] at H; exact H
            clear H
            have H := H1
            clear H1
            by_cases c5 : 0 ≤ x3_1
            · rw [if_pos c5] at H
              have c5b0 : decide (0 ≤ x3_1) = true := decide_eq_true c5
              clear c5
              by_cases c6 : x3_1 < (l0.length : Int)
              · rw [if_pos c6] at H
                have c6b0 : decide (x3_1 < (l0.length : Int)) = true := decide_eq_true c6
                clear c6
                have HC7 := Aside0.mk H
                clear H
                have p108 : 0 ≤ (x3_1 : Int) := of_decide_eq_true (by first | (with_reducible assumption) | assumption)
                have q108 : x3_1 < (l0.length : Int) := of_decide_eq_true (by first | (with_reducible assumption) | assumption)
                obtain ⟨ad108, A108_1, c108_1, A108_2, c108_2, e108, hx108_0, hx108_1, hx108_2, hx108_3, hx108_4, hl108_1, hi108_1, hl108_2, hi108_2⟩ := at_T46 HR0.out x3_1 p108 q108
                cases e108
                replace hx108_0 := (HB.out.cell (World.block_lt_of_cell? w _ hx108_0)).trans hx108_0
                replace hx108_1 := (HB.out.cell (World.block_lt_of_cell? w _ hx108_1)).trans hx108_1
                replace hx108_2 := (HB.out.cell (World.block_lt_of_cell? w _ hx108_2)).trans hx108_2
                replace hx108_3 := (HB.out.cell (World.block_lt_of_cell? w _ hx108_3)).trans hx108_3
                replace hx108_4 := (HB.out.cell (World.block_lt_of_cell? w _ hx108_4)).trans hx108_4
                have HR108_1 := Aside0.mk hi108_1
                have HC108_1 := Aside0.mk hl108_1
                clear hi108_1 hl108_1
                have HR108_2 := Aside0.mk hi108_2
                have HC108_2 := Aside0.mk hl108_2
                clear hi108_2 hl108_2
                replace p108 := eq_true p108
                replace q108 := eq_true q108
                go_upto_region 5 with (first | ((with_reducible refine gate_dst (N := 4) rfl ?_); (try (refine gate_guard (by rfl) ?_; dsimp only)); refine box_event ?hg (N := 4) ?hd (cs := #[.int .i64 0, .slice none 0 0, .slice none 0 0, .int .i64 0, .int .i64 0]) (t := 46) ?hr ?_; (case hd => rfl); (case hg => rfl); (case hr => first | (go_simp; done) | (go_simp; rfl)); intro gb109 hg w8 hbox hb; have n0_ := Aside0.mk (below_step (by repeat (first | (with_reducible first | exact HB.out | apply below_alloc | apply pw_below_drewN | apply below_drew1) | exact HB.out)) hb); have n1_ := Aside0.mk (hbox); have n2_ := Aside0.mk ((by rw [hg]; exact (below_size (by repeat (first | (with_reducible first | exact HB.out | apply below_alloc | apply pw_below_drewN | apply below_drew1) | exact HB.out))) : w.heap.size ≤ gb109)); have n3_ := Aside0.mk ((by rw [hg]; exact (below_size (by repeat (first | (with_reducible first | exact HB.out | apply below_alloc | apply pw_below_drewN | apply below_drew1) | exact HB.out))) : w.heap.size ≤ gb109)); clear HB; have HB := n0_; have BK109 := n1_; have GW109 := n2_; have GE109 := n3_; clear n0_ n1_ n2_ n3_; clear hb hbox hg; have hcz9_0 : w8.cell? ⟨gb109, 0, none⟩ = some (.int .i64 0) := (blk_cell BK109.out 0).trans rfl; have hcz9_1 : w8.cell? ⟨gb109, 1, none⟩ = some (.slice none 0 0) := (blk_cell BK109.out 1).trans rfl; have hcz9_2 : w8.cell? ⟨gb109, 2, none⟩ = some (.slice none 0 0) := (blk_cell BK109.out 2).trans rfl; have hcz9_3 : w8.cell? ⟨gb109, 3, none⟩ = some (.int .i64 0) := (blk_cell BK109.out 3).trans rfl; have hcz9_4 : w8.cell? ⟨gb109, 4, none⟩ = some (.int .i64 0) := (blk_cell BK109.out 4).trans rfl; have hfz9_0 := blk_frozen BK109.out 0; have hfz9_1 := blk_frozen BK109.out 1; have hfz9_2 := blk_frozen BK109.out 2; have hfz9_3 := blk_frozen BK109.out 3; have hfz9_4 := blk_frozen BK109.out 4))
                (try simp only [Act.put, List.setIfInBounds_toArray, List.set_cons_zero, List.set_cons_succ])
                go_cut [50] (fun v50 wc => ∃ (kq : Nat) (x50_6 : Bool), v50 = .bool x50_6 ∧ Aside0 (phalaroperef16_May.j2 kq l0 x3_1 x50_6 ((rd_T46 l0 x3_1).f0) ((rd_T46 l0 x3_1).f1) ((rd_T46 l0 x3_1).f2) ((rd_T46 l0 x3_1).f3) ((rd_T46 l0 x3_1).f4) = some r) ∧ Aside0 (kq ≤ kj1) ∧ Aside0 (wc.heap[gb109]? = some (.cells #[.int .i64 ((rd_T46 l0 x3_1).f0), (.slice A108_1 ((rd_T46 l0 x3_1).f1).length c108_1), (.slice A108_2 ((rd_T46 l0 x3_1).f2).length c108_2), .int .i64 ((rd_T46 l0 x3_1).f3), .int .i64 ((rd_T46 l0 x3_1).f4)] 46 (0, 0))) ∧ Aside0 (Below w.heap.size w wc))
                case first =>
                  have H := HC7.out
                  clear HC7
                  by_cases c10 : ((rd_T46 l0 x3_1).f0) < 1
                  · rw [if_pos c10] at H
                    have c10b0 : decide (((rd_T46 l0 x3_1).f0) < 1) = true := decide_eq_true c10
                    clear c10
                    (first | rw [c10b0] | (simp only [i64_w, i32_w]; rw [c10b0]) | skip)
                    have H' := Aside0.mk H
                    clear H
                    have hcz11_0 : w8.cell? ⟨gb109, 0, none⟩ = some (.int .i64 0) := (blk_cell BK109.out 0).trans rfl
                    have hcz11_1 : w8.cell? ⟨gb109, 1, none⟩ = some (.slice none 0 0) := (blk_cell BK109.out 1).trans rfl
                    have hcz11_2 : w8.cell? ⟨gb109, 2, none⟩ = some (.slice none 0 0) := (blk_cell BK109.out 2).trans rfl
                    have hcz11_3 : w8.cell? ⟨gb109, 3, none⟩ = some (.int .i64 0) := (blk_cell BK109.out 3).trans rfl
                    have hcz11_4 : w8.cell? ⟨gb109, 4, none⟩ = some (.int .i64 0) := (blk_cell BK109.out 4).trans rfl
                    have hfz11_0 := blk_frozen BK109.out 0
                    have hfz11_1 := blk_frozen BK109.out 1
                    have hfz11_2 := blk_frozen BK109.out 2
                    have hfz11_3 := blk_frozen BK109.out 3
                    have hfz11_4 := blk_frozen BK109.out 4
                    go_wp2
                    go_meet
                    case rel => exact ⟨_, (true), (by first | rfl | (simp; done) | (simp [*]; done)), H', ⟨by have := HK1.out; have := HJ1.out; first | omega | exact Nat.le_refl _⟩, ⟨by (with_reducible repeat (first | refine blk_drewN ?_ _ | refine blk_drew ?_ | refine blk_alloc ?_ _)); refine blk_put (cs := #[.int .i64 ((rd_T46 l0 x3_1).f0), .slice A108_1 ((rd_T46 l0 x3_1).f1).length c108_1, .slice A108_2 ((rd_T46 l0 x3_1).f2).length c108_2, .int .i64 ((rd_T46 l0 x3_1).f3), .int .i64 0]) ?_ 4 _ rfl; (with_reducible repeat (first | refine blk_drewN ?_ _ | refine blk_drew ?_ | refine blk_alloc ?_ _)); refine blk_put (cs := #[.int .i64 ((rd_T46 l0 x3_1).f0), .slice A108_1 ((rd_T46 l0 x3_1).f1).length c108_1, .slice A108_2 ((rd_T46 l0 x3_1).f2).length c108_2, .int .i64 0, .int .i64 0]) ?_ 3 _ rfl; (with_reducible repeat (first | refine blk_drewN ?_ _ | refine blk_drew ?_ | refine blk_alloc ?_ _)); refine blk_put (cs := #[.int .i64 ((rd_T46 l0 x3_1).f0), .slice A108_1 ((rd_T46 l0 x3_1).f1).length c108_1, .slice none 0 0, .int .i64 0, .int .i64 0]) ?_ 2 _ rfl; (with_reducible repeat (first | refine blk_drewN ?_ _ | refine blk_drew ?_ | refine blk_alloc ?_ _)); refine blk_put (cs := #[.int .i64 ((rd_T46 l0 x3_1).f0), .slice none 0 0, .slice none 0 0, .int .i64 0, .int .i64 0]) ?_ 1 _ rfl; (with_reducible repeat (first | refine blk_drewN ?_ _ | refine blk_drew ?_ | refine blk_alloc ?_ _)); refine blk_put (cs := #[.int .i64 0, .slice none 0 0, .slice none 0 0, .int .i64 0, .int .i64 0]) ?_ 0 _ rfl; (with_reducible repeat (first | refine blk_drewN ?_ _ | refine blk_drew ?_ | refine blk_alloc ?_ _)); exact BK109.out⟩, ⟨by repeat (first | (with_reducible first | exact HB.out | apply below_alloc | apply pw_below_drewN | apply below_drew1 | refine below_set ?_ GE109.out) | exact HB.out)⟩⟩
                  · rw [if_neg c10] at H
                    have c10b0 : decide (((rd_T46 l0 x3_1).f0) < 1) = false := decide_eq_false c10
                    clear c10
                    (first | rw [c10b0] | (simp only [i64_w, i32_w]; rw [c10b0]) | skip)
                    by_cases c12 : ((rd_T46 l0 x3_1).f0) > 4
                    · rw [if_pos c12] at H
                      have c12b0 : decide (4 < ((rd_T46 l0 x3_1).f0)) = true := decide_eq_true c12
                      clear c12
                      have H' := Aside0.mk H
                      clear H
                      have hcz13_0 : w8.cell? ⟨gb109, 0, none⟩ = some (.int .i64 0) := (blk_cell BK109.out 0).trans rfl
                      have hcz13_1 : w8.cell? ⟨gb109, 1, none⟩ = some (.slice none 0 0) := (blk_cell BK109.out 1).trans rfl
                      have hcz13_2 : w8.cell? ⟨gb109, 2, none⟩ = some (.slice none 0 0) := (blk_cell BK109.out 2).trans rfl
                      have hcz13_3 : w8.cell? ⟨gb109, 3, none⟩ = some (.int .i64 0) := (blk_cell BK109.out 3).trans rfl
                      have hcz13_4 : w8.cell? ⟨gb109, 4, none⟩ = some (.int .i64 0) := (blk_cell BK109.out 4).trans rfl
                      have hfz13_0 := blk_frozen BK109.out 0
                      have hfz13_1 := blk_frozen BK109.out 1
                      have hfz13_2 := blk_frozen BK109.out 2
                      have hfz13_3 := blk_frozen BK109.out 3
                      have hfz13_4 := blk_frozen BK109.out 4
                      go_wp2
                      go_meet
                      case rel => exact ⟨_, (true), (by first | rfl | (simp; done) | (simp [*]; done)), H', ⟨by have := HK1.out; have := HJ1.out; first | omega | exact Nat.le_refl _⟩, ⟨by (with_reducible repeat (first | refine blk_drewN ?_ _ | refine blk_drew ?_ | refine blk_alloc ?_ _)); refine blk_put (cs := #[.int .i64 ((rd_T46 l0 x3_1).f0), .slice A108_1 ((rd_T46 l0 x3_1).f1).length c108_1, .slice A108_2 ((rd_T46 l0 x3_1).f2).length c108_2, .int .i64 ((rd_T46 l0 x3_1).f3), .int .i64 0]) ?_ 4 _ rfl; (with_reducible repeat (first | refine blk_drewN ?_ _ | refine blk_drew ?_ | refine blk_alloc ?_ _)); refine blk_put (cs := #[.int .i64 ((rd_T46 l0 x3_1).f0), .slice A108_1 ((rd_T46 l0 x3_1).f1).length c108_1, .slice A108_2 ((rd_T46 l0 x3_1).f2).length c108_2, .int .i64 0, .int .i64 0]) ?_ 3 _ rfl; (with_reducible repeat (first | refine blk_drewN ?_ _ | refine blk_drew ?_ | refine blk_alloc ?_ _)); refine blk_put (cs := #[.int .i64 ((rd_T46 l0 x3_1).f0), .slice A108_1 ((rd_T46 l0 x3_1).f1).length c108_1, .slice none 0 0, .int .i64 0, .int .i64 0]) ?_ 2 _ rfl; (with_reducible repeat (first | refine blk_drewN ?_ _ | refine blk_drew ?_ | refine blk_alloc ?_ _)); refine blk_put (cs := #[.int .i64 ((rd_T46 l0 x3_1).f0), .slice none 0 0, .slice none 0 0, .int .i64 0, .int .i64 0]) ?_ 1 _ rfl; (with_reducible repeat (first | refine blk_drewN ?_ _ | refine blk_drew ?_ | refine blk_alloc ?_ _)); refine blk_put (cs := #[.int .i64 0, .slice none 0 0, .slice none 0 0, .int .i64 0, .int .i64 0]) ?_ 0 _ rfl; (with_reducible repeat (first | refine blk_drewN ?_ _ | refine blk_drew ?_ | refine blk_alloc ?_ _)); exact BK109.out⟩, ⟨by repeat (first | (with_reducible first | exact HB.out | apply below_alloc | apply pw_below_drewN | apply below_drew1 | refine below_set ?_ GE109.out) | exact HB.out)⟩⟩
                    · rw [if_neg c12] at H
                      have c12b0 : decide (4 < ((rd_T46 l0 x3_1).f0)) = false := decide_eq_false c12
                      clear c12
                      by_cases c14 : ((rd_T46 l0 x3_1).f0) = 1
                      · rw [if_pos c14] at H
                        have c14b0 : (((rd_T46 l0 x3_1).f0) == 1) = true := beq_iff_eq.mpr c14
                        have c14b1 : (((rd_T46 l0 x3_1).f0) != 1) = false := bne_eq_false_iff_eq.mpr c14
                        clear c14
                        replace H := Option.bind_eq_some_iff.mp H
                        obtain ⟨t110, A150, H⟩ := H
                        replace H : (phalaroperef16_May.j2 kj1 l0 x3_1 (!t110) ((rd_T46 l0 x3_1).f0) ((rd_T46 l0 x3_1).f1) ((rd_T46 l0 x3_1).f2) ((rd_T46 l0 x3_1).f3) ((rd_T46 l0 x3_1).f4)) = some r := H
                        have A15 := Aside0.mk A150
                        clear A150
                        have H' := Aside0.mk H
                        clear H
                        have hcz16_0 : w8.cell? ⟨gb109, 0, none⟩ = some (.int .i64 0) := (blk_cell BK109.out 0).trans rfl
                        have hcz16_1 : w8.cell? ⟨gb109, 1, none⟩ = some (.slice none 0 0) := (blk_cell BK109.out 1).trans rfl
                        have hcz16_2 : w8.cell? ⟨gb109, 2, none⟩ = some (.slice none 0 0) := (blk_cell BK109.out 2).trans rfl
                        have hcz16_3 : w8.cell? ⟨gb109, 3, none⟩ = some (.int .i64 0) := (blk_cell BK109.out 3).trans rfl
                        have hcz16_4 : w8.cell? ⟨gb109, 4, none⟩ = some (.int .i64 0) := (blk_cell BK109.out 4).trans rfl
                        have hfz16_0 := blk_frozen BK109.out 0
                        have hfz16_1 := blk_frozen BK109.out 1
                        have hfz16_2 := blk_frozen BK109.out 2
                        have hfz16_3 := blk_frozen BK109.out 3
                        have hfz16_4 := blk_frozen BK109.out 4
                        go_wp2_with (first | (go_at_call 22; (with_reducible refine (phalaroperef16_eater.calls kj1 ((rd_T46 l0 x3_1).f0) _ _ ((rd_T46 l0 x3_1).f1) _ _ ((rd_T46 l0 x3_1).f2) ((rd_T46 l0 x3_1).f3) ((rd_T46 l0 x3_1).f4) (l0.length : Int) t110 _ ?side1 ?side2 ?side3 ?side4 A15.out).mono ?_); (case side1 => exact Kd.C_below HR108_1.out (by repeat (first | (with_reducible first | exact HB.out | apply below_alloc | apply pw_below_drewN | apply below_drew1 | refine below_set ?_ GE109.out) | exact HB.out))); (case side2 => exact HC108_1.out); (case side3 => exact Kd.C_below HR108_2.out (by repeat (first | (with_reducible first | exact HB.out | apply below_alloc | apply pw_below_drewN | apply below_drew1 | refine below_set ?_ GE109.out) | exact HB.out))); (case side4 => exact HC108_2.out); rintro e w17 ⟨rfl, hb⟩; have n0_ := Aside0.mk (blk_below (g := gb109) (o := .cells #[.int .i64 ((rd_T46 l0 x3_1).f0), .slice A108_1 ((rd_T46 l0 x3_1).f1).length c108_1, .slice A108_2 ((rd_T46 l0 x3_1).f2).length c108_2, .int .i64 ((rd_T46 l0 x3_1).f3), .int .i64 ((rd_T46 l0 x3_1).f4)] 46 (0, 0)) (by (with_reducible repeat (first | refine blk_drewN ?_ _ | refine blk_drew ?_ | refine blk_alloc ?_ _)); refine blk_put (cs := #[.int .i64 ((rd_T46 l0 x3_1).f0), .slice A108_1 ((rd_T46 l0 x3_1).f1).length c108_1, .slice A108_2 ((rd_T46 l0 x3_1).f2).length c108_2, .int .i64 ((rd_T46 l0 x3_1).f3), .int .i64 0]) ?_ 4 _ rfl; (with_reducible repeat (first | refine blk_drewN ?_ _ | refine blk_drew ?_ | refine blk_alloc ?_ _)); refine blk_put (cs := #[.int .i64 ((rd_T46 l0 x3_1).f0), .slice A108_1 ((rd_T46 l0 x3_1).f1).length c108_1, .slice A108_2 ((rd_T46 l0 x3_1).f2).length c108_2, .int .i64 0, .int .i64 0]) ?_ 3 _ rfl; (with_reducible repeat (first | refine blk_drewN ?_ _ | refine blk_drew ?_ | refine blk_alloc ?_ _)); refine blk_put (cs := #[.int .i64 ((rd_T46 l0 x3_1).f0), .slice A108_1 ((rd_T46 l0 x3_1).f1).length c108_1, .slice none 0 0, .int .i64 0, .int .i64 0]) ?_ 2 _ rfl; (with_reducible repeat (first | refine blk_drewN ?_ _ | refine blk_drew ?_ | refine blk_alloc ?_ _)); refine blk_put (cs := #[.int .i64 ((rd_T46 l0 x3_1).f0), .slice none 0 0, .slice none 0 0, .int .i64 0, .int .i64 0]) ?_ 1 _ rfl; (with_reducible repeat (first | refine blk_drewN ?_ _ | refine blk_drew ?_ | refine blk_alloc ?_ _)); refine blk_put (cs := #[.int .i64 0, .slice none 0 0, .slice none 0 0, .int .i64 0, .int .i64 0]) ?_ 0 _ rfl; (with_reducible repeat (first | refine blk_drewN ?_ _ | refine blk_drew ?_ | refine blk_alloc ?_ _)); exact BK109.out) hb); have n1_ := Aside0.mk (below_step (by repeat (first | (with_reducible first | exact HB.out | apply below_alloc | apply pw_below_drewN | apply below_drew1 | refine below_set ?_ GE109.out) | exact HB.out)) hb); clear BK109; clear HB; have BK109 := n0_; have HB := n1_; clear n0_ n1_; (try clear hb); (try clear hb2); (try clear hk); (try clear hi)))
                        go_meet
                        case rel => exact ⟨_, (!t110), (by first | rfl | (simp; done) | (simp [*]; done)), H', ⟨by have := HK1.out; have := HJ1.out; first | omega | exact Nat.le_refl _⟩, ⟨by (with_reducible repeat (first | refine blk_drewN ?_ _ | refine blk_drew ?_ | refine blk_alloc ?_ _)); exact BK109.out⟩, ⟨by repeat (first | (with_reducible first | exact HB.out | apply below_alloc | apply pw_below_drewN | apply below_drew1 | refine below_set ?_ GE109.out) | exact HB.out)⟩⟩
                      · rw [if_neg c14] at H
                        have c14b0 : (((rd_T46 l0 x3_1).f0) == 1) = false := beq_eq_false_iff_ne.mpr c14
                        have c14b1 : (((rd_T46 l0 x3_1).f0) != 1) = true := bne_iff_ne.mpr c14
                        by_cases c18 : (((rd_T46 l0 x3_1).f1).length : Int) > 0
                        · rw [if_pos c18] at H
                          have c18b0 : decide (0 < (((rd_T46 l0 x3_1).f1).length : Int)) = true := decide_eq_true c18
                          have c18b1 : decide (0 < ((rd_T46 l0 x3_1).f1).length) = true := decide_eq_true (by omega)
                          clear c18
                          have H' := Aside0.mk H
                          clear H
                          have hcz19_0 : w8.cell? ⟨gb109, 0, none⟩ = some (.int .i64 0) := (blk_cell BK109.out 0).trans rfl
                          have hcz19_1 : w8.cell? ⟨gb109, 1, none⟩ = some (.slice none 0 0) := (blk_cell BK109.out 1).trans rfl
                          have hcz19_2 : w8.cell? ⟨gb109, 2, none⟩ = some (.slice none 0 0) := (blk_cell BK109.out 2).trans rfl
                          have hcz19_3 : w8.cell? ⟨gb109, 3, none⟩ = some (.int .i64 0) := (blk_cell BK109.out 3).trans rfl
                          have hcz19_4 : w8.cell? ⟨gb109, 4, none⟩ = some (.int .i64 0) := (blk_cell BK109.out 4).trans rfl
                          have hfz19_0 := blk_frozen BK109.out 0
                          have hfz19_1 := blk_frozen BK109.out 1
                          have hfz19_2 := blk_frozen BK109.out 2
                          have hfz19_3 := blk_frozen BK109.out 3
                          have hfz19_4 := blk_frozen BK109.out 4
                          go_wp2
                          go_meet
                          case rel => exact ⟨_, (true), (by first | rfl | (simp; done) | (simp [*]; done)), H', ⟨by have := HK1.out; have := HJ1.out; first | omega | exact Nat.le_refl _⟩, ⟨by (with_reducible repeat (first | refine blk_drewN ?_ _ | refine blk_drew ?_ | refine blk_alloc ?_ _)); refine blk_put (cs := #[.int .i64 ((rd_T46 l0 x3_1).f0), .slice A108_1 ((rd_T46 l0 x3_1).f1).length c108_1, .slice A108_2 ((rd_T46 l0 x3_1).f2).length c108_2, .int .i64 ((rd_T46 l0 x3_1).f3), .int .i64 0]) ?_ 4 _ rfl; (with_reducible repeat (first | refine blk_drewN ?_ _ | refine blk_drew ?_ | refine blk_alloc ?_ _)); refine blk_put (cs := #[.int .i64 ((rd_T46 l0 x3_1).f0), .slice A108_1 ((rd_T46 l0 x3_1).f1).length c108_1, .slice A108_2 ((rd_T46 l0 x3_1).f2).length c108_2, .int .i64 0, .int .i64 0]) ?_ 3 _ rfl; (with_reducible repeat (first | refine blk_drewN ?_ _ | refine blk_drew ?_ | refine blk_alloc ?_ _)); refine blk_put (cs := #[.int .i64 ((rd_T46 l0 x3_1).f0), .slice A108_1 ((rd_T46 l0 x3_1).f1).length c108_1, .slice none 0 0, .int .i64 0, .int .i64 0]) ?_ 2 _ rfl; (with_reducible repeat (first | refine blk_drewN ?_ _ | refine blk_drew ?_ | refine blk_alloc ?_ _)); refine blk_put (cs := #[.int .i64 ((rd_T46 l0 x3_1).f0), .slice none 0 0, .slice none 0 0, .int .i64 0, .int .i64 0]) ?_ 1 _ rfl; (with_reducible repeat (first | refine blk_drewN ?_ _ | refine blk_drew ?_ | refine blk_alloc ?_ _)); refine blk_put (cs := #[.int .i64 0, .slice none 0 0, .slice none 0 0, .int .i64 0, .int .i64 0]) ?_ 0 _ rfl; (with_reducible repeat (first | refine blk_drewN ?_ _ | refine blk_drew ?_ | refine blk_alloc ?_ _)); exact BK109.out⟩, ⟨by repeat (first | (with_reducible first | exact HB.out | apply below_alloc | apply pw_below_drewN | apply below_drew1 | refine below_set ?_ GE109.out) | exact HB.out)⟩⟩
                        · rw [if_neg c18] at H
                          have c18b0 : decide (0 < (((rd_T46 l0 x3_1).f1).length : Int)) = false := decide_eq_false c18
                          have c18b1 : decide (0 < ((rd_T46 l0 x3_1).f1).length) = false := decide_eq_false (by omega)
                          clear c18
                          have H' := Aside0.mk H
                          clear H
                          have hcz20_0 : w8.cell? ⟨gb109, 0, none⟩ = some (.int .i64 0) := (blk_cell BK109.out 0).trans rfl
                          have hcz20_1 : w8.cell? ⟨gb109, 1, none⟩ = some (.slice none 0 0) := (blk_cell BK109.out 1).trans rfl
                          have hcz20_2 : w8.cell? ⟨gb109, 2, none⟩ = some (.slice none 0 0) := (blk_cell BK109.out 2).trans rfl
                          have hcz20_3 : w8.cell? ⟨gb109, 3, none⟩ = some (.int .i64 0) := (blk_cell BK109.out 3).trans rfl
                          have hcz20_4 : w8.cell? ⟨gb109, 4, none⟩ = some (.int .i64 0) := (blk_cell BK109.out 4).trans rfl
                          have hfz20_0 := blk_frozen BK109.out 0
                          have hfz20_1 := blk_frozen BK109.out 1
                          have hfz20_2 := blk_frozen BK109.out 2
                          have hfz20_3 := blk_frozen BK109.out 3
                          have hfz20_4 := blk_frozen BK109.out 4
                          go_wp2
                          go_meet
                          case rel => exact ⟨_, (false), (by first | rfl | (simp; done) | (simp [*]; done)), H', ⟨by have := HK1.out; have := HJ1.out; first | omega | exact Nat.le_refl _⟩, ⟨by (with_reducible repeat (first | refine blk_drewN ?_ _ | refine blk_drew ?_ | refine blk_alloc ?_ _)); refine blk_put (cs := #[.int .i64 ((rd_T46 l0 x3_1).f0), .slice A108_1 ((rd_T46 l0 x3_1).f1).length c108_1, .slice A108_2 ((rd_T46 l0 x3_1).f2).length c108_2, .int .i64 ((rd_T46 l0 x3_1).f3), .int .i64 0]) ?_ 4 _ rfl; (with_reducible repeat (first | refine blk_drewN ?_ _ | refine blk_drew ?_ | refine blk_alloc ?_ _)); refine blk_put (cs := #[.int .i64 ((rd_T46 l0 x3_1).f0), .slice A108_1 ((rd_T46 l0 x3_1).f1).length c108_1, .slice A108_2 ((rd_T46 l0 x3_1).f2).length c108_2, .int .i64 0, .int .i64 0]) ?_ 3 _ rfl; (with_reducible repeat (first | refine blk_drewN ?_ _ | refine blk_drew ?_ | refine blk_alloc ?_ _)); refine blk_put (cs := #[.int .i64 ((rd_T46 l0 x3_1).f0), .slice A108_1 ((rd_T46 l0 x3_1).f1).length c108_1, .slice none 0 0, .int .i64 0, .int .i64 0]) ?_ 2 _ rfl; (with_reducible repeat (first | refine blk_drewN ?_ _ | refine blk_drew ?_ | refine blk_alloc ?_ _)); refine blk_put (cs := #[.int .i64 ((rd_T46 l0 x3_1).f0), .slice none 0 0, .slice none 0 0, .int .i64 0, .int .i64 0]) ?_ 1 _ rfl; (with_reducible repeat (first | refine blk_drewN ?_ _ | refine blk_drew ?_ | refine blk_alloc ?_ _)); refine blk_put (cs := #[.int .i64 0, .slice none 0 0, .slice none 0 0, .int .i64 0, .int .i64 0]) ?_ 0 _ rfl; (with_reducible repeat (first | refine blk_drewN ?_ _ | refine blk_drew ?_ | refine blk_alloc ?_ _)); exact BK109.out⟩, ⟨by repeat (first | (with_reducible first | exact HB.out | apply below_alloc | apply pw_below_drewN | apply below_drew1 | refine below_set ?_ GE109.out) | exact HB.out)⟩⟩
                case rest =>
                  clear HC7
                  try clear c1
                  try clear p1
                  try clear q1
                  try clear hx1
                  try clear p2
                  try clear c3
                  try clear c3b0
                  try clear c4
                  try clear c5
                  try clear c5b0
                  try clear c6
                  try clear c6b0
                  try clear c10
                  try clear c10b0
                  try clear p10
                  try clear q10
                  try clear hx10
                  try clear c11
                  try clear c12
                  try clear c12b0
                  try clear c14
                  try clear c14b0
                  try clear c14b1
                  try clear c18
                  try clear c18b0
                  try clear c18b1
                  try clear hcz11_0
                  try clear hcz11_1
                  try clear hcz11_2
                  try clear hcz11_3
                  try clear hcz11_4
                  try clear hcz13_0
                  try clear hcz13_1
                  try clear hcz13_2
                  try clear hcz13_3
                  try clear hcz13_4
                  try clear hcz16_0
                  try clear hcz16_1
                  try clear hcz16_2
                  try clear hcz16_3
                  try clear hcz16_4
                  try clear hcz19_0
                  try clear hcz19_1
                  try clear hcz19_2
                  try clear hcz19_3
                  try clear hcz19_4
                  try clear hcz20_0
                  try clear hcz20_1
                  try clear hcz20_2
                  try clear hcz20_3
                  try clear hcz20_4
                  try clear hcz9_0
                  try clear hcz9_1
                  try clear hcz9_2
                  try clear hcz9_3
                  try clear hcz9_4
                  try clear hfz11_0
                  try clear hfz11_1
                  try clear hfz11_2
                  try clear hfz11_3
                  try clear hfz11_4
                  try clear hfz13_0
                  try clear hfz13_1
                  try clear hfz13_2
                  try clear hfz13_3
                  try clear hfz13_4
                  try clear hfz16_0
                  try clear hfz16_1
                  try clear hfz16_2
                  try clear hfz16_3
                  try clear hfz16_4
                  try clear hfz19_0
                  try clear hfz19_1
                  try clear hfz19_2
                  try clear hfz19_3
                  try clear hfz19_4
                  try clear hfz20_0
                  try clear hfz20_1
                  try clear hfz20_2
                  try clear hfz20_3
                  try clear hfz20_4
                  try clear hfz9_0
                  try clear hfz9_1
                  try clear hfz9_2
                  try clear hfz9_3
                  try clear hfz9_4
                  try clear hx108_0
                  try clear hx108_1
                  try clear hx108_2
                  try clear hx108_3
                  try clear hx108_4
                  try clear p108
                  try clear p2
                  try clear q108
                  obtain ⟨kq, x50_6, rfl, HA, HJ6, BK109, HB⟩ := hcut
                  cases kq with
                  | zero => exact absurd HA.out (by simp [phalaroperef16_May.j2])
                  | succ kj6 =>
                    have H := HA.out
                    clear HA
                    simp only [phalaroperef16_May.j2] at H
                    by_cases c21 : x50_6 = true
                    · subst c21
                      have H1 : (some false) = some r := by rw [if_pos rfl] at H; exact H
                      clear H
                      have H := H1
                      clear H1
                      obtain rfl := Option.some.inj H
                      go_wp2
                      go_ret
                      exact ⟨by first | rfl | (simp [errW_none, errW_some] <;> rfl) | (simp [*, errW_none, errW_some] <;> rfl), by repeat (first | (with_reducible first | exact HB.out | apply below_alloc | apply pw_below_drewN | apply below_drew1 | refine below_set ?_ GE109.out) | exact HB.out)⟩
                    · replace c21 := Bool.eq_false_iff.mpr c21
                      subst c21
                      have H1 : (phalaroperef16_May.l1 kj6 l0 x3_1 0 ((rd_T46 l0 x3_1).f0) ((rd_T46 l0 x3_1).f1) ((rd_T46 l0 x3_1).f2) ((rd_T46 l0 x3_1).f3) ((rd_T46 l0 x3_1).f4)) = some r := by rw [if_neg (show ¬ (false = true) by decide)] at H; exact H
                      clear H
                      have H := H1
                      clear H1
                      have H' := Aside0.mk H
                      clear H
                      go_wp2
                      go_loopg [5] kj6 (fun kq v5 w' => ∃ (x5_4 : Int), v5 = .int .i64 x5_4 ∧ Aside0 (phalaroperef16_May.l1 kq l0 x3_1 x5_4 ((rd_T46 l0 x3_1).f0) ((rd_T46 l0 x3_1).f1) ((rd_T46 l0 x3_1).f2) ((rd_T46 l0 x3_1).f3) ((rd_T46 l0 x3_1).f4) = some r) ∧ Aside0 (kq ≤ kj6) ∧ Aside0 (w'.heap[gb109]? = some (.cells #[.int .i64 ((rd_T46 l0 x3_1).f0), (.slice A108_1 ((rd_T46 l0 x3_1).f1).length c108_1), (.slice A108_2 ((rd_T46 l0 x3_1).f2).length c108_2), .int .i64 ((rd_T46 l0 x3_1).f3), .int .i64 ((rd_T46 l0 x3_1).f4)] 46 (0, 0))) ∧ Aside0 (Below w.heap.size w w'))
                      case atStart => exact ⟨(0), (by first | rfl | (simp; done) | (simp [*]; done)), H', ⟨Nat.le_refl _⟩, ⟨by (with_reducible repeat (first | refine blk_drewN ?_ _ | refine blk_drew ?_ | refine blk_alloc ?_ _)); exact BK109.out⟩, ⟨by repeat (first | (with_reducible first | exact HB.out | apply below_alloc | apply pw_below_drewN | apply below_drew1 | refine below_set ?_ GE109.out) | exact HB.out)⟩⟩
                      case round =>
                        clear H'
                        try clear c1
                        try clear p1
                        try clear q1
                        try clear hx1
                        try clear c2
                        try clear p2
                        try clear c3
                        try clear c3b0
                        try clear c4
                        try clear c5
                        try clear c5b0
                        try clear c6
                        try clear c6b0
                        try clear c10
                        try clear c10b0
                        try clear p10
                        try clear q10
                        try clear hx10
                        try clear c11
                        try clear c12
                        try clear c12b0
                        try clear c14
                        try clear c14b0
                        try clear c14b1
                        try clear c18
                        try clear c18b0
                        try clear c18b1
                        try clear c21
                        try clear hcz11_0
                        try clear hcz11_1
                        try clear hcz11_2
                        try clear hcz11_3
                        try clear hcz11_4
                        try clear hcz13_0
                        try clear hcz13_1
                        try clear hcz13_2
                        try clear hcz13_3
                        try clear hcz13_4
                        try clear hcz16_0
                        try clear hcz16_1
                        try clear hcz16_2
                        try clear hcz16_3
                        try clear hcz16_4
                        try clear hcz19_0
                        try clear hcz19_1
                        try clear hcz19_2
                        try clear hcz19_3
                        try clear hcz19_4
                        try clear hcz20_0
                        try clear hcz20_1
                        try clear hcz20_2
                        try clear hcz20_3
                        try clear hcz20_4
                        try clear hcz9_0
                        try clear hcz9_1
                        try clear hcz9_2
                        try clear hcz9_3
                        try clear hcz9_4
                        try clear hfz11_0
                        try clear hfz11_1
                        try clear hfz11_2
                        try clear hfz11_3
                        try clear hfz11_4
                        try clear hfz13_0
                        try clear hfz13_1
                        try clear hfz13_2
                        try clear hfz13_3
                        try clear hfz13_4
                        try clear hfz16_0
                        try clear hfz16_1
                        try clear hfz16_2
                        try clear hfz16_3
                        try clear hfz16_4
                        try clear hfz19_0
                        try clear hfz19_1
                        try clear hfz19_2
                        try clear hfz19_3
                        try clear hfz19_4
                        try clear hfz20_0
                        try clear hfz20_1
                        try clear hfz20_2
                        try clear hfz20_3
                        try clear hfz20_4
                        try clear hfz9_0
                        try clear hfz9_1
                        try clear hfz9_2
                        try clear hfz9_3
                        try clear hfz9_4
                        try clear hx108_0
                        try clear hx108_1
                        try clear hx108_2
                        try clear hx108_3
                        try clear hx108_4
                        try clear p1
                        try clear p10
                        try clear p108
                        try clear p2
                        try clear q1
                        try clear q10
                        try clear q108
                        obtain ⟨x5_4, rfl, HA, HK4, BK109, HB⟩ := hrel
                        cases gk with
                        | zero => exact absurd HA.out (by simp [phalaroperef16_May.l1])
                        | succ k4 =>
                          have H := HA.out
                          clear HA
                          simp only [phalaroperef16_May.l1] at H
                          by_cases c22 : x5_4 < (((rd_T46 l0 x3_1).f2).length : Int)
                          · rw [if_pos c22] at H
                            have c22b0 : decide (x5_4 < (((rd_T46 l0 x3_1).f2).length : Int)) = true := decide_eq_true c22
                            clear c22
                            by_cases c23 : ((rd_T46 l0 x3_1).f0) = 2
                            · rw [if_pos c23] at H
                              have c23b0 : (((rd_T46 l0 x3_1).f0) == 2) = true := beq_iff_eq.mpr c23
                              have c23b1 : (((rd_T46 l0 x3_1).f0) != 2) = false := bne_eq_false_iff_eq.mpr c23
                              clear c23
                              by_cases c24 : 0 ≤ x5_4
                              · rw [if_pos c24] at H
                                have c24b0 : decide (0 ≤ x5_4) = true := decide_eq_true c24
                                clear c24
                                by_cases c25 : (rd ((rd_T46 l0 x3_1).f2) x5_4) ≤ x3_1
                                · rw [if_pos c25] at H
                                  have c25b0 : decide ((rd ((rd_T46 l0 x3_1).f2) x5_4) ≤ x3_1) = true := decide_eq_true c25
                                  clear c25
                                  obtain rfl := Option.some.inj H
                                  have hcz26_0 : wr.cell? ⟨gb109, 0, none⟩ = some (.int .i64 ((rd_T46 l0 x3_1).f0)) := (blk_cell BK109.out 0).trans rfl
                                  have hcz26_1 : wr.cell? ⟨gb109, 1, none⟩ = some (.slice A108_1 ((rd_T46 l0 x3_1).f1).length c108_1) := (blk_cell BK109.out 1).trans rfl
                                  have hcz26_2 : wr.cell? ⟨gb109, 2, none⟩ = some (.slice A108_2 ((rd_T46 l0 x3_1).f2).length c108_2) := (blk_cell BK109.out 2).trans rfl
                                  have hcz26_3 : wr.cell? ⟨gb109, 3, none⟩ = some (.int .i64 ((rd_T46 l0 x3_1).f3)) := (blk_cell BK109.out 3).trans rfl
                                  have hcz26_4 : wr.cell? ⟨gb109, 4, none⟩ = some (.int .i64 ((rd_T46 l0 x3_1).f4)) := (blk_cell BK109.out 4).trans rfl
                                  have hfz26_0 := blk_frozen BK109.out 0
                                  have hfz26_1 := blk_frozen BK109.out 1
                                  have hfz26_2 := blk_frozen BK109.out 2
                                  have hfz26_3 := blk_frozen BK109.out 3
                                  have hfz26_4 := blk_frozen BK109.out 4
                                  have p111 : 0 ≤ (x5_4 : Int) := of_decide_eq_true (by first | (with_reducible assumption) | assumption)
                                  have q111 : x5_4 < (((rd_T46 l0 x3_1).f2).length : Int) := of_decide_eq_true (by first | (with_reducible assumption) | assumption)
                                  obtain ⟨ad111, e111, hx111_0⟩ := Kd.at_int HR108_2.out x5_4 p111 q111
                                  cases e111
                                  replace hx111_0 := (HB.out.cell (World.block_lt_of_cell? w _ hx111_0)).trans hx111_0
                                  replace p111 := eq_true p111
                                  replace q111 := eq_true q111
                                  go_wp2
                                  go_ret
                                  exact ⟨by first | rfl | (simp [errW_none, errW_some] <;> rfl) | (simp [*, errW_none, errW_some] <;> rfl), by repeat (first | (with_reducible first | exact HB.out | apply below_alloc | apply pw_below_drewN | apply below_drew1 | refine below_set ?_ GE109.out) | exact HB.out)⟩
                                · rw [if_neg c25] at H
                                  have c25b0 : decide ((rd ((rd_T46 l0 x3_1).f2) x5_4) ≤ x3_1) = false := decide_eq_false c25
                                  clear c25
                                  by_cases c27 : (rd ((rd_T46 l0 x3_1).f2) x5_4) ≥ (l0.length : Int)
                                  · rw [if_pos c27] at H
                                    have c27b0 : decide ((l0.length : Int) ≤ (rd ((rd_T46 l0 x3_1).f2) x5_4)) = true := decide_eq_true c27
                                    clear c27
                                    obtain rfl := Option.some.inj H
                                    have hcz28_0 : wr.cell? ⟨gb109, 0, none⟩ = some (.int .i64 ((rd_T46 l0 x3_1).f0)) := (blk_cell BK109.out 0).trans rfl
                                    have hcz28_1 : wr.cell? ⟨gb109, 1, none⟩ = some (.slice A108_1 ((rd_T46 l0 x3_1).f1).length c108_1) := (blk_cell BK109.out 1).trans rfl
                                    have hcz28_2 : wr.cell? ⟨gb109, 2, none⟩ = some (.slice A108_2 ((rd_T46 l0 x3_1).f2).length c108_2) := (blk_cell BK109.out 2).trans rfl
                                    have hcz28_3 : wr.cell? ⟨gb109, 3, none⟩ = some (.int .i64 ((rd_T46 l0 x3_1).f3)) := (blk_cell BK109.out 3).trans rfl
                                    have hcz28_4 : wr.cell? ⟨gb109, 4, none⟩ = some (.int .i64 ((rd_T46 l0 x3_1).f4)) := (blk_cell BK109.out 4).trans rfl
                                    have hfz28_0 := blk_frozen BK109.out 0
                                    have hfz28_1 := blk_frozen BK109.out 1
                                    have hfz28_2 := blk_frozen BK109.out 2
                                    have hfz28_3 := blk_frozen BK109.out 3
                                    have hfz28_4 := blk_frozen BK109.out 4
                                    have p111 : 0 ≤ (x5_4 : Int) := of_decide_eq_true (by first | (with_reducible assumption) | assumption)
                                    have q111 : x5_4 < (((rd_T46 l0 x3_1).f2).length : Int) := of_decide_eq_true (by first | (with_reducible assumption) | assumption)
                                    obtain ⟨ad111, e111, hx111_0⟩ := Kd.at_int HR108_2.out x5_4 p111 q111
                                    cases e111
                                    replace hx111_0 := (HB.out.cell (World.block_lt_of_cell? w _ hx111_0)).trans hx111_0
                                    replace p111 := eq_true p111
                                    replace q111 := eq_true q111
                                    have p112 : 0 ≤ (x5_4 : Int) := of_decide_eq_true (by first | (with_reducible assumption) | assumption)
                                    have q112 : x5_4 < (((rd_T46 l0 x3_1).f2).length : Int) := of_decide_eq_true (by first | (with_reducible assumption) | assumption)
                                    obtain ⟨ad112, e112, hx112_0⟩ := Kd.at_int HR108_2.out x5_4 p112 q112
                                    obtain rfl : ad111 = ad112 := (by injection e112)
                                    replace hx112_0 := (HB.out.cell (World.block_lt_of_cell? w _ hx112_0)).trans hx112_0
                                    replace p112 := eq_true p112
                                    replace q112 := eq_true q112
                                    go_wp2
                                    go_ret
                                    exact ⟨by first | rfl | (simp [errW_none, errW_some] <;> rfl) | (simp [*, errW_none, errW_some] <;> rfl), by repeat (first | (with_reducible first | exact HB.out | apply below_alloc | apply pw_below_drewN | apply below_drew1 | refine below_set ?_ GE109.out) | exact HB.out)⟩
                                  · rw [if_neg c27] at H
                                    have c27b0 : decide ((l0.length : Int) ≤ (rd ((rd_T46 l0 x3_1).f2) x5_4)) = false := decide_eq_false c27
                                    clear c27
                                    have H' := Aside0.mk H
                                    clear H
                                    have hcz29_0 : wr.cell? ⟨gb109, 0, none⟩ = some (.int .i64 ((rd_T46 l0 x3_1).f0)) := (blk_cell BK109.out 0).trans rfl
                                    have hcz29_1 : wr.cell? ⟨gb109, 1, none⟩ = some (.slice A108_1 ((rd_T46 l0 x3_1).f1).length c108_1) := (blk_cell BK109.out 1).trans rfl
                                    have hcz29_2 : wr.cell? ⟨gb109, 2, none⟩ = some (.slice A108_2 ((rd_T46 l0 x3_1).f2).length c108_2) := (blk_cell BK109.out 2).trans rfl
                                    have hcz29_3 : wr.cell? ⟨gb109, 3, none⟩ = some (.int .i64 ((rd_T46 l0 x3_1).f3)) := (blk_cell BK109.out 3).trans rfl
                                    have hcz29_4 : wr.cell? ⟨gb109, 4, none⟩ = some (.int .i64 ((rd_T46 l0 x3_1).f4)) := (blk_cell BK109.out 4).trans rfl
                                    have hfz29_0 := blk_frozen BK109.out 0
                                    have hfz29_1 := blk_frozen BK109.out 1
                                    have hfz29_2 := blk_frozen BK109.out 2
                                    have hfz29_3 := blk_frozen BK109.out 3
                                    have hfz29_4 := blk_frozen BK109.out 4
                                    have p111 : 0 ≤ (x5_4 : Int) := of_decide_eq_true (by first | (with_reducible assumption) | assumption)
                                    have q111 : x5_4 < (((rd_T46 l0 x3_1).f2).length : Int) := of_decide_eq_true (by first | (with_reducible assumption) | assumption)
                                    obtain ⟨ad111, e111, hx111_0⟩ := Kd.at_int HR108_2.out x5_4 p111 q111
                                    cases e111
                                    replace hx111_0 := (HB.out.cell (World.block_lt_of_cell? w _ hx111_0)).trans hx111_0
                                    replace p111 := eq_true p111
                                    replace q111 := eq_true q111
                                    have p112 : 0 ≤ (x5_4 : Int) := of_decide_eq_true (by first | (with_reducible assumption) | assumption)
                                    have q112 : x5_4 < (((rd_T46 l0 x3_1).f2).length : Int) := of_decide_eq_true (by first | (with_reducible assumption) | assumption)
                                    obtain ⟨ad112, e112, hx112_0⟩ := Kd.at_int HR108_2.out x5_4 p112 q112
                                    obtain rfl : ad111 = ad112 := (by injection e112)
                                    replace hx112_0 := (HB.out.cell (World.block_lt_of_cell? w _ hx112_0)).trans hx112_0
                                    replace p112 := eq_true p112
                                    replace q112 := eq_true q112
                                    go_wp2
                                    go_roundg k4
                                    case measure => have := HK1.out; have := HJ1.out; have := HJ6.out; have := HK4.out; omega
                                    case rel => exact ⟨(wrap64 (x5_4 + 1)), (by first | rfl | (simp; done) | (simp [*]; done)), H', ⟨by have := HK1.out; have := HJ1.out; have := HJ6.out; have := HK4.out; omega⟩, ⟨by (with_reducible repeat (first | refine blk_drewN ?_ _ | refine blk_drew ?_ | refine blk_alloc ?_ _)); exact BK109.out⟩, ⟨by repeat (first | (with_reducible first | exact HB.out | apply below_alloc | apply pw_below_drewN | apply below_drew1 | refine below_set ?_ GE109.out) | exact HB.out)⟩⟩
                              · rw [if_neg c24] at H
                                exact absurd H (by simp)
                            · rw [if_neg c23] at H
                              have c23b0 : (((rd_T46 l0 x3_1).f0) == 2) = false := beq_eq_false_iff_ne.mpr c23
                              have c23b1 : (((rd_T46 l0 x3_1).f0) != 2) = true := bne_iff_ne.mpr c23
                              obtain rfl := Option.some.inj H
                              have hcz30_0 : wr.cell? ⟨gb109, 0, none⟩ = some (.int .i64 ((rd_T46 l0 x3_1).f0)) := (blk_cell BK109.out 0).trans rfl
                              have hcz30_1 : wr.cell? ⟨gb109, 1, none⟩ = some (.slice A108_1 ((rd_T46 l0 x3_1).f1).length c108_1) := (blk_cell BK109.out 1).trans rfl
                              have hcz30_2 : wr.cell? ⟨gb109, 2, none⟩ = some (.slice A108_2 ((rd_T46 l0 x3_1).f2).length c108_2) := (blk_cell BK109.out 2).trans rfl
                              have hcz30_3 : wr.cell? ⟨gb109, 3, none⟩ = some (.int .i64 ((rd_T46 l0 x3_1).f3)) := (blk_cell BK109.out 3).trans rfl
                              have hcz30_4 : wr.cell? ⟨gb109, 4, none⟩ = some (.int .i64 ((rd_T46 l0 x3_1).f4)) := (blk_cell BK109.out 4).trans rfl
                              have hfz30_0 := blk_frozen BK109.out 0
                              have hfz30_1 := blk_frozen BK109.out 1
                              have hfz30_2 := blk_frozen BK109.out 2
                              have hfz30_3 := blk_frozen BK109.out 3
                              have hfz30_4 := blk_frozen BK109.out 4
                              go_wp2
                              go_ret
                              exact ⟨by first | rfl | (simp [errW_none, errW_some] <;> rfl) | (simp [*, errW_none, errW_some] <;> rfl), by repeat (first | (with_reducible first | exact HB.out | apply below_alloc | apply pw_below_drewN | apply below_drew1 | refine below_set ?_ GE109.out) | exact HB.out)⟩
                          · rw [if_neg c22] at H
                            have c22b0 : decide (x5_4 < (((rd_T46 l0 x3_1).f2).length : Int)) = false := decide_eq_false c22
                            clear c22
                            by_cases c31 : ((rd_T46 l0 x3_1).f0) = 3
                            · rw [if_pos c31] at H
                              have c31b0 : (((rd_T46 l0 x3_1).f0) == 3) = true := beq_iff_eq.mpr c31
                              have c31b1 : (((rd_T46 l0 x3_1).f0) != 3) = false := bne_eq_false_iff_eq.mpr c31
                              clear c31
                              by_cases c32 : ((rd_T46 l0 x3_1).f4) ≤ x3_1
                              · rw [if_pos c32] at H
                                have c32b0 : decide (((rd_T46 l0 x3_1).f4) ≤ x3_1) = true := decide_eq_true c32
                                clear c32
                                obtain rfl := Option.some.inj H
                                have hcz33_0 : wr.cell? ⟨gb109, 0, none⟩ = some (.int .i64 ((rd_T46 l0 x3_1).f0)) := (blk_cell BK109.out 0).trans rfl
                                have hcz33_1 : wr.cell? ⟨gb109, 1, none⟩ = some (.slice A108_1 ((rd_T46 l0 x3_1).f1).length c108_1) := (blk_cell BK109.out 1).trans rfl
                                have hcz33_2 : wr.cell? ⟨gb109, 2, none⟩ = some (.slice A108_2 ((rd_T46 l0 x3_1).f2).length c108_2) := (blk_cell BK109.out 2).trans rfl
                                have hcz33_3 : wr.cell? ⟨gb109, 3, none⟩ = some (.int .i64 ((rd_T46 l0 x3_1).f3)) := (blk_cell BK109.out 3).trans rfl
                                have hcz33_4 : wr.cell? ⟨gb109, 4, none⟩ = some (.int .i64 ((rd_T46 l0 x3_1).f4)) := (blk_cell BK109.out 4).trans rfl
                                have hfz33_0 := blk_frozen BK109.out 0
                                have hfz33_1 := blk_frozen BK109.out 1
                                have hfz33_2 := blk_frozen BK109.out 2
                                have hfz33_3 := blk_frozen BK109.out 3
                                have hfz33_4 := blk_frozen BK109.out 4
                                go_wp2
                                go_ret
                                exact ⟨by first | rfl | (simp [errW_none, errW_some] <;> rfl) | (simp [*, errW_none, errW_some] <;> rfl), by repeat (first | (with_reducible first | exact HB.out | apply below_alloc | apply pw_below_drewN | apply below_drew1 | refine below_set ?_ GE109.out) | exact HB.out)⟩
                              · rw [if_neg c32] at H
                                have c32b0 : decide (((rd_T46 l0 x3_1).f4) ≤ x3_1) = false := decide_eq_false c32
                                clear c32
                                by_cases c34 : ((rd_T46 l0 x3_1).f4) ≥ (l0.length : Int)
                                · rw [if_pos c34] at H
                                  have c34b0 : decide ((l0.length : Int) ≤ ((rd_T46 l0 x3_1).f4)) = true := decide_eq_true c34
                                  clear c34
                                  obtain rfl := Option.some.inj H
                                  have hcz35_0 : wr.cell? ⟨gb109, 0, none⟩ = some (.int .i64 ((rd_T46 l0 x3_1).f0)) := (blk_cell BK109.out 0).trans rfl
                                  have hcz35_1 : wr.cell? ⟨gb109, 1, none⟩ = some (.slice A108_1 ((rd_T46 l0 x3_1).f1).length c108_1) := (blk_cell BK109.out 1).trans rfl
                                  have hcz35_2 : wr.cell? ⟨gb109, 2, none⟩ = some (.slice A108_2 ((rd_T46 l0 x3_1).f2).length c108_2) := (blk_cell BK109.out 2).trans rfl
                                  have hcz35_3 : wr.cell? ⟨gb109, 3, none⟩ = some (.int .i64 ((rd_T46 l0 x3_1).f3)) := (blk_cell BK109.out 3).trans rfl
                                  have hcz35_4 : wr.cell? ⟨gb109, 4, none⟩ = some (.int .i64 ((rd_T46 l0 x3_1).f4)) := (blk_cell BK109.out 4).trans rfl
                                  have hfz35_0 := blk_frozen BK109.out 0
                                  have hfz35_1 := blk_frozen BK109.out 1
                                  have hfz35_2 := blk_frozen BK109.out 2
                                  have hfz35_3 := blk_frozen BK109.out 3
                                  have hfz35_4 := blk_frozen BK109.out 4
                                  go_wp2
                                  go_ret
                                  exact ⟨by first | rfl | (simp [errW_none, errW_some] <;> rfl) | (simp [*, errW_none, errW_some] <;> rfl), by repeat (first | (with_reducible first | exact HB.out | apply below_alloc | apply pw_below_drewN | apply below_drew1 | refine below_set ?_ GE109.out) | exact HB.out)⟩
                                · rw [if_neg c34] at H
                                  have c34b0 : decide ((l0.length : Int) ≤ ((rd_T46 l0 x3_1).f4)) = false := decide_eq_false c34
                                  clear c34
                                  have H' := Aside0.mk H
                                  clear H
                                  have hcz36_0 : wr.cell? ⟨gb109, 0, none⟩ = some (.int .i64 ((rd_T46 l0 x3_1).f0)) := (blk_cell BK109.out 0).trans rfl
                                  have hcz36_1 : wr.cell? ⟨gb109, 1, none⟩ = some (.slice A108_1 ((rd_T46 l0 x3_1).f1).length c108_1) := (blk_cell BK109.out 1).trans rfl
                                  have hcz36_2 : wr.cell? ⟨gb109, 2, none⟩ = some (.slice A108_2 ((rd_T46 l0 x3_1).f2).length c108_2) := (blk_cell BK109.out 2).trans rfl
                                  have hcz36_3 : wr.cell? ⟨gb109, 3, none⟩ = some (.int .i64 ((rd_T46 l0 x3_1).f3)) := (blk_cell BK109.out 3).trans rfl
                                  have hcz36_4 : wr.cell? ⟨gb109, 4, none⟩ = some (.int .i64 ((rd_T46 l0 x3_1).f4)) := (blk_cell BK109.out 4).trans rfl
                                  have hfz36_0 := blk_frozen BK109.out 0
                                  have hfz36_1 := blk_frozen BK109.out 1
                                  have hfz36_2 := blk_frozen BK109.out 2
                                  have hfz36_3 := blk_frozen BK109.out 3
                                  have hfz36_4 := blk_frozen BK109.out 4
                                  go_wp2
                                  go_roundg k4
                                  case measure => have := HK1.out; have := HJ1.out; have := HJ6.out; have := HK4.out; omega
                                  case rel => exact ⟨(wrap64 (x3_1 + 1)), (by first | rfl | (simp; done) | (simp [*]; done)), H', ⟨by have := HK1.out; have := HJ1.out; have := HJ6.out; have := HK4.out; omega⟩, ⟨by repeat (first | (with_reducible first | exact HB.out | apply below_alloc | apply pw_below_drewN | apply below_drew1 | refine below_set ?_ GE109.out) | exact HB.out)⟩⟩
                            · rw [if_neg c31] at H
                              have c31b0 : (((rd_T46 l0 x3_1).f0) == 3) = false := beq_eq_false_iff_ne.mpr c31
                              have c31b1 : (((rd_T46 l0 x3_1).f0) != 3) = true := bne_iff_ne.mpr c31
                              by_cases c37 : ((rd_T46 l0 x3_1).f4) = 0
                              · rw [if_pos c37] at H
                                have c37b0 : (((rd_T46 l0 x3_1).f4) == 0) = true := beq_iff_eq.mpr c37
                                have c37b1 : (((rd_T46 l0 x3_1).f4) != 0) = false := bne_eq_false_iff_eq.mpr c37
                                clear c37
                                have H' := Aside0.mk H
                                clear H
                                have hcz38_0 : wr.cell? ⟨gb109, 0, none⟩ = some (.int .i64 ((rd_T46 l0 x3_1).f0)) := (blk_cell BK109.out 0).trans rfl
                                have hcz38_1 : wr.cell? ⟨gb109, 1, none⟩ = some (.slice A108_1 ((rd_T46 l0 x3_1).f1).length c108_1) := (blk_cell BK109.out 1).trans rfl
                                have hcz38_2 : wr.cell? ⟨gb109, 2, none⟩ = some (.slice A108_2 ((rd_T46 l0 x3_1).f2).length c108_2) := (blk_cell BK109.out 2).trans rfl
                                have hcz38_3 : wr.cell? ⟨gb109, 3, none⟩ = some (.int .i64 ((rd_T46 l0 x3_1).f3)) := (blk_cell BK109.out 3).trans rfl
                                have hcz38_4 : wr.cell? ⟨gb109, 4, none⟩ = some (.int .i64 ((rd_T46 l0 x3_1).f4)) := (blk_cell BK109.out 4).trans rfl
                                have hfz38_0 := blk_frozen BK109.out 0
                                have hfz38_1 := blk_frozen BK109.out 1
                                have hfz38_2 := blk_frozen BK109.out 2
                                have hfz38_3 := blk_frozen BK109.out 3
                                have hfz38_4 := blk_frozen BK109.out 4
                                go_wp2
                                go_roundg k4
                                case measure => have := HK1.out; have := HJ1.out; have := HJ6.out; have := HK4.out; omega
                                case rel => exact ⟨(wrap64 (x3_1 + 1)), (by first | rfl | (simp; done) | (simp [*]; done)), H', ⟨by have := HK1.out; have := HJ1.out; have := HJ6.out; have := HK4.out; omega⟩, ⟨by repeat (first | (with_reducible first | exact HB.out | apply below_alloc | apply pw_below_drewN | apply below_drew1 | refine below_set ?_ GE109.out) | exact HB.out)⟩⟩
                              · rw [if_neg c37] at H
                                have c37b0 : (((rd_T46 l0 x3_1).f4) == 0) = false := beq_eq_false_iff_ne.mpr c37
                                have c37b1 : (((rd_T46 l0 x3_1).f4) != 0) = true := bne_iff_ne.mpr c37
                                obtain rfl := Option.some.inj H
                                have hcz39_0 : wr.cell? ⟨gb109, 0, none⟩ = some (.int .i64 ((rd_T46 l0 x3_1).f0)) := (blk_cell BK109.out 0).trans rfl
                                have hcz39_1 : wr.cell? ⟨gb109, 1, none⟩ = some (.slice A108_1 ((rd_T46 l0 x3_1).f1).length c108_1) := (blk_cell BK109.out 1).trans rfl
                                have hcz39_2 : wr.cell? ⟨gb109, 2, none⟩ = some (.slice A108_2 ((rd_T46 l0 x3_1).f2).length c108_2) := (blk_cell BK109.out 2).trans rfl
                                have hcz39_3 : wr.cell? ⟨gb109, 3, none⟩ = some (.int .i64 ((rd_T46 l0 x3_1).f3)) := (blk_cell BK109.out 3).trans rfl
                                have hcz39_4 : wr.cell? ⟨gb109, 4, none⟩ = some (.int .i64 ((rd_T46 l0 x3_1).f4)) := (blk_cell BK109.out 4).trans rfl
                                have hfz39_0 := blk_frozen BK109.out 0
                                have hfz39_1 := blk_frozen BK109.out 1
                                have hfz39_2 := blk_frozen BK109.out 2
                                have hfz39_3 := blk_frozen BK109.out 3
                                have hfz39_4 := blk_frozen BK109.out 4
                                go_wp2
                                go_ret
                                exact ⟨by first | rfl | (simp [errW_none, errW_some] <;> rfl) | (simp [*, errW_none, errW_some] <;> rfl), by repeat (first | (with_reducible first | exact HB.out | apply below_alloc | apply pw_below_drewN | apply below_drew1 | refine below_set ?_ GE109.out) | exact HB.out)⟩
              · rw [if_neg c6] at H
                exact absurd H (by simp)
            · rw [if_neg c5] at H
              exact absurd H (by simp)
          · replace c4 := Bool.eq_false_iff.mpr c4
            subst c4
            have H1 : (if (l0.length : Int) ≥ 1 then (some (decide ((l0.length : Int) ≤ 100000))) else (some false)) = some r := by rw [if_neg (show ¬ (false = true) by decide)] at H; exact H
            clear H
            have H := H1
            clear H1
            by_cases c40 : (l0.length : Int) ≥ 1
            · rw [if_pos c40] at H
              have c40b0 : decide (1 ≤ (l0.length : Int)) = true := decide_eq_true c40
              have c40b1 : decide (1 ≤ l0.length) = true := decide_eq_true (by omega)
              clear c40
              obtain rfl := Option.some.inj H
              go_wp2
              go_ret
              exact ⟨by first | rfl | (simp [errW_none, errW_some] <;> rfl) | (simp [*, errW_none, errW_some] <;> rfl), by repeat (first | (with_reducible first | exact HB.out | apply below_alloc | apply pw_below_drewN | apply below_drew1) | exact HB.out)⟩
            · rw [if_neg c40] at H
              have c40b0 : decide (1 ≤ (l0.length : Int)) = false := decide_eq_false c40
              have c40b1 : decide (1 ≤ l0.length) = false := decide_eq_false (by omega)
              clear c40
              obtain rfl := Option.some.inj H
              go_wp2
              go_ret
              exact ⟨by first | rfl | (simp [errW_none, errW_some] <;> rfl) | (simp [*, errW_none, errW_some] <;> rfl), by repeat (first | (with_reducible first | exact HB.out | apply below_alloc | apply pw_below_drewN | apply below_drew1) | exact HB.out)⟩
end Go.Proofs.Ytacnflelkpkbhaa.PA
end
