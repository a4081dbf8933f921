-- Printed by wip/xprint.py of this claim's authors, over the kit's print; not trusted: Lean checks it.
import Derived.Test.YtjhihohofhhknaaPFx0
import Derived.Test.YtjhihohofhhknaaPFx1
import Derived.Test.YtjhihohofhhknaaPFx2
namespace Go.Proofs.Ytjhihohofhhknaa.PF
open Go.RowKit Go.Proofs.YtjhihohofhhknaaW.PrintWords Go.Proofs.YtjhihohofhhknaaW.PrintLast Go.Proofs.YtjhihohofhhknaaW.PrintMore
attribute [local go_sem] max2_int min2_int max_two min_two max_three min_three max_four min_four   -- for this text's walks alone
set_option linter.unusedVariables false
set_option linter.unusedSimpArgs false

/-! ### tmpl_names: function 44 -/
mutual
def tmpl_names.l0 : Nat → List ByteArray → Int → List (S42) → Int → Int → Option (List ByteArray × Int)
  | 0, _, _, _, _, _ => none
  | k + 1, x4, x5, x10, x11, x12 => if x12 < x11 then (if 0 ≤ x12 then (if x12 < (x10.length : Int) then (tmpl_names.l1 k x4 x5 x10 x11 x12 ((rd_T42 x10 x12).f2) (((rd_T42 x10 x12).f2).length : Int) 0) else (none)) else (none)) else (some (x4, x5))
def tmpl_names.l1 : Nat → List ByteArray → Int → List (S42) → Int → Int → List (S37) → Int → Int → Option (List ByteArray × Int)
  | 0, _, _, _, _, _, _, _, _ => none
  | k + 1, x4, x5, x10, x11, x12, x17, x18, x19 => if x19 < x18 then (if 0 ≤ x19 then (if x19 < (x17.length : Int) then ((slices_Contains_string_string.f k x4 ((rd_T37 x17 x19).f0)).bind fun t117 => (if t117 = true then (tmpl_names.l1 k x4 (wrap64 (x5 + 1)) x10 x11 x12 x17 x18 (wrap64 (x19 + 1))) else (if x4.length < 8796093022208 then (tmpl_names.l1 k (x4 ++ [(rd_T37 x17 x19).f0]) (wrap64 (x5 + 1)) x10 x11 x12 x17 x18 (wrap64 (x19 + 1))) else (none)))) else (none)) else (none)) else (tmpl_names.l0 k x4 x5 x10 x11 (wrap64 (x12 + 1)))
end
def tmpl_names.f (k : Nat) (l0 : List (S42)) : Option (List ByteArray × Int) := tmpl_names.l0 k ([] : List ByteArray) 0 l0 (l0.length : Int) 0
theorem tmpl_names.mono_l : ∀ k, (∀ y0 y1 y2 y3 y4, LeO (tmpl_names.l0 k y0 y1 y2 y3 y4) (tmpl_names.l0 (k + 1) y0 y1 y2 y3 y4)) ∧ (∀ y0 y1 y2 y3 y4 y5 y6 y7, LeO (tmpl_names.l1 k y0 y1 y2 y3 y4 y5 y6 y7) (tmpl_names.l1 (k + 1) y0 y1 y2 y3 y4 y5 y6 y7))
  | 0 => ⟨fun _ _ _ _ _ r h => by simp [tmpl_names.l0] at h, fun _ _ _ _ _ _ _ _ r h => by simp [tmpl_names.l1] at h⟩
  | k + 1 => by
    obtain ⟨ih0, ih1⟩ := tmpl_names.mono_l k
    refine ⟨?_, ?_⟩
    · intro y0 y1 y2 y3 y4
      unfold tmpl_names.l0
      repeat' first
      | (with_reducible exact ih0 _ _ _ _ _)
      | (with_reducible exact ih1 _ _ _ _ _ _ _ _)
      | (with_reducible exact slices_Contains_string_string.mono _ _ _)
      | (with_reducible exact LeO.refl _)
      | (with_reducible exact LeO.none _)
      | (with_reducible refine LeO.ite ?_ ?_)
      | (with_reducible refine LeO.bind ?_ (fun _ => ?_))
      | exact ih0 _ _ _ _ _
      | exact ih1 _ _ _ _ _ _ _ _
      | exact slices_Contains_string_string.mono _ _ _
      | exact LeO.none _
      | refine LeO.ite ?_ ?_
      | refine LeO.bind ?_ (fun _ => ?_)
    · intro y0 y1 y2 y3 y4 y5 y6 y7
      unfold tmpl_names.l1
      repeat' first
      | (with_reducible exact ih0 _ _ _ _ _)
      | (with_reducible exact ih1 _ _ _ _ _ _ _ _)
      | (with_reducible exact slices_Contains_string_string.mono _ _ _)
      | (with_reducible exact LeO.refl _)
      | (with_reducible exact LeO.none _)
      | (with_reducible refine LeO.ite ?_ ?_)
      | (with_reducible refine LeO.bind ?_ (fun _ => ?_))
      | exact ih0 _ _ _ _ _
      | exact ih1 _ _ _ _ _ _ _ _
      | exact slices_Contains_string_string.mono _ _ _
      | exact LeO.none _
      | refine LeO.ite ?_ ?_
      | refine LeO.bind ?_ (fun _ => ?_)
theorem tmpl_names.mono : ∀ a0 k, LeO (tmpl_names.f k a0) (tmpl_names.f (k + 1) a0) := by
  intro a0 k
  obtain ⟨ih0, ih1⟩ := tmpl_names.mono_l k
  unfold tmpl_names.f
  repeat' first
      | (with_reducible exact ih0 _ _ _ _ _)
      | (with_reducible exact ih1 _ _ _ _ _ _ _ _)
      | (with_reducible exact slices_Contains_string_string.mono _ _ _)
      | (with_reducible exact LeO.refl _)
      | (with_reducible exact LeO.none _)
      | (with_reducible refine LeO.ite ?_ ?_)
      | (with_reducible refine LeO.bind ?_ (fun _ => ?_))
      | exact ih0 _ _ _ _ _
      | exact ih1 _ _ _ _ _ _ _ _
      | exact slices_Contains_string_string.mono _ _ _
      | exact LeO.none _
      | refine LeO.ite ?_ ?_
      | refine LeO.bind ?_ (fun _ => ?_)
set_option maxHeartbeats 8000000 in
set_option maxRecDepth 100000 in
theorem tmpl_names.calls (k : Nat) (A0 : Option Addr) (c0 : Nat) (l0 : List (S42)) (r1 : List ByteArray) (r2 : Int) (w : World) (hr0 : Kd.C k42 w A0 l0.length l0) (hc0 : l0.length ≤ c0) (h : tmpl_names.f k l0 = some (r1, r2)) :
    Calls Try.prog 44 #[.slice A0 l0.length c0] w fun e w' => ∃ v0_ : Value, e = .returned (.tuple #[v0_, .int .i64 r2]) ∧ Kd.R Kd.string 9 w' w.heap.size (fun _ => True) v0_ r1 ∧ Below w.heap.size w w' := by
  have hu42 := Try.underlying42
  have hu37 := Try.underlying37
  have HR0 := Aside0.mk hr0
  have HC0 := Aside0.mk hc0
  clear hr0 hc0
  have HB := Aside0.mk (Below.refl w.heap.size w)
  have H : (tmpl_names.l0 k ([] : List ByteArray) 0 l0 (l0.length : Int) 0) = some (r1, r2) := h
  clear h
  have H' := Aside0.mk H
  clear H
  go_enter Try.func44, Try.ntmps44
  go_wp2
  go_loopg [4, 5, 12] k (fun kq v4 v5 v12 w' => ∃ (x4_1 : List ByteArray) (x5_1 : Int) (x12_1 : Int), v5 = .int .i64 x5_1 ∧ v12 = .int .i64 x12_1 ∧ Aside0 (tmpl_names.l0 kq x4_1 x5_1 l0 (l0.length : Int) x12_1 = some (r1, r2)) ∧ Aside0 (kq ≤ k) ∧ Aside0 (Kd.R Kd.string 9 w' w.heap.size (fun _ => True) v4 x4_1) ∧ Aside0 (Below w.heap.size w w'))
  case atStart => exact ⟨(([] : List ByteArray)), (0), (0), (by first | rfl | (simp; done) | (simp [*]; done)), (by first | rfl | (simp; done) | (simp [*]; done)), H', ⟨Nat.le_refl _⟩, ⟨by first | exact Kd.R_nil _ _ _ _ _ | exact Kd.N_nil _ _ _ _ _ | exact Kd.V_nil _ _ _ _ _ | exact Kd.Q_nil _ _ _ _ _ | exact Kd.S_nil _ _ _ _ _⟩, ⟨by repeat (first | (with_reducible first | exact HB.out | apply below_alloc | apply pw_below_drewN | apply below_drew1) | exact HB.out)⟩⟩
  case round =>
    clear H'
    obtain ⟨x4_1, x5_1, x12_1, rfl, rfl, HA, HK1, HO_4, HB⟩ := hrel
    cases gk with
    | zero => exact absurd HA.out (by simp [tmpl_names.l0])
    | succ k1 =>
      have H := HA.out
      clear HA
      simp only [tmpl_names.l0] at H
      by_cases c2 : x12_1 < (l0.length : Int)
      · rw [if_pos c2] at H
        have c2b0 : decide (x12_1 < (l0.length : Int)) = true := decide_eq_true c2
        clear c2
        by_cases c3 : 0 ≤ x12_1
        · rw [if_pos c3] at H
          have c3b0 : decide (0 ≤ x12_1) = true := decide_eq_true c3
          clear c3
          by_cases c4 : x12_1 < (l0.length : Int)
          · rw [if_pos c4] at H
            have c4b0 : decide (x12_1 < (l0.length : Int)) = true := decide_eq_true c4
            clear c4
            have H' := Aside0.mk H
            clear H
            have p113 : 0 ≤ (x12_1 : Int) := of_decide_eq_true (by first | (with_reducible assumption) | assumption)
            have q113 : x12_1 < (l0.length : Int) := of_decide_eq_true (by first | (with_reducible assumption) | assumption)
            obtain ⟨ad113, A113_2, c113_2, e113, hx113_0, hx113_1, hx113_2, hl113_2, hi113_2⟩ := at_T42 HR0.out x12_1 p113 q113
            cases e113
            replace hx113_0 := (HB.out.cell (World.block_lt_of_cell? w _ hx113_0)).trans hx113_0
            replace hx113_1 := (HB.out.cell (World.block_lt_of_cell? w _ hx113_1)).trans hx113_1
            replace hx113_2 := (HB.out.cell (World.block_lt_of_cell? w _ hx113_2)).trans hx113_2
            have HR113_2 := Aside0.mk hi113_2
            have HC113_2 := Aside0.mk hl113_2
            clear hi113_2 hl113_2
            replace p113 := eq_true p113
            replace q113 := eq_true q113
            go_wp2_with (first | ((with_reducible refine gate_dst (N := 7) rfl ?_); refine box_event ?hg (N := 7) ?hd (cs := #[.string (⟨#[]⟩ : ByteArray), .int .u8 0, .slice none 0 0]) (t := 42) ?hr ?_; (case hd => rfl); (case hg => rfl); (case hr => first | (go_simp; done) | (go_simp; rfl)); intro gb114 hg w5 hbox hb; have n0_ := Aside0.mk (Kd.R_below (by (with_reducible repeat (first | apply Kd.R_alloc | apply Kd.R_drewN | apply Kd.R_drew)); exact HO_4.out) hb); have n1_ := Aside0.mk (below_step (by repeat (first | (with_reducible first | exact HB.out | apply below_alloc | apply pw_below_drewN | apply below_drew1) | exact HB.out)) hb); have n2_ := Aside0.mk (hbox); have n3_ := Aside0.mk ((by rw [hg]; exact (below_size (by repeat (first | (with_reducible first | exact HB.out | apply below_alloc | apply pw_below_drewN | apply below_drew1) | exact HB.out))) : w.heap.size ≤ gb114)); have n4_ := Aside0.mk ((by rw [hg]; exact (below_size (by repeat (first | (with_reducible first | exact HB.out | apply below_alloc | apply pw_below_drewN | apply below_drew1) | exact HB.out))) : w.heap.size ≤ gb114)); clear HO_4; clear HB; have HO_4 := n0_; have HB := n1_; have BK114 := n2_; have GW114 := n3_; have GE114 := n4_; clear n0_ n1_ n2_ n3_ n4_; clear hb hbox hg; have hcz6_0 : w5.cell? ⟨gb114, 0, none⟩ = some (.string (⟨#[]⟩ : ByteArray)) := (blk_cell BK114.out 0).trans rfl; have hcz6_1 : w5.cell? ⟨gb114, 1, none⟩ = some (.int .u8 0) := (blk_cell BK114.out 1).trans rfl; have hcz6_2 : w5.cell? ⟨gb114, 2, none⟩ = some (.slice none 0 0) := (blk_cell BK114.out 2).trans rfl; have hfz6_0 := blk_frozen BK114.out 0; have hfz6_1 := blk_frozen BK114.out 1; have hfz6_2 := blk_frozen BK114.out 2))
            go_loopg [4, 5, 19] k1 (fun kq v4 v5 v19 w' => ∃ (x4_2 : List ByteArray) (x5_2 : Int) (x19_2 : Int), v5 = .int .i64 x5_2 ∧ v19 = .int .i64 x19_2 ∧ Aside0 (tmpl_names.l1 kq x4_2 x5_2 l0 (l0.length : Int) x12_1 ((rd_T42 l0 x12_1).f2) (((rd_T42 l0 x12_1).f2).length : Int) x19_2 = some (r1, r2)) ∧ Aside0 (kq ≤ k1) ∧ Aside0 (Kd.R Kd.string 9 w' w.heap.size (fun _ => True) v4 x4_2) ∧ Aside0 (w'.heap[gb114]? = some (.cells #[.string ((rd_T42 l0 x12_1).f0), .int .u8 ((rd_T42 l0 x12_1).f1), (.slice A113_2 ((rd_T42 l0 x12_1).f2).length c113_2)] 42 (0, 0))) ∧ Aside0 (Below w.heap.size w w'))
            case atStart => exact ⟨(x4_1), (x5_1), (0), (by first | rfl | (simp; done) | (simp [*]; done)), (by first | rfl | (simp; done) | (simp [*]; done)), H', ⟨Nat.le_refl _⟩, ⟨by (with_reducible repeat (first | apply Kd.R_alloc | apply Kd.R_drewN | apply Kd.R_drew)); exact Kd.R_mono (Kd.R_far (p := ⟨gb114, 2, none⟩) (Kd.R_far (p := ⟨gb114, 1, none⟩) (Kd.R_far (p := ⟨gb114, 0, none⟩) (Kd.R_types HO_4.out BK114.out (by decide)) (fun _ hk => hk.2) (.string ((rd_T42 l0 x12_1).f0))) (fun _ hk => hk.2) (.int .u8 ((rd_T42 l0 x12_1).f1))) (fun _ hk => hk.2) (.slice A113_2 ((rd_T42 l0 x12_1).f2).length c113_2)) (fun _ hk => trivial)⟩, ⟨by (with_reducible repeat (first | refine blk_drewN ?_ _ | refine blk_drew ?_ | refine blk_alloc ?_ _)); refine blk_put (cs := #[.string ((rd_T42 l0 x12_1).f0), .int .u8 ((rd_T42 l0 x12_1).f1), .slice none 0 0]) ?_ 2 _ rfl; (with_reducible repeat (first | refine blk_drewN ?_ _ | refine blk_drew ?_ | refine blk_alloc ?_ _)); refine blk_put (cs := #[.string ((rd_T42 l0 x12_1).f0), .int .u8 0, .slice none 0 0]) ?_ 1 _ rfl; (with_reducible repeat (first | refine blk_drewN ?_ _ | refine blk_drew ?_ | refine blk_alloc ?_ _)); refine blk_put (cs := #[.string (⟨#[]⟩ : ByteArray), .int .u8 0, .slice none 0 0]) ?_ 0 _ rfl; (with_reducible repeat (first | refine blk_drewN ?_ _ | refine blk_drew ?_ | refine blk_alloc ?_ _)); exact BK114.out⟩, ⟨by repeat (first | (with_reducible first | exact HB.out | apply below_alloc | apply pw_below_drewN | apply below_drew1 | refine below_set ?_ GE114.out) | exact HB.out)⟩⟩
            case round =>
              clear H'
              try clear c1
              try clear p1
              try clear q1
              try clear hx1
              try clear c2
              try clear c2b0
              try clear p2
              try clear c3
              try clear c3b0
              try clear c4
              try clear c4b0
              try clear hcz6_0
              try clear hcz6_1
              try clear hcz6_2
              try clear hfz6_0
              try clear hfz6_1
              try clear hfz6_2
              try clear hx113_0
              try clear hx113_1
              try clear hx113_2
              try clear p113
              try clear q113
              obtain ⟨x4_2, x5_2, x19_2, rfl, rfl, HA, HK2, HO_4, BK114, HB⟩ := hrel
              cases gk with
              | zero => exact absurd HA.out (by simp [tmpl_names.l1])
              | succ k2 =>
                have H := HA.out
                clear HA
                simp only [tmpl_names.l1] at H
                by_cases c7 : x19_2 < (((rd_T42 l0 x12_1).f2).length : Int)
                · rw [if_pos c7] at H
                  have c7b0 : decide (x19_2 < (((rd_T42 l0 x12_1).f2).length : Int)) = true := decide_eq_true c7
                  clear c7
                  by_cases c8 : 0 ≤ x19_2
                  · rw [if_pos c8] at H
                    have c8b0 : decide (0 ≤ x19_2) = true := decide_eq_true c8
                    clear c8
                    by_cases c9 : x19_2 < (((rd_T42 l0 x12_1).f2).length : Int)
                    · rw [if_pos c9] at H
                      have c9b0 : decide (x19_2 < (((rd_T42 l0 x12_1).f2).length : Int)) = true := decide_eq_true c9
                      clear c9
                      replace H := Option.bind_eq_some_iff.mp H
                      obtain ⟨t117, A100, H⟩ := H
                      replace H : (if t117 = true then (tmpl_names.l1 k2 x4_2 (wrap64 (x5_2 + 1)) l0 (l0.length : Int) x12_1 ((rd_T42 l0 x12_1).f2) (((rd_T42 l0 x12_1).f2).length : Int) (wrap64 (x19_2 + 1))) else (if x4_2.length < 8796093022208 then (tmpl_names.l1 k2 (x4_2 ++ [(rd_T37 ((rd_T42 l0 x12_1).f2) x19_2).f0]) (wrap64 (x5_2 + 1)) l0 (l0.length : Int) x12_1 ((rd_T42 l0 x12_1).f2) (((rd_T42 l0 x12_1).f2).length : Int) (wrap64 (x19_2 + 1))) else (none))) = some (r1, r2) := H
                      have A10 := Aside0.mk A100
                      clear A100
                      by_cases c11 : t117 = true
                      · subst c11
                        have H1 : (tmpl_names.l1 k2 x4_2 (wrap64 (x5_2 + 1)) l0 (l0.length : Int) x12_1 ((rd_T42 l0 x12_1).f2) (((rd_T42 l0 x12_1).f2).length : Int) (wrap64 (x19_2 + 1))) = some (r1, r2) := by rw [if_pos rfl] at H; exact H
                        clear H
                        have H := H1
                        clear H1
                        have H' := Aside0.mk H
                        clear H
                        have p115 : 0 ≤ (x19_2 : Int) := of_decide_eq_true (by first | (with_reducible assumption) | assumption)
                        have q115 : x19_2 < (((rd_T42 l0 x12_1).f2).length : Int) := of_decide_eq_true (by first | (with_reducible assumption) | assumption)
                        obtain ⟨ad115, e115, hx115_0, hx115_1, hx115_2⟩ := at_T37 HR113_2.out x19_2 p115 q115
                        cases e115
                        replace hx115_0 := (HB.out.cell (World.block_lt_of_cell? w _ hx115_0)).trans hx115_0
                        replace hx115_1 := (HB.out.cell (World.block_lt_of_cell? w _ hx115_1)).trans hx115_1
                        replace hx115_2 := (HB.out.cell (World.block_lt_of_cell? w _ hx115_2)).trans hx115_2
                        replace p115 := eq_true p115
                        replace q115 := eq_true q115
                        go_wp2_with (first | ((with_reducible refine gate_dst (N := 9) rfl ?_); refine box_event ?hg (N := 9) ?hd (cs := #[.string (⟨#[]⟩ : ByteArray), .int .i64 0, .bool false]) (t := 37) ?hr ?_; (case hd => rfl); (case hg => rfl); (case hr => first | (go_simp; done) | (go_simp; rfl)); intro gb116 hg w12 hbox hb; have n0_ := Aside0.mk (Kd.R_below (by (with_reducible repeat (first | apply Kd.R_alloc | apply Kd.R_drewN | apply Kd.R_drew)); exact HO_4.out) hb); have n1_ := Aside0.mk (blk_below (g := gb114) (o := .cells #[.string ((rd_T42 l0 x12_1).f0), .int .u8 ((rd_T42 l0 x12_1).f1), .slice (some ad115) ((rd_T42 l0 x12_1).f2).length c113_2] 42 (0, 0)) (by (with_reducible repeat (first | refine blk_drewN ?_ _ | refine blk_drew ?_ | refine blk_alloc ?_ _)); exact BK114.out) hb); have n2_ := Aside0.mk (below_step (by repeat (first | (with_reducible first | exact HB.out | apply below_alloc | apply pw_below_drewN | apply below_drew1 | refine below_set ?_ GE114.out) | exact HB.out)) hb); have n3_ := Aside0.mk (hbox); have n4_ := Aside0.mk ((by rw [hg]; exact (below_size (by repeat (first | (with_reducible first | exact HB.out | apply below_alloc | apply pw_below_drewN | apply below_drew1 | refine below_set ?_ GE114.out) | exact HB.out))) : w.heap.size ≤ gb116)); have n5_ := Aside0.mk ((by rw [hg]; exact (below_size (by repeat (first | (with_reducible first | exact HB.out | apply below_alloc | apply pw_below_drewN | apply below_drew1 | refine below_set ?_ GE114.out) | exact HB.out))) : w.heap.size ≤ gb116)); have n6_ := Aside0.mk ((by rw [hg]; exact Nat.ne_of_lt (blk_lt (g := gb114) (o := .cells #[.string ((rd_T42 l0 x12_1).f0), .int .u8 ((rd_T42 l0 x12_1).f1), .slice (some ad115) ((rd_T42 l0 x12_1).f2).length c113_2] 42 (0, 0)) (by (with_reducible repeat (first | refine blk_drewN ?_ _ | refine blk_drew ?_ | refine blk_alloc ?_ _)); exact BK114.out)) : gb114 ≠ gb116)); have n7_ := Aside0.mk ((by rw [hg]; exact Nat.ne_of_gt (blk_lt (g := gb114) (o := .cells #[.string ((rd_T42 l0 x12_1).f0), .int .u8 ((rd_T42 l0 x12_1).f1), .slice (some ad115) ((rd_T42 l0 x12_1).f2).length c113_2] 42 (0, 0)) (by (with_reducible repeat (first | refine blk_drewN ?_ _ | refine blk_drew ?_ | refine blk_alloc ?_ _)); exact BK114.out)) : gb116 ≠ gb114)); clear HO_4; clear BK114; clear HB; have HO_4 := n0_; have BK114 := n1_; have HB := n2_; have BK116 := n3_; have GW116 := n4_; have GE116 := n5_; have NB114_116 := n6_; have NB116_114 := n7_; clear n0_ n1_ n2_ n3_ n4_ n5_ n6_ n7_; clear hb hbox hg; have hnb13 := NB116_114.out; have hnc13 := NB114_116.out; have hcz14_0 : w12.cell? ⟨gb116, 0, none⟩ = some (.string (⟨#[]⟩ : ByteArray)) := (blk_cell BK116.out 0).trans rfl; have hcz14_1 : w12.cell? ⟨gb116, 1, none⟩ = some (.int .i64 0) := (blk_cell BK116.out 1).trans rfl; have hcz14_2 : w12.cell? ⟨gb116, 2, none⟩ = some (.bool false) := (blk_cell BK116.out 2).trans rfl; have hfz14_0 := blk_frozen BK116.out 0; have hfz14_1 := blk_frozen BK116.out 1; have hfz14_2 := blk_frozen BK116.out 2; obtain ⟨Ao15, co15, eo15⟩ := Kd.R_slice HO_4.out; subst eo15) | ((with_reducible refine gate_callee (f := 56) rfl ?_); refine goesL_ (some 28) rfl rfl Try.func56 (by kernel_rfl) rfl #[.slice Ao15 x4_2.length co15, .string ((rd_T37 ((rd_T42 l0 x12_1).f2) x19_2).f0)] rfl (by (try simp only [List.map_toArray, List.map_cons, List.map_nil]); first | done | rfl | (simp only [List.length_drop, List.length_take]; rfl)) ?_; (with_reducible refine (slices_Contains_string_string.calls k2 _ _ x4_2 ((rd_T37 ((rd_T42 l0 x12_1).f2) x19_2).f0) true _ ?side1 ?side2 A10.out).mono ?_); (case side1 => refine (Kd.R_reads' (e := 9) (base := w.heap.size) (ok := fun k_ => True) (n := x4_2.length) (c := co15) ?_).2.2; exact (by (with_reducible repeat (first | apply Kd.R_alloc | apply Kd.R_drewN | apply Kd.R_drew)); exact (Kd.R_mono (Kd.R_far (p := ⟨gb116, 2, none⟩) (Kd.R_far (p := ⟨gb116, 1, none⟩) (Kd.R_far (p := ⟨gb116, 0, none⟩) (Kd.R_types HO_4.out BK116.out (by decide)) (fun _ hk => hk.2) (.string ((rd_T37 ((rd_T42 l0 x12_1).f2) x19_2).f0))) (fun _ hk => hk.2) (.int .i64 ((rd_T37 ((rd_T42 l0 x12_1).f2) x19_2).f1))) (fun _ hk => hk.2) (.bool ((rd_T37 ((rd_T42 l0 x12_1).f2) x19_2).f2))) (fun _ h_ => h_.1)))); (case side2 => exact (Kd.R_reads' HO_4.out).2.1); rintro e w' ⟨rfl, ⟨nd, rfl⟩⟩; refine ⟨_, rfl, ?_⟩))
                        go_roundg k2
                        case measure => have := HK1.out; have := HK2.out; omega
                        case rel => exact ⟨(x4_2), (wrap64 (x5_2 + 1)), (wrap64 (x19_2 + 1)), (by first | rfl | (simp; done) | (simp [*]; done)), (by first | rfl | (simp; done) | (simp [*]; done)), H', ⟨by have := HK1.out; have := HK2.out; omega⟩, ⟨by (with_reducible repeat (first | apply Kd.R_alloc | apply Kd.R_drewN | apply Kd.R_drew)); exact Kd.R_mono (Kd.R_far (p := ⟨gb116, 2, none⟩) (Kd.R_far (p := ⟨gb116, 1, none⟩) (Kd.R_far (p := ⟨gb116, 0, none⟩) (Kd.R_types HO_4.out BK116.out (by decide)) (fun _ hk => hk.2) (.string ((rd_T37 ((rd_T42 l0 x12_1).f2) x19_2).f0))) (fun _ hk => hk.2) (.int .i64 ((rd_T37 ((rd_T42 l0 x12_1).f2) x19_2).f1))) (fun _ hk => hk.2) (.bool ((rd_T37 ((rd_T42 l0 x12_1).f2) x19_2).f2))) (fun _ hk => trivial)⟩, ⟨by (with_reducible repeat (first | refine blk_drewN ?_ _ | refine blk_drew ?_ | refine blk_alloc ?_ _)); refine blk_far ?_ NB114_116.out _; (with_reducible repeat (first | refine blk_drewN ?_ _ | refine blk_drew ?_ | refine blk_alloc ?_ _)); refine blk_far ?_ NB114_116.out _; (with_reducible repeat (first | refine blk_drewN ?_ _ | refine blk_drew ?_ | refine blk_alloc ?_ _)); refine blk_far ?_ NB114_116.out _; (with_reducible repeat (first | refine blk_drewN ?_ _ | refine blk_drew ?_ | refine blk_alloc ?_ _)); exact BK114.out⟩, ⟨by repeat (first | (with_reducible first | exact HB.out | apply below_alloc | apply pw_below_drewN | apply below_drew1 | refine below_set ?_ GE114.out | refine below_set ?_ GE116.out) | exact HB.out)⟩⟩
                      · replace c11 := Bool.eq_false_iff.mpr c11
                        subst c11
                        have H1 : (if x4_2.length < 8796093022208 then (tmpl_names.l1 k2 (x4_2 ++ [(rd_T37 ((rd_T42 l0 x12_1).f2) x19_2).f0]) (wrap64 (x5_2 + 1)) l0 (l0.length : Int) x12_1 ((rd_T42 l0 x12_1).f2) (((rd_T42 l0 x12_1).f2).length : Int) (wrap64 (x19_2 + 1))) else (none)) = some (r1, r2) := by rw [if_neg (show ¬ (false = true) by decide)] at H; exact H
                        clear H
                        have H := H1
                        clear H1
                        by_cases c16 : x4_2.length < 8796093022208
                        · rw [if_pos c16] at H
                          have LMc16 := Aside0.mk c16
                          clear c16
                          obtain ⟨y118, hy118⟩ : ∃ y_ : List ByteArray, y_ = (x4_2 ++ [(rd_T37 ((rd_T42 l0 x12_1).f2) x19_2).f0]) := ⟨_, rfl⟩
                          replace H : (tmpl_names.l1 k2 y118 (wrap64 (x5_2 + 1)) l0 (l0.length : Int) x12_1 ((rd_T42 l0 x12_1).f2) (((rd_T42 l0 x12_1).f2).length : Int) (wrap64 (x19_2 + 1))) = some (r1, r2) := by first | (rw [hy118]; with_reducible exact H) | (have H2_ := (Option.bind_some _ _).symm.trans H; rw [hy118]; with_reducible exact H2_) | (have H2_ := (Option.bind_some _ _).symm.trans H; with_reducible exact H2_) | with_reducible exact H | (rw [hy118]; exact H) | exact H
                          have Ny118 := Aside0.mk hy118
                          clear hy118
                          have H' := Aside0.mk H
                          clear H
                          have p115 : 0 ≤ (x19_2 : Int) := of_decide_eq_true (by first | (with_reducible assumption) | assumption)
                          have q115 : x19_2 < (((rd_T42 l0 x12_1).f2).length : Int) := of_decide_eq_true (by first | (with_reducible assumption) | assumption)
                          obtain ⟨ad115, e115, hx115_0, hx115_1, hx115_2⟩ := at_T37 HR113_2.out x19_2 p115 q115
                          cases e115
                          replace hx115_0 := (HB.out.cell (World.block_lt_of_cell? w _ hx115_0)).trans hx115_0
                          replace hx115_1 := (HB.out.cell (World.block_lt_of_cell? w _ hx115_1)).trans hx115_1
                          replace hx115_2 := (HB.out.cell (World.block_lt_of_cell? w _ hx115_2)).trans hx115_2
                          replace p115 := eq_true p115
                          replace q115 := eq_true q115
                          go_wp2_with (first | ((with_reducible refine gate_dst (N := 9) rfl ?_); refine box_event ?hg (N := 9) ?hd (cs := #[.string (⟨#[]⟩ : ByteArray), .int .i64 0, .bool false]) (t := 37) ?hr ?_; (case hd => rfl); (case hg => rfl); (case hr => first | (go_simp; done) | (go_simp; rfl)); intro gb116 hg w17 hbox hb; have n0_ := Aside0.mk (Kd.R_below (by (with_reducible repeat (first | apply Kd.R_alloc | apply Kd.R_drewN | apply Kd.R_drew)); exact HO_4.out) hb); have n1_ := Aside0.mk (blk_below (g := gb114) (o := .cells #[.string ((rd_T42 l0 x12_1).f0), .int .u8 ((rd_T42 l0 x12_1).f1), .slice (some ad115) ((rd_T42 l0 x12_1).f2).length c113_2] 42 (0, 0)) (by (with_reducible repeat (first | refine blk_drewN ?_ _ | refine blk_drew ?_ | refine blk_alloc ?_ _)); exact BK114.out) hb); have n2_ := Aside0.mk (below_step (by repeat (first | (with_reducible first | exact HB.out | apply below_alloc | apply pw_below_drewN | apply below_drew1 | refine below_set ?_ GE114.out) | exact HB.out)) hb); have n3_ := Aside0.mk (hbox); have n4_ := Aside0.mk ((by rw [hg]; exact (below_size (by repeat (first | (with_reducible first | exact HB.out | apply below_alloc | apply pw_below_drewN | apply below_drew1 | refine below_set ?_ GE114.out) | exact HB.out))) : w.heap.size ≤ gb116)); have n5_ := Aside0.mk ((by rw [hg]; exact (below_size (by repeat (first | (with_reducible first | exact HB.out | apply below_alloc | apply pw_below_drewN | apply below_drew1 | refine below_set ?_ GE114.out) | exact HB.out))) : w.heap.size ≤ gb116)); have n6_ := Aside0.mk ((by rw [hg]; exact Nat.ne_of_lt (blk_lt (g := gb114) (o := .cells #[.string ((rd_T42 l0 x12_1).f0), .int .u8 ((rd_T42 l0 x12_1).f1), .slice (some ad115) ((rd_T42 l0 x12_1).f2).length c113_2] 42 (0, 0)) (by (with_reducible repeat (first | refine blk_drewN ?_ _ | refine blk_drew ?_ | refine blk_alloc ?_ _)); exact BK114.out)) : gb114 ≠ gb116)); have n7_ := Aside0.mk ((by rw [hg]; exact Nat.ne_of_gt (blk_lt (g := gb114) (o := .cells #[.string ((rd_T42 l0 x12_1).f0), .int .u8 ((rd_T42 l0 x12_1).f1), .slice (some ad115) ((rd_T42 l0 x12_1).f2).length c113_2] 42 (0, 0)) (by (with_reducible repeat (first | refine blk_drewN ?_ _ | refine blk_drew ?_ | refine blk_alloc ?_ _)); exact BK114.out)) : gb116 ≠ gb114)); clear HO_4; clear BK114; clear HB; have HO_4 := n0_; have BK114 := n1_; have HB := n2_; have BK116 := n3_; have GW116 := n4_; have GE116 := n5_; have NB114_116 := n6_; have NB116_114 := n7_; clear n0_ n1_ n2_ n3_ n4_ n5_ n6_ n7_; clear hb hbox hg; have hnb18 := NB116_114.out; have hnc18 := NB114_116.out; have hcz19_0 : w17.cell? ⟨gb116, 0, none⟩ = some (.string (⟨#[]⟩ : ByteArray)) := (blk_cell BK116.out 0).trans rfl; have hcz19_1 : w17.cell? ⟨gb116, 1, none⟩ = some (.int .i64 0) := (blk_cell BK116.out 1).trans rfl; have hcz19_2 : w17.cell? ⟨gb116, 2, none⟩ = some (.bool false) := (blk_cell BK116.out 2).trans rfl; have hfz19_0 := blk_frozen BK116.out 0; have hfz19_1 := blk_frozen BK116.out 1; have hfz19_2 := blk_frozen BK116.out 2; obtain ⟨Ao20, co20, eo20⟩ := Kd.R_slice HO_4.out; subst eo20) | ((with_reducible refine gate_callee (f := 56) rfl ?_); refine goesL_ (some 28) rfl rfl Try.func56 (by kernel_rfl) rfl #[.slice Ao20 x4_2.length co20, .string ((rd_T37 ((rd_T42 l0 x12_1).f2) x19_2).f0)] rfl (by (try simp only [List.map_toArray, List.map_cons, List.map_nil]); first | done | rfl | (simp only [List.length_drop, List.length_take]; rfl)) ?_; (with_reducible refine (slices_Contains_string_string.calls k2 _ _ x4_2 ((rd_T37 ((rd_T42 l0 x12_1).f2) x19_2).f0) false _ ?side1 ?side2 A10.out).mono ?_); (case side1 => refine (Kd.R_reads' (e := 9) (base := w.heap.size) (ok := fun k_ => True) (n := x4_2.length) (c := co20) ?_).2.2; exact (by (with_reducible repeat (first | apply Kd.R_alloc | apply Kd.R_drewN | apply Kd.R_drew)); exact (Kd.R_mono (Kd.R_far (p := ⟨gb116, 2, none⟩) (Kd.R_far (p := ⟨gb116, 1, none⟩) (Kd.R_far (p := ⟨gb116, 0, none⟩) (Kd.R_types HO_4.out BK116.out (by decide)) (fun _ hk => hk.2) (.string ((rd_T37 ((rd_T42 l0 x12_1).f2) x19_2).f0))) (fun _ hk => hk.2) (.int .i64 ((rd_T37 ((rd_T42 l0 x12_1).f2) x19_2).f1))) (fun _ hk => hk.2) (.bool ((rd_T37 ((rd_T42 l0 x12_1).f2) x19_2).f2))) (fun _ h_ => h_.1)))); (case side2 => exact (Kd.R_reads' HO_4.out).2.1); rintro e w' ⟨rfl, ⟨nd, rfl⟩⟩; refine ⟨_, rfl, ?_⟩) | ((with_reducible refine gate_builtin (b := .append) (xs := #[.tmp 30, .tmp 33]) rfl ?_); at_builtin; refine Kd.R_append Kd.string (w0 := w) w.heap.size rfl (.tmp 30) (.tmp 33) 32 9 (.string ⟨#[]⟩) 16 rfl Try.underlying32 info9 rfl (by decide) (by omega) (.slice Ao20 x4_2.length co20) x4_2 ((rd_T37 ((rd_T42 l0 x12_1).f2) x19_2).f0) [.string ((rd_T37 ((rd_T42 l0 x12_1).f2) x19_2).f0)] (fun _ => True) (fun _ => False) rfl (by first | (go_simp; done) | (go_simp; rfl)) ?aP (fun _ hk => hk.elim) ?aF ?aO ?aB ?aS ?aL ?_; (case aP => exact rfl); (case aB => exact (by repeat (first | (with_reducible first | exact HB.out | apply below_alloc | apply pw_below_drewN | apply below_drew1 | refine below_set ?_ GE114.out | refine below_set ?_ GE116.out) | exact HB.out))); (case aF => exact (fun _ _ => trivial)); (case aO => exact (by (with_reducible repeat (first | apply Kd.R_alloc | apply Kd.R_drewN | apply Kd.R_drew)); exact Kd.R_mono (Kd.R_far (p := ⟨gb116, 2, none⟩) (Kd.R_far (p := ⟨gb116, 1, none⟩) (Kd.R_far (p := ⟨gb116, 0, none⟩) (Kd.R_types HO_4.out BK116.out (by decide)) (fun _ hk => hk.2) (.string ((rd_T37 ((rd_T42 l0 x12_1).f2) x19_2).f0))) (fun _ hk => hk.2) (.int .i64 ((rd_T37 ((rd_T42 l0 x12_1).f2) x19_2).f1))) (fun _ hk => hk.2) (.bool ((rd_T37 ((rd_T42 l0 x12_1).f2) x19_2).f2))) (fun _ hk => trivial))); (case aS => exact (below_size (by repeat (first | (with_reducible first | exact HB.out | apply below_alloc | apply pw_below_drewN | apply below_drew1 | refine below_set ?_ GE114.out | refine below_set ?_ GE116.out) | exact HB.out)))); (case aL => have := LMc16.out; omega); intro v119 w21 ho hb hg hat; rw [← Ny118.out] at ho; have n0_ := Aside0.mk (blk_grown (g := gb114) (o := .cells #[.string ((rd_T42 l0 x12_1).f0), .int .u8 ((rd_T42 l0 x12_1).f1), .slice (some ad115) ((rd_T42 l0 x12_1).f2).length c113_2] 42 (0, 0)) (by (with_reducible repeat (first | refine blk_drewN ?_ _ | refine blk_drew ?_ | refine blk_alloc ?_ _)); refine blk_far ?_ NB114_116.out _; (with_reducible repeat (first | refine blk_drewN ?_ _ | refine blk_drew ?_ | refine blk_alloc ?_ _)); refine blk_far ?_ NB114_116.out _; (with_reducible repeat (first | refine blk_drewN ?_ _ | refine blk_drew ?_ | refine blk_alloc ?_ _)); refine blk_far ?_ NB114_116.out _; (with_reducible repeat (first | refine blk_drewN ?_ _ | refine blk_drew ?_ | refine blk_alloc ?_ _)); exact BK114.out) hg (Kd.R_ne HO_4.out BK114.out (by decide))); have n1_ := Aside0.mk (blk_grown (g := gb116) (o := .cells #[.string ((rd_T37 ((rd_T42 l0 x12_1).f2) x19_2).f0), .int .i64 ((rd_T37 ((rd_T42 l0 x12_1).f2) x19_2).f1), .bool ((rd_T37 ((rd_T42 l0 x12_1).f2) x19_2).f2)] 37 (0, 0)) (by (with_reducible repeat (first | refine blk_drewN ?_ _ | refine blk_drew ?_ | refine blk_alloc ?_ _)); refine blk_put (cs := #[.string ((rd_T37 ((rd_T42 l0 x12_1).f2) x19_2).f0), .int .i64 ((rd_T37 ((rd_T42 l0 x12_1).f2) x19_2).f1), .bool false]) ?_ 2 _ rfl; (with_reducible repeat (first | refine blk_drewN ?_ _ | refine blk_drew ?_ | refine blk_alloc ?_ _)); refine blk_put (cs := #[.string ((rd_T37 ((rd_T42 l0 x12_1).f2) x19_2).f0), .int .i64 0, .bool false]) ?_ 1 _ rfl; (with_reducible repeat (first | refine blk_drewN ?_ _ | refine blk_drew ?_ | refine blk_alloc ?_ _)); refine blk_put (cs := #[.string (⟨#[]⟩ : ByteArray), .int .i64 0, .bool false]) ?_ 0 _ rfl; (with_reducible repeat (first | refine blk_drewN ?_ _ | refine blk_drew ?_ | refine blk_alloc ?_ _)); exact BK116.out) hg (Kd.R_ne HO_4.out BK116.out (by decide))); have n2_ := Aside0.mk (hb); have n3_ := Aside0.mk (ho); clear BK114; clear BK116; clear HB; clear HO_4; have BK114 := n0_; have BK116 := n1_; have HB := n2_; have HO120 := n3_; clear n0_ n1_ n2_ n3_; clear ho hb hg hat))
                          go_roundg k2
                          case measure => have := HK1.out; have := HK2.out; omega
                          case rel => exact ⟨(y118), (wrap64 (x5_2 + 1)), (wrap64 (x19_2 + 1)), (by first | rfl | (simp; done) | (simp [*]; done)), (by first | rfl | (simp; done) | (simp [*]; done)), H', ⟨by have := HK1.out; have := HK2.out; omega⟩, ⟨by (with_reducible repeat (first | apply Kd.R_alloc | apply Kd.R_drewN | apply Kd.R_drew)); exact HO120.out⟩, ⟨by (with_reducible repeat (first | refine blk_drewN ?_ _ | refine blk_drew ?_ | refine blk_alloc ?_ _)); exact BK114.out⟩, ⟨by repeat (first | (with_reducible first | exact HB.out | apply below_alloc | apply pw_below_drewN | apply below_drew1 | refine below_set ?_ GE114.out | refine below_set ?_ GE116.out) | exact HB.out)⟩⟩
                        · rw [if_neg c16] at H
                          exact absurd H (by simp)
                    · rw [if_neg c9] at H
                      exact absurd H (by simp)
                  · rw [if_neg c8] at H
                    exact absurd H (by simp)
                · rw [if_neg c7] at H
                  have c7b0 : decide (x19_2 < (((rd_T42 l0 x12_1).f2).length : Int)) = false := decide_eq_false c7
                  clear c7
                  have H' := Aside0.mk H
                  clear H
                  go_wp2
                  go_roundg k2
                  case measure => have := HK1.out; have := HK2.out; omega
                  case rel => exact ⟨(x4_2), (x5_2), (wrap64 (x12_1 + 1)), (by first | rfl | (simp; done) | (simp [*]; done)), (by first | rfl | (simp; done) | (simp [*]; done)), H', ⟨by have := HK1.out; have := HK2.out; omega⟩, ⟨by (with_reducible repeat (first | apply Kd.R_alloc | apply Kd.R_drewN | apply Kd.R_drew)); exact HO_4.out⟩, ⟨by repeat (first | (with_reducible first | exact HB.out | apply below_alloc | apply pw_below_drewN | apply below_drew1 | refine below_set ?_ GE114.out) | exact HB.out)⟩⟩
          · rw [if_neg c4] at H
            exact absurd H (by simp)
        · rw [if_neg c3] at H
          exact absurd H (by simp)
      · rw [if_neg c2] at H
        have c2b0 : decide (x12_1 < (l0.length : Int)) = false := decide_eq_false c2
        clear c2
        simp only [Option.some.injEq, Prod.mk.injEq] at H
        obtain ⟨rfl, rfl⟩ := H
        go_wp2
        go_ret2
        exact ⟨_, by first | rfl | (simp [errW_none, errW_some] <;> rfl) | (simp [*, errW_none, errW_some] <;> rfl), by (with_reducible repeat (first | apply Kd.R_alloc | apply Kd.R_drewN | apply Kd.R_drew)); exact HO_4.out, by repeat (first | (with_reducible first | exact HB.out | apply below_alloc | apply pw_below_drewN | apply below_drew1) | exact HB.out)⟩

/-! ### tmpl_Names: function 26 -/
def tmpl_Names.f (k : Nat) (l0 : List (S42)) : Option (List ByteArray) := (tmpl_names.f k l0).bind fun bt121 => (some bt121.1)
theorem tmpl_Names.mono : ∀ a0 k, LeO (tmpl_Names.f k a0) (tmpl_Names.f (k + 1) a0) := by
  intro a0 k
  unfold tmpl_Names.f
  repeat' first
      | (with_reducible exact tmpl_names.mono _ _)
      | (with_reducible exact LeO.refl _)
      | (with_reducible exact LeO.none _)
      | (with_reducible refine LeO.ite ?_ ?_)
      | (with_reducible refine LeO.bind ?_ (fun _ => ?_))
      | exact tmpl_names.mono _ _
      | exact LeO.none _
      | refine LeO.ite ?_ ?_
      | refine LeO.bind ?_ (fun _ => ?_)
set_option maxHeartbeats 8000000 in
set_option maxRecDepth 100000 in
theorem tmpl_Names.calls (k : Nat) (A0 : Option Addr) (c0 : Nat) (l0 : List (S42)) (r : List ByteArray) (w : World) (hr0 : Kd.C k42 w A0 l0.length l0) (hc0 : l0.length ≤ c0) (h : tmpl_Names.f k l0 = some r) :
    Calls Try.prog 26 #[.slice A0 l0.length c0] w fun e w' => ∃ v0_ : Value, e = .returned (v0_) ∧ Kd.R Kd.string 9 w' w.heap.size (fun _ => True) v0_ r ∧ Below w.heap.size w w' := by
  have HR0 := Aside0.mk hr0
  have HC0 := Aside0.mk hc0
  clear hr0 hc0
  have HB := Aside0.mk (Below.refl w.heap.size w)
  have H : ((tmpl_names.f k l0).bind fun bt121 => (some bt121.1)) = some r := h
  clear h
  replace H := Option.bind_eq_some_iff.mp H
  obtain ⟨⟨t121, t122⟩, A20, H⟩ := H
  replace H : (some t121) = some r := H
  have A2 := Aside0.mk A20
  clear A20
  obtain rfl := Option.some.inj H
  go_enter Try.func26, Try.ntmps26
  go_wp2_with (first | ((with_reducible refine gate_callee (f := 44) rfl ?_); refine goesL_ (some 7) rfl rfl Try.func44 (by kernel_rfl) rfl #[.slice A0 l0.length c0] rfl (by (try simp only [List.map_toArray, List.map_cons, List.map_nil]); first | done | rfl | (simp only [List.length_drop, List.length_take]; rfl)) ?_; (with_reducible refine (tmpl_names.calls k _ _ l0 t121 t122 _ ?side1 ?side2 A2.out).mono ?_); (case side1 => repeat (first | exact HR0.out | (with_reducible refine Kd.C_alloc ?_ _) | (with_reducible refine Kd.C_drewN ?_ _) | (with_reducible refine Kd.C_drew ?_))); (case side2 => exact HC0.out); rintro e w3 ⟨v123, rfl, ho0, hb⟩; refine ⟨_, rfl, ?_⟩; have n0_ := Aside0.mk (Kd.R_lower ho0 (below_size (by repeat (first | (with_reducible first | exact HB.out | apply below_alloc | apply pw_below_drewN | apply below_drew1) | exact HB.out)))); have n1_ := Aside0.mk (below_step (by repeat (first | (with_reducible first | exact HB.out | apply below_alloc | apply pw_below_drewN | apply below_drew1) | exact HB.out)) hb); clear HB; have HO124 := n0_; have HB := n1_; clear n0_ n1_; (try clear hb); (try clear hb2); (try clear hk); (try clear hi); (try clear ho0)))
  go_ret
  exact ⟨_, by first | rfl | (simp [errW_none, errW_some] <;> rfl) | (simp [*, errW_none, errW_some] <;> rfl), by (with_reducible repeat (first | apply Kd.R_alloc | apply Kd.R_drewN | apply Kd.R_drew)); exact HO124.out, by repeat (first | (with_reducible first | exact HB.out | apply below_alloc | apply pw_below_drewN | apply below_drew1) | exact HB.out)⟩

/-! ### fit_Whole: function 13 (ours) -/
theorem enters_W11 : Enters Try.prog 28 := enters_of Try.func28 (by kernel_rfl) rfl
theorem enters_W1 : Enters Try.prog 27 := enters_of Try.func27 (by kernel_rfl) rfl
/-- May a prefix cut what a schema says? -/
def cutB (x : S37) (v : S30) : Bool := decide (0 < x.f1) && (v.f4 == 0 || decide (x.f1 < v.f4))
theorem cut_f (x : S37) (v : S30) : fit_Cut.f x.f0 x.f1 x.f2 v.f0 v.f1 v.f2 v.f3 v.f4 = some (cutB x v) := by
  unfold fit_Cut.f cutB
  by_cases h1 : 0 < x.f1 <;> by_cases h2 : v.f4 = 0 <;> simp [h1, h2]
def uncut (nm : ByteArray) (v : S30) (_ : Int) (x : S37) : Bool := (x.f0.toList == nm.toList) && !cutB x v
set_option maxHeartbeats 800000 in
theorem W11_any (nm : ByteArray) (v : S30) (Bn Bv : Nat) (op : Int) (x : S37) (w : World) (hn : w.heap[Bn]? = some (.cells #[.string nm] 9 (0, 0)))
    (hv : w.heap[Bv]? = some (.cells #[.string v.f0, .int .i64 v.f1, .bool v.f2, .int .i64 v.f3, .int .i64 v.f4] 30 (0, 0))) :
    Calls Try.prog 28 #[.int .u8 op, .agg #[.string x.f0, .int .i64 x.f1, .bool x.f2], .pointer (some ⟨Bn, 0, none⟩), .pointer (some ⟨Bv, 0, none⟩)] w fun e w' => e = .returned (.bool (uncut nm v op x)) ∧ Below w.heap.size w w' := by
  have cn := (blk_cell (blk_alloc hn (.cells #[.string x.f0, .int .i64 x.f1, .bool x.f2] 37 (0, 0))) 0).trans rfl
  obtain ⟨y0, y1, y2, y3, y4⟩ := cells5 (blk_alloc hv (.cells #[.string x.f0, .int .i64 x.f1, .bool x.f2] 37 (0, 0)))
  have HC := Aside0.mk (cut_f x v)
  have HU := Aside0.mk (show uncut nm v op x = ((x.f0.toList == nm.toList) && !cutB x v) from rfl)
  generalize cutB x v = cb at *
  generalize uncut nm v op x = r at *
  clear hn hv
  obtain ⟨x0, x1, x2⟩ := x
  obtain ⟨v0, v1, v2, v3, v4⟩ := v
  simp only at HC HU cn y0 y1 y2 y3 y4
  cases he : (x0.toList == nm.toList) with
  | true =>
    have HU2 := Aside0.mk (show r = !cb by rw [HU.out, he]; rfl)
    clear HU
    go_enter Try.func28, Try.ntmps28
    go_wp2_with fail
    refine (fit_Cut.calls x0 x1 x2 v0 v1 v2 v3 v4 cb _ HC.out).mono ?_
    rintro e w1 ⟨rfl, hb⟩
    have HB := Aside0.mk (below_step (w := w) (X.below_new1 w _) hb)
    clear hb
    go_wp2_with fail
    go_ret
    exact ⟨by rw [HU2.out]; rfl, HB.out⟩
  | false =>
    have HU2 := Aside0.mk (show r = false by rw [HU.out, he]; rfl)
    clear HU
    go_enter Try.func28, Try.ntmps28
    go_wp2_with fail
    go_ret
    exact ⟨by rw [HU2.out]; rfl, X.below_new1 w _⟩
theorem whole_asks (t : List S42) (nm : ByteArray) (v : S30) (Bn Bv : Nat) (w : World) (hn : w.heap[Bn]? = some (.cells #[.string nm] 9 (0, 0)))
    (hv : w.heap[Bv]? = some (.cells #[.string v.f0, .int .i64 v.f1, .bool v.f2, .int .i64 v.f3, .int .i64 v.f4] 30 (0, 0))) :
    Asks 28 #[.pointer (some ⟨Bn, 0, none⟩), .pointer (some ⟨Bv, 0, none⟩)] w t (uncut nm v) := by
  refine ⟨enters_W11, fun q _ x _ W' hb' => ?_⟩
  show Calls Try.prog 28 #[.int .u8 q.f1, .agg #[.string x.f0, .int .i64 x.f1, .bool x.f2], .pointer (some ⟨Bn, 0, none⟩), .pointer (some ⟨Bv, 0, none⟩)] W' _
  exact W11_any nm v Bn Bv q.f1 x W' (blk_below hn hb') (blk_below hv hb')
def lostB (t : List S42) (s : List S30) (nm : ByteArray) : Bool := (findV s nm).2 && !(t.any fun q => q.f2.any (uncut nm (findV s nm).1 q.f1))
set_option maxHeartbeats 1600000 in
set_option maxRecDepth 100000 in
theorem W1_tells (t : List S42) (s : List S30) (hsm : fitSmall t s) (At : Option Addr) (ct : Nat) (As : Option Addr) (cs Bs Bt : Nat) (w : World) (names : List ByteArray) (hct : t.length ≤ ct) (hcs : s.length ≤ cs) (hrt : Kd.C k42 w At t.length t) (hrs : Kd.C k30 w As s.length s)
    (hBs : w.heap[Bs]? = some (.cells #[.slice As s.length cs] 23 (0, 0))) (hBt : w.heap[Bt]? = some (.cells #[.slice At t.length ct] 22 (0, 0))) :
    X.Tells Try.prog 27 #[.pointer (some ⟨Bs, 0, none⟩), .pointer (some ⟨Bt, 0, none⟩)] w Value.string names (lostB t s) := by
  refine ⟨enters_W1, fun nm W hb _ => ?_⟩
  have HBS := Aside0.mk (blk_alloc (blk_below hBs hb) (.cells #[.string nm] 9 (0, 0)))
  have HBT := Aside0.mk (blk_alloc (blk_below hBt hb) (.cells #[.string nm] 9 (0, 0)))
  have HBN := Aside0.mk (blk_new W (.cells #[.string nm] 9 (0, 0)))
  have HRT := Aside0.mk (Kd.C_below hrt hb)
  have HRS := Aside0.mk (Kd.C_below hrs hb)
  have cs0 := (blk_cell HBS.out 0).trans rfl
  have hl := hsm.1.1.1
  have ht := hsm.1.2
  have HSM := Aside0.mk hsm
  obtain ⟨⟨⟨v0, v1, v2, v3, v4⟩, is⟩, hv⟩ : ∃ v, findV s nm = v := ⟨_, rfl⟩
  have HV1 := Aside0.mk (show schema_Find.f s nm = some (v0, v1, v2, v3, v4, is) by unfold schema_Find.f; rw [if_pos (by omega), hv])
  have HL := Aside0.mk (show lostB t s nm = (is && !(t.any fun q => q.f2.any (uncut nm ⟨v0, v1, v2, v3, v4⟩ q.f1))) by unfold lostB; rw [hv])
  clear hBs hBt hrt hrs hb hsm hv
  show Calls Try.prog 27 #[.string nm, .pointer (some ⟨Bs, 0, none⟩), .pointer (some ⟨Bt, 0, none⟩)] W _
  generalize lostB t s nm = r at *
  go_enter Try.func27, Try.ntmps27
  go_wp2_with fail
  refine (schema_Find.calls As cs s nm v0 v1 v2 v3 v4 is _ (Kd.C_below HRS.out (X.below_new1 W _)) hcs HV1.out).mono ?_
  rintro e w1 ⟨rfl, hb⟩
  have hb2 := below_step (w := W) (X.below_new1 W (.cells #[.string nm] 9 (0, 0))) hb
  have HB1 := Aside0.mk (below_alloc hb2 (.cells #[.string v0, .int .i64 v1, .bool v2, .int .i64 v3, .int .i64 v4] 30 (0, 0)))
  have HN1 := Aside0.mk (blk_alloc (blk_below HBN.out hb) (.cells #[.string v0, .int .i64 v1, .bool v2, .int .i64 v3, .int .i64 v4] 30 (0, 0)))
  have hT1 := blk_alloc (blk_below HBT.out hb) (.cells #[.string v0, .int .i64 v1, .bool v2, .int .i64 v3, .int .i64 v4] 30 (0, 0))
  have ct0 := (blk_cell hT1 0).trans rfl
  have HV := Aside0.mk (blk_new w1 (.cells #[.string v0, .int .i64 v1, .bool v2, .int .i64 v3, .int .i64 v4] 30 (0, 0)))
  clear hb hb2 hT1 cs0
  cases is with
  | false =>
    have HL2 := Aside0.mk (show r = false by rw [HL.out]; rfl)
    go_wp2_with fail
    go_ret
    exact ⟨by rw [HL2.out]; rfl, HB1.out⟩
  | true =>
    have HL2 := Aside0.mk (show r = !(t.any fun q => q.f2.any (uncut nm ⟨v0, v1, v2, v3, v4⟩ q.f1)) by rw [HL.out]; rfl)
    go_wp2_with fail
    refine (some_any 28 _ (uncut nm ⟨v0, v1, v2, v3, v4⟩) t At ct _ (by omega) (fun q hq => (HSM.out.2 q hq).2) (Kd.C_below HRT.out HB1.out)
      (whole_asks t nm ⟨v0, v1, v2, v3, v4⟩ W.heap.size w1.heap.size _ HN1.out HV.out)).mono ?_
    rintro e w2 ⟨rfl, hb⟩
    have HB2 := Aside0.mk (below_step HB1.out hb)
    clear hb
    go_wp2_with fail
    go_ret
    exact ⟨by rw [HL2.out]; rfl, HB2.out⟩
def fit_Whole.f (l0 : List (S42)) (l1 : List (S30)) : Option (Bool) := if fitSmall l0 l1 then (tmpl_Names.f Y.bigK l0).bind (fun names => if names.length ≤ 1000000 then some (!names.any (lostB l0 l1)) else none) else none
set_option maxHeartbeats 8000000 in
set_option maxRecDepth 100000 in
theorem fit_Whole.calls (A0 : Option Addr) (c0 : Nat) (l0 : List (S42)) (A1 : Option Addr) (c1 : Nat) (l1 : List (S30)) (r : Bool) (w : World) (hr0 : Kd.C k42 w A0 l0.length l0) (hc0 : l0.length ≤ c0) (hr1 : Kd.C k30 w A1 l1.length l1) (hc1 : l1.length ≤ c1) (h : fit_Whole.f l0 l1 = some r) :
    Calls Try.prog 13 #[.slice A0 l0.length c0, .slice A1 l1.length c1] w fun e w' => e = .returned (.bool r) ∧ Below w.heap.size w w' := by
  simp only [fit_Whole.f] at h
  split at h
  · rename_i hsm
    obtain ⟨names, hnm, hr⟩ := Option.bind_eq_some_iff.1 h
    split at hr
    · rename_i hnl
      obtain rfl := Option.some.inj hr
      have HSM := Aside0.mk hsm
      have HNM := Aside0.mk hnm
      have HR0 := Aside0.mk hr0
      have HR1 := Aside0.mk hr1
      clear h hsm hnm hr hr0 hr1
      go_enter Try.func13, Try.ntmps13
      go_wp2_with fail
      have HB0 := Aside0.mk (X.below_new2 w (.cells #[.slice A0 l0.length c0] 22 (0, 0)) (.cells #[.slice A1 l1.length c1] 23 (0, 0)))
      have HT0 := Aside0.mk (blk_alloc (blk_new w (.cells #[.slice A0 l0.length c0] 22 (0, 0))) (.cells #[.slice A1 l1.length c1] 23 (0, 0)))
      have HS0 := Aside0.mk (X.blk_new2 w (.cells #[.slice A0 l0.length c0] 22 (0, 0)) (.cells #[.slice A1 l1.length c1] 23 (0, 0)))
      refine (tmpl_Names.calls Y.bigK A0 c0 l0 names _ (Kd.C_below HR0.out HB0.out) hc0 HNM.out).mono ?_
      rintro e w1 ⟨v, rfl, hv, hb⟩
      obtain ⟨A, n, rfl, hle, hv⟩ := Kd.R_reads hv
      have HB1 := Aside0.mk (below_step HB0.out hb)
      have HT1 := Aside0.mk (blk_below HT0.out hb)
      have HS1 := Aside0.mk (blk_below HS0.out hb)
      have HVV := Aside0.mk hv
      clear hb hv HB0 HT0 HS0
      go_wp2_with fail
      refine (X.containsFunc_str _ _ (lostB l0 l1) names A n _ hnl HVV.out (W1_tells l0 l1 HSM.out A0 c0 A1 c1 (w.heap.size + 1) w.heap.size _ names hc0 hc1 (Kd.C_below HR0.out HB1.out) (Kd.C_below HR1.out HB1.out) HS1.out HT1.out)).mono ?_
      rintro e w2 ⟨rfl, hb⟩
      have HB2 := Aside0.mk (below_step HB1.out hb)
      clear hb
      go_wp2_with fail
      go_ret
      exact ⟨rfl, HB2.out⟩
    · cases hr
  · cases h
/-! ### phalaropelaw15_part: function 14 -/
def phalaropelaw15_part.f (a0 : Int) (a1_0 : ByteArray) (a1_1 : Int) (a1_2 : Bool) : Option ((List (S42))) := some (([(⟨(⟨#[]⟩ : ByteArray), a0, (([(⟨a1_0, a1_1, a1_2⟩ : S37)] : List (S37)))⟩ : S42)] : List (S42)))
set_option maxHeartbeats 8000000 in
set_option maxRecDepth 100000 in
theorem phalaropelaw15_part.calls (a0 : Int) (a1_0 : ByteArray) (a1_1 : Int) (a1_2 : Bool) (r : List (S42)) (w : World) (h : phalaropelaw15_part.f a0 a1_0 a1_1 a1_2 = some r) :
    Calls Try.prog 14 #[.int .u8 a0, .agg #[.string a1_0, .int .i64 a1_1, .bool a1_2]] w fun e w' => ∃ v0_ : Value, e = .returned (v0_) ∧ Kd.N k42 42 w' w.heap.size (fun k_ => (w.heap.size ≤ k_)) v0_ r ∧ Below w.heap.size w w' := by
  have hu37 := Try.underlying37
  have hu42 := Try.underlying42
  have HB := Aside0.mk (Below.refl w.heap.size w)
  have H : (some (([(⟨(⟨#[]⟩ : ByteArray), a0, (([(⟨a1_0, a1_1, a1_2⟩ : S37)] : List (S37)))⟩ : S42)] : List (S42)))) = some r := h
  clear h
  obtain ⟨y126, hy126⟩ : ∃ y_ : List (S37), y_ = (([(⟨a1_0, a1_1, a1_2⟩ : S37)] : List (S37))) := ⟨_, rfl⟩
  replace H : (some (([(⟨(⟨#[]⟩ : ByteArray), a0, y126⟩ : S42)] : List (S42)))) = some r := by first | (rw [hy126]; with_reducible exact H) | (have H2_ := (Option.bind_some _ _).symm.trans H; rw [hy126]; with_reducible exact H2_) | (have H2_ := (Option.bind_some _ _).symm.trans H; with_reducible exact H2_) | with_reducible exact H | (rw [hy126]; exact H) | exact H
  have Ny126 := Aside0.mk hy126
  clear hy126
  obtain ⟨y129, hy129⟩ : ∃ y_ : List (S42), y_ = (([(⟨(⟨#[]⟩ : ByteArray), a0, y126⟩ : S42)] : List (S42))) := ⟨_, rfl⟩
  replace H : (some y129) = some r := by first | (rw [hy129]; with_reducible exact H) | (have H2_ := (Option.bind_some _ _).symm.trans H; rw [hy129]; with_reducible exact H2_) | (have H2_ := (Option.bind_some _ _).symm.trans H; with_reducible exact H2_) | with_reducible exact H | (rw [hy129]; exact H) | exact H
  have Ny129 := Aside0.mk hy129
  clear hy129
  obtain rfl := Option.some.inj H
  go_enter Try.func14, Try.ntmps14
  go_wp2_with (first | ((with_reducible refine gate_dst (N := 3) rfl ?_); refine box_event ?hg (N := 3) ?hd (cs := #[.string a1_0, .int .i64 a1_1, .bool a1_2]) (t := 37) ?hr ?_; (case hd => rfl); (case hg => rfl); (case hr => first | (go_simp; done) | (go_simp; rfl)); intro gb125 hg w3 hbox hb; have n0_ := Aside0.mk (below_step (by repeat (first | (with_reducible first | exact HB.out | apply below_alloc | apply pw_below_drewN | apply below_drew1) | exact HB.out)) hb); have n1_ := Aside0.mk (hbox); have n2_ := Aside0.mk ((by rw [hg]; exact (below_size (by repeat (first | (with_reducible first | exact HB.out | apply below_alloc | apply pw_below_drewN | apply below_drew1) | exact HB.out))) : w.heap.size ≤ gb125)); have n3_ := Aside0.mk ((by rw [hg]; exact (below_size (by repeat (first | (with_reducible first | exact HB.out | apply below_alloc | apply pw_below_drewN | apply below_drew1) | exact HB.out))) : w.heap.size ≤ gb125)); clear HB; have HB := n0_; have BK125 := n1_; have GW125 := n2_; have GE125 := n3_; clear n0_ n1_ n2_ n3_; clear hb hbox hg; have hcz4_0 : w3.cell? ⟨gb125, 0, none⟩ = some (.string a1_0) := (blk_cell BK125.out 0).trans rfl; have hcz4_1 : w3.cell? ⟨gb125, 1, none⟩ = some (.int .i64 a1_1) := (blk_cell BK125.out 1).trans rfl; have hcz4_2 : w3.cell? ⟨gb125, 2, none⟩ = some (.bool a1_2) := (blk_cell BK125.out 2).trans rfl; have hfz4_0 := blk_frozen BK125.out 0; have hfz4_1 := blk_frozen BK125.out 1; have hfz4_2 := blk_frozen BK125.out 2) | ((with_reducible refine gate_dst (N := 7) rfl ?_); refine Kd.R_lit k37 _ 37 ?hg (N := 7) ?hd (xs := ([(⟨a1_0, a1_1, a1_2⟩ : S37)] : List (S37))) (inner := [.string a1_0, .int .i64 a1_1, .bool a1_2]) (ok := fun _ => True) (okp := fun _ => True) ?hr ?hp (fun _ hk => hk) trivial (Below.refl _ _) (Nat.le_refl _) (by simp) ?_; (case hd => rfl); (case hg => rfl); (case hr => first | (go_simp; done) | (go_simp; rfl)); (case hp => exact (Reps.c3 (show Kd.M k37 _ _ _ (⟨a1_0, a1_1, a1_2⟩ : S37) [.string a1_0, .int .i64 a1_1, .bool a1_2] from (k37_mkM _ _ _ (⟨a1_0, a1_1, a1_2⟩ : S37) )) (Reps.none _ _))); intro v127 w5 ho6 hb hg_ hnew_; clear hg_ hnew_; (first | rw [← Ny126.out] at ho6 | (simp only [Int.reduceToNat] at ho6; rw [← Ny126.out] at ho6)); have n0_ := Aside0.mk (Kd.R_lower (Kd.R_newB (Kd.R_newM (M := fun k_ => (w.heap.size ≤ k_)) ho6 (below_size (by repeat (first | (with_reducible first | exact HB.out | apply below_alloc | apply pw_below_drewN | apply below_drew1 | refine below_set ?_ GE125.out) | exact HB.out))) (fun k_ h_ => h_)) (g := gb125) (o := .cells #[.string a1_0, .int .i64 a1_1, .bool a1_2] 37 (0, 0)) (by (with_reducible repeat (first | refine blk_drewN ?_ _ | refine blk_drew ?_ | refine blk_alloc ?_ _)); exact BK125.out)) (below_size (by repeat (first | (with_reducible first | exact HB.out | apply below_alloc | apply pw_below_drewN | apply below_drew1 | refine below_set ?_ GE125.out) | exact HB.out)))); have n1_ := Aside0.mk (blk_below (g := gb125) (o := .cells #[.string a1_0, .int .i64 a1_1, .bool a1_2] 37 (0, 0)) (by (with_reducible repeat (first | refine blk_drewN ?_ _ | refine blk_drew ?_ | refine blk_alloc ?_ _)); exact BK125.out) hb); have n2_ := Aside0.mk (below_step (by repeat (first | (with_reducible first | exact HB.out | apply below_alloc | apply pw_below_drewN | apply below_drew1 | refine below_set ?_ GE125.out) | exact HB.out)) hb); clear BK125; clear HB; have HO128 := n0_; have BK125 := n1_; have HB := n2_; clear n0_ n1_ n2_; clear hb ho6; obtain ⟨Ao7, co7, eo7⟩ := Kd.R_slice HO128.out; subst eo7) | ((with_reducible refine gate_dst (N := 9) rfl ?_); refine Kd.N_lit k42 _ 42 ?hg (N' := 9) ?hd (xs := ([(⟨(⟨#[]⟩ : ByteArray), a0, y126⟩ : S42)] : List (S42))) (inner := [.string (⟨#[]⟩ : ByteArray), .int .u8 a0, .slice Ao7 y126.length co7]) (ok := (fun k_ => (w.heap.size ≤ k_) ∧ k_ ≠ gb125)) (okp := (fun k_ => (w.heap.size ≤ k_) ∧ k_ ≠ gb125)) ?hr ?hp (fun _ hk => hk) ((show ∀ k_, w5.heap.size ≤ k_ → (fun k_ => (w.heap.size ≤ k_) ∧ k_ ≠ gb125) k_ from fun k_ hk => ⟨(Nat.le_trans (below_size (by repeat (first | (with_reducible first | exact HB.out | apply below_alloc | apply pw_below_drewN | apply below_drew1 | refine below_set ?_ GE125.out) | exact HB.out))) hk), Kd.freshB (g := gb125) (o := .cells #[.string a1_0, .int .i64 a1_1, .bool a1_2] 37 (0, 0)) (by (with_reducible repeat (first | refine blk_drewN ?_ _ | refine blk_drew ?_ | refine blk_alloc ?_ _)); exact BK125.out) k_ hk⟩) _ (Nat.le_refl _)) (Below.refl _ _) (Nat.le_refl _) (by simp) ?_; (case hd => rfl); (case hg => rfl); (case hr => first | (go_simp; done) | (go_simp; rfl)); (case hp => exact (Reps.c3 (show Kd.FK k42 _ _ (⟨(⟨#[]⟩ : ByteArray), a0, y126⟩ : S42) [.string (⟨#[]⟩ : ByteArray), .int .u8 a0, .slice Ao7 y126.length co7] from (k42_mkF _ _ (⟨(⟨#[]⟩ : ByteArray), a0, y126⟩ : S42) (Kd.R_reads' (Kd.R_mono (ok' := (fun k_ => (w.heap.size ≤ k_) ∧ k_ ≠ gb125)) (HO128.out) (fun k_ hk => ⟨hk.1.1, hk.2⟩))).2.1 (Kd.R_F (Kd.R_mono (ok' := (fun k_ => (w.heap.size ≤ k_) ∧ k_ ≠ gb125)) (HO128.out) (fun k_ hk => ⟨hk.1.1, hk.2⟩))))) (Reps.none _ _))); intro v130 w8 ho9 hb hg_ hnew_; clear hg_ hnew_; (first | rw [← Ny129.out] at ho9 | (simp only [Int.reduceToNat] at ho9; rw [← Ny129.out] at ho9)); have n0_ := Aside0.mk (Kd.N_lower ho9 (below_size (by repeat (first | (with_reducible first | exact HB.out | apply below_alloc | apply pw_below_drewN | apply below_drew1 | refine below_set ?_ GE125.out) | exact HB.out)))); have n1_ := Aside0.mk (blk_below (g := gb125) (o := .cells #[.string a1_0, .int .i64 a1_1, .bool a1_2] 37 (0, 0)) (by (with_reducible repeat (first | refine blk_drewN ?_ _ | refine blk_drew ?_ | refine blk_alloc ?_ _)); exact BK125.out) hb); have n2_ := Aside0.mk (below_step (by repeat (first | (with_reducible first | exact HB.out | apply below_alloc | apply pw_below_drewN | apply below_drew1 | refine below_set ?_ GE125.out) | exact HB.out)) hb); clear BK125; clear HB; clear HO128; have HO131 := n0_; have BK125 := n1_; have HB := n2_; clear n0_ n1_ n2_; clear hb ho9))
  go_ret
  exact ⟨_, by first | rfl | (simp [errW_none, errW_some] <;> rfl) | (simp [*, errW_none, errW_some] <;> rfl), by (with_reducible repeat (first | apply Kd.N_alloc | apply Kd.N_drewN | apply Kd.N_drew)); exact Kd.N_mono HO131.out (fun _ hk => hk.1), by repeat (first | (with_reducible first | exact HB.out | apply below_alloc | apply pw_below_drewN | apply below_drew1 | refine below_set ?_ GE125.out) | exact HB.out)⟩

end Go.Proofs.Ytjhihohofhhknaa.PF
