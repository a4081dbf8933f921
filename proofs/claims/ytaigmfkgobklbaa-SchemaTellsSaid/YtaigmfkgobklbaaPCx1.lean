-- Printed by wip/xprint.py of this claim's authors, over the kit's print; not trusted: Lean checks it.
import Derived.Test.YtaigmfkgobklbaaPCx0
namespace Go.Proofs.Ytaigmfkgobklbaa.PC
open Go.RowKit Go.Proofs.YtaigmfkgobklbaaW.PrintWords Go.Proofs.YtaigmfkgobklbaaW.PrintLast Go.Proofs.YtaigmfkgobklbaaW.PrintMore
attribute [local go_sem] max2_int min2_int max_two min_two max_three min_three max_four min_four   -- for this text's walks alone
set_option linter.unusedVariables false
set_option linter.unusedSimpArgs false

/-! ### slices_Clone_string_string: function 40 (ours) -/
def slices_Clone_string_string.f (l0 : List ByteArray) : Option (List ByteArray) := if l0.length * 16 ≤ 140737488351232 then some l0 else none
theorem clone_info : (Try.prog.info? 9).map (fun i => (i.zero, i.size, i.bytes)) = some (some (.string ⟨#[]⟩), 1, 16) := by kernel_rfl
set_option maxHeartbeats 8000000 in
set_option maxRecDepth 100000 in
theorem slices_Clone_string_string.calls (A0 : Option Addr) (c0 : Nat) (l0 : List ByteArray) (r : List ByteArray) (w : World) (hr0 : Kd.C Kd.string w A0 l0.length l0) (hc0 : l0.length ≤ c0) (h : slices_Clone_string_string.f l0 = some r) :
    Calls Try.prog 40 #[.slice A0 l0.length c0] w fun e w' => ∃ v0_ : Value, e = .returned (v0_) ∧ Kd.R Kd.string 9 w' w.heap.size (fun _ => True) v0_ r ∧ Below w.heap.size w w' := by
  simp only [slices_Clone_string_string.f] at h
  split at h
  · rename_i hsz
    obtain rfl := Option.some.inj h
    have HR := Aside0.mk hr0
    clear hr0 h
    rcases A0 with _ | ad
    · have h0 : l0 = [] := by
        rcases Nat.eq_zero_or_pos l0.length with h0 | h0
        · exact List.eq_nil_of_length_eq_zero h0
        · obtain ⟨ad, h, _⟩ := HR.out.2.2 h0; cases h
      have H0 := Aside0.mk h0
      clear h0
      have hq : (binOp .eql 24 (.slice none l0.length c0) (.slice none 0 0)).run Try.prog w = .ok (.bool true) w := Lib.run_eql_slice_nil w 24 9 none l0.length c0 0 0 Try.underlying24
      go_enter Try.func40, Try.ntmps40
      go_wp2_with fail
      go_ret
      exact ⟨_, rfl, by rw [H0.out]; exact Kd.R_nil _ _ _ _ _, Below.refl _ _⟩
    · have hq : (binOp .eql 24 (.slice (some ad) l0.length c0) (.slice none 0 0)).run Try.prog w = .ok (.bool false) w := Lib.run_eql_slice_nil w 24 9 (some ad) l0.length c0 0 0 Try.underlying24
      go_enter Try.func40, Try.ntmps40
      go_wp2_with (at_builtin; refine print_append_row_of (w0 := w) Value.string ByteArray.empty w.heap.size rfl (.tmp 5) (.tmp 6) 24 9 (.string ⟨#[]⟩) 16 rfl Try.underlying24 clone_info rfl (by decide) (fun _ => rfl) _ [] l0 _ _ _ rfl rfl ?aO ?aR ?aB ?aS ?aL ?_; (case aO => exact X.own_empty _ _ _); (case aR => exact Kd.reads_of_C (Kd.C_below HR.out (X.below_new1 _ _))); (case aB => exact X.below_new1 _ _); (case aS => exact below_size (X.below_new1 _ _)); (case aL => simp; omega); intro v1 w1 ho hb hg hat; have HO := Aside0.mk ho; have HB := Aside0.mk hb; clear ho hb hg hat)
      go_ret
      exact ⟨_, rfl, Kd.R_of_own HO.out (fun _ _ => trivial), HB.out⟩
  · exact absurd h (by simp)
/-! ### value_Texts: function 21 -/
def value_Texts.l0 : Nat → List ByteArray → List (S44) → Int → Int → Option (List ByteArray)
  | 0, _, _, _, _ => none
  | k + 1, x3, x21, x22, x23 => if x23 < x22 then (if 0 ≤ x23 then (if x23 < (x21.length : Int) then ((some (([(rd_T44 x21 x23).f0, (rd_T44 x21 x23).f1] : List ByteArray) : List ByteArray)).bind fun y110 => (if x3.length + y110.length < 8796093022208 then (value_Texts.l0 k (x3 ++ y110) x21 x22 (wrap64 (x23 + 1))) else (none))) else (none)) else (none)) else (some x3)
def value_Texts.f (k : Nat) (a0_0 : Int) (a0_1 : ByteArray) (l0_2 : List ByteArray) (l0_3 : List (S44)) : Option (List ByteArray) := if a0_0 = 1 then (some (([a0_1] : List ByteArray))) else (if a0_0 = 2 then ((slices_Clone_string_string.f l0_2).bind fun t105 => (some t105)) else (if a0_0 = 3 then (value_Texts.l0 k ([] : List ByteArray) l0_3 (l0_3.length : Int) 0) else (some ([] : List ByteArray))))
theorem value_Texts.mono_l : ∀ k, (∀ y0 y1 y2 y3, LeO (value_Texts.l0 k y0 y1 y2 y3) (value_Texts.l0 (k + 1) y0 y1 y2 y3))
  | 0 => fun _ _ _ _ r h => by simp [value_Texts.l0] at h
  | k + 1 => by
    have ih0 := value_Texts.mono_l k
    · intro y0 y1 y2 y3
      unfold value_Texts.l0
      repeat' first
      | (with_reducible exact ih0 _ _ _ _)
      | (with_reducible exact LeO.refl _)
      | (with_reducible exact LeO.none _)
      | (with_reducible refine LeO.ite ?_ ?_)
      | (with_reducible refine LeO.bind ?_ (fun _ => ?_))
      | exact ih0 _ _ _ _
      | exact LeO.none _
      | refine LeO.ite ?_ ?_
      | refine LeO.bind ?_ (fun _ => ?_)
theorem value_Texts.mono : ∀ a0 a1 a2 a3 k, LeO (value_Texts.f k a0 a1 a2 a3) (value_Texts.f (k + 1) a0 a1 a2 a3) := by
  intro a0 a1 a2 a3 k
  have ih0 := value_Texts.mono_l k
  unfold value_Texts.f
  repeat' first
      | (with_reducible exact ih0 _ _ _ _)
      | (with_reducible exact LeO.refl _)
      | (with_reducible exact LeO.none _)
      | (with_reducible refine LeO.ite ?_ ?_)
      | (with_reducible refine LeO.bind ?_ (fun _ => ?_))
      | exact ih0 _ _ _ _
      | exact LeO.none _
      | refine LeO.ite ?_ ?_
      | refine LeO.bind ?_ (fun _ => ?_)
set_option maxHeartbeats 8000000 in
set_option maxRecDepth 100000 in
theorem value_Texts.calls (k : Nat) (a0_0 : Int) (a0_1 : ByteArray) (A0_2 : Option Addr) (c0_2 : Nat) (l0_2 : List ByteArray) (A0_3 : Option Addr) (c0_3 : Nat) (l0_3 : List (S44)) (r : List ByteArray) (w : World) (hr0_2 : Kd.C Kd.string w A0_2 l0_2.length l0_2) (hc0_2 : l0_2.length ≤ c0_2) (hr0_3 : Kd.C k44 w A0_3 l0_3.length l0_3) (hc0_3 : l0_3.length ≤ c0_3) (h : value_Texts.f k a0_0 a0_1 l0_2 l0_3 = some r) :
    Calls Try.prog 21 #[.agg #[.int .i64 a0_0, .string a0_1, .slice A0_2 l0_2.length c0_2, .slice A0_3 l0_3.length c0_3]] w fun e w' => ∃ v0_ : Value, e = .returned (v0_) ∧ Kd.R Kd.string 9 w' w.heap.size (fun _ => True) v0_ r ∧ Below w.heap.size w w' := by
  have hu27 := Try.underlying27
  have hu44 := Try.underlying44
  have HR0_2 := Aside0.mk hr0_2
  have HC0_2 := Aside0.mk hc0_2
  clear hr0_2 hc0_2
  have HR0_3 := Aside0.mk hr0_3
  have HC0_3 := Aside0.mk hc0_3
  clear hr0_3 hc0_3
  have HB := Aside0.mk (Below.refl w.heap.size w)
  have H : (if a0_0 = 1 then (some (([a0_1] : List ByteArray))) else (if a0_0 = 2 then ((slices_Clone_string_string.f l0_2).bind fun t105 => (some t105)) else (if a0_0 = 3 then (value_Texts.l0 k ([] : List ByteArray) l0_3 (l0_3.length : Int) 0) else (some ([] : List ByteArray))))) = some r := h
  clear h
  by_cases c2 : a0_0 = 1
  · rw [if_pos c2] at H
    have c2b0 : (a0_0 == 1) = true := beq_iff_eq.mpr c2
    have c2b1 : (a0_0 != 1) = false := bne_eq_false_iff_eq.mpr c2
    clear c2
    obtain ⟨y102, hy102⟩ : ∃ y_ : List ByteArray, y_ = (([a0_1] : List ByteArray)) := ⟨_, rfl⟩
    replace H : (some y102) = some r := by first | (rw [hy102]; with_reducible exact H) | (have H2_ := (Option.bind_some _ _).symm.trans H; rw [hy102]; with_reducible exact H2_) | (have H2_ := (Option.bind_some _ _).symm.trans H; with_reducible exact H2_) | with_reducible exact H | (rw [hy102]; exact H) | exact H
    have Ny102 := Aside0.mk hy102
    clear hy102
    obtain rfl := Option.some.inj H
    go_enter Try.func21, Try.ntmps21
    go_wp2_with (first | ((with_reducible refine gate_dst (N := 1) rfl ?_); refine box_event ?hg (N := 1) ?hd (cs := #[.int .i64 a0_0, .string a0_1, .slice A0_2 l0_2.length c0_2, .slice A0_3 l0_3.length c0_3]) (t := 27) ?hr ?_; (case hd => rfl); (case hg => rfl); (case hr => first | (go_simp; done) | (go_simp; rfl)); intro gb101 hg w3 hbox hb; have n0_ := Aside0.mk (below_step (by repeat (first | (with_reducible first | exact HB.out | apply below_alloc | apply pw_below_drewN | apply below_drew1) | exact HB.out)) hb); have n1_ := Aside0.mk (hbox); have n2_ := Aside0.mk ((by rw [hg]; exact (below_size (by repeat (first | (with_reducible first | exact HB.out | apply below_alloc | apply pw_below_drewN | apply below_drew1) | exact HB.out))) : w.heap.size ≤ gb101)); have n3_ := Aside0.mk ((by rw [hg]; exact (below_size (by repeat (first | (with_reducible first | exact HB.out | apply below_alloc | apply pw_below_drewN | apply below_drew1) | exact HB.out))) : w.heap.size ≤ gb101)); clear HB; have HB := n0_; have BK101 := n1_; have GW101 := n2_; have GE101 := n3_; clear n0_ n1_ n2_ n3_; clear hb hbox hg; have hcz4_0 : w3.cell? ⟨gb101, 0, none⟩ = some (.int .i64 a0_0) := (blk_cell BK101.out 0).trans rfl; have hcz4_1 : w3.cell? ⟨gb101, 1, none⟩ = some (.string a0_1) := (blk_cell BK101.out 1).trans rfl; have hcz4_2 : w3.cell? ⟨gb101, 2, none⟩ = some (.slice A0_2 l0_2.length c0_2) := (blk_cell BK101.out 2).trans rfl; have hcz4_3 : w3.cell? ⟨gb101, 3, none⟩ = some (.slice A0_3 l0_3.length c0_3) := (blk_cell BK101.out 3).trans rfl; have hfz4_0 := blk_frozen BK101.out 0; have hfz4_1 := blk_frozen BK101.out 1; have hfz4_2 := blk_frozen BK101.out 2; have hfz4_3 := blk_frozen BK101.out 3) | ((with_reducible refine gate_dst (N := 12) rfl ?_); refine Kd.R_lit Kd.string _ 9 ?hg (N := 12) ?hd (xs := ([a0_1] : List ByteArray)) (inner := [.string a0_1]) (ok := fun _ => True) (okp := fun _ => True) ?hr ?hp (fun _ hk => hk) trivial (Below.refl _ _) (Nat.le_refl _) (by simp) ?_; (case hd => rfl); (case hg => rfl); (case hr => first | (go_simp; done) | (go_simp; rfl)); (case hp => exact (Reps.one (show Kd.M Kd.string _ _ _ a0_1 [.string a0_1] from rfl) (Reps.none _ _))); intro v103 w5 ho6 hb hg_ hnew_; clear hg_ hnew_; (first | rw [← Ny102.out] at ho6 | (simp only [Int.reduceToNat] at ho6; rw [← Ny102.out] at ho6)); have n0_ := Aside0.mk (Kd.R_lower ho6 (below_size (by repeat (first | (with_reducible first | exact HB.out | apply below_alloc | apply pw_below_drewN | apply below_drew1 | refine below_set ?_ GE101.out) | exact HB.out)))); have n1_ := Aside0.mk (blk_below (g := gb101) (o := .cells #[.int .i64 a0_0, .string a0_1, .slice A0_2 l0_2.length c0_2, .slice A0_3 l0_3.length c0_3] 27 (0, 0)) (by (with_reducible repeat (first | refine blk_drewN ?_ _ | refine blk_drew ?_ | refine blk_alloc ?_ _)); exact BK101.out) hb); have n2_ := Aside0.mk (below_step (by repeat (first | (with_reducible first | exact HB.out | apply below_alloc | apply pw_below_drewN | apply below_drew1 | refine below_set ?_ GE101.out) | exact HB.out)) hb); clear BK101; clear HB; have HO104 := n0_; have BK101 := n1_; have HB := n2_; clear n0_ n1_ n2_; clear hb ho6))
    go_ret
    exact ⟨_, by first | rfl | (simp [errW_none, errW_some] <;> rfl) | (simp [*, errW_none, errW_some] <;> rfl), by (with_reducible repeat (first | apply Kd.R_alloc | apply Kd.R_drewN | apply Kd.R_drew)); exact HO104.out, by repeat (first | (with_reducible first | exact HB.out | apply below_alloc | apply pw_below_drewN | apply below_drew1 | refine below_set ?_ GE101.out) | exact HB.out)⟩
  · rw [if_neg c2] at H
    have c2b0 : (a0_0 == 1) = false := beq_eq_false_iff_ne.mpr c2
    have c2b1 : (a0_0 != 1) = true := bne_iff_ne.mpr c2
    by_cases c7 : a0_0 = 2
    · rw [if_pos c7] at H
      have c7b0 : (a0_0 == 2) = true := beq_iff_eq.mpr c7
      have c7b1 : (a0_0 != 2) = false := bne_eq_false_iff_eq.mpr c7
      clear c7
      replace H := Option.bind_eq_some_iff.mp H
      obtain ⟨t105, A80, H⟩ := H
      replace H : (some t105) = some r := H
      have A8 := Aside0.mk A80
      clear A80
      obtain rfl := Option.some.inj H
      go_enter Try.func21, Try.ntmps21
      go_wp2_with (first | ((with_reducible refine gate_dst (N := 1) rfl ?_); refine box_event ?hg (N := 1) ?hd (cs := #[.int .i64 a0_0, .string a0_1, .slice A0_2 l0_2.length c0_2, .slice A0_3 l0_3.length c0_3]) (t := 27) ?hr ?_; (case hd => rfl); (case hg => rfl); (case hr => first | (go_simp; done) | (go_simp; rfl)); intro gb101 hg w9 hbox hb; have n0_ := Aside0.mk (below_step (by repeat (first | (with_reducible first | exact HB.out | apply below_alloc | apply pw_below_drewN | apply below_drew1) | exact HB.out)) hb); have n1_ := Aside0.mk (hbox); have n2_ := Aside0.mk ((by rw [hg]; exact (below_size (by repeat (first | (with_reducible first | exact HB.out | apply below_alloc | apply pw_below_drewN | apply below_drew1) | exact HB.out))) : w.heap.size ≤ gb101)); have n3_ := Aside0.mk ((by rw [hg]; exact (below_size (by repeat (first | (with_reducible first | exact HB.out | apply below_alloc | apply pw_below_drewN | apply below_drew1) | exact HB.out))) : w.heap.size ≤ gb101)); clear HB; have HB := n0_; have BK101 := n1_; have GW101 := n2_; have GE101 := n3_; clear n0_ n1_ n2_ n3_; clear hb hbox hg; have hcz10_0 : w9.cell? ⟨gb101, 0, none⟩ = some (.int .i64 a0_0) := (blk_cell BK101.out 0).trans rfl; have hcz10_1 : w9.cell? ⟨gb101, 1, none⟩ = some (.string a0_1) := (blk_cell BK101.out 1).trans rfl; have hcz10_2 : w9.cell? ⟨gb101, 2, none⟩ = some (.slice A0_2 l0_2.length c0_2) := (blk_cell BK101.out 2).trans rfl; have hcz10_3 : w9.cell? ⟨gb101, 3, none⟩ = some (.slice A0_3 l0_3.length c0_3) := (blk_cell BK101.out 3).trans rfl; have hfz10_0 := blk_frozen BK101.out 0; have hfz10_1 := blk_frozen BK101.out 1; have hfz10_2 := blk_frozen BK101.out 2; have hfz10_3 := blk_frozen BK101.out 3) | ((with_reducible refine gate_callee (f := 40) rfl ?_); refine goesL_ (some 17) rfl rfl Try.func40 (by kernel_rfl) rfl #[.slice A0_2 l0_2.length c0_2] rfl (by (try simp only [List.map_toArray, List.map_cons, List.map_nil]); first | done | rfl | (simp only [List.length_drop, List.length_take]; rfl)) ?_; (with_reducible refine (slices_Clone_string_string.calls _ _ l0_2 t105 _ ?side1 ?side2 A8.out).mono ?_); (case side1 => repeat (first | exact (Kd.C_below HR0_2.out HB.out) | (with_reducible refine Kd.C_alloc ?_ _) | (with_reducible refine Kd.C_drewN ?_ _) | (with_reducible refine Kd.C_drew ?_))); (case side2 => exact HC0_2.out); rintro e w11 ⟨v106, rfl, ho0, hb⟩; refine ⟨_, rfl, ?_⟩; have n0_ := Aside0.mk (Kd.R_lower ho0 (below_size (by repeat (first | (with_reducible first | exact HB.out | apply below_alloc | apply pw_below_drewN | apply below_drew1 | refine below_set ?_ GE101.out) | exact HB.out)))); have n1_ := Aside0.mk (blk_below (g := gb101) (o := .cells #[.int .i64 a0_0, .string a0_1, .slice A0_2 l0_2.length c0_2, .slice A0_3 l0_3.length c0_3] 27 (0, 0)) (by (with_reducible repeat (first | refine blk_drewN ?_ _ | refine blk_drew ?_ | refine blk_alloc ?_ _)); exact BK101.out) hb); have n2_ := Aside0.mk (below_step (by repeat (first | (with_reducible first | exact HB.out | apply below_alloc | apply pw_below_drewN | apply below_drew1 | refine below_set ?_ GE101.out) | exact HB.out)) hb); clear BK101; clear HB; have HO107 := n0_; have BK101 := n1_; have HB := n2_; clear n0_ n1_ n2_; (try clear hb); (try clear hb2); (try clear hk); (try clear hi); (try clear ho0)))
      go_ret
      exact ⟨_, by first | rfl | (simp [errW_none, errW_some] <;> rfl) | (simp [*, errW_none, errW_some] <;> rfl), by (with_reducible repeat (first | apply Kd.R_alloc | apply Kd.R_drewN | apply Kd.R_drew)); exact HO107.out, by repeat (first | (with_reducible first | exact HB.out | apply below_alloc | apply pw_below_drewN | apply below_drew1 | refine below_set ?_ GE101.out) | exact HB.out)⟩
    · rw [if_neg c7] at H
      have c7b0 : (a0_0 == 2) = false := beq_eq_false_iff_ne.mpr c7
      have c7b1 : (a0_0 != 2) = true := bne_iff_ne.mpr c7
      by_cases c12 : a0_0 = 3
      · rw [if_pos c12] at H
        have c12b0 : (a0_0 == 3) = true := beq_iff_eq.mpr c12
        have c12b1 : (a0_0 != 3) = false := bne_eq_false_iff_eq.mpr c12
        clear c12
        have H' := Aside0.mk H
        clear H
        go_enter Try.func21, Try.ntmps21
        go_wp2_with (first | ((with_reducible refine gate_dst (N := 1) rfl ?_); refine box_event ?hg (N := 1) ?hd (cs := #[.int .i64 a0_0, .string a0_1, .slice A0_2 l0_2.length c0_2, .slice A0_3 l0_3.length c0_3]) (t := 27) ?hr ?_; (case hd => rfl); (case hg => rfl); (case hr => first | (go_simp; done) | (go_simp; rfl)); intro gb101 hg w13 hbox hb; have n0_ := Aside0.mk (below_step (by repeat (first | (with_reducible first | exact HB.out | apply below_alloc | apply pw_below_drewN | apply below_drew1) | exact HB.out)) hb); have n1_ := Aside0.mk (hbox); have n2_ := Aside0.mk ((by rw [hg]; exact (below_size (by repeat (first | (with_reducible first | exact HB.out | apply below_alloc | apply pw_below_drewN | apply below_drew1) | exact HB.out))) : w.heap.size ≤ gb101)); have n3_ := Aside0.mk ((by rw [hg]; exact (below_size (by repeat (first | (with_reducible first | exact HB.out | apply below_alloc | apply pw_below_drewN | apply below_drew1) | exact HB.out))) : w.heap.size ≤ gb101)); clear HB; have HB := n0_; have BK101 := n1_; have GW101 := n2_; have GE101 := n3_; clear n0_ n1_ n2_ n3_; clear hb hbox hg; have hcz14_0 : w13.cell? ⟨gb101, 0, none⟩ = some (.int .i64 a0_0) := (blk_cell BK101.out 0).trans rfl; have hcz14_1 : w13.cell? ⟨gb101, 1, none⟩ = some (.string a0_1) := (blk_cell BK101.out 1).trans rfl; have hcz14_2 : w13.cell? ⟨gb101, 2, none⟩ = some (.slice A0_2 l0_2.length c0_2) := (blk_cell BK101.out 2).trans rfl; have hcz14_3 : w13.cell? ⟨gb101, 3, none⟩ = some (.slice A0_3 l0_3.length c0_3) := (blk_cell BK101.out 3).trans rfl; have hfz14_0 := blk_frozen BK101.out 0; have hfz14_1 := blk_frozen BK101.out 1; have hfz14_2 := blk_frozen BK101.out 2; have hfz14_3 := blk_frozen BK101.out 3))
        go_loopg [3, 23] k (fun kq v3 v23 w' => ∃ (x3_1 : List ByteArray) (x23_1 : Int), v23 = .int .i64 x23_1 ∧ Aside0 (value_Texts.l0 kq x3_1 l0_3 (l0_3.length : Int) x23_1 = some r) ∧ Aside0 (kq ≤ k) ∧ Aside0 (Kd.R Kd.string 9 w' w.heap.size (fun _ => True) v3 x3_1) ∧ Aside0 (w'.heap[gb101]? = some (.cells #[.int .i64 a0_0, .string a0_1, (.slice A0_2 l0_2.length c0_2), (.slice A0_3 l0_3.length c0_3)] 27 (0, 0))) ∧ Aside0 (Below w.heap.size w w'))
        case atStart => exact ⟨(([] : List ByteArray)), (0), (by first | rfl | (simp; done) | (simp [*]; done)), H', ⟨Nat.le_refl _⟩, ⟨by first | exact Kd.R_nil _ _ _ _ _ | exact Kd.N_nil _ _ _ _ _ | exact Kd.V_nil _ _ _ _ _ | exact Kd.Q_nil _ _ _ _ _ | exact Kd.S_nil _ _ _ _ _⟩, ⟨by (with_reducible repeat (first | refine blk_drewN ?_ _ | refine blk_drew ?_ | refine blk_alloc ?_ _)); exact BK101.out⟩, ⟨by repeat (first | (with_reducible first | exact HB.out | apply below_alloc | apply pw_below_drewN | apply below_drew1 | refine below_set ?_ GE101.out) | exact HB.out)⟩⟩
        case round =>
          clear H'
          try clear c1
          try clear c2
          try clear c2b0
          try clear c2b1
          try clear p2
          try clear c4
          try clear c7
          try clear c7b0
          try clear c7b1
          try clear c12
          try clear c12b0
          try clear c12b1
          try clear hcz10_0
          try clear hcz10_1
          try clear hcz10_2
          try clear hcz10_3
          try clear hcz14_0
          try clear hcz14_1
          try clear hcz14_2
          try clear hcz14_3
          try clear hcz4_0
          try clear hcz4_1
          try clear hcz4_2
          try clear hcz4_3
          try clear hfz10_0
          try clear hfz10_1
          try clear hfz10_2
          try clear hfz10_3
          try clear hfz14_0
          try clear hfz14_1
          try clear hfz14_2
          try clear hfz14_3
          try clear hfz4_0
          try clear hfz4_1
          try clear hfz4_2
          try clear hfz4_3
          obtain ⟨x3_1, x23_1, rfl, HA, HK1, HO_3, BK101, HB⟩ := hrel
          cases gk with
          | zero => exact absurd HA.out (by simp [value_Texts.l0])
          | succ k1 =>
            have H := HA.out
            clear HA
            simp only [value_Texts.l0] at H
            by_cases c15 : x23_1 < (l0_3.length : Int)
            · rw [if_pos c15] at H
              have c15b0 : decide (x23_1 < (l0_3.length : Int)) = true := decide_eq_true c15
              clear c15
              by_cases c16 : 0 ≤ x23_1
              · rw [if_pos c16] at H
                have c16b0 : decide (0 ≤ x23_1) = true := decide_eq_true c16
                clear c16
                by_cases c17 : x23_1 < (l0_3.length : Int)
                · rw [if_pos c17] at H
                  have c17b0 : decide (x23_1 < (l0_3.length : Int)) = true := decide_eq_true c17
                  clear c17
                  obtain ⟨y110, hy110⟩ : ∃ y_ : List ByteArray, y_ = (([(rd_T44 l0_3 x23_1).f0, (rd_T44 l0_3 x23_1).f1] : List ByteArray)) := ⟨_, rfl⟩
                  replace H : (if x3_1.length + y110.length < 8796093022208 then (value_Texts.l0 k1 (x3_1 ++ y110) l0_3 (l0_3.length : Int) (wrap64 (x23_1 + 1))) else (none)) = some r := by first | (rw [hy110]; with_reducible exact H) | (have H2_ := (Option.bind_some _ _).symm.trans H; rw [hy110]; with_reducible exact H2_) | (have H2_ := (Option.bind_some _ _).symm.trans H; with_reducible exact H2_) | with_reducible exact H | (rw [hy110]; exact H) | exact H
                  have Ny110 := Aside0.mk hy110
                  clear hy110
                  by_cases c18 : x3_1.length + y110.length < 8796093022208
                  · rw [if_pos c18] at H
                    have LMc18 := Aside0.mk c18
                    clear c18
                    obtain ⟨y113, hy113⟩ : ∃ y_ : List ByteArray, y_ = (x3_1 ++ y110) := ⟨_, rfl⟩
                    replace H : (value_Texts.l0 k1 y113 l0_3 (l0_3.length : Int) (wrap64 (x23_1 + 1))) = some r := by first | (rw [hy113]; with_reducible exact H) | (have H2_ := (Option.bind_some _ _).symm.trans H; rw [hy113]; with_reducible exact H2_) | (have H2_ := (Option.bind_some _ _).symm.trans H; with_reducible exact H2_) | with_reducible exact H | (rw [hy113]; exact H) | exact H
                    have Ny113 := Aside0.mk hy113
                    clear hy113
                    have H' := Aside0.mk H
                    clear H
                    have p108 : 0 ≤ (x23_1 : Int) := of_decide_eq_true (by first | (with_reducible assumption) | assumption)
                    have q108 : x23_1 < (l0_3.length : Int) := of_decide_eq_true (by first | (with_reducible assumption) | assumption)
                    obtain ⟨ad108, e108, hx108_0, hx108_1⟩ := at_T44 HR0_3.out x23_1 p108 q108
                    cases e108
                    replace hx108_0 := (HB.out.cell (World.block_lt_of_cell? w _ hx108_0)).trans hx108_0
                    replace hx108_1 := (HB.out.cell (World.block_lt_of_cell? w _ hx108_1)).trans hx108_1
                    replace p108 := eq_true p108
                    replace q108 := eq_true q108
                    go_wp2_with (first | ((with_reducible refine gate_dst (N := 5) rfl ?_); refine box_event ?hg (N := 5) ?hd (cs := #[.string (⟨#[]⟩ : ByteArray), .string (⟨#[]⟩ : ByteArray)]) (t := 44) ?hr ?_; (case hd => rfl); (case hg => rfl); (case hr => first | (go_simp; done) | (go_simp; rfl)); intro gb109 hg w19 hbox hb; have n0_ := Aside0.mk (Kd.R_below (by (with_reducible repeat (first | apply Kd.R_alloc | apply Kd.R_drewN | apply Kd.R_drew)); exact HO_3.out) hb); have n1_ := Aside0.mk (blk_below (g := gb101) (o := .cells #[.int .i64 a0_0, .string a0_1, .slice A0_2 l0_2.length c0_2, .slice (some ad108) l0_3.length c0_3] 27 (0, 0)) (by (with_reducible repeat (first | refine blk_drewN ?_ _ | refine blk_drew ?_ | refine blk_alloc ?_ _)); exact BK101.out) hb); have n2_ := Aside0.mk (below_step (by repeat (first | (with_reducible first | exact HB.out | apply below_alloc | apply pw_below_drewN | apply below_drew1 | refine below_set ?_ GE101.out) | exact HB.out)) hb); have n3_ := Aside0.mk (hbox); have n4_ := Aside0.mk ((by rw [hg]; exact (below_size (by repeat (first | (with_reducible first | exact HB.out | apply below_alloc | apply pw_below_drewN | apply below_drew1 | refine below_set ?_ GE101.out) | exact HB.out))) : w.heap.size ≤ gb109)); have n5_ := Aside0.mk ((by rw [hg]; exact (below_size (by repeat (first | (with_reducible first | exact HB.out | apply below_alloc | apply pw_below_drewN | apply below_drew1 | refine below_set ?_ GE101.out) | exact HB.out))) : w.heap.size ≤ gb109)); have n6_ := Aside0.mk ((by rw [hg]; exact Nat.ne_of_lt (blk_lt (g := gb101) (o := .cells #[.int .i64 a0_0, .string a0_1, .slice A0_2 l0_2.length c0_2, .slice (some ad108) l0_3.length c0_3] 27 (0, 0)) (by (with_reducible repeat (first | refine blk_drewN ?_ _ | refine blk_drew ?_ | refine blk_alloc ?_ _)); exact BK101.out)) : gb101 ≠ gb109)); have n7_ := Aside0.mk ((by rw [hg]; exact Nat.ne_of_gt (blk_lt (g := gb101) (o := .cells #[.int .i64 a0_0, .string a0_1, .slice A0_2 l0_2.length c0_2, .slice (some ad108) l0_3.length c0_3] 27 (0, 0)) (by (with_reducible repeat (first | refine blk_drewN ?_ _ | refine blk_drew ?_ | refine blk_alloc ?_ _)); exact BK101.out)) : gb109 ≠ gb101)); clear HO_3; clear BK101; clear HB; have HO_3 := n0_; have BK101 := n1_; have HB := n2_; have BK109 := n3_; have GW109 := n4_; have GE109 := n5_; have NB101_109 := n6_; have NB109_101 := n7_; clear n0_ n1_ n2_ n3_ n4_ n5_ n6_ n7_; clear hb hbox hg; have hnb20 := NB109_101.out; have hnc20 := NB101_109.out; have hcz21_0 : w19.cell? ⟨gb109, 0, none⟩ = some (.string (⟨#[]⟩ : ByteArray)) := (blk_cell BK109.out 0).trans rfl; have hcz21_1 : w19.cell? ⟨gb109, 1, none⟩ = some (.string (⟨#[]⟩ : ByteArray)) := (blk_cell BK109.out 1).trans rfl; have hfz21_0 := blk_frozen BK109.out 0; have hfz21_1 := blk_frozen BK109.out 1) | ((with_reducible refine gate_dst (N := 32) rfl ?_); refine Kd.R_lit Kd.string _ 9 ?hg (N := 32) ?hd (xs := ([(rd_T44 l0_3 x23_1).f0, (rd_T44 l0_3 x23_1).f1] : List ByteArray)) (inner := [.string ((rd_T44 l0_3 x23_1).f0), .string ((rd_T44 l0_3 x23_1).f1)]) (ok := fun _ => True) (okp := fun _ => True) ?hr ?hp (fun _ hk => hk) trivial (Below.refl _ _) (Nat.le_refl _) (by simp) ?_; (case hd => rfl); (case hg => rfl); (case hr => first | (go_simp; done) | (go_simp; rfl)); (case hp => exact (Reps.one (show Kd.M Kd.string _ _ _ ((rd_T44 l0_3 x23_1).f0) [.string ((rd_T44 l0_3 x23_1).f0)] from rfl) (Reps.one (show Kd.M Kd.string _ _ _ ((rd_T44 l0_3 x23_1).f1) [.string ((rd_T44 l0_3 x23_1).f1)] from rfl) (Reps.none _ _)))); intro v111 w22 ho23 hb hg_ hnew_; clear hg_ hnew_; (first | rw [← Ny110.out] at ho23 | (simp only [Int.reduceToNat] at ho23; rw [← Ny110.out] at ho23)); have n0_ := Aside0.mk (Kd.R_elder' (by (with_reducible repeat (first | apply Kd.R_alloc | apply Kd.R_drewN | apply Kd.R_drew)); exact (Kd.R_mono (Kd.R_far (p := ⟨gb109, 1, none⟩) (Kd.R_far (p := ⟨gb109, 0, none⟩) (Kd.R_types HO_3.out BK109.out (by decide)) (fun _ hk => hk.2) (.string ((rd_T44 l0_3 x23_1).f0))) (fun _ hk => hk.2) (.string ((rd_T44 l0_3 x23_1).f1))) (fun _ h_ => h_.1))) (Kd.R_base ho23) hb); have n1_ := Aside0.mk (Kd.R_lower (Kd.R_new' ho23 (Kd.R_lt (by (with_reducible repeat (first | apply Kd.R_alloc | apply Kd.R_drewN | apply Kd.R_drew)); exact (Kd.R_mono (Kd.R_far (p := ⟨gb109, 1, none⟩) (Kd.R_far (p := ⟨gb109, 0, none⟩) (Kd.R_types HO_3.out BK109.out (by decide)) (fun _ hk => hk.2) (.string ((rd_T44 l0_3 x23_1).f0))) (fun _ hk => hk.2) (.string ((rd_T44 l0_3 x23_1).f1))) (fun _ h_ => h_.1))))) (below_size (by repeat (first | (with_reducible first | exact HB.out | apply below_alloc | apply pw_below_drewN | apply below_drew1 | refine below_set ?_ GE101.out | refine below_set ?_ GE109.out) | exact HB.out)))); have n2_ := Aside0.mk (blk_below (g := gb101) (o := .cells #[.int .i64 a0_0, .string a0_1, .slice A0_2 l0_2.length c0_2, .slice (some ad108) l0_3.length c0_3] 27 (0, 0)) (by (with_reducible repeat (first | refine blk_drewN ?_ _ | refine blk_drew ?_ | refine blk_alloc ?_ _)); refine blk_far ?_ NB101_109.out _; (with_reducible repeat (first | refine blk_drewN ?_ _ | refine blk_drew ?_ | refine blk_alloc ?_ _)); refine blk_far ?_ NB101_109.out _; (with_reducible repeat (first | refine blk_drewN ?_ _ | refine blk_drew ?_ | refine blk_alloc ?_ _)); exact BK101.out) hb); have n3_ := Aside0.mk (blk_below (g := gb109) (o := .cells #[.string ((rd_T44 l0_3 x23_1).f0), .string ((rd_T44 l0_3 x23_1).f1)] 44 (0, 0)) (by (with_reducible repeat (first | refine blk_drewN ?_ _ | refine blk_drew ?_ | refine blk_alloc ?_ _)); refine blk_put (cs := #[.string ((rd_T44 l0_3 x23_1).f0), .string (⟨#[]⟩ : ByteArray)]) ?_ 1 _ rfl; (with_reducible repeat (first | refine blk_drewN ?_ _ | refine blk_drew ?_ | refine blk_alloc ?_ _)); refine blk_put (cs := #[.string (⟨#[]⟩ : ByteArray), .string (⟨#[]⟩ : ByteArray)]) ?_ 0 _ rfl; (with_reducible repeat (first | refine blk_drewN ?_ _ | refine blk_drew ?_ | refine blk_alloc ?_ _)); exact BK109.out) hb); have n4_ := Aside0.mk (below_step (by repeat (first | (with_reducible first | exact HB.out | apply below_alloc | apply pw_below_drewN | apply below_drew1 | refine below_set ?_ GE101.out | refine below_set ?_ GE109.out) | exact HB.out)) hb); clear HO_3; clear BK101; clear BK109; clear HB; have HO_3 := n0_; have HO112 := n1_; have BK101 := n2_; have BK109 := n3_; have HB := n4_; clear n0_ n1_ n2_ n3_ n4_; clear hb ho23; obtain ⟨Ao25, co25, eo25⟩ := Kd.R_slice HO112.out; subst eo25) | ((with_reducible refine gate_builtin (b := .append) (xs := #[.tmp 27, .tmp 32]) rfl ?_); at_builtin; refine Kd.R_append_rows Kd.string (w0 := w) w.heap.size rfl (.tmp 27) (.tmp 32) 24 9 (.string ⟨#[]⟩) 16 rfl Try.underlying24 info9 rfl (by decide) (by omega) u3 x3_1 y110 _ _ _ (fun k_ => some k_ ≠ (.slice Ao25 y110.length co25 : Value).ownBlock) (fun _ => False) rfl rfl ?aO ?aR (fun _ _ h => h) (fun _ h => h.elim) ?aF ?aB ?aS ?aL ?_; (case aR => repeat (first | exact (Kd.R_reads' HO112.out).2.2 | (with_reducible refine Kd.C_alloc ?_ _) | (with_reducible refine Kd.C_drewN ?_ _) | (with_reducible refine Kd.C_drew ?_))); (case aB => exact (by repeat (first | (with_reducible first | exact HB.out | apply below_alloc | apply pw_below_drewN | apply below_drew1 | refine below_set ?_ GE101.out | refine below_set ?_ GE109.out) | exact HB.out))); (case aF => exact (fun k_ hk => Kd.fresh' (Kd.R_lt (by (with_reducible repeat (first | apply Kd.R_alloc | apply Kd.R_drewN | apply Kd.R_drew)); exact HO112.out)) k_ hk)); (case aO => exact (by (with_reducible repeat (first | apply Kd.R_alloc | apply Kd.R_drewN | apply Kd.R_drew)); exact Kd.R_mono HO_3.out (fun _ hk => hk.2))); (case aS => exact (below_size (by repeat (first | (with_reducible first | exact HB.out | apply below_alloc | apply pw_below_drewN | apply below_drew1 | refine below_set ?_ GE101.out | refine below_set ?_ GE109.out) | exact HB.out)))); (case aL => have := LMc18.out; omega); intro v114 w24 ho hb hg hat; rw [← Ny113.out] at ho; have n0_ := Aside0.mk (blk_grown (g := gb101) (o := .cells #[.int .i64 a0_0, .string a0_1, .slice A0_2 l0_2.length c0_2, .slice (some ad108) l0_3.length c0_3] 27 (0, 0)) (by (with_reducible repeat (first | refine blk_drewN ?_ _ | refine blk_drew ?_ | refine blk_alloc ?_ _)); exact BK101.out) hg (Kd.R_ne HO_3.out BK101.out (by decide))); have n1_ := Aside0.mk (blk_grown (g := gb109) (o := .cells #[.string ((rd_T44 l0_3 x23_1).f0), .string ((rd_T44 l0_3 x23_1).f1)] 44 (0, 0)) (by (with_reducible repeat (first | refine blk_drewN ?_ _ | refine blk_drew ?_ | refine blk_alloc ?_ _)); exact BK109.out) hg (Kd.R_ne HO_3.out BK109.out (by decide))); have n2_ := Aside0.mk (Kd.R_after (ok := (fun _ => True)) (by (with_reducible repeat (first | apply Kd.R_alloc | apply Kd.R_drewN | apply Kd.R_drew)); exact HO112.out) hg hat); have n3_ := Aside0.mk (hb); have n4_ := Aside0.mk (ho); clear BK101; clear BK109; clear HO112; clear HB; clear HO_3; have BK101 := n0_; have BK109 := n1_; have HO112 := n2_; have HB := n3_; have HO115 := n4_; clear n0_ n1_ n2_ n3_ n4_; clear ho hb hg hat))
                    go_roundg k1
                    case measure => have := HK1.out; omega
                    case rel => exact ⟨(y113), (wrap64 (x23_1 + 1)), (by first | rfl | (simp; done) | (simp [*]; done)), H', ⟨by have := HK1.out; omega⟩, ⟨by (with_reducible repeat (first | apply Kd.R_alloc | apply Kd.R_drewN | apply Kd.R_drew)); exact Kd.R_mono HO115.out (fun _ hk => trivial)⟩, ⟨by (with_reducible repeat (first | refine blk_drewN ?_ _ | refine blk_drew ?_ | refine blk_alloc ?_ _)); exact BK101.out⟩, ⟨by repeat (first | (with_reducible first | exact HB.out | apply below_alloc | apply pw_below_drewN | apply below_drew1 | refine below_set ?_ GE101.out | refine below_set ?_ GE109.out) | exact HB.out)⟩⟩
                  · rw [if_neg c18] at H
                    exact absurd H (by simp)
                · rw [if_neg c17] at H
                  exact absurd H (by simp)
              · rw [if_neg c16] at H
                exact absurd H (by simp)
            · rw [if_neg c15] at H
              have c15b0 : decide (x23_1 < (l0_3.length : Int)) = false := decide_eq_false c15
              clear c15
              obtain rfl := Option.some.inj H
              go_wp2
              go_ret
              exact ⟨_, by first | rfl | (simp [errW_none, errW_some] <;> rfl) | (simp [*, errW_none, errW_some] <;> rfl), by (with_reducible repeat (first | apply Kd.R_alloc | apply Kd.R_drewN | apply Kd.R_drew)); exact HO_3.out, by repeat (first | (with_reducible first | exact HB.out | apply below_alloc | apply pw_below_drewN | apply below_drew1 | refine below_set ?_ GE101.out) | exact HB.out)⟩
      · rw [if_neg c12] at H
        have c12b0 : (a0_0 == 3) = false := beq_eq_false_iff_ne.mpr c12
        have c12b1 : (a0_0 != 3) = true := bne_iff_ne.mpr c12
        obtain rfl := Option.some.inj H
        go_enter Try.func21, Try.ntmps21
        go_wp2_with (first | ((with_reducible refine gate_dst (N := 1) rfl ?_); refine box_event ?hg (N := 1) ?hd (cs := #[.int .i64 a0_0, .string a0_1, .slice A0_2 l0_2.length c0_2, .slice A0_3 l0_3.length c0_3]) (t := 27) ?hr ?_; (case hd => rfl); (case hg => rfl); (case hr => first | (go_simp; done) | (go_simp; rfl)); intro gb101 hg w26 hbox hb; have n0_ := Aside0.mk (below_step (by repeat (first | (with_reducible first | exact HB.out | apply below_alloc | apply pw_below_drewN | apply below_drew1) | exact HB.out)) hb); have n1_ := Aside0.mk (hbox); have n2_ := Aside0.mk ((by rw [hg]; exact (below_size (by repeat (first | (with_reducible first | exact HB.out | apply below_alloc | apply pw_below_drewN | apply below_drew1) | exact HB.out))) : w.heap.size ≤ gb101)); have n3_ := Aside0.mk ((by rw [hg]; exact (below_size (by repeat (first | (with_reducible first | exact HB.out | apply below_alloc | apply pw_below_drewN | apply below_drew1) | exact HB.out))) : w.heap.size ≤ gb101)); clear HB; have HB := n0_; have BK101 := n1_; have GW101 := n2_; have GE101 := n3_; clear n0_ n1_ n2_ n3_; clear hb hbox hg; have hcz27_0 : w26.cell? ⟨gb101, 0, none⟩ = some (.int .i64 a0_0) := (blk_cell BK101.out 0).trans rfl; have hcz27_1 : w26.cell? ⟨gb101, 1, none⟩ = some (.string a0_1) := (blk_cell BK101.out 1).trans rfl; have hcz27_2 : w26.cell? ⟨gb101, 2, none⟩ = some (.slice A0_2 l0_2.length c0_2) := (blk_cell BK101.out 2).trans rfl; have hcz27_3 : w26.cell? ⟨gb101, 3, none⟩ = some (.slice A0_3 l0_3.length c0_3) := (blk_cell BK101.out 3).trans rfl; have hfz27_0 := blk_frozen BK101.out 0; have hfz27_1 := blk_frozen BK101.out 1; have hfz27_2 := blk_frozen BK101.out 2; have hfz27_3 := blk_frozen BK101.out 3))
        go_ret
        exact ⟨_, by first | rfl | (simp [errW_none, errW_some] <;> rfl) | (simp [*, errW_none, errW_some] <;> rfl), by first | exact Kd.R_nil _ _ _ _ _ | exact Kd.N_nil _ _ _ _ _ | exact Kd.V_nil _ _ _ _ _ | exact Kd.Q_nil _ _ _ _ _ | exact Kd.S_nil _ _ _ _ _, by repeat (first | (with_reducible first | exact HB.out | apply below_alloc | apply pw_below_drewN | apply below_drew1 | refine below_set ?_ GE101.out) | exact HB.out)⟩

/-! ### value_Defined: function 19 -/
def value_Defined.f (k : Nat) (a0_0 : Int) (a0_1 : ByteArray) (l0_2 : List ByteArray) (l0_3 : List (S44)) : Option (Bool) := (value_Texts.f k a0_0 a0_1 l0_2 l0_3).bind fun t117 => (some (decide ((t117.length : Int) > 0)))
theorem value_Defined.mono : ∀ a0 a1 a2 a3 k, LeO (value_Defined.f k a0 a1 a2 a3) (value_Defined.f (k + 1) a0 a1 a2 a3) := by
  intro a0 a1 a2 a3 k
  unfold value_Defined.f
  repeat' first
      | (with_reducible exact value_Texts.mono _ _ _ _ _)
      | (with_reducible exact LeO.refl _)
      | (with_reducible exact LeO.none _)
      | (with_reducible refine LeO.ite ?_ ?_)
      | (with_reducible refine LeO.bind ?_ (fun _ => ?_))
      | exact value_Texts.mono _ _ _ _ _
      | exact LeO.none _
      | refine LeO.ite ?_ ?_
      | refine LeO.bind ?_ (fun _ => ?_)
set_option maxHeartbeats 8000000 in
set_option maxRecDepth 100000 in
theorem value_Defined.calls (k : Nat) (a0_0 : Int) (a0_1 : ByteArray) (A0_2 : Option Addr) (c0_2 : Nat) (l0_2 : List ByteArray) (A0_3 : Option Addr) (c0_3 : Nat) (l0_3 : List (S44)) (r : Bool) (w : World) (hr0_2 : Kd.C Kd.string w A0_2 l0_2.length l0_2) (hc0_2 : l0_2.length ≤ c0_2) (hr0_3 : Kd.C k44 w A0_3 l0_3.length l0_3) (hc0_3 : l0_3.length ≤ c0_3) (h : value_Defined.f k a0_0 a0_1 l0_2 l0_3 = some r) :
    Calls Try.prog 19 #[.agg #[.int .i64 a0_0, .string a0_1, .slice A0_2 l0_2.length c0_2, .slice A0_3 l0_3.length c0_3]] w fun e w' => e = .returned (.bool r) ∧ Below w.heap.size w w' := by
  have hu27 := Try.underlying27
  have HR0_2 := Aside0.mk hr0_2
  have HC0_2 := Aside0.mk hc0_2
  clear hr0_2 hc0_2
  have HR0_3 := Aside0.mk hr0_3
  have HC0_3 := Aside0.mk hc0_3
  clear hr0_3 hc0_3
  have HB := Aside0.mk (Below.refl w.heap.size w)
  have H : ((value_Texts.f k a0_0 a0_1 l0_2 l0_3).bind fun t117 => (some (decide ((t117.length : Int) > 0)))) = some r := h
  clear h
  replace H := Option.bind_eq_some_iff.mp H
  obtain ⟨t117, A20, H⟩ := H
  replace H : (some (decide ((t117.length : Int) > 0))) = some r := H
  have A2 := Aside0.mk A20
  clear A20
  obtain rfl := Option.some.inj H
  go_enter Try.func19, Try.ntmps19
  go_wp2_with (first | ((with_reducible refine gate_dst (N := 1) rfl ?_); refine box_event ?hg (N := 1) ?hd (cs := #[.int .i64 a0_0, .string a0_1, .slice A0_2 l0_2.length c0_2, .slice A0_3 l0_3.length c0_3]) (t := 27) ?hr ?_; (case hd => rfl); (case hg => rfl); (case hr => first | (go_simp; done) | (go_simp; rfl)); intro gb116 hg w3 hbox hb; have n0_ := Aside0.mk (below_step (by repeat (first | (with_reducible first | exact HB.out | apply below_alloc | apply pw_below_drewN | apply below_drew1) | exact HB.out)) hb); have n1_ := Aside0.mk (hbox); have n2_ := Aside0.mk ((by rw [hg]; exact (below_size (by repeat (first | (with_reducible first | exact HB.out | apply below_alloc | apply pw_below_drewN | apply below_drew1) | exact HB.out))) : w.heap.size ≤ gb116)); have n3_ := Aside0.mk ((by rw [hg]; exact (below_size (by repeat (first | (with_reducible first | exact HB.out | apply below_alloc | apply pw_below_drewN | apply below_drew1) | exact HB.out))) : w.heap.size ≤ gb116)); clear HB; have HB := n0_; have BK116 := n1_; have GW116 := n2_; have GE116 := n3_; clear n0_ n1_ n2_ n3_; clear hb hbox hg; have hcz4_0 : w3.cell? ⟨gb116, 0, none⟩ = some (.int .i64 a0_0) := (blk_cell BK116.out 0).trans rfl; have hcz4_1 : w3.cell? ⟨gb116, 1, none⟩ = some (.string a0_1) := (blk_cell BK116.out 1).trans rfl; have hcz4_2 : w3.cell? ⟨gb116, 2, none⟩ = some (.slice A0_2 l0_2.length c0_2) := (blk_cell BK116.out 2).trans rfl; have hcz4_3 : w3.cell? ⟨gb116, 3, none⟩ = some (.slice A0_3 l0_3.length c0_3) := (blk_cell BK116.out 3).trans rfl; have hfz4_0 := blk_frozen BK116.out 0; have hfz4_1 := blk_frozen BK116.out 1; have hfz4_2 := blk_frozen BK116.out 2; have hfz4_3 := blk_frozen BK116.out 3) | ((with_reducible refine gate_callee (f := 21) rfl ?_); refine goesL_ (some 4) rfl rfl Try.func21 (by kernel_rfl) rfl #[.agg #[.int .i64 a0_0, .string a0_1, .slice A0_2 l0_2.length c0_2, .slice A0_3 l0_3.length c0_3]] rfl (by (try simp only [List.map_toArray, List.map_cons, List.map_nil]); first | done | rfl | (simp only [List.length_drop, List.length_take]; rfl)) ?_; (with_reducible refine (value_Texts.calls k a0_0 a0_1 _ _ l0_2 _ _ l0_3 t117 _ ?side1 ?side2 ?side3 ?side4 A2.out).mono ?_); (case side1 => repeat (first | exact (Kd.C_below HR0_2.out HB.out) | (with_reducible refine Kd.C_alloc ?_ _) | (with_reducible refine Kd.C_drewN ?_ _) | (with_reducible refine Kd.C_drew ?_))); (case side2 => exact HC0_2.out); (case side3 => repeat (first | exact (Kd.C_below HR0_3.out HB.out) | (with_reducible refine Kd.C_alloc ?_ _) | (with_reducible refine Kd.C_drewN ?_ _) | (with_reducible refine Kd.C_drew ?_))); (case side4 => exact HC0_3.out); rintro e w5 ⟨v118, rfl, ho0, hb⟩; refine ⟨_, rfl, ?_⟩; have n0_ := Aside0.mk (Kd.R_lower ho0 (below_size (by repeat (first | (with_reducible first | exact HB.out | apply below_alloc | apply pw_below_drewN | apply below_drew1 | refine below_set ?_ GE116.out) | exact HB.out)))); have n1_ := Aside0.mk (blk_below (g := gb116) (o := .cells #[.int .i64 a0_0, .string a0_1, .slice A0_2 l0_2.length c0_2, .slice A0_3 l0_3.length c0_3] 27 (0, 0)) (by (with_reducible repeat (first | refine blk_drewN ?_ _ | refine blk_drew ?_ | refine blk_alloc ?_ _)); exact BK116.out) hb); have n2_ := Aside0.mk (below_step (by repeat (first | (with_reducible first | exact HB.out | apply below_alloc | apply pw_below_drewN | apply below_drew1 | refine below_set ?_ GE116.out) | exact HB.out)) hb); clear BK116; clear HB; have HO119 := n0_; have BK116 := n1_; have HB := n2_; clear n0_ n1_ n2_; (try clear hb); (try clear hb2); (try clear hk); (try clear hi); (try clear ho0); obtain ⟨Ao6, co6, eo6⟩ := Kd.R_slice HO119.out; subst eo6))
  go_ret
  exact ⟨by first | rfl | (simp [errW_none, errW_some] <;> rfl) | (simp [*, errW_none, errW_some] <;> rfl), by repeat (first | (with_reducible first | exact HB.out | apply below_alloc | apply pw_below_drewN | apply below_drew1 | refine below_set ?_ GE116.out) | exact HB.out)⟩

/-! ### schema_In: function 9 (ours) -/
/-- A value's texts. -/
def textsOf (k : Int) (s : ByteArray) (l : List ByteArray) (p : List S44) : List ByteArray :=
  if k = 1 then [s] else if k = 2 then l else if k = 3 then p.flatMap (fun x => [x.f0, x.f1]) else []
/-- Are a value's parts of a moderate size? -/
def modest (s : ByteArray) (l : List ByteArray) (p : List S44) : Prop :=
  s.size ≤ 1000000 ∧ l.length ≤ 100000 ∧ p.length ≤ 100000 ∧ (∀ x ∈ l, x.size ≤ 1000000) ∧ ∀ x ∈ p, x.f0.size ≤ 1000000 ∧ x.f1.size ≤ 1000000
instance (s : ByteArray) (l : List ByteArray) (p : List S44) : Decidable (modest s l p) := by unfold modest; infer_instance
theorem rd_at (xs : List S44) (k : Nat) (h : k < xs.length) : rd_T44 xs (k : Int) = xs[k] := by
  unfold rd_T44; rw [Int.toNat_natCast, List.getD_eq_getElem?_getD, List.getElem?_eq_getElem h]; rfl
theorem texts_l0 (p : List S44) (hp : p.length ≤ 100000) (d : Nat) : ∀ (k : Nat) (i : Nat) (acc : List ByteArray), i + d = p.length → d < k → acc.length + 2 * d ≤ 200000 →
    value_Texts.l0 k acc p (p.length : Int) (i : Int) = some (acc ++ (p.drop i).flatMap (fun x => [x.f0, x.f1])) := by
  induction d with
  | zero =>
    intro k i acc hi hk ha
    obtain ⟨k, rfl⟩ : ∃ m, k = m + 1 := ⟨k - 1, by omega⟩
    simp only [value_Texts.l0]
    rw [if_neg (by omega), List.drop_eq_nil_of_le (by omega)]
    simp
  | succ d ih =>
    intro k i acc hi hk ha
    obtain ⟨k, rfl⟩ : ∃ m, k = m + 1 := ⟨k - 1, by omega⟩
    simp only [value_Texts.l0]
    rw [if_pos (by omega), if_pos (by omega), if_pos (by omega), rd_at p i (by omega)]
    simp only [Option.bind_some, List.length_cons, List.length_nil]
    rw [if_pos (by omega), show wrap64 ((i : Int) + 1) = ((i + 1 : Nat) : Int) from by unfold wrap64; omega,
      ih k (i + 1) _ (by omega) (by omega) (by rw [List.length_append]; simp; omega), List.drop_eq_getElem_cons (show i < p.length by omega), List.flatMap_cons, List.append_assoc]
theorem texts_f (k : Nat) (vk : Int) (s : ByteArray) (l : List ByteArray) (p : List S44) (hm : modest s l p) (hk : p.length < k) : value_Texts.f k vk s l p = some (textsOf vk s l p) := by
  obtain ⟨_, hl, hp, _, _⟩ := hm
  unfold value_Texts.f textsOf
  by_cases h1 : vk = 1
  · rw [if_pos h1, if_pos h1]
  rw [if_neg h1, if_neg h1]
  by_cases h2 : vk = 2
  · rw [if_pos h2, if_pos h2]; unfold slices_Clone_string_string.f; rw [if_pos (by omega)]; rfl
  rw [if_neg h2, if_neg h2]
  by_cases h3 : vk = 3
  · rw [if_pos h3, if_pos h3]
    have := texts_l0 p hp p.length k 0 [] (by omega) hk (by simp; omega)
    simpa using this
  · rw [if_neg h3, if_neg h3]
theorem texts_small {vk : Int} {s : ByteArray} {l : List ByteArray} {p : List S44} (hm : modest s l p) : (textsOf vk s l p).length ≤ 1000000 ∧ ∀ x ∈ textsOf vk s l p, x.size ≤ 1000000 := by
  obtain ⟨hs, hl, hp, hl2, hp2⟩ := hm
  unfold textsOf
  split
  · exact ⟨by simp, fun x hx => by rw [List.mem_singleton.1 hx]; exact hs⟩
  split
  · exact ⟨by omega, hl2⟩
  split
  · refine ⟨?_, fun x hx => ?_⟩
    · have : ∀ q : List S44, (q.flatMap (fun x => [x.f0, x.f1])).length = 2 * q.length := fun q => by
        induction q with
        | nil => rfl
        | cons a q ih => rw [List.flatMap_cons, List.length_append, ih]; simp; omega
      rw [this]; omega
    · obtain ⟨y, hy, hx⟩ := List.mem_flatMap.1 hx
      obtain ⟨h0, h1⟩ := hp2 y hy
      simp at hx
      rcases hx with rfl | rfl <;> assumption
  · exact ⟨by simp, fun x hx => by simp at hx⟩
/-- Is a value as a schema says? -/
def inV (kd cl mx vk : Int) (s : ByteArray) (l : List ByteArray) (p : List S44) : Bool :=
  (vk == kd && decide (0 < (textsOf vk s l p).length)) && !(textsOf vk s l p).any fun t => !X.fitsS cl mx t
def schema_In.f (a0_0 : ByteArray) (a0_1 : Int) (a0_2 : Bool) (a0_3 : Int) (a0_4 : Int) (a1_0 : Int) (a1_1 : ByteArray) (l1_2 : List ByteArray) (l1_3 : List (S44)) : Option (Bool) := if modest a1_1 l1_2 l1_3 then some (inV a0_1 a0_3 a0_4 a1_0 a1_1 l1_2 l1_3) else none
set_option maxHeartbeats 8000000 in
set_option maxRecDepth 100000 in
theorem schema_In.calls (a0_0 : ByteArray) (a0_1 : Int) (a0_2 : Bool) (a0_3 : Int) (a0_4 : Int) (a1_0 : Int) (a1_1 : ByteArray) (A1_2 : Option Addr) (c1_2 : Nat) (l1_2 : List ByteArray) (A1_3 : Option Addr) (c1_3 : Nat) (l1_3 : List (S44)) (r : Bool) (w : World) (hr1_2 : Kd.C Kd.string w A1_2 l1_2.length l1_2) (hc1_2 : l1_2.length ≤ c1_2) (hr1_3 : Kd.C k44 w A1_3 l1_3.length l1_3) (hc1_3 : l1_3.length ≤ c1_3) (h : schema_In.f a0_0 a0_1 a0_2 a0_3 a0_4 a1_0 a1_1 l1_2 l1_3 = some r) :
    Calls Try.prog 9 #[.agg #[.string a0_0, .int .i64 a0_1, .bool a0_2, .int .i64 a0_3, .int .i64 a0_4], .agg #[.int .i64 a1_0, .string a1_1, .slice A1_2 l1_2.length c1_2, .slice A1_3 l1_3.length c1_3]] w fun e w' => e = .returned (.bool r) ∧ Below w.heap.size w w' := by
  simp only [schema_In.f] at h
  split at h
  · rename_i hm
    obtain rfl := Option.some.inj h
    clear h
    have HS := Aside0.mk (texts_small (vk := a1_0) hm)
    have HF := Aside0.mk (texts_f (l1_3.length + 1) a1_0 a1_1 l1_2 l1_3 hm (Nat.lt_succ_self _))
    have HD := Aside0.mk (show value_Defined.f (l1_3.length + 1) a1_0 a1_1 l1_2 l1_3 = some (decide (0 < (textsOf a1_0 a1_1 l1_2 l1_3).length)) by
      unfold value_Defined.f; rw [HF.out]; simp)
    have HR2 := Aside0.mk hr1_2
    have HR3 := Aside0.mk hr1_3
    clear hr1_2 hr1_3 hm
    by_cases hk : a1_0 = a0_1
    · have hk' : (a1_0 == a0_1) = true := beq_iff_eq.2 hk
      cases hd : decide (0 < (textsOf a1_0 a1_1 l1_2 l1_3).length) with
      | true =>
        have HV := Aside0.mk (show inV a0_1 a0_3 a0_4 a1_0 a1_1 l1_2 l1_3 = !(textsOf a1_0 a1_1 l1_2 l1_3).any fun t => !X.fitsS a0_3 a0_4 t by unfold inV; rw [hk', hd]; rfl)
        rw [hd] at HD
        clear hd hk
        go_enter Try.func9, Try.ntmps9
        go_wp2_with fail
        refine (value_Defined.calls (l1_3.length + 1) a1_0 a1_1 A1_2 c1_2 l1_2 A1_3 c1_3 l1_3 _ _ (Kd.C_below HR2.out (X.below_new2 _ _ _)) hc1_2 (Kd.C_below HR3.out (X.below_new2 _ _ _)) hc1_3 HD.out).mono ?_
        rintro e w1 ⟨rfl, hb⟩
        have hbx := blk_below (blk_alloc (blk_new w (.cells (X.varC a0_0 a0_1 a0_2 a0_3 a0_4) 23)) _) hb
        have hby := blk_below (X.blk_new2 w _ _) hb
        have HBX := Aside0.mk hbx
        have HB := Aside0.mk (below_step (w := w) (X.below_new2 w _ _) hb)
        have c0 : w1.cell? ⟨w.heap.size + 1, 0, none⟩ = some (.int .i64 a1_0) := (blk_cell hby 0).trans rfl
        have c1 : w1.cell? ⟨w.heap.size + 1, 1, none⟩ = some (.string a1_1) := (blk_cell hby 1).trans rfl
        have c2 : w1.cell? ⟨w.heap.size + 1, 2, none⟩ = some (.slice A1_2 l1_2.length c1_2) := (blk_cell hby 2).trans rfl
        have c3 : w1.cell? ⟨w.heap.size + 1, 3, none⟩ = some (.slice A1_3 l1_3.length c1_3) := (blk_cell hby 3).trans rfl
        clear hb hbx hby
        go_wp2_with fail
        refine (value_Texts.calls (l1_3.length + 1) a1_0 a1_1 A1_2 c1_2 l1_2 A1_3 c1_3 l1_3 _ _ (Kd.C_below HR2.out HB.out) hc1_2 (Kd.C_below HR3.out HB.out) hc1_3 HF.out).mono ?_
        rintro e w2 ⟨v, rfl, hv, hb⟩
        obtain ⟨A, n, rfl, hle, hv⟩ := Kd.R_reads hv
        have HBX2 := Aside0.mk (blk_below HBX.out hb)
        have HB2 := Aside0.mk (below_step HB.out hb)
        have HVV := Aside0.mk hv
        clear hb hv c0 c1 c2 c3 HBX HB
        go_wp2_with fail
        refine (X.containsFunc_str _ _ _ _ _ _ _ HS.out.1 HVV.out (X.In1_tells w.heap.size _ a0_0 a0_1 a0_2 a0_3 a0_4 HBX2.out _ HS.out.2)).mono ?_
        rintro e w3 ⟨rfl, hb⟩
        have HB3 := Aside0.mk (below_step HB2.out hb)
        clear hb
        go_wp2_with fail
        go_ret
        exact ⟨by rw [HV.out]; rfl, HB3.out⟩
      | false =>
        have HV := Aside0.mk (show inV a0_1 a0_3 a0_4 a1_0 a1_1 l1_2 l1_3 = false by unfold inV; rw [hk', hd]; rfl)
        rw [hd] at HD
        clear hd hk
        go_enter Try.func9, Try.ntmps9
        go_wp2_with fail
        refine (value_Defined.calls (l1_3.length + 1) a1_0 a1_1 A1_2 c1_2 l1_2 A1_3 c1_3 l1_3 _ _ (Kd.C_below HR2.out (X.below_new2 _ _ _)) hc1_2 (Kd.C_below HR3.out (X.below_new2 _ _ _)) hc1_3 HD.out).mono ?_
        rintro e w1 ⟨rfl, hb⟩
        have HB := Aside0.mk (below_step (w := w) (X.below_new2 w _ _) hb)
        clear hb
        go_wp2_with fail
        go_ret
        exact ⟨by rw [HV.out]; rfl, HB.out⟩
    · have hk' : (a1_0 == a0_1) = false := beq_eq_false_iff_ne.2 hk
      have HV := Aside0.mk (show inV a0_1 a0_3 a0_4 a1_0 a1_1 l1_2 l1_3 = false by unfold inV; rw [hk']; rfl)
      go_enter Try.func9, Try.ntmps9
      go_wp2_with fail
      go_ret
      exact ⟨by rw [HV.out]; rfl, X.below_new2 _ _ _⟩
  · exact absurd h (by simp)
/-! ### schema_Has: function 11 (ours) -/
def schema_Has.f (a0 : Int) (a1 : Int) : Option (Bool) := some (Y.hasC a0 a1)
set_option maxHeartbeats 8000000 in
set_option maxRecDepth 100000 in
theorem schema_Has.calls (a0 : Int) (a1 : Int) (r : Bool) (w : World) (h : schema_Has.f a0 a1 = some r) :
    Calls Try.prog 11 #[.int .i64 a0, .int .i64 a1] w fun e w' => e = .returned (.bool r) ∧ Below w.heap.size w w' := by
  obtain rfl := Option.some.inj h
  exact X.schemaHas_any a0 a1 w
/-! ### phalaropelaw14_awake: function 7 (ours) -/
theorem aw_in1 : schema_In.f ⟨#[]⟩ 1 false 1 0 1 ⟨#[49, 50]⟩ [] [] = some true := by decide +kernel
theorem aw_in2 : schema_In.f ⟨#[]⟩ 1 false 3 0 1 ⟨#[37, 52, 49]⟩ [] [] = some false := by decide +kernel
theorem aw_has : schema_Has.f 4 233 = some true := by decide +kernel
theorem aw_in3 : schema_In.f ⟨#[]⟩ 1 false 4 1 1 ⟨#[49, 50]⟩ [] [] = some false := by decide +kernel
def phalaropelaw14_awake.f  : Option (Bool) := some true
set_option maxHeartbeats 8000000 in
set_option maxRecDepth 100000 in
theorem phalaropelaw14_awake.calls  (r : Bool) (w : World) (h : phalaropelaw14_awake.f  = some r) :
    Calls Try.prog 7 #[] w fun e w' => e = .returned (.bool r) ∧ Below w.heap.size w w' := by
  obtain rfl := Option.some.inj h
  clear h
  go_enter Try.func7, Try.ntmps7
  go_wp2_with fail
  refine (schema_In.calls ⟨#[]⟩ 1 false 1 0 1 ⟨#[49, 50]⟩ none 0 [] none 0 [] true _ (X.C_nil _ _) (Nat.le_refl _) (X.C_nil _ _) (Nat.le_refl _) aw_in1).mono ?_
  rintro e w1 ⟨rfl, hb⟩
  have B1 := Aside0.mk (blk_below (blk_alloc (blk_new w _) _) hb)
  have B2 := blk_below (X.blk_new2 w _ _) hb
  have HB := Aside0.mk (below_step (w := w) (X.below_new2 w _ _) hb)
  obtain ⟨c0, c1, c2, c3, _⟩ := X.cells4 B2
  clear hb B2
  go_wp2_with fail
  refine (schema_In.calls ⟨#[]⟩ 1 false 3 0 1 ⟨#[37, 52, 49]⟩ none 0 [] none 0 [] false _ (X.C_nil _ _) (Nat.le_refl _) (X.C_nil _ _) (Nat.le_refl _) aw_in2).mono ?_
  rintro e w2 ⟨rfl, hb⟩
  have B1' := Aside0.mk (blk_below B1.out hb)
  have HB2 := Aside0.mk (below_step HB.out hb)
  clear hb c0 c1 c2 c3 HB B1
  go_wp2_with fail
  refine (schema_Has.calls 4 233 true _ aw_has).mono ?_
  rintro e w3 ⟨rfl, hb⟩
  have HB3 := Aside0.mk (below_step HB2.out hb)
  obtain ⟨c0, c1, c2, c3, _⟩ := X.cells4 (blk_below B1'.out hb)
  clear hb HB2 B1'
  go_wp2_with fail
  refine (schema_In.calls ⟨#[]⟩ 1 false 4 1 1 ⟨#[49, 50]⟩ none 0 [] none 0 [] false _ (X.C_nil _ _) (Nat.le_refl _) (X.C_nil _ _) (Nat.le_refl _) aw_in3).mono ?_
  rintro e w4 ⟨rfl, hb⟩
  have HB4 := Aside0.mk (below_step HB3.out hb)
  clear hb
  go_wp2_with fail
  go_ret
  exact ⟨rfl, HB4.out⟩
/-! ### schema_Find: function 14 (ours) -/
/-- What a schema says of a variable. -/
def findV : List S23 → ByteArray → S23 × Bool
  | [], _ => (z23, false)
  | x :: l, nm => if (x.f0.toList == nm.toList) = true then (x, true) else findV l nm
theorem rdv_at (xs : List S23) (k : Nat) (h : k < xs.length) : rd_T23 xs (k : Int) = xs[k] := by
  unfold rd_T23; rw [Int.toNat_natCast, List.getD_eq_getElem?_getD, List.getElem?_eq_getElem h]; rfl
theorem findV_idx (nm : ByteArray) (l : List S23) : ∀ i : Nat, (X.idxOf (fun x : S23 => x.f0.toList == nm.toList) l i = -1 ∧ findV l nm = (z23, false)) ∨
    ∃ (j : Nat) (h : j < l.length), X.idxOf (fun x : S23 => x.f0.toList == nm.toList) l i = ((i + j : Nat) : Int) ∧ findV l nm = (l[j], true) := by
  induction l with
  | nil => intro i; exact .inl ⟨rfl, rfl⟩
  | cons x l ih =>
    intro i
    unfold X.idxOf findV
    by_cases h : (x.f0.toList == nm.toList) = true
    · exact .inr ⟨0, by simp, by rw [if_pos h]; rfl, by rw [if_pos h]; rfl⟩
    · rw [if_neg h, if_neg h]
      rcases ih (i + 1) with ⟨e1, e2⟩ | ⟨j, hj, e1, e2⟩
      · exact .inl ⟨e1, e2⟩
      · exact .inr ⟨j + 1, by simp; omega, by rw [show ((i : Int) + 1) = ((i + 1 : Nat) : Int) from by omega, e1]; congr 1; omega, e2⟩
theorem cells5 {w : World} {B : Nat} {a b c d e : Value} {t : TypeId} (h : w.heap[B]? = some (.cells #[a, b, c, d, e] t (0, 0))) :
    w.cell? ⟨B, 0, none⟩ = some a ∧ w.cell? ⟨B, 1, none⟩ = some b ∧ w.cell? ⟨B, 2, none⟩ = some c ∧ w.cell? ⟨B, 3, none⟩ = some d ∧ w.cell? ⟨B, 4, none⟩ = some e := by
  refine ⟨?_, ?_, ?_, ?_, ?_⟩ <;> simp [blk_cell h]
theorem frozen5 {w : World} {B : Nat} {a b c d e : Value} {t : TypeId} (h : w.heap[B]? = some (.cells #[a, b, c, d, e] t (0, 0))) :
    w.frozen? ⟨B, 0, none⟩ = false ∧ w.frozen? ⟨B, 1, none⟩ = false ∧ w.frozen? ⟨B, 2, none⟩ = false ∧ w.frozen? ⟨B, 3, none⟩ = false ∧ w.frozen? ⟨B, 4, none⟩ = false :=
  ⟨blk_frozen h 0, blk_frozen h 1, blk_frozen h 2, blk_frozen h 3, blk_frozen h 4⟩
def encVar (x : S23) : Value := .agg #[.string x.f0, .int .i64 x.f1, .bool x.f2, .int .i64 x.f3, .int .i64 x.f4]
set_option maxHeartbeats 800000 in
theorem indexFunc_var (g : FuncId) (lb : Array Value) (p : S23 → Bool) (l : List S23) (A : Option Addr) (n : Nat) (w : World) (hl : l.length ≤ 1000000) (hr : Kd.C k23 w A l.length l) (hp : X.Tells Try.prog g lb w encVar l p) :
    Calls Try.prog 32 #[.slice A l.length n, .func (.func g) #[] lb] w fun e w' => e = .returned (.int .i64 (X.idxOf p l 0)) ∧ Below w.heap.size w w' := by
  have HP := Aside0.mk hp.2
  have eg := hp.1
  have HR := Aside0.mk hr
  clear hp hr
  go_enter Try.func32, Try.ntmps32
  go_wp2_with fail
  go_loopw [8] (fun c wr => ∃ k : Nat, k ≤ l.length ∧ c = .int .i64 k ∧ Below w.heap.size w wr ∧ Aside0 (X.idxOf p l 0 = X.idxOf p (l.drop k) k)) (fun c _ => (l.length - intOf c).toNat)
  case atStart => exact ⟨0, by omega, by simp, Below.refl _ _, ⟨rfl⟩⟩
  case round =>
    obtain ⟨k, hk, rfl, hb, HI⟩ := hrel
    have HB := Aside0.mk hb
    clear hb
    by_cases hlt : k < l.length
    · obtain ⟨ad, rfl, h0, h1, h2, h3, h4⟩ := at_T23 (Kd.C_below HR.out HB.out) (k : Int) (by omega) (by omega)
      rw [rdv_at l k hlt] at h0 h1 h2 h3 h4
      simp only [Int.toNat_natCast] at h0 h1 h2 h3 h4
      have HI1 := Aside0.mk (HI.out.trans (X.idxOf_drop p l k hlt))
      clear HI
      cases hpk : p l[k] with
      | true =>
        have HK := Aside0.mk hpk
        clear hpk
        go_wp2_with fail
        refine (HP.out l[k] _ HB.out (List.getElem_mem hlt)).mono ?_
        rintro e w1 ⟨rfl, hb1⟩
        have HB1 := Aside0.mk (below_step HB.out hb1)
        rw [HK.out]
        clear hb1
        go_wp2_with fail
        go_ret
        exact ⟨by rw [HI1.out, if_pos HK.out]; rfl, HB1.out⟩
      | false =>
        have HK := Aside0.mk hpk
        clear hpk
        go_wp2_with fail
        refine (HP.out l[k] _ HB.out (List.getElem_mem hlt)).mono ?_
        rintro e w1 ⟨rfl, hb1⟩
        have HB1 := Aside0.mk (below_step HB.out hb1)
        rw [HK.out]
        clear hb1 HB
        go_wp2_with fail
        go_roundw
        case rel => exact ⟨k + 1, by omega, by go_num, HB1.out, ⟨by rw [HI1.out, if_neg (by rw [HK.out]; decide)]⟩⟩
        case measure => simp [intOf]; omega
    · have HI1 := Aside0.mk (HI.out.trans (X.idxOf_end p l k hlt))
      clear HI
      go_wp2_with fail
      go_ret
      exact ⟨by rw [HI1.out]; rfl, HB.out⟩
theorem enters_Find1 : Enters Try.prog 33 := enters_of Try.func33 (by kernel_rfl) rfl
set_option maxHeartbeats 800000 in
theorem find1_tells (B : Nat) (w : World) (nm : ByteArray) (hB : w.heap[B]? = some (.cells #[.string nm] 9 (0, 0))) (l : List S23) :
    X.Tells Try.prog 33 #[.pointer (some ⟨B, 0, none⟩)] w encVar l (fun x => x.f0.toList == nm.toList) := by
  refine ⟨enters_Find1, fun x W hb _ => ?_⟩
  obtain ⟨x0, x1, x2, x3, x4⟩ := x
  have hc : (W.alloc (.cells #[.string x0, .int .i64 x1, .bool x2, .int .i64 x3, .int .i64 x4] 23 (0, 0))).cell? ⟨B, 0, none⟩ = some (.string nm) := (blk_cell (blk_alloc (blk_below hB hb) _) 0).trans rfl
  clear hB hb
  show Calls Try.prog 33 #[.agg #[.string x0, .int .i64 x1, .bool x2, .int .i64 x3, .int .i64 x4], .pointer (some ⟨B, 0, none⟩)] W _
  go_enter Try.func33, Try.ntmps33
  go_wp2_with fail
  go_ret
  exact ⟨rfl, X.below_new1 _ _⟩
def schema_Find.f (l0 : List (S23)) (a1 : ByteArray) : Option (ByteArray × Int × Bool × Int × Int × Bool) := if l0.length ≤ 1000000 then some ((findV l0 a1).1.f0, (findV l0 a1).1.f1, (findV l0 a1).1.f2, (findV l0 a1).1.f3, (findV l0 a1).1.f4, (findV l0 a1).2) else none
set_option maxHeartbeats 8000000 in
set_option maxRecDepth 100000 in
theorem schema_Find.calls (A0 : Option Addr) (c0 : Nat) (l0 : List (S23)) (a1 : ByteArray) (r1 : ByteArray) (r2 : Int) (r3 : Bool) (r4 : Int) (r5 : Int) (r6 : Bool) (w : World) (hr0 : Kd.C k23 w A0 l0.length l0) (hc0 : l0.length ≤ c0) (h : schema_Find.f l0 a1 = some (r1, r2, r3, r4, r5, r6)) :
    Calls Try.prog 14 #[.slice A0 l0.length c0, .string a1] w fun e w' => e = .returned (.tuple #[.agg #[.string r1, .int .i64 r2, .bool r3, .int .i64 r4, .int .i64 r5], .bool r6]) ∧ Below w.heap.size w w' := by
  simp only [schema_Find.f] at h
  split at h
  · rename_i hl
    have hR := Option.some.inj h
    clear h
    simp only [Prod.mk.injEq] at hR
    obtain ⟨rfl, rfl, rfl, rfl, rfl, rfl⟩ := hR
    have HR := Aside0.mk hr0
    have HI := Aside0.mk (findV_idx a1 l0 0)
    clear hr0
    rcases HI.out with ⟨e1, e2⟩ | ⟨j, hj, e1, e2⟩
    · have HE := Aside0.mk (show X.idxOf (fun x : S23 => x.f0.toList == a1.toList) l0 0 = -1 from e1)
      have HV := Aside0.mk e2
      clear HI e1 e2
      go_enter Try.func14, Try.ntmps14
      go_wp2_with fail
      refine (indexFunc_var 33 #[.pointer (some ⟨w.heap.size, 0, none⟩)] (fun x => x.f0.toList == a1.toList) l0 A0 c0 _ hl (Kd.C_below HR.out (X.below_new2 _ _ _)) (find1_tells w.heap.size _ a1 (blk_alloc (blk_new w _) _) l0)).mono ?_
      rintro e w1 ⟨rfl, hb⟩
      have HB := Aside0.mk (below_step (X.below_new2 w _ _) hb)
      have HX := blk_below (X.blk_new2 w _ _) hb
      obtain ⟨c1, c2, c3, c4, c5⟩ := cells5 HX
      obtain ⟨f0, f1, f2, f3, f4⟩ := frozen5 HX
      rw [HE.out]
      clear hb
      go_wp2_with fail
      obtain ⟨r0, r1, r2, r3, r4⟩ := cells5 (blk_put (blk_put (blk_put (blk_put (blk_put HX 0 (.string ⟨#[]⟩) rfl) 1 (.int .i64 0) rfl) 2 (.bool false) rfl) 3 (.int .i64 0) rfl) 4 (.int .i64 0) rfl)
      refine bodyPost_ret (v := .tuple #[.agg #[.string ⟨#[]⟩, .int .i64 0, .bool false, .int .i64 0, .int .i64 0], .bool false]) (by simp [results, Try.results14, go_sem, r0, r1, r2, r3, r4]) rfl ⟨by first | (rw [HV.out]; done) | (rw [HV.out]; rfl), ?_⟩
      repeat (first | exact HB.out | refine below_set ?_ (Nat.le_succ _))
    · have HE := Aside0.mk (show X.idxOf (fun x : S23 => x.f0.toList == a1.toList) l0 0 = (j : Int) from e1.trans (by simp))
      have HV := Aside0.mk e2
      clear HI e1 e2
      go_enter Try.func14, Try.ntmps14
      go_wp2_with fail
      refine (indexFunc_var 33 #[.pointer (some ⟨w.heap.size, 0, none⟩)] (fun x => x.f0.toList == a1.toList) l0 A0 c0 _ hl (Kd.C_below HR.out (X.below_new2 _ _ _)) (find1_tells w.heap.size _ a1 (blk_alloc (blk_new w _) _) l0)).mono ?_
      rintro e w1 ⟨rfl, hb⟩
      have HB := Aside0.mk (below_step (X.below_new2 w _ _) hb)
      have HX := blk_below (X.blk_new2 w _ _) hb
      obtain ⟨c1, c2, c3, c4, c5⟩ := cells5 HX
      obtain ⟨f0, f1, f2, f3, f4⟩ := frozen5 HX
      rw [HE.out]
      clear hb
      obtain ⟨ad, rfl, h0, h1, h2, h3, h4⟩ := at_T23 (Kd.C_below HR.out HB.out) (j : Int) (by omega) (by omega)
      rw [rdv_at l0 j hj] at h0 h1 h2 h3 h4
      simp only [Int.toNat_natCast] at h0 h1 h2 h3 h4
      go_wp2_with fail
      obtain ⟨r0, r1, r2, r3, r4⟩ := cells5 (blk_put (blk_put (blk_put (blk_put (blk_put HX 0 (.string l0[j].f0) rfl) 1 (.int .i64 l0[j].f1) rfl) 2 (.bool l0[j].f2) rfl) 3 (.int .i64 l0[j].f3) rfl) 4 (.int .i64 l0[j].f4) rfl)
      refine bodyPost_ret (v := .tuple #[.agg #[.string l0[j].f0, .int .i64 l0[j].f1, .bool l0[j].f2, .int .i64 l0[j].f3, .int .i64 l0[j].f4], .bool true]) (by simp [results, Try.results14, go_sem, r0, r1, r2, r3, r4]) rfl ⟨by first | (rw [HV.out]; done) | (rw [HV.out]; rfl), ?_⟩
      repeat (first | exact HB.out | refine below_set ?_ (Nat.le_succ _))
  · cases h
end Go.Proofs.Ytaigmfkgobklbaa.PC
