/- Texts of this claim, those that nothing needs left out: PAx5 PAx7 PAx8. -/
import Derived.Test.YtfaiplbogchgjaaBaG16
import Derived.Test.YtfaiplbogchgjaaBaG18
import Derived.Test.YtfaiplbogchgjaaBaG19
import Derived.Test.YtfaiplbogchgjaaBaG20
section
namespace Go.Proofs.Ytfaiplbogchgjaa.PA
open Go.RowKit Go.Proofs.YtfaiplbogchgjaaW.PrintWords Go.Proofs.YtfaiplbogchgjaaW.PrintLast Go.Proofs.YtfaiplbogchgjaaW.PrintMore
attribute [local go_sem] max2_int min2_int max_two min_two max_three min_three max_four min_four   -- for this text's walks alone
set_option linter.unusedVariables false
set_option linter.unusedSimpArgs false
def value_Compare.f (k : Nat) (a0_0 : Int) (a0_1 : ByteArray) (l0_2 : List ByteArray) (l0_3 : List (S50)) (a1_0 : Int) (a1_1 : ByteArray) (l1_2 : List ByteArray) (l1_3 : List (S50)) : Option (Int) := (value_Canon.f k a0_0 a0_1 l0_2 l0_3).bind fun bt143 => ((value_Canon.f k a1_0 a1_1 l1_2 l1_3).bind fun bt151 => ((cmp_Compare_int.f bt143.1 bt151.1).bind fun t159 => ((value_Texts.f k a0_0 a0_1 l0_2 l0_3).bind fun t160 => ((value_Texts.f k a1_0 a1_1 l1_2 l1_3).bind fun t163 => ((slices_Compare_string_string.f k t160 t163).bind fun t166 => ((cmp_Or_int.f k (([t159, t166] : List Int))).bind fun t170 => (some t170)))))))
def value_Compare.T1 : Bool × List (List Nat × List Nat) := (true, [([], []), ([0], [0]), ([1], [1]), ([], []), ([3, 1], [3]), ([4], [4]), ([2, 5, 4], [2, 5]), ([], []), ([7, 6], [7]), ([], []), ([9, 8], [9]), ([8, 10, 10], [8, 10]), ([6, 11], [6, 11]), ([12, 11], [12]), ([13, 13, 0, 1, 2, 3, 4, 5, 6, 7, 8, 9, 10, 11, 12, 13], [13])])
def value_Compare.B1 : List Nat := [0, 1, 3, 0, 11, 27, 63, 0, 255, 0, 1023, 2047, 4095, 8191, 16383]
theorem value_Compare.tab1 : rtab .any (opsOf Try.f43 1) = value_Compare.T1 := by kernel_rfl
theorem value_Compare.bits1 : waitsOk value_Compare.T1.2 value_Compare.B1 = true := by kernel_rfl
set_option maxHeartbeats 8000000 in
set_option maxRecDepth 100000 in
theorem value_Compare.calls (k : Nat) (a0_0 : Int) (a0_1 : ByteArray) (A0_2 : Option Addr) (c0_2 : Nat) (l0_2 : List ByteArray) (A0_3 : Option Addr) (c0_3 : Nat) (l0_3 : List (S50)) (a1_0 : Int) (a1_1 : ByteArray) (A1_2 : Option Addr) (c1_2 : Nat) (l1_2 : List ByteArray) (A1_3 : Option Addr) (c1_3 : Nat) (l1_3 : List (S50)) (r : Int) (w : World) (hr0_2 : Kd.C Kd.string w A0_2 l0_2.length l0_2) (hc0_2 : l0_2.length ≤ c0_2) (hr0_3 : Kd.C k50 w A0_3 l0_3.length l0_3) (hc0_3 : l0_3.length ≤ c0_3) (hr1_2 : Kd.C Kd.string w A1_2 l1_2.length l1_2) (hc1_2 : l1_2.length ≤ c1_2) (hr1_3 : Kd.C k50 w A1_3 l1_3.length l1_3) (hc1_3 : l1_3.length ≤ c1_3) (h : value_Compare.f k a0_0 a0_1 l0_2 l0_3 a1_0 a1_1 l1_2 l1_3 = some r) :
    Calls Try.prog 43 #[.agg #[.int .i64 a0_0, .string a0_1, .slice A0_2 l0_2.length c0_2, .slice A0_3 l0_3.length c0_3], .agg #[.int .i64 a1_0, .string a1_1, .slice A1_2 l1_2.length c1_2, .slice A1_3 l1_3.length c1_3]] w fun e w' => e = .returned (.int .i64 r) ∧ Below w.heap.size w w' := by
  have hu28 := Try.underlying28
  have hfd := X.run_field0
  have HR0_2 := Aside0.mk hr0_2
  have HC0_2 := Aside0.mk hc0_2
  clear hr0_2 hc0_2
  have HR0_3 := Aside0.mk hr0_3
  have HC0_3 := Aside0.mk hc0_3
  clear hr0_3 hc0_3
  have HR1_2 := Aside0.mk hr1_2
  have HC1_2 := Aside0.mk hc1_2
  clear hr1_2 hc1_2
  have HR1_3 := Aside0.mk hr1_3
  have HC1_3 := Aside0.mk hc1_3
  clear hr1_3 hc1_3
  have HB := Aside0.mk (Below.refl w.heap.size w)
  have H : ((value_Canon.f k a0_0 a0_1 l0_2 l0_3).bind fun bt143 => ((value_Canon.f k a1_0 a1_1 l1_2 l1_3).bind fun bt151 => ((cmp_Compare_int.f bt143.1 bt151.1).bind fun t159 => ((value_Texts.f k a0_0 a0_1 l0_2 l0_3).bind fun t160 => ((value_Texts.f k a1_0 a1_1 l1_2 l1_3).bind fun t163 => ((slices_Compare_string_string.f k t160 t163).bind fun t166 => ((cmp_Or_int.f k (([t159, t166] : List Int))).bind fun t170 => (some t170)))))))) = some r := h
  clear h
  replace H := Option.bind_eq_some_iff.mp H
  obtain ⟨⟨t143, t144, t145, t148⟩, A30, H⟩ := H
  replace H : ((value_Canon.f k a1_0 a1_1 l1_2 l1_3).bind fun bt151 => ((cmp_Compare_int.f t143 bt151.1).bind fun t159 => ((value_Texts.f k a0_0 a0_1 l0_2 l0_3).bind fun t160 => ((value_Texts.f k a1_0 a1_1 l1_2 l1_3).bind fun t163 => ((slices_Compare_string_string.f k t160 t163).bind fun t166 => ((cmp_Or_int.f k (([t159, t166] : List Int))).bind fun t170 => (some t170))))))) = some r := H
  have A3 := Aside0.mk A30
  clear A30
  replace H := Option.bind_eq_some_iff.mp H
  obtain ⟨⟨t151, t152, t153, t156⟩, A40, H⟩ := H
  replace H : ((cmp_Compare_int.f t143 t151).bind fun t159 => ((value_Texts.f k a0_0 a0_1 l0_2 l0_3).bind fun t160 => ((value_Texts.f k a1_0 a1_1 l1_2 l1_3).bind fun t163 => ((slices_Compare_string_string.f k t160 t163).bind fun t166 => ((cmp_Or_int.f k (([t159, t166] : List Int))).bind fun t170 => (some t170)))))) = some r := H
  have A4 := Aside0.mk A40
  clear A40
  replace H := Option.bind_eq_some_iff.mp H
  obtain ⟨t159, A50, H⟩ := H
  replace H : ((value_Texts.f k a0_0 a0_1 l0_2 l0_3).bind fun t160 => ((value_Texts.f k a1_0 a1_1 l1_2 l1_3).bind fun t163 => ((slices_Compare_string_string.f k t160 t163).bind fun t166 => ((cmp_Or_int.f k (([t159, t166] : List Int))).bind fun t170 => (some t170))))) = some r := H
  have A5 := Aside0.mk A50
  clear A50
  replace H := Option.bind_eq_some_iff.mp H
  obtain ⟨t160, A60, H⟩ := H
  replace H : ((value_Texts.f k a1_0 a1_1 l1_2 l1_3).bind fun t163 => ((slices_Compare_string_string.f k t160 t163).bind fun t166 => ((cmp_Or_int.f k (([t159, t166] : List Int))).bind fun t170 => (some t170)))) = some r := H
  have A6 := Aside0.mk A60
  clear A60
  replace H := Option.bind_eq_some_iff.mp H
  obtain ⟨t163, A70, H⟩ := H
  replace H : ((slices_Compare_string_string.f k t160 t163).bind fun t166 => ((cmp_Or_int.f k (([t159, t166] : List Int))).bind fun t170 => (some t170))) = some r := H
  have A7 := Aside0.mk A70
  clear A70
  replace H := Option.bind_eq_some_iff.mp H
  obtain ⟨t166, A80, H⟩ := H
  replace H : ((cmp_Or_int.f k (([t159, t166] : List Int))).bind fun t170 => (some t170)) = some r := H
  have A8 := Aside0.mk A80
  clear A80
  obtain ⟨y167, hy167⟩ : ∃ y_ : List Int, y_ = (([t159, t166] : List Int)) := ⟨_, rfl⟩
  replace H : ((cmp_Or_int.f k y167).bind fun t170 => (some t170)) = some r := by first | (rw [hy167]; with_reducible exact H) | (have H2_ := (Option.bind_some _ _).symm.trans H; rw [hy167]; with_reducible exact H2_) | (have H2_ := (Option.bind_some _ _).symm.trans H; with_reducible exact H2_) | with_reducible exact H | (rw [hy167]; exact H) | exact H
  have Ny167 := Aside0.mk hy167
  clear hy167
  replace H := Option.bind_eq_some_iff.mp H
  obtain ⟨t170, A90, H⟩ := H
  replace H : (some t170) = some r := H
  have A9 := Aside0.mk A90
  clear A90
  obtain rfl := Option.some.inj H
  go_enter Try.func43, Try.ntmps43
  try go_wp2_with (first | ((with_reducible refine gate_dst (N := 2) rfl ?_); refine box_event ?hg (N := 2) ?hd (cs := #[.int .i64 a0_0, .string a0_1, .slice A0_2 l0_2.length c0_2, .slice A0_3 l0_3.length c0_3]) (t := 28) ?hr ?_; (case hd => rfl); (case hg => rfl); (case hr => first | (go_simp; done) | (go_simp; rfl)); intro gb141 hg w10 hbox hb; have n0_ := Aside0.mk (below_step (by repeat (first | (with_reducible first | exact HB.out | apply below_alloc | apply pw_below_drewN | apply below_drew1) | exact HB.out)) hb); have n1_ := Aside0.mk (hbox); have n2_ := Aside0.mk ((by rw [hg]; exact (below_size (by repeat (first | (with_reducible first | exact HB.out | apply below_alloc | apply pw_below_drewN | apply below_drew1) | exact HB.out))) : w.heap.size ≤ gb141)); have n3_ := Aside0.mk ((by rw [hg]; exact (below_size (by repeat (first | (with_reducible first | exact HB.out | apply below_alloc | apply pw_below_drewN | apply below_drew1) | exact HB.out))) : w.heap.size ≤ gb141)); clear HB; have HB := n0_; have BK141 := n1_; have GW141 := n2_; have GE141 := n3_; clear n0_ n1_ n2_ n3_; clear hb hbox hg) | ((with_reducible refine gate_dst (N := 3) rfl ?_); refine box_event ?hg (N := 3) ?hd (cs := #[.int .i64 a1_0, .string a1_1, .slice A1_2 l1_2.length c1_2, .slice A1_3 l1_3.length c1_3]) (t := 28) ?hr ?_; (case hd => rfl); (case hg => rfl); (case hr => first | (go_simp; done) | (go_simp; rfl)); intro gb142 hg w11 hbox hb; have n0_ := Aside0.mk (blk_below (g := gb141) (o := .cells #[.int .i64 a0_0, .string a0_1, .slice A0_2 l0_2.length c0_2, .slice A0_3 l0_3.length c0_3] 28 (0, 0)) (by (with_reducible repeat (first | refine blk_drewN ?_ _ | refine blk_drew ?_ | refine blk_alloc ?_ _)); exact BK141.out) hb); have n1_ := Aside0.mk (below_step (by repeat (first | (with_reducible first | exact HB.out | apply below_alloc | apply pw_below_drewN | apply below_drew1 | refine below_set ?_ GE141.out) | exact HB.out)) hb); have n2_ := Aside0.mk (hbox); have n3_ := Aside0.mk ((by rw [hg]; exact (below_size (by repeat (first | (with_reducible first | exact HB.out | apply below_alloc | apply pw_below_drewN | apply below_drew1 | refine below_set ?_ GE141.out) | exact HB.out))) : w.heap.size ≤ gb142)); have n4_ := Aside0.mk ((by rw [hg]; exact (below_size (by repeat (first | (with_reducible first | exact HB.out | apply below_alloc | apply pw_below_drewN | apply below_drew1 | refine below_set ?_ GE141.out) | exact HB.out))) : w.heap.size ≤ gb142)); have n5_ := Aside0.mk ((by rw [hg]; exact Nat.ne_of_lt (blk_lt (g := gb141) (o := .cells #[.int .i64 a0_0, .string a0_1, .slice A0_2 l0_2.length c0_2, .slice A0_3 l0_3.length c0_3] 28 (0, 0)) (by (with_reducible repeat (first | refine blk_drewN ?_ _ | refine blk_drew ?_ | refine blk_alloc ?_ _)); exact BK141.out)) : gb141 ≠ gb142)); have n6_ := Aside0.mk ((by rw [hg]; exact Nat.ne_of_gt (blk_lt (g := gb141) (o := .cells #[.int .i64 a0_0, .string a0_1, .slice A0_2 l0_2.length c0_2, .slice A0_3 l0_3.length c0_3] 28 (0, 0)) (by (with_reducible repeat (first | refine blk_drewN ?_ _ | refine blk_drew ?_ | refine blk_alloc ?_ _)); exact BK141.out)) : gb142 ≠ gb141)); clear BK141; clear HB; have BK141 := n0_; have HB := n1_; have BK142 := n2_; have GW142 := n3_; have GE142 := n4_; have NB141_142 := n5_; have NB142_141 := n6_; clear n0_ n1_ n2_ n3_ n4_ n5_ n6_; clear hb hbox hg))
  have n0_ := Aside0.mk (blk_drew BK141.out)
  have n1_ := Aside0.mk (blk_drew BK142.out)
  have n2_ := Aside0.mk (below_drew1 HB.out)
  clear BK141
  clear BK142
  clear HB
  have BK141 := n0_
  have BK142 := n1_
  have HB := n2_
  clear n0_ n1_ n2_
  refine start_ (n := 15) (S := fun w' => w'.cell? ⟨gb141, 0, none⟩ = some (.int .i64 a0_0) ∧ w'.cell? ⟨gb141, 1, none⟩ = some (.string a0_1) ∧ w'.cell? ⟨gb141, 2, none⟩ = some (.slice A0_2 l0_2.length c0_2) ∧ w'.cell? ⟨gb141, 3, none⟩ = some (.slice A0_3 l0_3.length c0_3) ∧ w'.cell? ⟨gb142, 0, none⟩ = some (.int .i64 a1_0) ∧ w'.cell? ⟨gb142, 1, none⟩ = some (.string a1_1) ∧ w'.cell? ⟨gb142, 2, none⟩ = some (.slice A1_2 l1_2.length c1_2) ∧ w'.cell? ⟨gb142, 3, none⟩ = some (.slice A1_3 l1_3.length c1_3)) (ds := []) #[false, false, false, false, false, false, false, false, false, false, false, false, false, false, false] (by kernel_rfl) rfl rfl ⟨(blk_cell BK141.out 0).trans rfl, (blk_cell BK141.out 1).trans rfl, (blk_cell BK141.out 2).trans rfl, (blk_cell BK141.out 3).trans rfl, (blk_cell BK142.out 0).trans rfl, (blk_cell BK142.out 1).trans rfl, (blk_cell BK142.out 2).trans rfl, (blk_cell BK142.out 3).trans rfl⟩ (fun hHeld => ?_); refine with_tabW value_Compare.tab1 value_Compare.bits1 (fun HT_ HW_ => ?_)
  generalize w11.drew = w12 at BK141 BK142 HB hHeld ⊢
  refine take_ (i := 0) (N := some 5) (v := ?_) (a' := ?_) #[true, false, false, false, false, false, false, false, false, false, false, false, false, false, false] rfl rfl (take_ofW HT_.out HW_.out (by kernel_rfl)) (fun _ _ _ h => h) (Or.inl ⟨by rfl, ?_⟩) hHeld ?_ ?_
  rotate_left
  · rintro w' ⟨s0, s1, s2, s3, s4, s5, s6, s7⟩
    go_simp
    with_reducible rfl
  rotate_left
  · simp only [Act.put, List.setIfInBounds_toArray, List.set_cons_zero, List.set_cons_succ, i64_w, i32_w]
    rfl
  refine take_ (i := 3) (N := some 8) (v := ?_) (a' := ?_) #[true, false, false, true, false, false, false, false, false, false, false, false, false, false, false] rfl rfl (take_ofW HT_.out HW_.out (by kernel_rfl)) (fun _ _ _ h => h) (Or.inl ⟨by rfl, ?_⟩) hHeld ?_ ?_
  rotate_left
  · rintro w' ⟨s0, s1, s2, s3, s4, s5, s6, s7⟩
    go_simp
    with_reducible rfl
  rotate_left
  · simp only [Act.put, List.setIfInBounds_toArray, List.set_cons_zero, List.set_cons_succ, i64_w, i32_w]
    rfl
  refine take_ (i := 7) (N := some 12) (v := ?_) (a' := ?_) #[true, false, false, true, false, false, false, true, false, false, false, false, false, false, false] rfl rfl (take_ofW HT_.out HW_.out (by kernel_rfl)) (fun _ _ _ h => h) (Or.inl ⟨by rfl, ?_⟩) hHeld ?_ ?_
  rotate_left
  · rintro w' ⟨s0, s1, s2, s3, s4, s5, s6, s7⟩
    go_simp
    with_reducible rfl
  rotate_left
  · simp only [Act.put, List.setIfInBounds_toArray, List.set_cons_zero, List.set_cons_succ, i64_w, i32_w]
    rfl
  refine take_ (i := 9) (N := some 14) (v := ?_) (a' := ?_) #[true, false, false, true, false, false, false, true, false, true, false, false, false, false, false] rfl rfl (take_ofW HT_.out HW_.out (by kernel_rfl)) (fun _ _ _ h => h) (Or.inl ⟨by rfl, ?_⟩) hHeld ?_ ?_
  rotate_left
  · rintro w' ⟨s0, s1, s2, s3, s4, s5, s6, s7⟩
    go_simp
    with_reducible rfl
  rotate_left
  · simp only [Act.put, List.setIfInBounds_toArray, List.set_cons_zero, List.set_cons_succ, i64_w, i32_w]
    rfl
  refine one_ (i := 1) (N := some 6) #[true, true, false, true, false, false, false, true, false, true, false, false, false, false, false] rfl rfl (one_of HT_.out (by kernel_rfl)) (by decide) (fun K hK => ?_)
  refine goes_ Try.func39 (by kernel_rfl) rfl #[.agg #[.int .i64 a0_0, .string a0_1, .slice A0_2 l0_2.length c0_2, .slice A0_3 l0_3.length c0_3]] (by rfl) rfl rfl (by (try simp only [List.map_toArray, List.map_cons, List.map_nil]); first | done | rfl | (simp only [List.length_drop, List.length_take]; rfl)) ?_
  with_reducible refine (value_Canon.calls k a0_0 a0_1 _ _ l0_2 _ _ l0_3 t143 t144 t145 t148 _ ?side1 ?side2 ?side3 ?side4 A3.out).mono ?_
  (case side1 => repeat (first | exact (Kd.C_below HR0_2.out HB.out) | (with_reducible refine Kd.C_alloc ?_ _) | (with_reducible refine Kd.C_drewN ?_ _) | (with_reducible refine Kd.C_drew ?_)))
  (case side2 => exact HC0_2.out)
  (case side3 => repeat (first | exact (Kd.C_below HR0_3.out HB.out) | (with_reducible refine Kd.C_alloc ?_ _) | (with_reducible refine Kd.C_drewN ?_ _) | (with_reducible refine Kd.C_drew ?_)))
  (case side4 => exact HC0_3.out)
  rintro e w13 ⟨v146, v149, rfl, ho0, ho1, hb⟩
  refine ⟨_, rfl, ?_⟩
  have n0_ := Aside0.mk (Kd.R_lower ho0 (below_size (by repeat (first | (with_reducible first | exact HB.out | apply below_alloc | apply pw_below_drewN | apply below_drew1 | refine below_set ?_ GE141.out | refine below_set ?_ GE142.out) | exact HB.out))))
  have n1_ := Aside0.mk (Kd.R_lower ho1 (below_size (by repeat (first | (with_reducible first | exact HB.out | apply below_alloc | apply pw_below_drewN | apply below_drew1 | refine below_set ?_ GE141.out | refine below_set ?_ GE142.out) | exact HB.out))))
  have n2_ := Aside0.mk (blk_below (g := gb141) (o := .cells #[.int .i64 a0_0, .string a0_1, .slice A0_2 l0_2.length c0_2, .slice A0_3 l0_3.length c0_3] 28 (0, 0)) (by (with_reducible repeat (first | refine blk_drewN ?_ _ | refine blk_drew ?_ | refine blk_alloc ?_ _)); exact BK141.out) hb)
  have n3_ := Aside0.mk (blk_below (g := gb142) (o := .cells #[.int .i64 a1_0, .string a1_1, .slice A1_2 l1_2.length c1_2, .slice A1_3 l1_3.length c1_3] 28 (0, 0)) (by (with_reducible repeat (first | refine blk_drewN ?_ _ | refine blk_drew ?_ | refine blk_alloc ?_ _)); exact BK142.out) hb)
  have n4_ := Aside0.mk (below_step (by repeat (first | (with_reducible first | exact HB.out | apply below_alloc | apply pw_below_drewN | apply below_drew1 | refine below_set ?_ GE141.out | refine below_set ?_ GE142.out) | exact HB.out)) hb)
  clear BK141
  clear BK142
  clear HB
  have HO147 := n0_
  have HO150 := n1_
  have BK141 := n2_
  have BK142 := n3_
  have HB := n4_
  clear n0_ n1_ n2_ n3_ n4_
  (try clear hb)
  (try clear hb2)
  (try clear hk)
  (try clear hi)
  (try clear ho0)
  (try clear ho1)
  refine hK.out _ _ ⟨(blk_cell BK141.out 0).trans rfl, (blk_cell BK141.out 1).trans rfl, (blk_cell BK141.out 2).trans rfl, (blk_cell BK141.out 3).trans rfl, (blk_cell BK142.out 0).trans rfl, (blk_cell BK142.out 1).trans rfl, (blk_cell BK142.out 2).trans rfl, (blk_cell BK142.out 3).trans rfl⟩ (fun hHeld => ?_)
  clear hK K
  refine norm_ (a' := ?_) ?_ ?_
  rotate_left
  · show Act.put _ (some 6) _ = _
    simp only [Act.put, List.setIfInBounds_toArray, List.set_cons_zero, List.set_cons_succ, i64_w, i32_w]
    rfl
  refine pure_ (i := 2) (N := some 7) (v := ?_) (a' := ?_) #[true, true, true, true, false, false, false, true, false, true, false, false, false, false, false] rfl rfl (any_of HT_.out (by kernel_rfl)) (fun _ _ _ h => h) (Or.inl ⟨by rfl, ?_⟩) ?_ ?_
  rotate_left
  · intro w'
    go_simp
    with_reducible rfl
  rotate_left
  · simp only [Act.put, List.setIfInBounds_toArray, List.set_cons_zero, List.set_cons_succ, i64_w, i32_w]
    rfl
  refine one_ (i := 4) (N := some 9) #[true, true, true, true, true, false, false, true, false, true, false, false, false, false, false] rfl rfl (one_of HT_.out (by kernel_rfl)) (by decide) (fun K hK => ?_)
  refine goes_ Try.func39 (by kernel_rfl) rfl #[.agg #[.int .i64 a1_0, .string a1_1, .slice A1_2 l1_2.length c1_2, .slice A1_3 l1_3.length c1_3]] (by rfl) rfl rfl (by (try simp only [List.map_toArray, List.map_cons, List.map_nil]); first | done | rfl | (simp only [List.length_drop, List.length_take]; rfl)) ?_
  with_reducible refine (value_Canon.calls k a1_0 a1_1 _ _ l1_2 _ _ l1_3 t151 t152 t153 t156 _ ?side1 ?side2 ?side3 ?side4 A4.out).mono ?_
  (case side1 => repeat (first | exact (Kd.C_below HR1_2.out HB.out) | (with_reducible refine Kd.C_alloc ?_ _) | (with_reducible refine Kd.C_drewN ?_ _) | (with_reducible refine Kd.C_drew ?_)))
  (case side2 => exact HC1_2.out)
  (case side3 => repeat (first | exact (Kd.C_below HR1_3.out HB.out) | (with_reducible refine Kd.C_alloc ?_ _) | (with_reducible refine Kd.C_drewN ?_ _) | (with_reducible refine Kd.C_drew ?_)))
  (case side4 => exact HC1_3.out)
  rintro e w14 ⟨v154, v157, rfl, ho0, ho1, hb⟩
  refine ⟨_, rfl, ?_⟩
  have n0_ := Aside0.mk (Kd.R_elder' (by (with_reducible repeat (first | apply Kd.R_alloc | apply Kd.R_drewN | apply Kd.R_drew)); exact HO147.out) (Kd.R_base ho0) hb)
  have n1_ := Aside0.mk (Kd.R_elder' (by (with_reducible repeat (first | apply Kd.R_alloc | apply Kd.R_drewN | apply Kd.R_drew)); exact HO150.out) (Kd.R_base ho1) hb)
  have n2_ := Aside0.mk (Kd.R_lower (Kd.R_new' ho0 (Kd.R_lt (by (with_reducible repeat (first | apply Kd.R_alloc | apply Kd.R_drewN | apply Kd.R_drew)); exact HO147.out))) (below_size (by repeat (first | (with_reducible first | exact HB.out | apply below_alloc | apply pw_below_drewN | apply below_drew1 | refine below_set ?_ GE141.out | refine below_set ?_ GE142.out) | exact HB.out))))
  have n3_ := Aside0.mk (Kd.R_lower (Kd.R_new' ho1 (Kd.R_lt (by (with_reducible repeat (first | apply Kd.R_alloc | apply Kd.R_drewN | apply Kd.R_drew)); exact HO150.out))) (below_size (by repeat (first | (with_reducible first | exact HB.out | apply below_alloc | apply pw_below_drewN | apply below_drew1 | refine below_set ?_ GE141.out | refine below_set ?_ GE142.out) | exact HB.out))))
  have n4_ := Aside0.mk (blk_below (g := gb141) (o := .cells #[.int .i64 a0_0, .string a0_1, .slice A0_2 l0_2.length c0_2, .slice A0_3 l0_3.length c0_3] 28 (0, 0)) (by (with_reducible repeat (first | refine blk_drewN ?_ _ | refine blk_drew ?_ | refine blk_alloc ?_ _)); exact BK141.out) hb)
  have n5_ := Aside0.mk (blk_below (g := gb142) (o := .cells #[.int .i64 a1_0, .string a1_1, .slice A1_2 l1_2.length c1_2, .slice A1_3 l1_3.length c1_3] 28 (0, 0)) (by (with_reducible repeat (first | refine blk_drewN ?_ _ | refine blk_drew ?_ | refine blk_alloc ?_ _)); exact BK142.out) hb)
  have n6_ := Aside0.mk (below_step (by repeat (first | (with_reducible first | exact HB.out | apply below_alloc | apply pw_below_drewN | apply below_drew1 | refine below_set ?_ GE141.out | refine below_set ?_ GE142.out) | exact HB.out)) hb)
  clear HO147
  clear HO150
  clear BK141
  clear BK142
  clear HB
  have HO147 := n0_
  have HO150 := n1_
  have HO155 := n2_
  have HO158 := n3_
  have BK141 := n4_
  have BK142 := n5_
  have HB := n6_
  clear n0_ n1_ n2_ n3_ n4_ n5_ n6_
  (try clear hb)
  (try clear hb2)
  (try clear hk)
  (try clear hi)
  (try clear ho0)
  (try clear ho1)
  refine hK.out _ _ ⟨(blk_cell BK141.out 0).trans rfl, (blk_cell BK141.out 1).trans rfl, (blk_cell BK141.out 2).trans rfl, (blk_cell BK141.out 3).trans rfl, (blk_cell BK142.out 0).trans rfl, (blk_cell BK142.out 1).trans rfl, (blk_cell BK142.out 2).trans rfl, (blk_cell BK142.out 3).trans rfl⟩ (fun hHeld => ?_)
  clear hK K
  refine norm_ (a' := ?_) ?_ ?_
  rotate_left
  · show Act.put _ (some 9) _ = _
    simp only [Act.put, List.setIfInBounds_toArray, List.set_cons_zero, List.set_cons_succ, i64_w, i32_w]
    rfl
  refine pure_ (i := 5) (N := some 10) (v := ?_) (a' := ?_) #[true, true, true, true, true, true, false, true, false, true, false, false, false, false, false] rfl rfl (any_of HT_.out (by kernel_rfl)) (fun _ _ _ h => h) (Or.inl ⟨by rfl, ?_⟩) ?_ ?_
  rotate_left
  · intro w'
    go_simp
    with_reducible rfl
  rotate_left
  · simp only [Act.put, List.setIfInBounds_toArray, List.set_cons_zero, List.set_cons_succ, i64_w, i32_w]
    rfl
  refine one_ (i := 6) (N := some 11) #[true, true, true, true, true, true, true, true, false, true, false, false, false, false, false] rfl rfl (one_of HT_.out (by kernel_rfl)) (by decide) (fun K hK => ?_)
  refine goes_ Try.func53 (by kernel_rfl) rfl #[.int .i64 t143, .int .i64 t151] (by rfl) rfl rfl (by (try simp only [List.map_toArray, List.map_cons, List.map_nil]); first | done | rfl | (simp only [List.length_drop, List.length_take]; rfl)) ?_
  with_reducible refine (cmp_Compare_int.calls t143 t151 t159 _ A5.out).mono ?_
  rintro e w' ⟨rfl, ⟨nd, rfl⟩⟩
  refine ⟨_, rfl, ?_⟩
  refine hK.out _ _ ⟨(blk_cell BK141.out 0).trans rfl, (blk_cell BK141.out 1).trans rfl, (blk_cell BK141.out 2).trans rfl, (blk_cell BK141.out 3).trans rfl, (blk_cell BK142.out 0).trans rfl, (blk_cell BK142.out 1).trans rfl, (blk_cell BK142.out 2).trans rfl, (blk_cell BK142.out 3).trans rfl⟩ (fun hHeld => ?_)
  clear hK K
  refine norm_ (a' := ?_) ?_ ?_
  rotate_left
  · show Act.put _ (some 11) _ = _
    simp only [Act.put, List.setIfInBounds_toArray, List.set_cons_zero, List.set_cons_succ, i64_w, i32_w]
    rfl
  refine one_ (i := 8) (N := some 13) #[true, true, true, true, true, true, true, true, true, true, false, false, false, false, false] rfl rfl (one_of HT_.out (by kernel_rfl)) (by decide) (fun K hK => ?_)
  refine goes_ Try.func47 (by kernel_rfl) rfl #[.agg #[.int .i64 a0_0, .string a0_1, .slice A0_2 l0_2.length c0_2, .slice A0_3 l0_3.length c0_3]] (by rfl) rfl rfl (by (try simp only [List.map_toArray, List.map_cons, List.map_nil]); first | done | rfl | (simp only [List.length_drop, List.length_take]; rfl)) ?_
  with_reducible refine (value_Texts.calls k a0_0 a0_1 _ _ l0_2 _ _ l0_3 t160 _ ?side1 ?side2 ?side3 ?side4 A6.out).mono ?_
  (case side1 => repeat (first | exact (Kd.C_below HR0_2.out (by repeat (first | (with_reducible first | exact HB.out | apply below_alloc | apply pw_below_drewN | apply below_drew1 | refine below_set ?_ GE141.out | refine below_set ?_ GE142.out) | exact HB.out))) | (with_reducible refine Kd.C_alloc ?_ _) | (with_reducible refine Kd.C_drewN ?_ _) | (with_reducible refine Kd.C_drew ?_)))
  (case side2 => exact HC0_2.out)
  (case side3 => repeat (first | exact (Kd.C_below HR0_3.out (by repeat (first | (with_reducible first | exact HB.out | apply below_alloc | apply pw_below_drewN | apply below_drew1 | refine below_set ?_ GE141.out | refine below_set ?_ GE142.out) | exact HB.out))) | (with_reducible refine Kd.C_alloc ?_ _) | (with_reducible refine Kd.C_drewN ?_ _) | (with_reducible refine Kd.C_drew ?_)))
  (case side4 => exact HC0_3.out)
  rintro e w15 ⟨v161, rfl, ho0, hb⟩
  refine ⟨_, rfl, ?_⟩
  have n0_ := Aside0.mk (Kd.R_elder' (by (with_reducible repeat (first | apply Kd.R_alloc | apply Kd.R_drewN | apply Kd.R_drew)); exact HO147.out) (Kd.R_base ho0) hb)
  have n1_ := Aside0.mk (Kd.R_below (by (with_reducible repeat (first | apply Kd.R_alloc | apply Kd.R_drewN | apply Kd.R_drew)); exact HO150.out) hb)
  have n2_ := Aside0.mk (Kd.R_elder' (by (with_reducible repeat (first | apply Kd.R_alloc | apply Kd.R_drewN | apply Kd.R_drew)); exact HO155.out) (Kd.R_base ho0) hb)
  have n3_ := Aside0.mk (Kd.R_below (by (with_reducible repeat (first | apply Kd.R_alloc | apply Kd.R_drewN | apply Kd.R_drew)); exact HO158.out) hb)
  have n4_ := Aside0.mk (Kd.R_lower (Kd.R_new' (Kd.R_new' ho0 (Kd.R_lt (by (with_reducible repeat (first | apply Kd.R_alloc | apply Kd.R_drewN | apply Kd.R_drew)); exact HO147.out))) (Kd.R_lt (by (with_reducible repeat (first | apply Kd.R_alloc | apply Kd.R_drewN | apply Kd.R_drew)); exact HO155.out))) (below_size (by repeat (first | (with_reducible first | exact HB.out | apply below_alloc | apply pw_below_drewN | apply below_drew1 | refine below_set ?_ GE141.out | refine below_set ?_ GE142.out) | exact HB.out))))
  have n5_ := Aside0.mk (blk_below (g := gb141) (o := .cells #[.int .i64 a0_0, .string a0_1, .slice A0_2 l0_2.length c0_2, .slice A0_3 l0_3.length c0_3] 28 (0, 0)) (by (with_reducible repeat (first | refine blk_drewN ?_ _ | refine blk_drew ?_ | refine blk_alloc ?_ _)); exact BK141.out) hb)
  have n6_ := Aside0.mk (blk_below (g := gb142) (o := .cells #[.int .i64 a1_0, .string a1_1, .slice A1_2 l1_2.length c1_2, .slice A1_3 l1_3.length c1_3] 28 (0, 0)) (by (with_reducible repeat (first | refine blk_drewN ?_ _ | refine blk_drew ?_ | refine blk_alloc ?_ _)); exact BK142.out) hb)
  have n7_ := Aside0.mk (below_step (by repeat (first | (with_reducible first | exact HB.out | apply below_alloc | apply pw_below_drewN | apply below_drew1 | refine below_set ?_ GE141.out | refine below_set ?_ GE142.out) | exact HB.out)) hb)
  clear HO147
  clear HO150
  clear HO155
  clear HO158
  clear BK141
  clear BK142
  clear HB
  have HO147 := n0_
  have HO150 := n1_
  have HO155 := n2_
  have HO158 := n3_
  have HO162 := n4_
  have BK141 := n5_
  have BK142 := n6_
  have HB := n7_
  clear n0_ n1_ n2_ n3_ n4_ n5_ n6_ n7_
  (try clear hb)
  (try clear hb2)
  (try clear hk)
  (try clear hi)
  (try clear ho0)
  refine hK.out _ _ ⟨(blk_cell BK141.out 0).trans rfl, (blk_cell BK141.out 1).trans rfl, (blk_cell BK141.out 2).trans rfl, (blk_cell BK141.out 3).trans rfl, (blk_cell BK142.out 0).trans rfl, (blk_cell BK142.out 1).trans rfl, (blk_cell BK142.out 2).trans rfl, (blk_cell BK142.out 3).trans rfl⟩ (fun hHeld => ?_)
  clear hK K
  refine norm_ (a' := ?_) ?_ ?_
  rotate_left
  · show Act.put _ (some 13) _ = _
    simp only [Act.put, List.setIfInBounds_toArray, List.set_cons_zero, List.set_cons_succ, i64_w, i32_w]
    rfl
  refine one_ (i := 10) (N := some 15) #[true, true, true, true, true, true, true, true, true, true, true, false, false, false, false] rfl rfl (one_of HT_.out (by kernel_rfl)) (by decide) (fun K hK => ?_)
  refine goes_ Try.func47 (by kernel_rfl) rfl #[.agg #[.int .i64 a1_0, .string a1_1, .slice A1_2 l1_2.length c1_2, .slice A1_3 l1_3.length c1_3]] (by rfl) rfl rfl (by (try simp only [List.map_toArray, List.map_cons, List.map_nil]); first | done | rfl | (simp only [List.length_drop, List.length_take]; rfl)) ?_
  with_reducible refine (value_Texts.calls k a1_0 a1_1 _ _ l1_2 _ _ l1_3 t163 _ ?side1 ?side2 ?side3 ?side4 A7.out).mono ?_
  (case side1 => repeat (first | exact (Kd.C_below HR1_2.out HB.out) | (with_reducible refine Kd.C_alloc ?_ _) | (with_reducible refine Kd.C_drewN ?_ _) | (with_reducible refine Kd.C_drew ?_)))
  (case side2 => exact HC1_2.out)
  (case side3 => repeat (first | exact (Kd.C_below HR1_3.out HB.out) | (with_reducible refine Kd.C_alloc ?_ _) | (with_reducible refine Kd.C_drewN ?_ _) | (with_reducible refine Kd.C_drew ?_)))
  (case side4 => exact HC1_3.out)
  rintro e w16 ⟨v164, rfl, ho0, hb⟩
  refine ⟨_, rfl, ?_⟩
  have n0_ := Aside0.mk (Kd.R_elder' (by (with_reducible repeat (first | apply Kd.R_alloc | apply Kd.R_drewN | apply Kd.R_drew)); exact HO147.out) (Kd.R_base ho0) hb)
  have n1_ := Aside0.mk (Kd.R_below (by (with_reducible repeat (first | apply Kd.R_alloc | apply Kd.R_drewN | apply Kd.R_drew)); exact HO150.out) hb)
  have n2_ := Aside0.mk (Kd.R_elder' (by (with_reducible repeat (first | apply Kd.R_alloc | apply Kd.R_drewN | apply Kd.R_drew)); exact HO155.out) (Kd.R_base ho0) hb)
  have n3_ := Aside0.mk (Kd.R_below (by (with_reducible repeat (first | apply Kd.R_alloc | apply Kd.R_drewN | apply Kd.R_drew)); exact HO158.out) hb)
  have n4_ := Aside0.mk (Kd.R_elder' (by (with_reducible repeat (first | apply Kd.R_alloc | apply Kd.R_drewN | apply Kd.R_drew)); exact HO162.out) (Kd.R_base ho0) hb)
  have n5_ := Aside0.mk (Kd.R_lower (Kd.R_new' (Kd.R_new' (Kd.R_new' ho0 (Kd.R_lt (by (with_reducible repeat (first | apply Kd.R_alloc | apply Kd.R_drewN | apply Kd.R_drew)); exact HO147.out))) (Kd.R_lt (by (with_reducible repeat (first | apply Kd.R_alloc | apply Kd.R_drewN | apply Kd.R_drew)); exact HO155.out))) (Kd.R_lt (by (with_reducible repeat (first | apply Kd.R_alloc | apply Kd.R_drewN | apply Kd.R_drew)); exact HO162.out))) (below_size (by repeat (first | (with_reducible first | exact HB.out | apply below_alloc | apply pw_below_drewN | apply below_drew1 | refine below_set ?_ GE141.out | refine below_set ?_ GE142.out) | exact HB.out))))
  have n6_ := Aside0.mk (blk_below (g := gb141) (o := .cells #[.int .i64 a0_0, .string a0_1, .slice A0_2 l0_2.length c0_2, .slice A0_3 l0_3.length c0_3] 28 (0, 0)) (by (with_reducible repeat (first | refine blk_drewN ?_ _ | refine blk_drew ?_ | refine blk_alloc ?_ _)); exact BK141.out) hb)
  have n7_ := Aside0.mk (blk_below (g := gb142) (o := .cells #[.int .i64 a1_0, .string a1_1, .slice A1_2 l1_2.length c1_2, .slice A1_3 l1_3.length c1_3] 28 (0, 0)) (by (with_reducible repeat (first | refine blk_drewN ?_ _ | refine blk_drew ?_ | refine blk_alloc ?_ _)); exact BK142.out) hb)
  have n8_ := Aside0.mk (below_step (by repeat (first | (with_reducible first | exact HB.out | apply below_alloc | apply pw_below_drewN | apply below_drew1 | refine below_set ?_ GE141.out | refine below_set ?_ GE142.out) | exact HB.out)) hb)
  clear HO147
  clear HO150
  clear HO155
  clear HO158
  clear HO162
  clear BK141
  clear BK142
  clear HB
  have HO147 := n0_
  have HO150 := n1_
  have HO155 := n2_
  have HO158 := n3_
  have HO162 := n4_
  have HO165 := n5_
  have BK141 := n6_
  have BK142 := n7_
  have HB := n8_
  clear n0_ n1_ n2_ n3_ n4_ n5_ n6_ n7_ n8_
  (try clear hb)
  (try clear hb2)
  (try clear hk)
  (try clear hi)
  (try clear ho0)
  obtain ⟨Ao17, co17, eo17⟩ := Kd.R_slice HO162.out
  (first | subst eo17 | (injection eo17 with f1_ f2_ f3_; have f4_ := f1_.symm; have f5_ := f3_.symm; clear f1_ f2_ f3_; subst f4_; subst f5_))
  obtain ⟨Ao18, co18, eo18⟩ := Kd.R_slice HO165.out
  (first | subst eo18 | (injection eo18 with f1_ f2_ f3_; have f4_ := f1_.symm; have f5_ := f3_.symm; clear f1_ f2_ f3_; subst f4_; subst f5_))
  refine hK.out _ _ ⟨(blk_cell BK141.out 0).trans rfl, (blk_cell BK141.out 1).trans rfl, (blk_cell BK141.out 2).trans rfl, (blk_cell BK141.out 3).trans rfl, (blk_cell BK142.out 0).trans rfl, (blk_cell BK142.out 1).trans rfl, (blk_cell BK142.out 2).trans rfl, (blk_cell BK142.out 3).trans rfl⟩ (fun hHeld => ?_)
  clear hK K
  refine norm_ (a' := ?_) ?_ ?_
  rotate_left
  · show Act.put _ (some 15) _ = _
    simp only [Act.put, List.setIfInBounds_toArray, List.set_cons_zero, List.set_cons_succ, i64_w, i32_w]
    rfl
  refine one_ (i := 11) (N := some 16) #[true, true, true, true, true, true, true, true, true, true, true, true, false, false, false] rfl rfl (one_of HT_.out (by kernel_rfl)) (by decide) (fun K hK => ?_)
  refine goes_ Try.func54 (by kernel_rfl) rfl #[.slice Ao17 t160.length co17, .slice Ao18 t163.length co18] (by rfl) rfl rfl (by (try simp only [List.map_toArray, List.map_cons, List.map_nil]); first | done | rfl | (simp only [List.length_drop, List.length_take]; rfl)) ?_
  with_reducible refine (slices_Compare_string_string.calls k _ _ t160 _ _ t163 t166 _ ?side1 ?side2 ?side3 ?side4 A8.out).mono ?_
  (case side1 => repeat (first | exact (Kd.R_reads' HO162.out).2.2 | (with_reducible refine Kd.C_alloc ?_ _) | (with_reducible refine Kd.C_drewN ?_ _) | (with_reducible refine Kd.C_drew ?_)))
  (case side2 => exact (Kd.R_reads' HO162.out).2.1)
  (case side3 => repeat (first | exact (Kd.R_reads' HO165.out).2.2 | (with_reducible refine Kd.C_alloc ?_ _) | (with_reducible refine Kd.C_drewN ?_ _) | (with_reducible refine Kd.C_drew ?_)))
  (case side4 => exact (Kd.R_reads' HO165.out).2.1)
  rintro e w' ⟨rfl, ⟨nd, rfl⟩⟩
  refine ⟨_, rfl, ?_⟩
  refine hK.out _ _ ⟨(blk_cell BK141.out 0).trans rfl, (blk_cell BK141.out 1).trans rfl, (blk_cell BK141.out 2).trans rfl, (blk_cell BK141.out 3).trans rfl, (blk_cell BK142.out 0).trans rfl, (blk_cell BK142.out 1).trans rfl, (blk_cell BK142.out 2).trans rfl, (blk_cell BK142.out 3).trans rfl⟩ (fun hHeld => ?_)
  clear hK K
  refine norm_ (a' := ?_) ?_ ?_
  rotate_left
  · show Act.put _ (some 16) _ = _
    simp only [Act.put, List.setIfInBounds_toArray, List.set_cons_zero, List.set_cons_succ, i64_w, i32_w]
    rfl
  refine one_ (i := 12) (N := some 17) #[true, true, true, true, true, true, true, true, true, true, true, true, true, false, false] rfl rfl (one_of HT_.out (by kernel_rfl)) (by decide) (fun K hK => ?_)
  refine Kd.R_lit_step (Kd.int .i64) _ 3 ?hg (N := 17) ?hd (xs := ([t159, t166] : List Int)) (inner := [.int .i64 t159, .int .i64 t166]) (ok := fun _ => True) (okp := fun _ => True) ?hr ?hp (fun _ hk => hk) trivial (Below.refl _ _) (Nat.le_refl _) (by simp) ?_; (case hd => rfl); (case hg => rfl); (case hr => first | (go_simp; done) | (go_simp; rfl)); (case hp => exact (Reps.one (show Kd.M (Kd.int .i64) _ _ _ t159 [.int .i64 t159] from rfl) (Reps.one (show Kd.M (Kd.int .i64) _ _ _ t166 [.int .i64 t166] from rfl) (Reps.none _ _))))
  intro v168 w19 ho20 hb hg_ hnew_
  clear hg_ hnew_
  (first | rw [← Ny167.out] at ho20 | (simp only [Int.reduceToNat] at ho20; rw [← Ny167.out] at ho20))
  have n0_ := Aside0.mk (Kd.R_below (by (with_reducible repeat (first | apply Kd.R_alloc | apply Kd.R_drewN | apply Kd.R_drew)); exact HO147.out) hb)
  have n1_ := Aside0.mk (Kd.R_below (by (with_reducible repeat (first | apply Kd.R_alloc | apply Kd.R_drewN | apply Kd.R_drew)); exact HO150.out) hb)
  have n2_ := Aside0.mk (Kd.R_below (by (with_reducible repeat (first | apply Kd.R_alloc | apply Kd.R_drewN | apply Kd.R_drew)); exact HO155.out) hb)
  have n3_ := Aside0.mk (Kd.R_below (by (with_reducible repeat (first | apply Kd.R_alloc | apply Kd.R_drewN | apply Kd.R_drew)); exact HO158.out) hb)
  have n4_ := Aside0.mk (Kd.R_below (by (with_reducible repeat (first | apply Kd.R_alloc | apply Kd.R_drewN | apply Kd.R_drew)); exact HO162.out) hb)
  have n5_ := Aside0.mk (Kd.R_below (by (with_reducible repeat (first | apply Kd.R_alloc | apply Kd.R_drewN | apply Kd.R_drew)); exact HO165.out) hb)
  have n6_ := Aside0.mk (Kd.R_lower ho20 (below_size (by repeat (first | (with_reducible first | exact HB.out | apply below_alloc | apply pw_below_drewN | apply below_drew1 | refine below_set ?_ GE141.out | refine below_set ?_ GE142.out) | exact HB.out))))
  have n7_ := Aside0.mk (blk_below (g := gb141) (o := .cells #[.int .i64 a0_0, .string a0_1, .slice A0_2 l0_2.length c0_2, .slice A0_3 l0_3.length c0_3] 28 (0, 0)) (by (with_reducible repeat (first | refine blk_drewN ?_ _ | refine blk_drew ?_ | refine blk_alloc ?_ _)); exact BK141.out) hb)
  have n8_ := Aside0.mk (blk_below (g := gb142) (o := .cells #[.int .i64 a1_0, .string a1_1, .slice A1_2 l1_2.length c1_2, .slice A1_3 l1_3.length c1_3] 28 (0, 0)) (by (with_reducible repeat (first | refine blk_drewN ?_ _ | refine blk_drew ?_ | refine blk_alloc ?_ _)); exact BK142.out) hb)
  have n9_ := Aside0.mk (below_step (by repeat (first | (with_reducible first | exact HB.out | apply below_alloc | apply pw_below_drewN | apply below_drew1 | refine below_set ?_ GE141.out | refine below_set ?_ GE142.out) | exact HB.out)) hb)
  clear HO147
  clear HO150
  clear HO155
  clear HO158
  clear HO162
  clear HO165
  clear BK141
  clear BK142
  clear HB
  have HO147 := n0_
  have HO150 := n1_
  have HO155 := n2_
  have HO158 := n3_
  have HO162 := n4_
  have HO165 := n5_
  have HO169 := n6_
  have BK141 := n7_
  have BK142 := n8_
  have HB := n9_
  clear n0_ n1_ n2_ n3_ n4_ n5_ n6_ n7_ n8_ n9_
  clear hb ho20
  obtain ⟨Ao21, co21, eo21⟩ := Kd.R_slice HO169.out
  (first | subst eo21 | (injection eo21 with f1_ f2_ f3_; have f4_ := f1_.symm; have f5_ := f3_.symm; clear f1_ f2_ f3_; subst f4_; subst f5_))
  refine hK.out _ _ ⟨(blk_cell BK141.out 0).trans rfl, (blk_cell BK141.out 1).trans rfl, (blk_cell BK141.out 2).trans rfl, (blk_cell BK141.out 3).trans rfl, (blk_cell BK142.out 0).trans rfl, (blk_cell BK142.out 1).trans rfl, (blk_cell BK142.out 2).trans rfl, (blk_cell BK142.out 3).trans rfl⟩ (fun hHeld => ?_)
  clear hK K
  refine norm_ (a' := ?_) ?_ ?_
  rotate_left
  · show Act.put _ (some 17) _ = _
    simp only [Act.put, List.setIfInBounds_toArray, List.set_cons_zero, List.set_cons_succ, i64_w, i32_w]
    rfl
  refine one_ (i := 13) (N := some 18) #[true, true, true, true, true, true, true, true, true, true, true, true, true, true, false] rfl rfl (one_of HT_.out (by kernel_rfl)) (by decide) (fun K hK => ?_)
  refine goes_ Try.func52 (by kernel_rfl) rfl #[.slice Ao21 y167.length co21] (by rfl) rfl rfl (by (try simp only [List.map_toArray, List.map_cons, List.map_nil]); first | done | rfl | (simp only [List.length_drop, List.length_take]; rfl)) ?_
  with_reducible refine (cmp_Or_int.calls k _ _ y167 t170 _ ?side1 ?side2 A9.out).mono ?_
  (case side1 => repeat (first | exact (Kd.R_reads' HO169.out).2.2 | (with_reducible refine Kd.C_alloc ?_ _) | (with_reducible refine Kd.C_drewN ?_ _) | (with_reducible refine Kd.C_drew ?_)))
  (case side2 => exact (Kd.R_reads' HO169.out).2.1)
  rintro e w' ⟨rfl, ⟨nd, rfl⟩⟩
  refine ⟨_, rfl, ?_⟩
  refine hK.out _ _ ⟨(blk_cell BK141.out 0).trans rfl, (blk_cell BK141.out 1).trans rfl, (blk_cell BK141.out 2).trans rfl, (blk_cell BK141.out 3).trans rfl, (blk_cell BK142.out 0).trans rfl, (blk_cell BK142.out 1).trans rfl, (blk_cell BK142.out 2).trans rfl, (blk_cell BK142.out 3).trans rfl⟩ (fun hHeld => ?_)
  clear hK K
  refine norm_ (a' := ?_) ?_ ?_
  rotate_left
  · show Act.put _ (some 18) _ = _
    simp only [Act.put, List.setIfInBounds_toArray, List.set_cons_zero, List.set_cons_succ, i64_w, i32_w]
    rfl
  refine pure_ (i := 14) (N := some 4) (v := ?_) (a' := ?_) #[true, true, true, true, true, true, true, true, true, true, true, true, true, true, true] rfl rfl (any_of HT_.out (by kernel_rfl)) (fun _ _ _ h => h) (Or.inl ⟨by rfl, ?_⟩) ?_ ?_
  rotate_left
  · intro w'
    go_simp
    with_reducible rfl
  rotate_left
  · simp only [Act.put, List.setIfInBounds_toArray, List.set_cons_zero, List.set_cons_succ, i64_w, i32_w]
    rfl
  refine done_ (done_of HT_.out (by kernel_rfl)) ?_
  try go_wp2
  go_ret
  exact ⟨by first | rfl | (simp [errW_none, errW_some] <;> rfl) | (simp [*, errW_none, errW_some] <;> rfl), by repeat (first | (with_reducible first | exact HB.out | apply below_alloc | apply pw_below_drewN | apply below_drew1 | refine below_set ?_ GE141.out | refine below_set ?_ GE142.out) | exact HB.out)⟩
def value_Same.f (k : Nat) (a0_0 : Int) (a0_1 : ByteArray) (l0_2 : List ByteArray) (l0_3 : List (S50)) (a1_0 : Int) (a1_1 : ByteArray) (l1_2 : List ByteArray) (l1_3 : List (S50)) : Option (Bool) := (value_Compare.f k a0_0 a0_1 l0_2 l0_3 a1_0 a1_1 l1_2 l1_3).bind fun t173 => (some (t173 == 0))
set_option maxHeartbeats 8000000 in
set_option maxRecDepth 100000 in
theorem value_Same.calls (k : Nat) (a0_0 : Int) (a0_1 : ByteArray) (A0_2 : Option Addr) (c0_2 : Nat) (l0_2 : List ByteArray) (A0_3 : Option Addr) (c0_3 : Nat) (l0_3 : List (S50)) (a1_0 : Int) (a1_1 : ByteArray) (A1_2 : Option Addr) (c1_2 : Nat) (l1_2 : List ByteArray) (A1_3 : Option Addr) (c1_3 : Nat) (l1_3 : List (S50)) (r : Bool) (w : World) (hr0_2 : Kd.C Kd.string w A0_2 l0_2.length l0_2) (hc0_2 : l0_2.length ≤ c0_2) (hr0_3 : Kd.C k50 w A0_3 l0_3.length l0_3) (hc0_3 : l0_3.length ≤ c0_3) (hr1_2 : Kd.C Kd.string w A1_2 l1_2.length l1_2) (hc1_2 : l1_2.length ≤ c1_2) (hr1_3 : Kd.C k50 w A1_3 l1_3.length l1_3) (hc1_3 : l1_3.length ≤ c1_3) (h : value_Same.f k a0_0 a0_1 l0_2 l0_3 a1_0 a1_1 l1_2 l1_3 = some r) :
    Calls Try.prog 32 #[.agg #[.int .i64 a0_0, .string a0_1, .slice A0_2 l0_2.length c0_2, .slice A0_3 l0_3.length c0_3], .agg #[.int .i64 a1_0, .string a1_1, .slice A1_2 l1_2.length c1_2, .slice A1_3 l1_3.length c1_3]] w fun e w' => e = .returned (.bool r) ∧ Below w.heap.size w w' := by
  have hu28 := Try.underlying28
  have HR0_2 := Aside0.mk hr0_2
  have HC0_2 := Aside0.mk hc0_2
  clear hr0_2 hc0_2
  have HR0_3 := Aside0.mk hr0_3
  have HC0_3 := Aside0.mk hc0_3
  clear hr0_3 hc0_3
  have HR1_2 := Aside0.mk hr1_2
  have HC1_2 := Aside0.mk hc1_2
  clear hr1_2 hc1_2
  have HR1_3 := Aside0.mk hr1_3
  have HC1_3 := Aside0.mk hc1_3
  clear hr1_3 hc1_3
  have HB := Aside0.mk (Below.refl w.heap.size w)
  have H : ((value_Compare.f k a0_0 a0_1 l0_2 l0_3 a1_0 a1_1 l1_2 l1_3).bind fun t173 => (some (t173 == 0))) = some r := h
  clear h
  replace H := Option.bind_eq_some_iff.mp H
  obtain ⟨t173, A30, H⟩ := H
  replace H : (some (t173 == 0)) = some r := H
  have A3 := Aside0.mk A30
  clear A30
  obtain rfl := Option.some.inj H
  go_enter Try.func32, Try.ntmps32
  go_wp2_with (first | ((with_reducible refine gate_dst (N := 2) rfl ?_); refine box_event ?hg (N := 2) ?hd (cs := #[.int .i64 a0_0, .string a0_1, .slice A0_2 l0_2.length c0_2, .slice A0_3 l0_3.length c0_3]) (t := 28) ?hr ?_; (case hd => rfl); (case hg => rfl); (case hr => first | (go_simp; done) | (go_simp; rfl)); intro gb171 hg w4 hbox hb; have n0_ := Aside0.mk (below_step (by repeat (first | (with_reducible first | exact HB.out | apply below_alloc | apply pw_below_drewN | apply below_drew1) | exact HB.out)) hb); have n1_ := Aside0.mk (hbox); have n2_ := Aside0.mk ((by rw [hg]; exact (below_size (by repeat (first | (with_reducible first | exact HB.out | apply below_alloc | apply pw_below_drewN | apply below_drew1) | exact HB.out))) : w.heap.size ≤ gb171)); have n3_ := Aside0.mk ((by rw [hg]; exact (below_size (by repeat (first | (with_reducible first | exact HB.out | apply below_alloc | apply pw_below_drewN | apply below_drew1) | exact HB.out))) : w.heap.size ≤ gb171)); clear HB; have HB := n0_; have BK171 := n1_; have GW171 := n2_; have GE171 := n3_; clear n0_ n1_ n2_ n3_; clear hb hbox hg) | ((with_reducible refine gate_dst (N := 3) rfl ?_); refine box_event ?hg (N := 3) ?hd (cs := #[.int .i64 a1_0, .string a1_1, .slice A1_2 l1_2.length c1_2, .slice A1_3 l1_3.length c1_3]) (t := 28) ?hr ?_; (case hd => rfl); (case hg => rfl); (case hr => first | (go_simp; done) | (go_simp; rfl)); intro gb172 hg w5 hbox hb; have n0_ := Aside0.mk (blk_below (g := gb171) (o := .cells #[.int .i64 a0_0, .string a0_1, .slice A0_2 l0_2.length c0_2, .slice A0_3 l0_3.length c0_3] 28 (0, 0)) (by (with_reducible repeat (first | refine blk_drewN ?_ _ | refine blk_drew ?_ | refine blk_alloc ?_ _)); exact BK171.out) hb); have n1_ := Aside0.mk (below_step (by repeat (first | (with_reducible first | exact HB.out | apply below_alloc | apply pw_below_drewN | apply below_drew1 | refine below_set ?_ GE171.out) | exact HB.out)) hb); have n2_ := Aside0.mk (hbox); have n3_ := Aside0.mk ((by rw [hg]; exact (below_size (by repeat (first | (with_reducible first | exact HB.out | apply below_alloc | apply pw_below_drewN | apply below_drew1 | refine below_set ?_ GE171.out) | exact HB.out))) : w.heap.size ≤ gb172)); have n4_ := Aside0.mk ((by rw [hg]; exact (below_size (by repeat (first | (with_reducible first | exact HB.out | apply below_alloc | apply pw_below_drewN | apply below_drew1 | refine below_set ?_ GE171.out) | exact HB.out))) : w.heap.size ≤ gb172)); have n5_ := Aside0.mk ((by rw [hg]; exact Nat.ne_of_lt (blk_lt (g := gb171) (o := .cells #[.int .i64 a0_0, .string a0_1, .slice A0_2 l0_2.length c0_2, .slice A0_3 l0_3.length c0_3] 28 (0, 0)) (by (with_reducible repeat (first | refine blk_drewN ?_ _ | refine blk_drew ?_ | refine blk_alloc ?_ _)); exact BK171.out)) : gb171 ≠ gb172)); have n6_ := Aside0.mk ((by rw [hg]; exact Nat.ne_of_gt (blk_lt (g := gb171) (o := .cells #[.int .i64 a0_0, .string a0_1, .slice A0_2 l0_2.length c0_2, .slice A0_3 l0_3.length c0_3] 28 (0, 0)) (by (with_reducible repeat (first | refine blk_drewN ?_ _ | refine blk_drew ?_ | refine blk_alloc ?_ _)); exact BK171.out)) : gb172 ≠ gb171)); clear BK171; clear HB; have BK171 := n0_; have HB := n1_; have BK172 := n2_; have GW172 := n3_; have GE172 := n4_; have NB171_172 := n5_; have NB172_171 := n6_; clear n0_ n1_ n2_ n3_ n4_ n5_ n6_; clear hb hbox hg; have hnb6 := NB171_172.out; have hnc6 := NB172_171.out; have hcz7_0 : w5.cell? ⟨gb171, 0, none⟩ = some (.int .i64 a0_0) := (blk_cell BK171.out 0).trans rfl; have hcz7_1 : w5.cell? ⟨gb171, 1, none⟩ = some (.string a0_1) := (blk_cell BK171.out 1).trans rfl; have hcz7_2 : w5.cell? ⟨gb171, 2, none⟩ = some (.slice A0_2 l0_2.length c0_2) := (blk_cell BK171.out 2).trans rfl; have hcz7_3 : w5.cell? ⟨gb171, 3, none⟩ = some (.slice A0_3 l0_3.length c0_3) := (blk_cell BK171.out 3).trans rfl; have hfz7_0 := blk_frozen BK171.out 0; have hfz7_1 := blk_frozen BK171.out 1; have hfz7_2 := blk_frozen BK171.out 2; have hfz7_3 := blk_frozen BK171.out 3; have hcz8_0 : w5.cell? ⟨gb172, 0, none⟩ = some (.int .i64 a1_0) := (blk_cell BK172.out 0).trans rfl; have hcz8_1 : w5.cell? ⟨gb172, 1, none⟩ = some (.string a1_1) := (blk_cell BK172.out 1).trans rfl; have hcz8_2 : w5.cell? ⟨gb172, 2, none⟩ = some (.slice A1_2 l1_2.length c1_2) := (blk_cell BK172.out 2).trans rfl; have hcz8_3 : w5.cell? ⟨gb172, 3, none⟩ = some (.slice A1_3 l1_3.length c1_3) := (blk_cell BK172.out 3).trans rfl; have hfz8_0 := blk_frozen BK172.out 0; have hfz8_1 := blk_frozen BK172.out 1; have hfz8_2 := blk_frozen BK172.out 2; have hfz8_3 := blk_frozen BK172.out 3) | ((with_reducible refine gate_callee (f := 43) rfl ?_); refine goesL_ (some 7) rfl rfl Try.func43 (by kernel_rfl) rfl #[.agg #[.int .i64 a0_0, .string a0_1, .slice A0_2 l0_2.length c0_2, .slice A0_3 l0_3.length c0_3], .agg #[.int .i64 a1_0, .string a1_1, .slice A1_2 l1_2.length c1_2, .slice A1_3 l1_3.length c1_3]] rfl (by (try simp only [List.map_toArray, List.map_cons, List.map_nil]); first | done | rfl | (simp only [List.length_drop, List.length_take]; rfl)) ?_; (with_reducible refine (value_Compare.calls k a0_0 a0_1 _ _ l0_2 _ _ l0_3 a1_0 a1_1 _ _ l1_2 _ _ l1_3 t173 _ ?side1 ?side2 ?side3 ?side4 ?side5 ?side6 ?side7 ?side8 A3.out).mono ?_); (case side1 => repeat (first | exact (Kd.C_below HR0_2.out HB.out) | (with_reducible refine Kd.C_alloc ?_ _) | (with_reducible refine Kd.C_drewN ?_ _) | (with_reducible refine Kd.C_drew ?_))); (case side2 => exact HC0_2.out); (case side3 => repeat (first | exact (Kd.C_below HR0_3.out HB.out) | (with_reducible refine Kd.C_alloc ?_ _) | (with_reducible refine Kd.C_drewN ?_ _) | (with_reducible refine Kd.C_drew ?_))); (case side4 => exact HC0_3.out); (case side5 => repeat (first | exact (Kd.C_below HR1_2.out HB.out) | (with_reducible refine Kd.C_alloc ?_ _) | (with_reducible refine Kd.C_drewN ?_ _) | (with_reducible refine Kd.C_drew ?_))); (case side6 => exact HC1_2.out); (case side7 => repeat (first | exact (Kd.C_below HR1_3.out HB.out) | (with_reducible refine Kd.C_alloc ?_ _) | (with_reducible refine Kd.C_drewN ?_ _) | (with_reducible refine Kd.C_drew ?_))); (case side8 => exact HC1_3.out); rintro e w9 ⟨rfl, hb⟩; refine ⟨_, rfl, ?_⟩; have n0_ := Aside0.mk (blk_below (g := gb171) (o := .cells #[.int .i64 a0_0, .string a0_1, .slice A0_2 l0_2.length c0_2, .slice A0_3 l0_3.length c0_3] 28 (0, 0)) (by (with_reducible repeat (first | refine blk_drewN ?_ _ | refine blk_drew ?_ | refine blk_alloc ?_ _)); exact BK171.out) hb); have n1_ := Aside0.mk (blk_below (g := gb172) (o := .cells #[.int .i64 a1_0, .string a1_1, .slice A1_2 l1_2.length c1_2, .slice A1_3 l1_3.length c1_3] 28 (0, 0)) (by (with_reducible repeat (first | refine blk_drewN ?_ _ | refine blk_drew ?_ | refine blk_alloc ?_ _)); exact BK172.out) hb); have n2_ := Aside0.mk (below_step (by repeat (first | (with_reducible first | exact HB.out | apply below_alloc | apply pw_below_drewN | apply below_drew1 | refine below_set ?_ GE171.out | refine below_set ?_ GE172.out) | exact HB.out)) hb); clear BK171; clear BK172; clear HB; have BK171 := n0_; have BK172 := n1_; have HB := n2_; clear n0_ n1_ n2_; (try clear hb); (try clear hb2); (try clear hk); (try clear hi)))
  go_ret
  exact ⟨by first | rfl | (simp [errW_none, errW_some] <;> rfl) | (simp [*, errW_none, errW_some] <;> rfl), by repeat (first | (with_reducible first | exact HB.out | apply below_alloc | apply pw_below_drewN | apply below_drew1 | refine below_set ?_ GE171.out | refine below_set ?_ GE172.out) | exact HB.out)⟩
end Go.Proofs.Ytfaiplbogchgjaa.PA
end
section
namespace Go.Proofs.Ytfaiplbogchgjaa.PA
open Go.RowKit Go.Proofs.YtfaiplbogchgjaaW.PrintWords Go.Proofs.YtfaiplbogchgjaaW.PrintLast Go.Proofs.YtfaiplbogchgjaaW.PrintMore
attribute [local go_sem] max2_int min2_int max_two min_two max_three min_three max_four min_four   -- for this text's walks alone
set_option linter.unusedVariables false
set_option linter.unusedSimpArgs false
theorem gAt_get (l : List ByteArray) (i : Nat) (h : i < l.length) : X.gAt l i = l[i] := by
  unfold X.gAt
  rw [List.getD_eq_getElem?_getD, List.getElem?_eq_getElem h]; rfl
theorem flat_at (p : List S50) : ∀ i (h : i < p.length), X.gAt (p.flatMap fun x => [x.f0, x.f1]) (2 * i) = p[i].f0 ∧ X.gAt (p.flatMap fun x => [x.f0, x.f1]) (2 * i + 1) = p[i].f1 := by
  induction p with
  | nil => intro i h; cases h
  | cons x p ih =>
    intro i h
    rw [List.flatMap_cons]
    cases i with
    | zero => exact ⟨rfl, rfl⟩
    | succ i =>
      have h' : i < p.length := by simpa using h
      obtain ⟨h1, h2⟩ := ih i h'
      unfold X.gAt at h1 h2 ⊢
      rw [List.getElem_cons_succ]
      exact ⟨h1, h2⟩
theorem pairs_flat (p : List S50) : pairsOf (p.flatMap fun x => [x.f0, x.f1]) = p := by
  apply List.ext_getElem
  · unfold pairsOf
    rw [List.length_map, List.length_range, flat_len]
    omega
  · intro i h1 h2
    obtain ⟨e1, e2⟩ := flat_at p i h2
    simp only [pairsOf, List.getElem_map, List.getElem_range]
    rw [e1, e2]
theorem canonS_eq (v : S28) : canonS v = if v.f0 = 1 then ⟨1, v.f1, [], []⟩ else if v.f0 = 2 ∧ 0 < v.f2.length then ⟨2, ⟨#[]⟩, v.f2, []⟩ else if v.f0 = 3 ∧ 0 < v.f3.length then ⟨3, ⟨#[]⟩, [], v.f3⟩ else ⟨0, ⟨#[]⟩, [], []⟩ := by
  unfold canonS textsOf ofV
  by_cases h1 : v.f0 = 1
  · simp [h1, X.gAt]
  · by_cases h2 : v.f0 = 2
    · by_cases h : 0 < v.f2.length
      · simp [h2, h]
      · have : v.f2 = [] := List.eq_nil_of_length_eq_zero (by omega)
        simp [h2, this]
    · by_cases h3 : v.f0 = 3
      · by_cases h : 0 < v.f3.length
        · rw [if_neg h1, if_neg h2, if_pos h3]
          have e : (v.f3.flatMap fun x => [x.f0, x.f1]).length % 2 = 0 ∧ 0 < (v.f3.flatMap fun x => [x.f0, x.f1]).length := by rw [flat_len]; omega
          simp only [h3, h, e.1, e.2, pairs_flat]
          simp
        · have : v.f3 = [] := List.eq_nil_of_length_eq_zero (by omega)
          simp [h3, this]
      · simp [h1, h2, h3]
theorem texts_canon (v : S28) : textsOf (canonS v) = textsOf v := by
  rw [canonS_eq]
  unfold textsOf
  by_cases h1 : v.f0 = 1
  · simp [h1]
  · by_cases h2 : v.f0 = 2
    · by_cases h : 0 < v.f2.length
      · simp [h2, h]
      · have : v.f2 = [] := List.eq_nil_of_length_eq_zero (by omega)
        simp [h2, this]
    · by_cases h3 : v.f0 = 3
      · by_cases h : 0 < v.f3.length
        · simp [h3, h]
        · have : v.f3 = [] := List.eq_nil_of_length_eq_zero (by omega)
          simp [h3, this]
      · simp [h1, h2, h3]
theorem canon_canon (v : S28) : canonS (canonS v) = canonS v := by
  rw [canonS_eq v]
  split
  · simp [canonS_eq]
  · split
    · rename_i h; simp [canonS_eq, h.2]
    · split
      · rename_i h; simp [canonS_eq, h.2]
      · simp [canonS_eq]
theorem zero_canon : canonS z28 = z28 := by rw [canonS_eq]; rfl
theorem modest_canon {v : S28} (hm : modest v) : modest (canonS v) := by
  obtain ⟨h1, h2, h3, h4, h5⟩ := hm
  rw [canonS_eq]
  split
  · exact ⟨h1, by simp, by simp, by simp, by simp⟩
  · split
    · exact ⟨Nat.zero_le _, h2, by simp, h4, by simp⟩
    · split
      · exact ⟨Nat.zero_le _, by simp, h3, by simp, h5⟩
      · exact ⟨Nat.zero_le _, by simp, by simp, by simp, by simp⟩
theorem canon_told {a b : S28} (ha : canonS a = a) (hb : canonS b = b) (hk : a.f0 = b.f0) (ht : textsOf a = textsOf b) : a = b := by
  rw [← ha, ← hb]
  unfold canonS
  rw [hk, ht]
theorem cmpS_zero (a b : ByteArray) : cmpS a b = 0 ↔ a = b := by
  unfold cmpS
  constructor
  · intro h
    split at h
    · omega
    · split at h
      · rename_i he
        have := beq_iff_eq.1 he
        rw [ByteArray.toList_eq, ByteArray.toList_eq] at this
        exact ByteArray.ext (Array.ext' this)
      · omega
  · rintro rfl
    rw [if_neg, if_pos (by simp)]
    have : ∀ l : List UInt8, Op.bytesLess l l = false := fun l => by
      induction l with
      | nil => rfl
      | cons x l ih => simp [Op.bytesLess, ih]
    rw [this]; decide
theorem cmpI_zero (a b : Int) : ∃ r, cmp_Compare_int.f a b = some r ∧ (r = 0 ↔ a = b) := by
  unfold cmp_Compare_int.f cmp_isNaN_int.f
  simp only [bne_self_eq_false, Option.bind_some]
  by_cases h1 : a < b
  · exact ⟨-1, by simp [h1], by omega⟩
  · by_cases h2 : a > b
    · exact ⟨1, by simp [h1, h2], by omega⟩
    · exact ⟨0, by simp [h1, h2], by omega⟩
theorem rdOf_get (l : List ByteArray) (i : Nat) (h : i < l.length) : rdOf ByteArray.empty l (i : Int) = l[i] := by
  unfold rdOf
  rw [Int.toNat_natCast, List.getD_eq_getElem?_getD, List.getElem?_eq_getElem h]; rfl
theorem compare_zero (a b : List ByteArray) (ha : a.length ≤ 1000000) (hb : b.length ≤ 1000000) (d : Nat) : ∀ (k i : Nat), i + d = a.length → d < k → a.take i = b.take i → i ≤ b.length →
    ∃ r, slices_Compare_string_string.l0 k a b a (a.length : Int) (i : Int) = some r ∧ (r = 0 ↔ a = b) := by
  induction d with
  | zero =>
    intro k i hi hk ht hib
    obtain ⟨k, rfl⟩ : ∃ m, k = m + 1 := ⟨k - 1, by omega⟩
    simp only [slices_Compare_string_string.l0]
    rw [if_neg (by omega)]
    by_cases hlt : (a.length : Int) < (b.length : Int)
    · rw [if_pos hlt]
      exact ⟨-1, rfl, by simp; rintro rfl; omega⟩
    · rw [if_neg hlt]
      refine ⟨0, rfl, by simp; rw [List.take_of_length_le (by omega), List.take_of_length_le (by omega)] at ht; exact ht⟩
  | succ d ih =>
    intro k i hi hk ht hib
    obtain ⟨k, rfl⟩ : ∃ m, k = m + 1 := ⟨k - 1, by omega⟩
    simp only [slices_Compare_string_string.l0]
    rw [if_pos (by omega), if_pos (by omega), if_pos (by omega)]
    by_cases hge : (i : Int) ≥ (b.length : Int)
    · rw [if_pos hge]
      exact ⟨1, rfl, by simp; rintro rfl; omega⟩
    · rw [if_neg hge, if_pos (by omega), rdOf_get a i (by omega), rdOf_get b i (by omega)]
      unfold cmp_Compare_string.f
      simp only [Option.bind_some]
      by_cases h0 : cmpS a[i] b[i] = 0
      · rw [if_pos h0, show wrap64 ((i : Int) + 1) = ((i + 1 : Nat) : Int) from by unfold wrap64; omega]
        refine ih k (i + 1) (by omega) (by omega) ?_ (by omega)
        rw [List.take_succ_eq_append_getElem (by omega), List.take_succ_eq_append_getElem (by omega), ht, (cmpS_zero _ _).1 h0]
      · rw [if_neg h0]
        refine ⟨_, rfl, ⟨fun h => absurd h h0, fun h => absurd ((cmpS_zero a[i] b[i]).2 (by subst h; rfl)) h0⟩⟩
theorem or_two (k : Nat) (x y : Int) : cmp_Or_int.f (k + 3) [x, y] = some (if x = 0 then y else x) := by
  unfold cmp_Or_int.f
  have w0 : wrap64 (0 + 1) = 1 := by unfold wrap64; omega
  have w1 : wrap64 (1 + 1) = 2 := by unfold wrap64; omega
  have r0 : rd [x, y] 0 = x := rfl
  have r1 : rd [x, y] 1 = y := rfl
  simp only [cmp_Or_int.l0, List.length_cons, List.length_nil, w0, w1, r0, r1]
  by_cases hx : x = 0
  · by_cases hy : y = 0
    · subst hx hy; simp
    · subst hx; simp [hy]
  · simp [hx]
theorem same_f (k : Nat) (a b : S28) (hk : 200000 < k) (ma : modest a) (mb : modest b) (ha : canonS a = a) (hb : canonS b = b) :
    value_Same.f k a.f0 a.f1 a.f2 a.f3 b.f0 b.f1 b.f2 b.f3 = some (decide (a = b)) := by
  obtain ⟨k, rfl⟩ : ∃ m, k = m + 3 := ⟨k - 3, by omega⟩
  unfold value_Same.f value_Compare.f
  rw [canon_f _ a ma (by omega), canon_f _ b mb (by omega), texts_f _ a ma (by omega), texts_f _ b mb (by omega)]
  simp only [Option.bind_some]
  rw [ha, hb]
  obtain ⟨r1, e1, h1⟩ := cmpI_zero a.f0 b.f0
  have ta : (textsOf a).length ≤ 200000 := by
    obtain ⟨_, hl, hp, _, _⟩ := ma
    unfold textsOf
    split
    · simp
    · split
      · omega
      · split
        · rw [flat_len]; omega
        · simp
  obtain ⟨r2, e2, h2⟩ := compare_zero (textsOf a) (textsOf b) (by omega) (texts_small mb) (textsOf a).length (k + 3) 0 (by simp) (by omega) (by simp) (by omega)
  rw [e1]
  unfold slices_Compare_string_string.f
  rw [show ((0 : Nat) : Int) = 0 from rfl] at e2
  simp only [Option.bind_some]
  rw [e2]
  simp only [Option.bind_some]
  rw [or_two]
  simp only [Option.bind_some]
  congr 1
  rw [Bool.eq_iff_iff, beq_iff_eq, decide_eq_true_iff]
  constructor
  · intro h
    split at h
    · rename_i h0
      exact canon_told ha hb (h1.1 h0) (h2.1 h)
    · rename_i h0
      exact absurd h h0
  · rintro rfl
    rw [if_pos (h1.2 rfl)]
    exact h2.2 rfl
theorem sub_len : ∀ (l m : List (List UInt8)), l.Nodup → (∀ x ∈ l, x ∈ m) → l.length ≤ m.length
  | [], m, _, _ => Nat.zero_le _
  | x :: l, m, hn, hs => by
    have hx := hs x List.mem_cons_self
    have hn' := List.nodup_cons.1 hn
    have h := sub_len l (m.erase x) hn'.2 (fun y hy => (List.mem_erase_of_ne (by rintro rfl; exact hn'.1 hy)).2 (hs y (List.mem_cons_of_mem _ hy)))
    rw [List.length_erase_of_mem hx] at h
    have := List.length_pos_of_mem hx
    rw [List.length_cons]; omega
theorem sub_all (l m : List (List UInt8)) (hl : l.Nodup) (hm : m.Nodup) (hs : ∀ x ∈ l, x ∈ m) (hc : m.length ≤ l.length) : ∀ x ∈ m, x ∈ l := fun x hx => by
  refine Classical.byContradiction fun hn => ?_
  have h := sub_len (x :: l) m (List.nodup_cons.2 ⟨hn, hl⟩) (fun y hy => by
    rcases List.mem_cons.1 hy with rfl | hy
    · exact hx
    · exact hs y hy)
  rw [List.length_cons] at h
  omega
theorem nodup_keysL (l : List S38) : (keysL l).Nodup := nodup_dedupL _
theorem sorted_ext {a b : List S38} (h : ∀ x, x ∈ keysL a ↔ x ∈ keysL b) : sortedL a = sortedL b :=
  mergeSort_of_perm ((List.perm_ext_iff_of_nodup (nodup_keysL a) (nodup_keysL b)).2 h)
theorem canonB_ext {a b : List S38} (h : ∀ nm, getL a nm = getL b nm) : canonB a = canonB b := by
  have hs : sortedL a = sortedL b := sorted_ext (fun x => (mem_keysL.trans (by rw [h x])).trans mem_keysL.symm)
  have hg : getL a = getL b := funext h
  rw [canonB_eq, canonB_eq, hs, hg]
theorem canonB_inj {a b : List S38} (h : canonB a = canonB b) (nm : List UInt8) : getL a nm = getL b nm := by
  have hmem : ∀ (l : List S38) (x : List UInt8) (s : S28), (⟨nmOf x, s⟩ : S38) ∈ canonB l ↔ getL l x = some s := fun l x s => by
    rw [canonB_eq, List.mem_map]
    constructor
    · rintro ⟨y, hy, he⟩
      simp only [S38.mk.injEq] at he
      have : y = x := by have := congrArg (fun z : ByteArray => z.data.toList) he.1; simpa [nmOf] using this
      subst this
      obtain ⟨s', hs'⟩ := Option.isSome_iff_exists.1 (mem_keysL.1 (List.mem_mergeSort.1 hy))
      rw [hs'] at he ⊢
      rw [← he.2]; rfl
    · intro hs
      exact ⟨x, List.mem_mergeSort.2 (mem_keysL.2 (by rw [hs]; rfl)), by rw [hs]; rfl⟩
  cases ha : getL a nm with
  | some s => exact ((hmem b nm s).1 (h ▸ (hmem a nm s).2 ha)).symm
  | none =>
    cases hb : getL b nm with
    | none => rfl
    | some s => rw [(hmem a nm s).1 (h ▸ (hmem b nm s).2 hb)] at ha; cases ha
theorem getL_canon {l : List S38} {nm : List UInt8} {s : S28} (h : getL l nm = some s) : canonS s = s ∧ (modestB l → modest s) := by
  unfold getL at h
  obtain ⟨x, hx, hs⟩ := Option.bind_eq_some_iff.1 h
  split at hs
  · obtain rfl := Option.some.inj hs
    exact ⟨canon_canon _, fun hm => modest_canon (hm.2 x (List.mem_of_find?_eq_some hx)).2⟩
  · cases hs
def OkC (W : World) (v : Value) (s : S28) : Prop := ∃ A2 c2 A3 c3, v = .agg #[.int .i64 s.f0, .string s.f1, .slice A2 s.f2.length c2, .slice A3 s.f3.length c3] ∧ s.f2.length ≤ c2 ∧ Kd.C Kd.string W A2 s.f2.length s.f2 ∧ s.f3.length ≤ c3 ∧ Kd.C k50 W A3 s.f3.length s.f3
theorem OkV.toC {W : World} {base : Nat} {v : Value} {s : S28} (h : OkV W base v s) : OkC W v s := by
  obtain ⟨v2, v3, rfl, h2, h3⟩ := h
  obtain ⟨A2, c2, rfl, l2, g2⟩ := Kd.R_reads h2
  obtain ⟨A3, c3, rfl, l3, g3⟩ := Kd.R_reads h3
  exact ⟨A2, c2, A3, c3, rfl, l2, g2, l3, g3⟩
theorem OkC.below {W W' : World} {v : Value} {s : S28} (h : OkC W v s) (hb : Below W.heap.size W W') : OkC W' v s := by
  obtain ⟨A2, c2, A3, c3, rfl, l2, g2, l3, g3⟩ := h
  exact ⟨A2, c2, A3, c3, rfl, l2, Kd.C_below g2 hb, l3, Kd.C_below g3 hb⟩
theorem C_det {W : World} {A : Option Addr} {n : Nat} {l l' : List ByteArray} (h : Kd.C Kd.string W A n l) (h' : Kd.C Kd.string W A n l') (e : l.length = n) (e' : l'.length = n) : l = l' := by
  apply List.ext_getElem (by omega)
  intro i h1 h2
  obtain ⟨ad, rfl, _⟩ := h.2.2 (by omega)
  have a := X.cell_str h i (by omega)
  rw [X.cell_str h' i (by omega)] at a
  rw [gAt_get l' i h2, gAt_get l i h1] at a
  injection a with a
  injection a with a
  exact a.symm
theorem C_detP {W : World} {A : Option Addr} {n : Nat} {l l' : List S50} (h : Kd.C k50 W A n l) (h' : Kd.C k50 W A n l') (e : l.length = n) (e' : l'.length = n) : l = l' := by
  apply List.ext_getElem (by omega)
  intro i h1 h2
  obtain ⟨ad, e1, a0, a1⟩ := at_T50 h (i : Int) (by omega) (by omega)
  obtain ⟨ad', e2, b0, b1⟩ := at_T50 h' (i : Int) (by omega) (by omega)
  obtain rfl : ad = ad' := by rw [e1] at e2; injection e2
  rw [a0, rd_at l i h1, rd_at l' i h2] at b0
  rw [a1, rd_at l i h1, rd_at l' i h2] at b1
  injection b0 with b0
  injection b0 with b0
  injection b1 with b1
  injection b1 with b1
  rcases hx : l[i] with ⟨x0, x1⟩
  rcases hy : l'[i] with ⟨y0, y1⟩
  rw [hx, hy] at b0 b1
  dsimp only at b0 b1
  rw [b0, b1]
theorem OkC.det {W : World} {v : Value} {s s' : S28} (h : OkC W v s) (h' : OkC W v s') : s = s' := by
  obtain ⟨A2, c2, A3, c3, rfl, l2, g2, l3, g3⟩ := h
  obtain ⟨B2, d2, B3, d3, e, m2, q2, m3, q3⟩ := h'
  simp only [Value.agg.injEq, Array.mk.injEq, List.cons.injEq, Value.int.injEq, Value.string.injEq, Value.slice.injEq, true_and, and_true] at e
  obtain ⟨e0, e1, ⟨rfl, en2, rfl⟩, rfl, en3, rfl⟩ := e
  rw [← en2] at q2
  rw [← en3] at q3
  have f2 := C_det g2 q2 rfl en2.symm
  have f3 := C_detP g3 q3 rfl en3.symm
  obtain ⟨a0, a1, a2, a3⟩ := s
  obtain ⟨b0, b1, b2, b3⟩ := s'
  dsimp only at e0 e1 f2 f3
  rw [e0, e1, f2, f3]
theorem zero_ok (W : World) : OkC W X.zeroV z28 := ⟨none, 0, none, 0, rfl, Nat.le_refl _, (Kd.R_reads' (Kd.R_nil Kd.string 9 W 0 (fun _ => True))).2.2, Nat.le_refl _, (Kd.R_reads' (Kd.R_nil k50 50 W 0 (fun _ => True))).2.2⟩
set_option maxHeartbeats 8000000 in
set_option maxRecDepth 100000 in
theorem same_call {W : World} {x y : Value} {a b : S28} (hx : OkC W x a) (hy : OkC W y b) (ma : modest a) (mb : modest b) (ha : canonS a = a) (hb : canonS b = b) :
    Calls Try.prog 32 #[x, y] W fun e w' => e = .returned (.bool (decide (a = b))) ∧ Below W.heap.size W w' := by
  obtain ⟨A2, c2, A3, c3, rfl, l2, g2, l3, g3⟩ := hx
  obtain ⟨B2, d2, B3, d3, rfl, m2, q2, m3, q3⟩ := hy
  exact value_Same.calls 200001 _ _ _ _ _ _ _ _ _ _ _ _ _ _ _ _ _ W g2 l2 g3 l3 q2 m2 q3 m3 (same_f 200001 a b (by decide) ma mb ha hb)
theorem keys_perm {l : List S38} (hm : modestB l) {es : List (Lit × DataW Unit)} (hpw : es.Pairwise (fun p q => p.1 ≠ q.1)) (hst : ∀ p ∈ es, ∃ s : List UInt8, p.1 = Lit.string s ∧ s.length ≤ maxLen)
    (hQ : ∀ nm : ByteArray, nm.size ≤ maxLen → Maps.has (.map es : DataW Unit) (.string nm.data.toList) = (getL l nm.data.toList).isSome) : (keysL l).Perm (strKeys (.map es)) := by
  refine perm_strKeys hpw (fun p hp => by obtain ⟨s, hs, _⟩ := hst p hp; exact ⟨s, hs⟩) (nodup_keysL l) (fun x => ?_)
  rw [mem_keysL]
  constructor
  · intro hx
    have := keys_size hm (mem_keysL.2 hx)
    exact (hQ (nmOf x) (by show x.toArray.size ≤ maxLen; rw [List.size_toArray]; unfold maxLen; omega)).trans hx
  · intro hx
    have hx' := hx
    rw [Maps.has_eq, List.any_eq_true] at hx
    obtain ⟨p, hp, hs⟩ := hx
    obtain ⟨s, h1, h2⟩ := hst p hp
    rw [h1] at hs
    obtain rfl : s = x := by simpa [Lit.sameKey] using hs
    exact (hQ (nmOf s) (by show s.toArray.size ≤ maxLen; rw [List.size_toArray]; exact h2)).symm.trans hx'
theorem strKeys_len (es : List (Lit × DataW Unit)) : (strKeys (.map es)).length = es.length := by
  show (es.map fun p => strOf p.1).length = _
  rw [List.length_map]
set_option maxHeartbeats 8000000 in
set_option maxRecDepth 100000 in
theorem eq_call {W : World} {b1 n1 base1 b2 n2 base2 : Nat} {l m : List S38} (h1 : MapOf W b1 n1 base1 l) (h2 : MapOf W b2 n2 base2 m) (ml : modestB l) (mm : modestB m) :
    Calls Try.prog 31 #[.map (some b1), .map (some b2), .func (.func 32) #[] #[]] W fun e W' => e = .returned (.bool (sameB l m)) ∧ W.grownBy W' none := by
  obtain ⟨C1, hv1, hs1⟩ := h1
  obtain ⟨C2, hv2, hs2⟩ := h2
  obtain ⟨es1, ho1, hap1, he1, hk1, hr1⟩ := hv1.entries
  obtain ⟨es2, ho2, hap2, he2, hk2, hr2⟩ := hv2.entries
  have k1 : ∀ s v, C1 s = some v → ∃ x, getL l s = some x ∧ OkC W v x := fun s v h => by
    have := hs1 s
    split at this
    · rename_i x hx
      obtain ⟨v', hv', ok⟩ := this
      rw [h] at hv'
      obtain rfl := Option.some.inj hv'
      exact ⟨x, hx, ok.toC⟩
    · rw [h] at this; cases this
  have k2 : ∀ s v, C2 s = some v → ∃ x, getL m s = some x ∧ OkC W v x := fun s v h => by
    have := hs2 s
    split at this
    · rename_i x hx
      obtain ⟨v', hv', ok⟩ := this
      rw [h] at hv'
      obtain rfl := Option.some.inj hv'
      exact ⟨x, hx, ok.toC⟩
    · rw [h] at this; cases this
  have g1 : ∀ s x, getL l s = some x → ∃ v, C1 s = some v ∧ OkC W v x := fun s x h => by
    have := hs1 s
    rw [h] at this
    obtain ⟨v, hv, ok⟩ := this
    exact ⟨v, hv, ok.toC⟩
  have g2 : ∀ s x, getL m s = some x → ∃ v, C2 s = some v ∧ OkC W v x := fun s x h => by
    have := hs2 s
    rw [h] at this
    obtain ⟨v, hv, ok⟩ := this
    exact ⟨v, hv, ok.toC⟩
  have q1 : ∀ nm : ByteArray, nm.size ≤ maxLen → Maps.has (.map es1 : DataW Unit) (.string nm.data.toList) = (getL l nm.data.toList).isSome := fun nm hn => by
    rw [(hk1 nm hn).1]
    cases hc : C1 nm.data.toList with
    | some v => obtain ⟨x, hx, _⟩ := k1 _ v hc; rw [hx]; rfl
    | none =>
      cases hg : getL l nm.data.toList with
      | none => rfl
      | some x => obtain ⟨v, hv, _⟩ := g1 _ x hg; rw [hc] at hv; cases hv
  have q2 : ∀ nm : ByteArray, nm.size ≤ maxLen → Maps.has (.map es2 : DataW Unit) (.string nm.data.toList) = (getL m nm.data.toList).isSome := fun nm hn => by
    rw [(hk2 nm hn).1]
    cases hc : C2 nm.data.toList with
    | some v => obtain ⟨x, hx, _⟩ := k2 _ v hc; rw [hx]; rfl
    | none =>
      cases hg : getL m nm.data.toList with
      | none => rfl
      | some x => obtain ⟨v, hv, _⟩ := g2 _ x hg; rw [hc] at hv; cases hv
  have st1 : ∀ p ∈ es1, ∃ s : List UInt8, p.1 = Lit.string s ∧ s.length ≤ maxLen := fun p hp => by obtain ⟨s, v, a, b, _⟩ := he1 p hp; exact ⟨s, b, a⟩
  have st2 : ∀ p ∈ es2, ∃ s : List UInt8, p.1 = Lit.string s ∧ s.length ≤ maxLen := fun p hp => by obtain ⟨s, v, a, b, _⟩ := he2 p hp; exact ⟨s, b, a⟩
  have len1 : es1.length = (keysL l).length := by rw [← strKeys_len, (keys_perm ml hap1 st1 q1).length_eq]
  have len2 : es2.length = (keysL m).length := by rw [← strKeys_len, (keys_perm mm hap2 st2 q2).length_eq]
  obtain ⟨S1, hS1⟩ : ∃ S : Value → Bool, ∀ v, S v = true ↔ (v = X.zeroV ∨ ∃ s, C1 s = some v) := ⟨fun v => @decide (v = X.zeroV ∨ ∃ s, C1 s = some v) (Classical.propDecidable _), fun v => by simp⟩
  obtain ⟨S2, hS2⟩ : ∃ S : Value → Bool, ∀ v, S v = true ↔ (v = X.zeroV ∨ ∃ s, C2 s = some v) := ⟨fun v => @decide (v = X.zeroV ∨ ∃ s, C2 s = some v) (Classical.propDecidable _), fun v => by simp⟩
  have c1 : ∀ v, S1 v = true → ∃ x, OkC W v x ∧ modest x ∧ canonS x = x := fun v h => by
    rcases (hS1 v).1 h with rfl | ⟨s, hs⟩
    · exact ⟨_, zero_ok W, ⟨Nat.zero_le _, by simp [z28], by simp [z28], by simp [z28], by simp [z28]⟩, zero_canon⟩
    · obtain ⟨x, hx, ok⟩ := k1 s v hs
      exact ⟨x, ok, (getL_canon hx).2 ml, (getL_canon hx).1⟩
  have c2 : ∀ v, S2 v = true → ∃ x, OkC W v x ∧ modest x ∧ canonS x = x := fun v h => by
    rcases (hS2 v).1 h with rfl | ⟨s, hs⟩
    · exact ⟨_, zero_ok W, ⟨Nat.zero_le _, by simp [z28], by simp [z28], by simp [z28], by simp [z28]⟩, zero_canon⟩
    · obtain ⟨x, hx, ok⟩ := k2 s v hs
      exact ⟨x, ok, (getL_canon hx).2 mm, (getL_canon hx).1⟩
  obtain ⟨eqd, heqd⟩ : ∃ eqd : DataW Unit → DataW Unit → Bool, ∀ xd yd, eqd xd yd = true ↔ ∃ x y s p q, X.valR x = some (xd, p) ∧ X.valR y = some (yd, q) ∧ OkC W x s ∧ OkC W y s :=
    ⟨fun xd yd => @decide (∃ x y s p q, X.valR x = some (xd, p) ∧ X.valR y = some (yd, q) ∧ OkC W x s ∧ OkC W y s) (Classical.propDecidable _), fun xd yd => by simp⟩
  have hval : ∀ x y xd yd p q a b, X.valR x = some (xd, p) → X.valR y = some (yd, q) → OkC W x a → OkC W y b → eqd xd yd = decide (a = b) := fun x y xd yd p q a b hx hy oa ob => by
    rw [Bool.eq_iff_iff, heqd, decide_eq_true_iff]
    constructor
    · rintro ⟨x', y', s, p', q', hx', hy', os, os'⟩
      obtain rfl := X.valR_inj hx hx'
      obtain rfl := X.valR_inj hy hy'
      rw [oa.det os, ob.det os']
    · rintro rfl
      exact ⟨x, y, a, p, q, hx, hy, oa, ob⟩
  obtain ⟨zz, hz⟩ : ∃ zz, X.valR X.zeroV = some zz := ⟨_, rfl⟩
  have h := X.equalFunc_any (X.valRS S1) (X.valRS S2) eqd b1 b2 n1 n2 (.map es1) (.map es2) W (fun v z h => (X.valRS_inv h).2) (fun v z h => (X.valRS_inv h).2)
    (hr1 S1 (fun s v _ hs => (hS1 v).2 (.inr ⟨s, hs⟩))) (hr2 S2 (fun s v _ hs => (hS2 v).2 (.inr ⟨s, hs⟩))) zz.1 zz.2 (by rw [X.valRS_of ((hS2 _).2 (.inl rfl)), hz])
    (fun W' x y xd yd xp yp hg hx hy => by
      obtain ⟨sx, rx⟩ := X.valRS_inv hx
      obtain ⟨sy, ry⟩ := X.valRS_inv hy
      obtain ⟨a, oa, ma, ca⟩ := c1 x sx
      obtain ⟨b, ob, mb, cb⟩ := c2 y sy
      rw [hval x y xd yd xp yp a b rx ry oa ob]
      have hbl : Below W.heap.size W W' := (Below.refl _ W).grown hg (Nat.le_refl _) (fun j e => by cases e)
      refine (same_call (oa.below hbl) (ob.below hbl) ma mb ca cb).mono ?_
      rintro e W'' ⟨rfl, hb⟩
      exact ⟨rfl, grown_of_below hb none⟩)
  refine h.mono ?_
  rintro e W' ⟨rfl, hg⟩
  refine ⟨?_, hg⟩
  have key : Go.Lib.equalFuncD eqd (.map es1) (.map es2) = sameB l m := by
    rw [Bool.eq_iff_iff]
    unfold sameB Go.Lib.equalFuncD
    rw [decide_eq_true_iff, Bool.and_eq_true, decide_eq_true_iff, List.all_eq_true]
    rw [Maps.size_eq, Maps.size_eq, len1, len2]
    constructor
    · rintro ⟨hlen, hall⟩
      have sub : ∀ nm s, getL l nm = some s → getL m nm = some s := fun nm s hs => by
        have hsz := keys_size ml (mem_keysL.2 (by rw [hs]; rfl))
        have hsz' : (nmOf nm).size ≤ maxLen := by show nm.toArray.size ≤ maxLen; rw [List.size_toArray]; unfold maxLen; omega
        have hh := q1 (nmOf nm) hsz'
        rw [show (nmOf nm).data.toList = nm from rfl, hs, Maps.has_eq] at hh
        obtain ⟨p, hp, hpk⟩ := List.any_eq_true.1 hh
        obtain ⟨s0, v0, hl0, hp1, hc0, qq, hv0⟩ := he1 p hp
        rw [hp1] at hpk
        obtain rfl : s0 = nm := by simpa [Lit.sameKey] using hpk
        obtain ⟨x0, hx0, ok0⟩ := k1 _ v0 hc0
        rw [hs] at hx0
        obtain rfl := Option.some.inj hx0
        have hg := hall p hp
        unfold Go.Lib.goodD at hg
        rw [hp1, Bool.and_eq_true] at hg
        have hh2 := q2 (nmOf s0) hsz'
        rw [show (nmOf s0).data.toList = s0 from rfl, hg.1] at hh2
        obtain ⟨s', hs'⟩ := Option.isSome_iff_exists.1 hh2.symm
        obtain ⟨v2, hc2, ok2⟩ := g2 s0 s' hs'
        obtain ⟨z2, hz2, hat⟩ := (hk2 (nmOf s0) hsz').2 v2 hc2
        have hd := hg.2
        rw [show DataW.atKey (.map es2) (.string s0) .nil = z2.1 from hat .nil, hval v0 v2 p.2 z2.1 qq z2.2 s s' hv0 hz2 ok0 ok2, decide_eq_true_iff] at hd
        rw [hs', hd]
      refine canonB_ext fun nm => ?_
      cases hl : getL l nm with
      | some s => exact (sub nm s hl).symm
      | none =>
        cases hm' : getL m nm with
        | none => rfl
        | some s' =>
          have := sub_all (keysL l) (keysL m) (nodup_keysL l) (nodup_keysL m) (fun x hx => by
            obtain ⟨s, hs⟩ := Option.isSome_iff_exists.1 (mem_keysL.1 hx)
            exact mem_keysL.2 (by rw [sub x s hs]; rfl)) (by omega) nm (mem_keysL.2 (by rw [hm']; rfl))
          rw [mem_keysL, hl] at this
          cases this
    · intro heq
      have hgl := canonB_inj heq
      refine ⟨((List.perm_ext_iff_of_nodup (nodup_keysL l) (nodup_keysL m)).2 (fun x => (mem_keysL.trans (by rw [hgl x])).trans mem_keysL.symm)).length_eq, fun p hp => ?_⟩
      obtain ⟨s, v, hl0, hp1, hc0, qq, hv0⟩ := he1 p hp
      obtain ⟨x, hx, ok⟩ := k1 s v hc0
      rw [hgl s] at hx
      obtain ⟨v2, hc2, ok2⟩ := g2 s x hx
      have hsz' : (nmOf s).size ≤ maxLen := by show s.toArray.size ≤ maxLen; rw [List.size_toArray]; exact hl0
      obtain ⟨z2, hz2, hat⟩ := (hk2 (nmOf s) hsz').2 v2 hc2
      have hh2 := q2 (nmOf s) hsz'
      rw [show (nmOf s).data.toList = s from rfl, hx] at hh2
      unfold Go.Lib.goodD
      rw [hp1, hh2, show DataW.atKey (.map es2) (.string s) .nil = z2.1 from hat .nil, hval v v2 p.2 z2.1 qq z2.2 x x hv0 hz2 ok ok2]
      simp
  rw [key]
set_option maxHeartbeats 8000000 in
set_option maxRecDepth 100000 in
theorem same_of (A : Option Addr) (c : Nat) (l : List S38) (B : Option Addr) (d : Nat) (m : List S38) (w : World) (hr : Kd.C k38 w A l.length l) (hr' : Kd.C k38 w B m.length m) (hm : modestB l) (hm' : modestB m) :
    Calls Try.prog 20 #[.slice A l.length c, .slice B m.length d] w fun e W => e = .returned (.bool (sameB l m)) ∧ Below w.heap.size w W := by
  have HR := Aside0.mk hr
  have HR' := Aside0.mk hr'
  have HM := Aside0.mk hm
  have HM' := Aside0.mk hm'
  clear hr hr' hm hm'
  go_enter Try.func20, Try.ntmps20
  go_wp2_with fail
  refine (all_of A c l _ HR.out HM.out).mono ?_
  rintro e W1 ⟨rfl, hmo1, hb1⟩
  go_wp2_with fail
  refine (all_of B d m _ (Kd.C_below HR'.out hb1) HM'.out).mono ?_
  rintro e W2 ⟨rfl, hmo2, hb2⟩
  have hmo1' : MapOf W2 w.heap.size l.length w.heap.size l := by
    obtain ⟨C, hvm, hs⟩ := hmo1
    refine ⟨C, hvm.below hb2, fun nm => ?_⟩
    have := hs nm
    split at this
    · obtain ⟨v, h1, h2⟩ := this
      exact ⟨v, h1, h2.grown (grown_of_below hb2 none) (fun r e => by cases e)⟩
    · exact this
  have HB := Aside0.mk (below_step hb1 hb2)
  clear hmo1 hb1 hb2
  go_wp2_with fail
  refine (eq_call hmo1' hmo2 HM.out HM'.out).mono ?_
  rintro e W3 ⟨rfl, hg⟩
  clear hmo1' hmo2
  have HB3 := Aside0.mk (HB.out.grown hg HB.out.size (fun j e => by cases e))
  clear hg
  go_wp2_with fail
  go_ret
  exact ⟨rfl, HB3.out⟩
end Go.Proofs.Ytfaiplbogchgjaa.PA
end
section
namespace Go.Proofs.Ytfaiplbogchgjaa.PA
open Go.RowKit Go.Proofs.YtfaiplbogchgjaaW.PrintWords Go.Proofs.YtfaiplbogchgjaaW.PrintLast Go.Proofs.YtfaiplbogchgjaaW.PrintMore
attribute [local go_sem] max2_int min2_int max_two min_two max_three min_three max_four min_four   -- for this text's walks alone
set_option linter.unusedVariables false
set_option linter.unusedSimpArgs false
mutual
def phalaroperef08_Few.l0 : Nat → Int → Int → ByteArray → List ByteArray → List (S50) → Option (Bool)
  | 0, _, _, _, _, _ => none
  | k + 1, x3, x219000, x219001, x219002, x219003 => if x3 < (x219002.length : Int) then (phalaroperef08_Few.j1 k x3 (decide (x3 < 31)) x219000 x219001 x219002 x219003) else (phalaroperef08_Few.j1 k x3 false x219000 x219001 x219002 x219003)
def phalaroperef08_Few.j1 : Nat → Int → Bool → Int → ByteArray → List ByteArray → List (S50) → Option (Bool)
  | 0, _, _, _, _, _, _ => none
  | k + 1, x3, x13, x219000, x219001, x219002, x219003 => if x13 = true then (if 0 ≤ x3 then (if x3 < (x219002.length : Int) then (if ((rdOf ByteArray.empty x219002 x3).size : Int) > 200 then (some false) else (phalaroperef08_Few.l0 k (wrap64 (x3 + 1)) x219000 x219001 x219002 x219003)) else (none)) else (none)) else (phalaroperef08_Few.l1 k 0 x219000 x219001 x219002 x219003)
def phalaroperef08_Few.l1 : Nat → Int → Int → ByteArray → List ByteArray → List (S50) → Option (Bool)
  | 0, _, _, _, _, _ => none
  | k + 1, x4, x219000, x219001, x219002, x219003 => if x4 < (x219003.length : Int) then (phalaroperef08_Few.j3 k x4 (decide (x4 < 31)) x219000 x219001 x219002 x219003) else (phalaroperef08_Few.j3 k x4 false x219000 x219001 x219002 x219003)
def phalaroperef08_Few.j3 : Nat → Int → Bool → Int → ByteArray → List ByteArray → List (S50) → Option (Bool)
  | 0, _, _, _, _, _, _ => none
  | k + 1, x4, x31, x219000, x219001, x219002, x219003 => if x31 = true then (if 0 ≤ x4 then (if x4 < (x219003.length : Int) then (if (((rd_T50 x219003 x4).f0).size : Int) > 200 then (some false) else (if (((rd_T50 x219003 x4).f1).size : Int) > 200 then (some false) else (phalaroperef08_Few.l1 k (wrap64 (x4 + 1)) x219000 x219001 x219002 x219003))) else (none)) else (none)) else (if (x219001.size : Int) ≤ 200 then (if (x219002.length : Int) ≤ 30 then (some (decide ((x219003.length : Int) ≤ 30))) else (some false)) else (some false))
end
def phalaroperef08_Few.f (k : Nat) (a0_0 : Int) (a0_1 : ByteArray) (l0_2 : List ByteArray) (l0_3 : List (S50)) : Option (Bool) := phalaroperef08_Few.l0 k 0 a0_0 a0_1 l0_2 l0_3
theorem phalaroperef08_Few.mono_l : ∀ k, (∀ y0 y1 y2 y3 y4, LeO (phalaroperef08_Few.l0 k y0 y1 y2 y3 y4) (phalaroperef08_Few.l0 (k + 1) y0 y1 y2 y3 y4)) ∧ (∀ y0 y1 y2 y3 y4 y5, LeO (phalaroperef08_Few.j1 k y0 y1 y2 y3 y4 y5) (phalaroperef08_Few.j1 (k + 1) y0 y1 y2 y3 y4 y5)) ∧ (∀ y0 y1 y2 y3 y4, LeO (phalaroperef08_Few.l1 k y0 y1 y2 y3 y4) (phalaroperef08_Few.l1 (k + 1) y0 y1 y2 y3 y4)) ∧ (∀ y0 y1 y2 y3 y4 y5, LeO (phalaroperef08_Few.j3 k y0 y1 y2 y3 y4 y5) (phalaroperef08_Few.j3 (k + 1) y0 y1 y2 y3 y4 y5))
  | 0 => ⟨fun _ _ _ _ _ r h => by simp [phalaroperef08_Few.l0] at h, fun _ _ _ _ _ _ r h => by simp [phalaroperef08_Few.j1] at h, fun _ _ _ _ _ r h => by simp [phalaroperef08_Few.l1] at h, fun _ _ _ _ _ _ r h => by simp [phalaroperef08_Few.j3] at h⟩
  | k + 1 => by
    obtain ⟨ih0, ih1, ih2, ih3⟩ := phalaroperef08_Few.mono_l k
    refine ⟨?_, ?_, ?_, ?_⟩
    · intro y0 y1 y2 y3 y4
      unfold phalaroperef08_Few.l0
      repeat' first
      | (with_reducible exact ih0 _ _ _ _ _)
      | (with_reducible exact ih1 _ _ _ _ _ _)
      | (with_reducible exact ih2 _ _ _ _ _)
      | (with_reducible exact ih3 _ _ _ _ _ _)
      | (with_reducible exact LeO.refl _)
      | (with_reducible exact LeO.none _)
      | (with_reducible refine LeO.ite ?_ ?_)
      | (with_reducible refine LeO.bind ?_ (fun _ => ?_))
      | exact ih0 _ _ _ _ _
      | exact ih1 _ _ _ _ _ _
      | exact ih2 _ _ _ _ _
      | exact ih3 _ _ _ _ _ _
      | exact LeO.none _
      | refine LeO.ite ?_ ?_
      | refine LeO.bind ?_ (fun _ => ?_)
    · intro y0 y1 y2 y3 y4 y5
      unfold phalaroperef08_Few.j1
      repeat' first
      | (with_reducible exact ih0 _ _ _ _ _)
      | (with_reducible exact ih1 _ _ _ _ _ _)
      | (with_reducible exact ih2 _ _ _ _ _)
      | (with_reducible exact ih3 _ _ _ _ _ _)
      | (with_reducible exact LeO.refl _)
      | (with_reducible exact LeO.none _)
      | (with_reducible refine LeO.ite ?_ ?_)
      | (with_reducible refine LeO.bind ?_ (fun _ => ?_))
      | exact ih0 _ _ _ _ _
      | exact ih1 _ _ _ _ _ _
      | exact ih2 _ _ _ _ _
      | exact ih3 _ _ _ _ _ _
      | exact LeO.none _
      | refine LeO.ite ?_ ?_
      | refine LeO.bind ?_ (fun _ => ?_)
    · intro y0 y1 y2 y3 y4
      unfold phalaroperef08_Few.l1
      repeat' first
      | (with_reducible exact ih0 _ _ _ _ _)
      | (with_reducible exact ih1 _ _ _ _ _ _)
      | (with_reducible exact ih2 _ _ _ _ _)
      | (with_reducible exact ih3 _ _ _ _ _ _)
      | (with_reducible exact LeO.refl _)
      | (with_reducible exact LeO.none _)
      | (with_reducible refine LeO.ite ?_ ?_)
      | (with_reducible refine LeO.bind ?_ (fun _ => ?_))
      | exact ih0 _ _ _ _ _
      | exact ih1 _ _ _ _ _ _
      | exact ih2 _ _ _ _ _
      | exact ih3 _ _ _ _ _ _
      | exact LeO.none _
      | refine LeO.ite ?_ ?_
      | refine LeO.bind ?_ (fun _ => ?_)
    · intro y0 y1 y2 y3 y4 y5
      unfold phalaroperef08_Few.j3
      repeat' first
      | (with_reducible exact ih0 _ _ _ _ _)
      | (with_reducible exact ih1 _ _ _ _ _ _)
      | (with_reducible exact ih2 _ _ _ _ _)
      | (with_reducible exact ih3 _ _ _ _ _ _)
      | (with_reducible exact LeO.refl _)
      | (with_reducible exact LeO.none _)
      | (with_reducible refine LeO.ite ?_ ?_)
      | (with_reducible refine LeO.bind ?_ (fun _ => ?_))
      | exact ih0 _ _ _ _ _
      | exact ih1 _ _ _ _ _ _
      | exact ih2 _ _ _ _ _
      | exact ih3 _ _ _ _ _ _
      | exact LeO.none _
      | refine LeO.ite ?_ ?_
      | refine LeO.bind ?_ (fun _ => ?_)
theorem phalaroperef08_Few.mono : ∀ a0 a1 a2 a3 k, LeO (phalaroperef08_Few.f k a0 a1 a2 a3) (phalaroperef08_Few.f (k + 1) a0 a1 a2 a3) := by
  intro a0 a1 a2 a3 k
  obtain ⟨ih0, ih1, ih2, ih3⟩ := phalaroperef08_Few.mono_l k
  unfold phalaroperef08_Few.f
  repeat' first
      | (with_reducible exact ih0 _ _ _ _ _)
      | (with_reducible exact ih1 _ _ _ _ _ _)
      | (with_reducible exact ih2 _ _ _ _ _)
      | (with_reducible exact ih3 _ _ _ _ _ _)
      | (with_reducible exact LeO.refl _)
      | (with_reducible exact LeO.none _)
      | (with_reducible refine LeO.ite ?_ ?_)
      | (with_reducible refine LeO.bind ?_ (fun _ => ?_))
      | exact ih0 _ _ _ _ _
      | exact ih1 _ _ _ _ _ _
      | exact ih2 _ _ _ _ _
      | exact ih3 _ _ _ _ _ _
      | exact LeO.none _
      | refine LeO.ite ?_ ?_
      | refine LeO.bind ?_ (fun _ => ?_)
set_option maxHeartbeats 8000000 in
set_option maxRecDepth 100000 in
theorem phalaroperef08_Few.calls (k : Nat) (a0_0 : Int) (a0_1 : ByteArray) (A0_2 : Option Addr) (c0_2 : Nat) (l0_2 : List ByteArray) (A0_3 : Option Addr) (c0_3 : Nat) (l0_3 : List (S50)) (r : Bool) (w : World) (hr0_2 : Kd.C Kd.string w A0_2 l0_2.length l0_2) (hc0_2 : l0_2.length ≤ c0_2) (hr0_3 : Kd.C k50 w A0_3 l0_3.length l0_3) (hc0_3 : l0_3.length ≤ c0_3) (h : phalaroperef08_Few.f k a0_0 a0_1 l0_2 l0_3 = some r) :
    Calls Try.prog 23 #[.agg #[.int .i64 a0_0, .string a0_1, .slice A0_2 l0_2.length c0_2, .slice A0_3 l0_3.length c0_3]] w fun e w' => e = .returned (.bool r) ∧ Below w.heap.size w w' := by
  have hu28 := Try.underlying28
  have HR0_2 := Aside0.mk hr0_2
  have HC0_2 := Aside0.mk hc0_2
  clear hr0_2 hc0_2
  have HR0_3 := Aside0.mk hr0_3
  have HC0_3 := Aside0.mk hc0_3
  clear hr0_3 hc0_3
  have HB := Aside0.mk (Below.refl w.heap.size w)
  have H : (phalaroperef08_Few.l0 k 0 a0_0 a0_1 l0_2 l0_3) = some r := h
  clear h
  have H' := Aside0.mk H
  clear H
  go_enter Try.func23, Try.ntmps23
  go_wp2_with (first | ((with_reducible refine gate_dst (N := 1) rfl ?_); (try (refine gate_guard (by rfl) ?_; dsimp only)); refine box_event ?hg (N := 1) ?hd (cs := #[.int .i64 a0_0, .string a0_1, .slice A0_2 l0_2.length c0_2, .slice A0_3 l0_3.length c0_3]) (t := 28) ?hr ?_; (case hd => rfl); (case hg => rfl); (case hr => first | (go_simp; done) | (go_simp; rfl)); intro gb218 hg w2 hbox hb; have n0_ := Aside0.mk (below_step (by repeat (first | (with_reducible first | exact HB.out | apply below_alloc | apply pw_below_drewN | apply below_drew1) | exact HB.out)) hb); have n1_ := Aside0.mk (hbox); have n2_ := Aside0.mk ((by rw [hg]; exact (below_size (by repeat (first | (with_reducible first | exact HB.out | apply below_alloc | apply pw_below_drewN | apply below_drew1) | exact HB.out))) : w.heap.size ≤ gb218)); have n3_ := Aside0.mk ((by rw [hg]; exact (below_size (by repeat (first | (with_reducible first | exact HB.out | apply below_alloc | apply pw_below_drewN | apply below_drew1) | exact HB.out))) : w.heap.size ≤ gb218)); clear HB; have HB := n0_; have BK218 := n1_; have GW218 := n2_; have GE218 := n3_; clear n0_ n1_ n2_ n3_; clear hb hbox hg))
  go_loopg [3] k (fun kq v3 w' => ∃ (x3_1 : Int), v3 = .int .i64 x3_1 ∧ Aside0 (phalaroperef08_Few.l0 kq x3_1 a0_0 a0_1 l0_2 l0_3 = some r) ∧ Aside0 (kq ≤ k) ∧ Aside0 (w'.heap[gb218]? = some (.cells #[.int .i64 a0_0, .string a0_1, (.slice A0_2 l0_2.length c0_2), (.slice A0_3 l0_3.length c0_3)] 28 (0, 0))) ∧ Aside0 (Below w.heap.size w w'))
  case atStart => exact ⟨(0), (by first | rfl | (simp; done) | (simp [*]; done)), H', ⟨Nat.le_refl _⟩, ⟨by (with_reducible repeat (first | refine blk_drewN ?_ _ | refine blk_drew ?_ | refine blk_alloc ?_ _)); exact BK218.out⟩, ⟨by repeat (first | (with_reducible first | exact HB.out | apply below_alloc | apply pw_below_drewN | apply below_drew1 | refine below_set ?_ GE218.out) | exact HB.out)⟩⟩
  case round =>
    clear H'
    try clear c2
    try clear p2
    obtain ⟨x3_1, rfl, HA, HK1, BK218, HB⟩ := hrel
    cases gk with
    | zero => exact absurd HA.out (by simp [phalaroperef08_Few.l0])
    | succ k1 =>
      have H := HA.out
      clear HA
      simp only [phalaroperef08_Few.l0] at H
      have HC3 := Aside0.mk H
      clear H
      go_upto_region 2 with (fail)
      go_cut [13] (fun v13 wc => ∃ (kq : Nat) (x13_2 : Bool), v13 = .bool x13_2 ∧ Aside0 (phalaroperef08_Few.j1 kq x3_1 x13_2 a0_0 a0_1 l0_2 l0_3 = some r) ∧ Aside0 (kq ≤ k1) ∧ Aside0 (wc.heap[gb218]? = some (.cells #[.int .i64 a0_0, .string a0_1, (.slice A0_2 l0_2.length c0_2), (.slice A0_3 l0_3.length c0_3)] 28 (0, 0))) ∧ Aside0 (Below w.heap.size w wc))
      case first =>
        have H := HC3.out
        clear HC3
        by_cases c4 : x3_1 < (l0_2.length : Int)
        · rw [if_pos c4] at H
          have c4b0 : decide (x3_1 < (l0_2.length : Int)) = true := decide_eq_true c4
          clear c4
          (first | rw [c4b0] | (simp only [i64_w, i32_w]; rw [c4b0]) | skip)
          have H' := Aside0.mk H
          clear H
          have hcz5_0 : wr.cell? ⟨gb218, 0, none⟩ = some (.int .i64 a0_0) := (blk_cell BK218.out 0).trans rfl
          have hcz5_1 : wr.cell? ⟨gb218, 1, none⟩ = some (.string a0_1) := (blk_cell BK218.out 1).trans rfl
          have hcz5_2 : wr.cell? ⟨gb218, 2, none⟩ = some (.slice A0_2 l0_2.length c0_2) := (blk_cell BK218.out 2).trans rfl
          have hcz5_3 : wr.cell? ⟨gb218, 3, none⟩ = some (.slice A0_3 l0_3.length c0_3) := (blk_cell BK218.out 3).trans rfl
          have hfz5_0 := blk_frozen BK218.out 0
          have hfz5_1 := blk_frozen BK218.out 1
          have hfz5_2 := blk_frozen BK218.out 2
          have hfz5_3 := blk_frozen BK218.out 3
          go_wp2
          go_meet
          case rel => exact ⟨_, (decide (x3_1 < 31)), (by first | rfl | (simp; done) | (simp [*]; done)), H', ⟨by have := HK1.out; first | omega | exact Nat.le_refl _⟩, ⟨by (with_reducible repeat (first | refine blk_drewN ?_ _ | refine blk_drew ?_ | refine blk_alloc ?_ _)); exact BK218.out⟩, ⟨by repeat (first | (with_reducible first | exact HB.out | apply below_alloc | apply pw_below_drewN | apply below_drew1 | refine below_set ?_ GE218.out) | exact HB.out)⟩⟩
        · rw [if_neg c4] at H
          have c4b0 : decide (x3_1 < (l0_2.length : Int)) = false := decide_eq_false c4
          clear c4
          (first | rw [c4b0] | (simp only [i64_w, i32_w]; rw [c4b0]) | skip)
          have H' := Aside0.mk H
          clear H
          have hcz6_0 : wr.cell? ⟨gb218, 0, none⟩ = some (.int .i64 a0_0) := (blk_cell BK218.out 0).trans rfl
          have hcz6_1 : wr.cell? ⟨gb218, 1, none⟩ = some (.string a0_1) := (blk_cell BK218.out 1).trans rfl
          have hcz6_2 : wr.cell? ⟨gb218, 2, none⟩ = some (.slice A0_2 l0_2.length c0_2) := (blk_cell BK218.out 2).trans rfl
          have hcz6_3 : wr.cell? ⟨gb218, 3, none⟩ = some (.slice A0_3 l0_3.length c0_3) := (blk_cell BK218.out 3).trans rfl
          have hfz6_0 := blk_frozen BK218.out 0
          have hfz6_1 := blk_frozen BK218.out 1
          have hfz6_2 := blk_frozen BK218.out 2
          have hfz6_3 := blk_frozen BK218.out 3
          go_wp2
          go_meet
          case rel => exact ⟨_, (false), (by first | rfl | (simp; done) | (simp [*]; done)), H', ⟨by have := HK1.out; first | omega | exact Nat.le_refl _⟩, ⟨by (with_reducible repeat (first | refine blk_drewN ?_ _ | refine blk_drew ?_ | refine blk_alloc ?_ _)); exact BK218.out⟩, ⟨by repeat (first | (with_reducible first | exact HB.out | apply below_alloc | apply pw_below_drewN | apply below_drew1 | refine below_set ?_ GE218.out) | exact HB.out)⟩⟩
      case rest =>
        clear HC3
        try clear c2
        try clear p2
        try clear c4
        try clear c4b0
        try clear hcz5_0
        try clear hcz5_1
        try clear hcz5_2
        try clear hcz5_3
        try clear hcz6_0
        try clear hcz6_1
        try clear hcz6_2
        try clear hcz6_3
        try clear hfz5_0
        try clear hfz5_1
        try clear hfz5_2
        try clear hfz5_3
        try clear hfz6_0
        try clear hfz6_1
        try clear hfz6_2
        try clear hfz6_3
        try clear p2
        obtain ⟨kq, x13_2, rfl, HA, HJ2, BK218, HB⟩ := hcut
        cases kq with
        | zero => exact absurd HA.out (by simp [phalaroperef08_Few.j1])
        | succ kj2 =>
          have H := HA.out
          clear HA
          simp only [phalaroperef08_Few.j1] at H
          by_cases c7 : x13_2 = true
          · subst c7
            have H1 : (if 0 ≤ x3_1 then (if x3_1 < (l0_2.length : Int) then (if ((rdOf ByteArray.empty l0_2 x3_1).size : Int) > 200 then (some false) else (phalaroperef08_Few.l0 kj2 (wrap64 (x3_1 + 1)) a0_0 a0_1 l0_2 l0_3)) else (none)) else (none)) = some r := by rw [if_pos rfl] at H; exact H
            clear H
            have H := H1
            clear H1
            by_cases c8 : 0 ≤ x3_1
            · rw [if_pos c8] at H
              have c8b0 : decide (0 ≤ x3_1) = true := decide_eq_true c8
              clear c8
              by_cases c9 : x3_1 < (l0_2.length : Int)
              · rw [if_pos c9] at H
                have c9b0 : decide (x3_1 < (l0_2.length : Int)) = true := decide_eq_true c9
                clear c9
                by_cases c10 : ((rdOf ByteArray.empty l0_2 x3_1).size : Int) > 200
                · rw [if_pos c10] at H
                  have c10b0 : decide (200 < ((rdOf ByteArray.empty l0_2 x3_1).size : Int)) = true := decide_eq_true c10
                  have c10b1 : decide (200 < (rdOf ByteArray.empty l0_2 x3_1).size) = true := decide_eq_true (by omega)
                  clear c10
                  obtain rfl := Option.some.inj H
                  have hcz11_0 : wc.cell? ⟨gb218, 0, none⟩ = some (.int .i64 a0_0) := (blk_cell BK218.out 0).trans rfl
                  have hcz11_1 : wc.cell? ⟨gb218, 1, none⟩ = some (.string a0_1) := (blk_cell BK218.out 1).trans rfl
                  have hcz11_2 : wc.cell? ⟨gb218, 2, none⟩ = some (.slice A0_2 l0_2.length c0_2) := (blk_cell BK218.out 2).trans rfl
                  have hcz11_3 : wc.cell? ⟨gb218, 3, none⟩ = some (.slice A0_3 l0_3.length c0_3) := (blk_cell BK218.out 3).trans rfl
                  have hfz11_0 := blk_frozen BK218.out 0
                  have hfz11_1 := blk_frozen BK218.out 1
                  have hfz11_2 := blk_frozen BK218.out 2
                  have hfz11_3 := blk_frozen BK218.out 3
                  have p219 : 0 ≤ (x3_1 : Int) := of_decide_eq_true (by first | (with_reducible assumption) | assumption)
                  have q219 : x3_1 < (l0_2.length : Int) := of_decide_eq_true (by first | (with_reducible assumption) | assumption)
                  obtain ⟨ad219, e219, hx219_0⟩ := Kd.at_string HR0_2.out x3_1 p219 q219
                  cases e219
                  replace hx219_0 := (HB.out.cell (World.block_lt_of_cell? w _ hx219_0)).trans hx219_0
                  replace p219 := eq_true p219
                  replace q219 := eq_true q219
                  go_wp2
                  go_ret
                  exact ⟨by first | rfl | (simp [errW_none, errW_some] <;> rfl) | (simp [*, errW_none, errW_some] <;> rfl), by repeat (first | (with_reducible first | exact HB.out | apply below_alloc | apply pw_below_drewN | apply below_drew1 | refine below_set ?_ GE218.out) | exact HB.out)⟩
                · rw [if_neg c10] at H
                  have c10b0 : decide (200 < ((rdOf ByteArray.empty l0_2 x3_1).size : Int)) = false := decide_eq_false c10
                  have c10b1 : decide (200 < (rdOf ByteArray.empty l0_2 x3_1).size) = false := decide_eq_false (by omega)
                  clear c10
                  have H' := Aside0.mk H
                  clear H
                  have hcz12_0 : wc.cell? ⟨gb218, 0, none⟩ = some (.int .i64 a0_0) := (blk_cell BK218.out 0).trans rfl
                  have hcz12_1 : wc.cell? ⟨gb218, 1, none⟩ = some (.string a0_1) := (blk_cell BK218.out 1).trans rfl
                  have hcz12_2 : wc.cell? ⟨gb218, 2, none⟩ = some (.slice A0_2 l0_2.length c0_2) := (blk_cell BK218.out 2).trans rfl
                  have hcz12_3 : wc.cell? ⟨gb218, 3, none⟩ = some (.slice A0_3 l0_3.length c0_3) := (blk_cell BK218.out 3).trans rfl
                  have hfz12_0 := blk_frozen BK218.out 0
                  have hfz12_1 := blk_frozen BK218.out 1
                  have hfz12_2 := blk_frozen BK218.out 2
                  have hfz12_3 := blk_frozen BK218.out 3
                  have p219 : 0 ≤ (x3_1 : Int) := of_decide_eq_true (by first | (with_reducible assumption) | assumption)
                  have q219 : x3_1 < (l0_2.length : Int) := of_decide_eq_true (by first | (with_reducible assumption) | assumption)
                  obtain ⟨ad219, e219, hx219_0⟩ := Kd.at_string HR0_2.out x3_1 p219 q219
                  cases e219
                  replace hx219_0 := (HB.out.cell (World.block_lt_of_cell? w _ hx219_0)).trans hx219_0
                  replace p219 := eq_true p219
                  replace q219 := eq_true q219
                  go_wp2
                  go_roundg kj2
                  case measure => have := HK1.out; have := HJ2.out; omega
                  case rel => exact ⟨(wrap64 (x3_1 + 1)), (by first | rfl | (simp; done) | (simp [*]; done)), H', ⟨by have := HK1.out; have := HJ2.out; omega⟩, ⟨by (with_reducible repeat (first | refine blk_drewN ?_ _ | refine blk_drew ?_ | refine blk_alloc ?_ _)); exact BK218.out⟩, ⟨by repeat (first | (with_reducible first | exact HB.out | apply below_alloc | apply pw_below_drewN | apply below_drew1 | refine below_set ?_ GE218.out) | exact HB.out)⟩⟩
              · rw [if_neg c9] at H
                exact absurd H (by simp)
            · rw [if_neg c8] at H
              exact absurd H (by simp)
          · replace c7 := Bool.eq_false_iff.mpr c7
            subst c7
            have H1 : (phalaroperef08_Few.l1 kj2 0 a0_0 a0_1 l0_2 l0_3) = some r := by rw [if_neg (show ¬ (false = true) by decide)] at H; exact H
            clear H
            have H := H1
            clear H1
            have H' := Aside0.mk H
            clear H
            go_wp2
            go_loopg [4] kj2 (fun kq v4 w' => ∃ (x4_3 : Int), v4 = .int .i64 x4_3 ∧ Aside0 (phalaroperef08_Few.l1 kq x4_3 a0_0 a0_1 l0_2 l0_3 = some r) ∧ Aside0 (kq ≤ kj2) ∧ Aside0 (w'.heap[gb218]? = some (.cells #[.int .i64 a0_0, .string a0_1, (.slice A0_2 l0_2.length c0_2), (.slice A0_3 l0_3.length c0_3)] 28 (0, 0))) ∧ Aside0 (Below w.heap.size w w'))
            case atStart => exact ⟨(0), (by first | rfl | (simp; done) | (simp [*]; done)), H', ⟨Nat.le_refl _⟩, ⟨by (with_reducible repeat (first | refine blk_drewN ?_ _ | refine blk_drew ?_ | refine blk_alloc ?_ _)); exact BK218.out⟩, ⟨by repeat (first | (with_reducible first | exact HB.out | apply below_alloc | apply pw_below_drewN | apply below_drew1 | refine below_set ?_ GE218.out) | exact HB.out)⟩⟩
            case round =>
              clear H'
              try clear c1
              try clear c2
              try clear p2
              try clear q2
              try clear hx2
              try clear c4
              try clear c4b0
              try clear p6
              try clear c7
              try clear c8
              try clear c8b0
              try clear c9
              try clear c9b0
              try clear c10
              try clear c10b0
              try clear c10b1
              try clear hcz11_0
              try clear hcz11_1
              try clear hcz11_2
              try clear hcz11_3
              try clear hcz12_0
              try clear hcz12_1
              try clear hcz12_2
              try clear hcz12_3
              try clear hcz5_0
              try clear hcz5_1
              try clear hcz5_2
              try clear hcz5_3
              try clear hcz6_0
              try clear hcz6_1
              try clear hcz6_2
              try clear hcz6_3
              try clear hfz11_0
              try clear hfz11_1
              try clear hfz11_2
              try clear hfz11_3
              try clear hfz12_0
              try clear hfz12_1
              try clear hfz12_2
              try clear hfz12_3
              try clear hfz5_0
              try clear hfz5_1
              try clear hfz5_2
              try clear hfz5_3
              try clear hfz6_0
              try clear hfz6_1
              try clear hfz6_2
              try clear hfz6_3
              try clear hx219_0
              try clear p2
              try clear p219
              try clear q219
              obtain ⟨x4_3, rfl, HA, HK3, BK218, HB⟩ := hrel
              cases gk with
              | zero => exact absurd HA.out (by simp [phalaroperef08_Few.l1])
              | succ k3 =>
                have H := HA.out
                clear HA
                simp only [phalaroperef08_Few.l1] at H
                have HC13 := Aside0.mk H
                clear H
                go_upto_region 7 with (fail)
                go_cut [31] (fun v31 wc => ∃ (kq : Nat) (x31_12 : Bool), v31 = .bool x31_12 ∧ Aside0 (phalaroperef08_Few.j3 kq x4_3 x31_12 a0_0 a0_1 l0_2 l0_3 = some r) ∧ Aside0 (kq ≤ k3) ∧ Aside0 (wc.heap[gb218]? = some (.cells #[.int .i64 a0_0, .string a0_1, (.slice A0_2 l0_2.length c0_2), (.slice A0_3 l0_3.length c0_3)] 28 (0, 0))) ∧ Aside0 (Below w.heap.size w wc))
                case first =>
                  have H := HC13.out
                  clear HC13
                  by_cases c14 : x4_3 < (l0_3.length : Int)
                  · rw [if_pos c14] at H
                    have c14b0 : decide (x4_3 < (l0_3.length : Int)) = true := decide_eq_true c14
                    clear c14
                    (first | rw [c14b0] | (simp only [i64_w, i32_w]; rw [c14b0]) | skip)
                    have H' := Aside0.mk H
                    clear H
                    have hcz15_0 : wr.cell? ⟨gb218, 0, none⟩ = some (.int .i64 a0_0) := (blk_cell BK218.out 0).trans rfl
                    have hcz15_1 : wr.cell? ⟨gb218, 1, none⟩ = some (.string a0_1) := (blk_cell BK218.out 1).trans rfl
                    have hcz15_2 : wr.cell? ⟨gb218, 2, none⟩ = some (.slice A0_2 l0_2.length c0_2) := (blk_cell BK218.out 2).trans rfl
                    have hcz15_3 : wr.cell? ⟨gb218, 3, none⟩ = some (.slice A0_3 l0_3.length c0_3) := (blk_cell BK218.out 3).trans rfl
                    have hfz15_0 := blk_frozen BK218.out 0
                    have hfz15_1 := blk_frozen BK218.out 1
                    have hfz15_2 := blk_frozen BK218.out 2
                    have hfz15_3 := blk_frozen BK218.out 3
                    go_wp2
                    go_meet
                    case rel => exact ⟨_, (decide (x4_3 < 31)), (by first | rfl | (simp; done) | (simp [*]; done)), H', ⟨by have := HK1.out; have := HJ2.out; have := HK3.out; first | omega | exact Nat.le_refl _⟩, ⟨by (with_reducible repeat (first | refine blk_drewN ?_ _ | refine blk_drew ?_ | refine blk_alloc ?_ _)); exact BK218.out⟩, ⟨by repeat (first | (with_reducible first | exact HB.out | apply below_alloc | apply pw_below_drewN | apply below_drew1 | refine below_set ?_ GE218.out) | exact HB.out)⟩⟩
                  · rw [if_neg c14] at H
                    have c14b0 : decide (x4_3 < (l0_3.length : Int)) = false := decide_eq_false c14
                    clear c14
                    (first | rw [c14b0] | (simp only [i64_w, i32_w]; rw [c14b0]) | skip)
                    have H' := Aside0.mk H
                    clear H
                    have hcz16_0 : wr.cell? ⟨gb218, 0, none⟩ = some (.int .i64 a0_0) := (blk_cell BK218.out 0).trans rfl
                    have hcz16_1 : wr.cell? ⟨gb218, 1, none⟩ = some (.string a0_1) := (blk_cell BK218.out 1).trans rfl
                    have hcz16_2 : wr.cell? ⟨gb218, 2, none⟩ = some (.slice A0_2 l0_2.length c0_2) := (blk_cell BK218.out 2).trans rfl
                    have hcz16_3 : wr.cell? ⟨gb218, 3, none⟩ = some (.slice A0_3 l0_3.length c0_3) := (blk_cell BK218.out 3).trans rfl
                    have hfz16_0 := blk_frozen BK218.out 0
                    have hfz16_1 := blk_frozen BK218.out 1
                    have hfz16_2 := blk_frozen BK218.out 2
                    have hfz16_3 := blk_frozen BK218.out 3
                    go_wp2
                    go_meet
                    case rel => exact ⟨_, (false), (by first | rfl | (simp; done) | (simp [*]; done)), H', ⟨by have := HK1.out; have := HJ2.out; have := HK3.out; first | omega | exact Nat.le_refl _⟩, ⟨by (with_reducible repeat (first | refine blk_drewN ?_ _ | refine blk_drew ?_ | refine blk_alloc ?_ _)); exact BK218.out⟩, ⟨by repeat (first | (with_reducible first | exact HB.out | apply below_alloc | apply pw_below_drewN | apply below_drew1 | refine below_set ?_ GE218.out) | exact HB.out)⟩⟩
                case rest =>
                  clear HC13
                  try clear c1
                  try clear c2
                  try clear p2
                  try clear q2
                  try clear hx2
                  try clear c4
                  try clear c4b0
                  try clear p6
                  try clear c7
                  try clear c8
                  try clear c8b0
                  try clear c9
                  try clear c9b0
                  try clear c10
                  try clear c10b0
                  try clear c10b1
                  try clear c14
                  try clear c14b0
                  try clear hcz11_0
                  try clear hcz11_1
                  try clear hcz11_2
                  try clear hcz11_3
                  try clear hcz12_0
                  try clear hcz12_1
                  try clear hcz12_2
                  try clear hcz12_3
                  try clear hcz15_0
                  try clear hcz15_1
                  try clear hcz15_2
                  try clear hcz15_3
                  try clear hcz16_0
                  try clear hcz16_1
                  try clear hcz16_2
                  try clear hcz16_3
                  try clear hcz5_0
                  try clear hcz5_1
                  try clear hcz5_2
                  try clear hcz5_3
                  try clear hcz6_0
                  try clear hcz6_1
                  try clear hcz6_2
                  try clear hcz6_3
                  try clear hfz11_0
                  try clear hfz11_1
                  try clear hfz11_2
                  try clear hfz11_3
                  try clear hfz12_0
                  try clear hfz12_1
                  try clear hfz12_2
                  try clear hfz12_3
                  try clear hfz15_0
                  try clear hfz15_1
                  try clear hfz15_2
                  try clear hfz15_3
                  try clear hfz16_0
                  try clear hfz16_1
                  try clear hfz16_2
                  try clear hfz16_3
                  try clear hfz5_0
                  try clear hfz5_1
                  try clear hfz5_2
                  try clear hfz5_3
                  try clear hfz6_0
                  try clear hfz6_1
                  try clear hfz6_2
                  try clear hfz6_3
                  try clear hx219_0
                  try clear p2
                  try clear p219
                  try clear p6
                  try clear q2
                  try clear q219
                  obtain ⟨kq, x31_12, rfl, HA, HJ12, BK218, HB⟩ := hcut
                  cases kq with
                  | zero => exact absurd HA.out (by simp [phalaroperef08_Few.j3])
                  | succ kj12 =>
                    have H := HA.out
                    clear HA
                    simp only [phalaroperef08_Few.j3] at H
                    by_cases c17 : x31_12 = true
                    · subst c17
                      have H1 : (if 0 ≤ x4_3 then (if x4_3 < (l0_3.length : Int) then (if (((rd_T50 l0_3 x4_3).f0).size : Int) > 200 then (some false) else (if (((rd_T50 l0_3 x4_3).f1).size : Int) > 200 then (some false) else (phalaroperef08_Few.l1 kj12 (wrap64 (x4_3 + 1)) a0_0 a0_1 l0_2 l0_3))) else (none)) else (none)) = some r := by rw [if_pos rfl] at H; exact H
                      clear H
                      have H := H1
                      clear H1
                      by_cases c18 : 0 ≤ x4_3
                      · rw [if_pos c18] at H
                        have c18b0 : decide (0 ≤ x4_3) = true := decide_eq_true c18
                        clear c18
                        by_cases c19 : x4_3 < (l0_3.length : Int)
                        · rw [if_pos c19] at H
                          have c19b0 : decide (x4_3 < (l0_3.length : Int)) = true := decide_eq_true c19
                          clear c19
                          by_cases c20 : (((rd_T50 l0_3 x4_3).f0).size : Int) > 200
                          · rw [if_pos c20] at H
                            have c20b0 : decide (200 < (((rd_T50 l0_3 x4_3).f0).size : Int)) = true := decide_eq_true c20
                            have c20b1 : decide (200 < ((rd_T50 l0_3 x4_3).f0).size) = true := decide_eq_true (by omega)
                            clear c20
                            obtain rfl := Option.some.inj H
                            have hcz21_0 : wc.cell? ⟨gb218, 0, none⟩ = some (.int .i64 a0_0) := (blk_cell BK218.out 0).trans rfl
                            have hcz21_1 : wc.cell? ⟨gb218, 1, none⟩ = some (.string a0_1) := (blk_cell BK218.out 1).trans rfl
                            have hcz21_2 : wc.cell? ⟨gb218, 2, none⟩ = some (.slice A0_2 l0_2.length c0_2) := (blk_cell BK218.out 2).trans rfl
                            have hcz21_3 : wc.cell? ⟨gb218, 3, none⟩ = some (.slice A0_3 l0_3.length c0_3) := (blk_cell BK218.out 3).trans rfl
                            have hfz21_0 := blk_frozen BK218.out 0
                            have hfz21_1 := blk_frozen BK218.out 1
                            have hfz21_2 := blk_frozen BK218.out 2
                            have hfz21_3 := blk_frozen BK218.out 3
                            have p220 : 0 ≤ (x4_3 : Int) := of_decide_eq_true (by first | (with_reducible assumption) | assumption)
                            have q220 : x4_3 < (l0_3.length : Int) := of_decide_eq_true (by first | (with_reducible assumption) | assumption)
                            obtain ⟨ad220, e220, hx220_0, hx220_1⟩ := at_T50 HR0_3.out x4_3 p220 q220
                            cases e220
                            replace hx220_0 := (HB.out.cell (World.block_lt_of_cell? w _ hx220_0)).trans hx220_0
                            replace hx220_1 := (HB.out.cell (World.block_lt_of_cell? w _ hx220_1)).trans hx220_1
                            replace p220 := eq_true p220
                            replace q220 := eq_true q220
                            go_wp2
                            go_ret
                            exact ⟨by first | rfl | (simp [errW_none, errW_some] <;> rfl) | (simp [*, errW_none, errW_some] <;> rfl), by repeat (first | (with_reducible first | exact HB.out | apply below_alloc | apply pw_below_drewN | apply below_drew1 | refine below_set ?_ GE218.out) | exact HB.out)⟩
                          · rw [if_neg c20] at H
                            have c20b0 : decide (200 < (((rd_T50 l0_3 x4_3).f0).size : Int)) = false := decide_eq_false c20
                            have c20b1 : decide (200 < ((rd_T50 l0_3 x4_3).f0).size) = false := decide_eq_false (by omega)
                            clear c20
                            by_cases c22 : (((rd_T50 l0_3 x4_3).f1).size : Int) > 200
                            · rw [if_pos c22] at H
                              have c22b0 : decide (200 < (((rd_T50 l0_3 x4_3).f1).size : Int)) = true := decide_eq_true c22
                              have c22b1 : decide (200 < ((rd_T50 l0_3 x4_3).f1).size) = true := decide_eq_true (by omega)
                              clear c22
                              obtain rfl := Option.some.inj H
                              have hcz23_0 : wc.cell? ⟨gb218, 0, none⟩ = some (.int .i64 a0_0) := (blk_cell BK218.out 0).trans rfl
                              have hcz23_1 : wc.cell? ⟨gb218, 1, none⟩ = some (.string a0_1) := (blk_cell BK218.out 1).trans rfl
                              have hcz23_2 : wc.cell? ⟨gb218, 2, none⟩ = some (.slice A0_2 l0_2.length c0_2) := (blk_cell BK218.out 2).trans rfl
                              have hcz23_3 : wc.cell? ⟨gb218, 3, none⟩ = some (.slice A0_3 l0_3.length c0_3) := (blk_cell BK218.out 3).trans rfl
                              have hfz23_0 := blk_frozen BK218.out 0
                              have hfz23_1 := blk_frozen BK218.out 1
                              have hfz23_2 := blk_frozen BK218.out 2
                              have hfz23_3 := blk_frozen BK218.out 3
                              have p220 : 0 ≤ (x4_3 : Int) := of_decide_eq_true (by first | (with_reducible assumption) | assumption)
                              have q220 : x4_3 < (l0_3.length : Int) := of_decide_eq_true (by first | (with_reducible assumption) | assumption)
                              obtain ⟨ad220, e220, hx220_0, hx220_1⟩ := at_T50 HR0_3.out x4_3 p220 q220
                              cases e220
                              replace hx220_0 := (HB.out.cell (World.block_lt_of_cell? w _ hx220_0)).trans hx220_0
                              replace hx220_1 := (HB.out.cell (World.block_lt_of_cell? w _ hx220_1)).trans hx220_1
                              replace p220 := eq_true p220
                              replace q220 := eq_true q220
                              have p221 : 0 ≤ (x4_3 : Int) := of_decide_eq_true (by first | (with_reducible assumption) | assumption)
                              have q221 : x4_3 < (l0_3.length : Int) := of_decide_eq_true (by first | (with_reducible assumption) | assumption)
                              obtain ⟨ad221, e221, hx221_0, hx221_1⟩ := at_T50 HR0_3.out x4_3 p221 q221
                              obtain rfl : ad220 = ad221 := (by injection e221)
                              replace hx221_0 := (HB.out.cell (World.block_lt_of_cell? w _ hx221_0)).trans hx221_0
                              replace hx221_1 := (HB.out.cell (World.block_lt_of_cell? w _ hx221_1)).trans hx221_1
                              replace p221 := eq_true p221
                              replace q221 := eq_true q221
                              go_wp2
                              go_ret
                              exact ⟨by first | rfl | (simp [errW_none, errW_some] <;> rfl) | (simp [*, errW_none, errW_some] <;> rfl), by repeat (first | (with_reducible first | exact HB.out | apply below_alloc | apply pw_below_drewN | apply below_drew1 | refine below_set ?_ GE218.out) | exact HB.out)⟩
                            · rw [if_neg c22] at H
                              have c22b0 : decide (200 < (((rd_T50 l0_3 x4_3).f1).size : Int)) = false := decide_eq_false c22
                              have c22b1 : decide (200 < ((rd_T50 l0_3 x4_3).f1).size) = false := decide_eq_false (by omega)
                              clear c22
                              have H' := Aside0.mk H
                              clear H
                              have hcz24_0 : wc.cell? ⟨gb218, 0, none⟩ = some (.int .i64 a0_0) := (blk_cell BK218.out 0).trans rfl
                              have hcz24_1 : wc.cell? ⟨gb218, 1, none⟩ = some (.string a0_1) := (blk_cell BK218.out 1).trans rfl
                              have hcz24_2 : wc.cell? ⟨gb218, 2, none⟩ = some (.slice A0_2 l0_2.length c0_2) := (blk_cell BK218.out 2).trans rfl
                              have hcz24_3 : wc.cell? ⟨gb218, 3, none⟩ = some (.slice A0_3 l0_3.length c0_3) := (blk_cell BK218.out 3).trans rfl
                              have hfz24_0 := blk_frozen BK218.out 0
                              have hfz24_1 := blk_frozen BK218.out 1
                              have hfz24_2 := blk_frozen BK218.out 2
                              have hfz24_3 := blk_frozen BK218.out 3
                              have p220 : 0 ≤ (x4_3 : Int) := of_decide_eq_true (by first | (with_reducible assumption) | assumption)
                              have q220 : x4_3 < (l0_3.length : Int) := of_decide_eq_true (by first | (with_reducible assumption) | assumption)
                              obtain ⟨ad220, e220, hx220_0, hx220_1⟩ := at_T50 HR0_3.out x4_3 p220 q220
                              cases e220
                              replace hx220_0 := (HB.out.cell (World.block_lt_of_cell? w _ hx220_0)).trans hx220_0
                              replace hx220_1 := (HB.out.cell (World.block_lt_of_cell? w _ hx220_1)).trans hx220_1
                              replace p220 := eq_true p220
                              replace q220 := eq_true q220
                              have p221 : 0 ≤ (x4_3 : Int) := of_decide_eq_true (by first | (with_reducible assumption) | assumption)
                              have q221 : x4_3 < (l0_3.length : Int) := of_decide_eq_true (by first | (with_reducible assumption) | assumption)
                              obtain ⟨ad221, e221, hx221_0, hx221_1⟩ := at_T50 HR0_3.out x4_3 p221 q221
                              obtain rfl : ad220 = ad221 := (by injection e221)
                              replace hx221_0 := (HB.out.cell (World.block_lt_of_cell? w _ hx221_0)).trans hx221_0
                              replace hx221_1 := (HB.out.cell (World.block_lt_of_cell? w _ hx221_1)).trans hx221_1
                              replace p221 := eq_true p221
                              replace q221 := eq_true q221
                              go_wp2
                              go_roundg kj12
                              case measure => have := HK1.out; have := HJ2.out; have := HK3.out; have := HJ12.out; omega
                              case rel => exact ⟨(wrap64 (x4_3 + 1)), (by first | rfl | (simp; done) | (simp [*]; done)), H', ⟨by have := HK1.out; have := HJ2.out; have := HK3.out; have := HJ12.out; omega⟩, ⟨by (with_reducible repeat (first | refine blk_drewN ?_ _ | refine blk_drew ?_ | refine blk_alloc ?_ _)); exact BK218.out⟩, ⟨by repeat (first | (with_reducible first | exact HB.out | apply below_alloc | apply pw_below_drewN | apply below_drew1 | refine below_set ?_ GE218.out) | exact HB.out)⟩⟩
                        · rw [if_neg c19] at H
                          exact absurd H (by simp)
                      · rw [if_neg c18] at H
                        exact absurd H (by simp)
                    · replace c17 := Bool.eq_false_iff.mpr c17
                      subst c17
                      have H1 : (if (a0_1.size : Int) ≤ 200 then (if (l0_2.length : Int) ≤ 30 then (some (decide ((l0_3.length : Int) ≤ 30))) else (some false)) else (some false)) = some r := by rw [if_neg (show ¬ (false = true) by decide)] at H; exact H
                      clear H
                      have H := H1
                      clear H1
                      by_cases c25 : (a0_1.size : Int) ≤ 200
                      · rw [if_pos c25] at H
                        have c25b0 : decide ((a0_1.size : Int) ≤ 200) = true := decide_eq_true c25
                        have c25b1 : decide (a0_1.size ≤ 200) = true := decide_eq_true (by omega)
                        clear c25
                        by_cases c26 : (l0_2.length : Int) ≤ 30
                        · rw [if_pos c26] at H
                          have c26b0 : decide ((l0_2.length : Int) ≤ 30) = true := decide_eq_true c26
                          have c26b1 : decide (l0_2.length ≤ 30) = true := decide_eq_true (by omega)
                          clear c26
                          obtain rfl := Option.some.inj H
                          have hcz27_0 : wc.cell? ⟨gb218, 0, none⟩ = some (.int .i64 a0_0) := (blk_cell BK218.out 0).trans rfl
                          have hcz27_1 : wc.cell? ⟨gb218, 1, none⟩ = some (.string a0_1) := (blk_cell BK218.out 1).trans rfl
                          have hcz27_2 : wc.cell? ⟨gb218, 2, none⟩ = some (.slice A0_2 l0_2.length c0_2) := (blk_cell BK218.out 2).trans rfl
                          have hcz27_3 : wc.cell? ⟨gb218, 3, none⟩ = some (.slice A0_3 l0_3.length c0_3) := (blk_cell BK218.out 3).trans rfl
                          have hfz27_0 := blk_frozen BK218.out 0
                          have hfz27_1 := blk_frozen BK218.out 1
                          have hfz27_2 := blk_frozen BK218.out 2
                          have hfz27_3 := blk_frozen BK218.out 3
                          go_wp2
                          go_ret
                          exact ⟨by first | rfl | (simp [errW_none, errW_some] <;> rfl) | (simp [*, errW_none, errW_some] <;> rfl), by repeat (first | (with_reducible first | exact HB.out | apply below_alloc | apply pw_below_drewN | apply below_drew1 | refine below_set ?_ GE218.out) | exact HB.out)⟩
                        · rw [if_neg c26] at H
                          have c26b0 : decide ((l0_2.length : Int) ≤ 30) = false := decide_eq_false c26
                          have c26b1 : decide (l0_2.length ≤ 30) = false := decide_eq_false (by omega)
                          clear c26
                          obtain rfl := Option.some.inj H
                          have hcz28_0 : wc.cell? ⟨gb218, 0, none⟩ = some (.int .i64 a0_0) := (blk_cell BK218.out 0).trans rfl
                          have hcz28_1 : wc.cell? ⟨gb218, 1, none⟩ = some (.string a0_1) := (blk_cell BK218.out 1).trans rfl
                          have hcz28_2 : wc.cell? ⟨gb218, 2, none⟩ = some (.slice A0_2 l0_2.length c0_2) := (blk_cell BK218.out 2).trans rfl
                          have hcz28_3 : wc.cell? ⟨gb218, 3, none⟩ = some (.slice A0_3 l0_3.length c0_3) := (blk_cell BK218.out 3).trans rfl
                          have hfz28_0 := blk_frozen BK218.out 0
                          have hfz28_1 := blk_frozen BK218.out 1
                          have hfz28_2 := blk_frozen BK218.out 2
                          have hfz28_3 := blk_frozen BK218.out 3
                          go_wp2
                          go_ret
                          exact ⟨by first | rfl | (simp [errW_none, errW_some] <;> rfl) | (simp [*, errW_none, errW_some] <;> rfl), by repeat (first | (with_reducible first | exact HB.out | apply below_alloc | apply pw_below_drewN | apply below_drew1 | refine below_set ?_ GE218.out) | exact HB.out)⟩
                      · rw [if_neg c25] at H
                        have c25b0 : decide ((a0_1.size : Int) ≤ 200) = false := decide_eq_false c25
                        have c25b1 : decide (a0_1.size ≤ 200) = false := decide_eq_false (by omega)
                        clear c25
                        obtain rfl := Option.some.inj H
                        have hcz29_0 : wc.cell? ⟨gb218, 0, none⟩ = some (.int .i64 a0_0) := (blk_cell BK218.out 0).trans rfl
                        have hcz29_1 : wc.cell? ⟨gb218, 1, none⟩ = some (.string a0_1) := (blk_cell BK218.out 1).trans rfl
                        have hcz29_2 : wc.cell? ⟨gb218, 2, none⟩ = some (.slice A0_2 l0_2.length c0_2) := (blk_cell BK218.out 2).trans rfl
                        have hcz29_3 : wc.cell? ⟨gb218, 3, none⟩ = some (.slice A0_3 l0_3.length c0_3) := (blk_cell BK218.out 3).trans rfl
                        have hfz29_0 := blk_frozen BK218.out 0
                        have hfz29_1 := blk_frozen BK218.out 1
                        have hfz29_2 := blk_frozen BK218.out 2
                        have hfz29_3 := blk_frozen BK218.out 3
                        go_wp2
                        go_ret
                        exact ⟨by first | rfl | (simp [errW_none, errW_some] <;> rfl) | (simp [*, errW_none, errW_some] <;> rfl), by repeat (first | (with_reducible first | exact HB.out | apply below_alloc | apply pw_below_drewN | apply below_drew1 | refine below_set ?_ GE218.out) | exact HB.out)⟩
end Go.Proofs.Ytfaiplbogchgjaa.PA
end
