/- Texts of this claim, those that nothing needs left out: PAx3 PAx6. -/
import Derived.Test.YtfaiplbogchgjaaBaG16
import Derived.Test.YtfaiplbogchgjaaBaG18
section
namespace Go.Proofs.Ytfaiplbogchgjaa.PA
open Go.RowKit Go.Proofs.YtfaiplbogchgjaaW.PrintWords Go.Proofs.YtfaiplbogchgjaaW.PrintLast Go.Proofs.YtfaiplbogchgjaaW.PrintMore
attribute [local go_sem] max2_int min2_int max_two min_two max_three min_three max_four min_four   -- for this text's walks alone
set_option linter.unusedVariables false
set_option linter.unusedSimpArgs false
def value_Canon.f (k : Nat) (a0_0 : Int) (a0_1 : ByteArray) (l0_2 : List ByteArray) (l0_3 : List (S50)) : Option (Int × ByteArray × List ByteArray × (List (S50))) := (value_Texts.f k a0_0 a0_1 l0_2 l0_3).bind fun t122 => ((value_Of.f a0_0 t122).bind fun bt125 => (some (bt125.1, bt125.2.1, bt125.2.2.1, bt125.2.2.2.1)))
def value_Canon.T1 : Bool × List (List Nat × List Nat) := (true, [([], []), ([0], [0]), ([], []), ([2], [2]), ([1, 3, 3], [1, 3]), ([4], [4]), ([5], [5]), ([5], [5]), ([], []), ([8, 6, 4, 0, 1, 2, 3, 4, 5, 6, 8], [6, 8]), ([7, 9, 0, 1, 2, 3, 4, 5, 6, 7, 8, 9], [7])])
def value_Canon.B1 : List Nat := [0, 1, 0, 4, 15, 31, 63, 63, 0, 383, 1023]
theorem value_Canon.tab1 : rtab .any (opsOf Try.f39 1) = value_Canon.T1 := by kernel_rfl
theorem value_Canon.bits1 : waitsOk value_Canon.T1.2 value_Canon.B1 = true := by kernel_rfl
set_option maxHeartbeats 8000000 in
set_option maxRecDepth 100000 in
theorem value_Canon.calls (k : Nat) (a0_0 : Int) (a0_1 : ByteArray) (A0_2 : Option Addr) (c0_2 : Nat) (l0_2 : List ByteArray) (A0_3 : Option Addr) (c0_3 : Nat) (l0_3 : List (S50)) (r1 : Int) (r2 : ByteArray) (r3 : List ByteArray) (r4 : List (S50)) (w : World) (hr0_2 : Kd.C Kd.string w A0_2 l0_2.length l0_2) (hc0_2 : l0_2.length ≤ c0_2) (hr0_3 : Kd.C k50 w A0_3 l0_3.length l0_3) (hc0_3 : l0_3.length ≤ c0_3) (h : value_Canon.f k a0_0 a0_1 l0_2 l0_3 = some (r1, r2, r3, r4)) :
    Calls Try.prog 39 #[.agg #[.int .i64 a0_0, .string a0_1, .slice A0_2 l0_2.length c0_2, .slice A0_3 l0_3.length c0_3]] w fun e w' => ∃ v2_ v3_ : Value, e = .returned (.agg #[.int .i64 r1, .string r2, v2_, v3_]) ∧ Kd.R Kd.string 9 w' w.heap.size (fun _ => True) v2_ r3 ∧ Kd.R k50 50 w' w.heap.size (fun _ => True) v3_ r4 ∧ Below w.heap.size w w' := by
  have hu28 := Try.underlying28
  have HR0_2 := Aside0.mk hr0_2
  have HC0_2 := Aside0.mk hc0_2
  clear hr0_2 hc0_2
  have HR0_3 := Aside0.mk hr0_3
  have HC0_3 := Aside0.mk hc0_3
  clear hr0_3 hc0_3
  have HB := Aside0.mk (Below.refl w.heap.size w)
  have H : ((value_Texts.f k a0_0 a0_1 l0_2 l0_3).bind fun t122 => ((value_Of.f a0_0 t122).bind fun bt125 => (some (bt125.1, bt125.2.1, bt125.2.2.1, bt125.2.2.2.1)))) = some (r1, r2, r3, r4) := h
  clear h
  replace H := Option.bind_eq_some_iff.mp H
  obtain ⟨t122, A20, H⟩ := H
  replace H : ((value_Of.f a0_0 t122).bind fun bt125 => (some (bt125.1, bt125.2.1, bt125.2.2.1, bt125.2.2.2.1))) = some (r1, r2, r3, r4) := H
  have A2 := Aside0.mk A20
  clear A20
  replace H := Option.bind_eq_some_iff.mp H
  obtain ⟨⟨t125, t126, t127, t130, t133⟩, A30, H⟩ := H
  replace H : (some (t125, t126, t127, t130)) = some (r1, r2, r3, r4) := H
  have A3 := Aside0.mk A30
  clear A30
  simp only [Option.some.injEq, Prod.mk.injEq] at H
  obtain ⟨rfl, rfl, rfl, rfl⟩ := H
  go_enter Try.func39, Try.ntmps39
  try go_wp2_with (first | ((with_reducible refine gate_dst (N := 1) rfl ?_); refine box_event ?hg (N := 1) ?hd (cs := #[.int .i64 a0_0, .string a0_1, .slice A0_2 l0_2.length c0_2, .slice A0_3 l0_3.length c0_3]) (t := 28) ?hr ?_; (case hd => rfl); (case hg => rfl); (case hr => first | (go_simp; done) | (go_simp; rfl)); intro gb120 hg w4 hbox hb; have n0_ := Aside0.mk (below_step (by repeat (first | (with_reducible first | exact HB.out | apply below_alloc | apply pw_below_drewN | apply below_drew1) | exact HB.out)) hb); have n1_ := Aside0.mk (hbox); have n2_ := Aside0.mk ((by rw [hg]; exact (below_size (by repeat (first | (with_reducible first | exact HB.out | apply below_alloc | apply pw_below_drewN | apply below_drew1) | exact HB.out))) : w.heap.size ≤ gb120)); have n3_ := Aside0.mk ((by rw [hg]; exact (below_size (by repeat (first | (with_reducible first | exact HB.out | apply below_alloc | apply pw_below_drewN | apply below_drew1) | exact HB.out))) : w.heap.size ≤ gb120)); clear HB; have HB := n0_; have BK120 := n1_; have GW120 := n2_; have GE120 := n3_; clear n0_ n1_ n2_ n3_; clear hb hbox hg) | ((with_reducible refine gate_dst (N := 2) rfl ?_); refine box_event ?hg (N := 2) ?hd (cs := #[.int .i64 0, .string (⟨#[]⟩ : ByteArray), .slice none 0 0, .slice none 0 0]) (t := 28) ?hr ?_; (case hd => rfl); (case hg => rfl); (case hr => first | (go_simp; done) | (go_simp; rfl)); intro gb121 hg w5 hbox hb; have n0_ := Aside0.mk (blk_below (g := gb120) (o := .cells #[.int .i64 a0_0, .string a0_1, .slice A0_2 l0_2.length c0_2, .slice A0_3 l0_3.length c0_3] 28 (0, 0)) (by (with_reducible repeat (first | refine blk_drewN ?_ _ | refine blk_drew ?_ | refine blk_alloc ?_ _)); exact BK120.out) hb); have n1_ := Aside0.mk (below_step (by repeat (first | (with_reducible first | exact HB.out | apply below_alloc | apply pw_below_drewN | apply below_drew1 | refine below_set ?_ GE120.out) | exact HB.out)) hb); have n2_ := Aside0.mk (hbox); have n3_ := Aside0.mk ((by rw [hg]; exact (below_size (by repeat (first | (with_reducible first | exact HB.out | apply below_alloc | apply pw_below_drewN | apply below_drew1 | refine below_set ?_ GE120.out) | exact HB.out))) : w.heap.size ≤ gb121)); have n4_ := Aside0.mk ((by rw [hg]; exact (below_size (by repeat (first | (with_reducible first | exact HB.out | apply below_alloc | apply pw_below_drewN | apply below_drew1 | refine below_set ?_ GE120.out) | exact HB.out))) : w.heap.size ≤ gb121)); have n5_ := Aside0.mk ((by rw [hg]; exact Nat.ne_of_lt (blk_lt (g := gb120) (o := .cells #[.int .i64 a0_0, .string a0_1, .slice A0_2 l0_2.length c0_2, .slice A0_3 l0_3.length c0_3] 28 (0, 0)) (by (with_reducible repeat (first | refine blk_drewN ?_ _ | refine blk_drew ?_ | refine blk_alloc ?_ _)); exact BK120.out)) : gb120 ≠ gb121)); have n6_ := Aside0.mk ((by rw [hg]; exact Nat.ne_of_gt (blk_lt (g := gb120) (o := .cells #[.int .i64 a0_0, .string a0_1, .slice A0_2 l0_2.length c0_2, .slice A0_3 l0_3.length c0_3] 28 (0, 0)) (by (with_reducible repeat (first | refine blk_drewN ?_ _ | refine blk_drew ?_ | refine blk_alloc ?_ _)); exact BK120.out)) : gb121 ≠ gb120)); clear BK120; clear HB; have BK120 := n0_; have HB := n1_; have BK121 := n2_; have GW121 := n3_; have GE121 := n4_; have NB120_121 := n5_; have NB121_120 := n6_; clear n0_ n1_ n2_ n3_ n4_ n5_ n6_; clear hb hbox hg))
  have n0_ := Aside0.mk (blk_drew BK120.out)
  have n1_ := Aside0.mk (blk_drew BK121.out)
  have n2_ := Aside0.mk (below_drew1 HB.out)
  clear BK120
  clear BK121
  clear HB
  have BK120 := n0_
  have BK121 := n1_
  have HB := n2_
  clear n0_ n1_ n2_
  refine start_ (n := 11) (S := fun w' => w'.cell? ⟨gb120, 0, none⟩ = some (.int .i64 a0_0) ∧ w'.cell? ⟨gb120, 1, none⟩ = some (.string a0_1) ∧ w'.cell? ⟨gb120, 2, none⟩ = some (.slice A0_2 l0_2.length c0_2) ∧ w'.cell? ⟨gb120, 3, none⟩ = some (.slice A0_3 l0_3.length c0_3)) (ds := []) #[false, false, false, false, false, false, false, false, false, false, false] (by kernel_rfl) rfl rfl ⟨(blk_cell BK120.out 0).trans rfl, (blk_cell BK120.out 1).trans rfl, (blk_cell BK120.out 2).trans rfl, (blk_cell BK120.out 3).trans rfl⟩ (fun hHeld => ?_); refine with_tabW value_Canon.tab1 value_Canon.bits1 (fun HT_ HW_ => ?_)
  generalize w5.drew = w6 at BK120 BK121 HB hHeld ⊢
  refine pure_ (i := 0) (N := some 6) (v := ?_) (a' := ?_) #[true, false, false, false, false, false, false, false, false, false, false] rfl rfl (any_of HT_.out (by kernel_rfl)) (fun _ _ _ h => h) (Or.inl ⟨by rfl, ?_⟩) ?_ ?_
  rotate_left
  · intro w'
    go_simp
    with_reducible rfl
  rotate_left
  · simp only [Act.put, List.setIfInBounds_toArray, List.set_cons_zero, List.set_cons_succ, i64_w, i32_w]
    rfl
  refine take_ (i := 1) (N := some 7) (v := ?_) (a' := ?_) #[true, true, false, false, false, false, false, false, false, false, false] rfl rfl (take_ofW HT_.out HW_.out (by kernel_rfl)) (fun _ _ _ h => h) (Or.inl ⟨by rfl, ?_⟩) hHeld ?_ ?_
  rotate_left
  · rintro w' ⟨s0, s1, s2, s3⟩
    go_simp
    with_reducible rfl
  rotate_left
  · simp only [Act.put, List.setIfInBounds_toArray, List.set_cons_zero, List.set_cons_succ, i64_w, i32_w]
    rfl
  refine take_ (i := 2) (N := some 8) (v := ?_) (a' := ?_) #[true, true, true, false, false, false, false, false, false, false, false] rfl rfl (take_ofW HT_.out HW_.out (by kernel_rfl)) (fun _ _ _ h => h) (Or.inl ⟨by rfl, ?_⟩) hHeld ?_ ?_
  rotate_left
  · rintro w' ⟨s0, s1, s2, s3⟩
    go_simp
    with_reducible rfl
  rotate_left
  · simp only [Act.put, List.setIfInBounds_toArray, List.set_cons_zero, List.set_cons_succ, i64_w, i32_w]
    rfl
  refine join_ (σ := Value × Value × Value × Nat) 2 #[true, true, true, true, true, true, true, true, true, false, false] (fun s_ => [(9, s_.1), (10, .tuple #[.agg #[.int .i64 t125, .string t126, s_.2.1, s_.2.2.1], .bool t133]), (3, .pointer (some ⟨s_.2.2.2, 0, none⟩)), (5, .tuple #[.agg #[.int .i64 t125, .string t126, s_.2.1, s_.2.2.1], .bool t133]), (11, .agg #[.int .i64 t125, .string t126, s_.2.1, s_.2.2.1]), (12, .bool t133)]) (fun s_ w' => (w'.cell? ⟨gb120, 0, none⟩ = some (.int .i64 a0_0) ∧ w'.cell? ⟨gb120, 1, none⟩ = some (.string a0_1) ∧ w'.cell? ⟨gb120, 2, none⟩ = some (.slice A0_2 l0_2.length c0_2) ∧ w'.cell? ⟨gb120, 3, none⟩ = some (.slice A0_3 l0_3.length c0_3)) ∧ (Kd.R Kd.string 9 w' w.heap.size (fun k_ => some k_ ≠ (s_.2.1 : Value).ownBlock) s_.1 t122) ∧ (Kd.R Kd.string 9 w' w.heap.size (fun k_ => some k_ ≠ (s_.1 : Value).ownBlock) s_.2.1 t127) ∧ (Kd.R k50 50 w' w.heap.size (fun _ => True) s_.2.2.1 t130) ∧ (w'.heap[gb120]? = some (.cells #[.int .i64 a0_0, .string a0_1, .slice A0_2 l0_2.length c0_2, .slice A0_3 l0_3.length c0_3] 28 (0, 0))) ∧ (w'.heap[gb121]? = some (.cells #[.int .i64 0, .string (⟨#[]⟩ : ByteArray), .slice none 0 0, .slice none 0 0] 28 (0, 0))) ∧ (w'.heap[s_.2.2.2]? = some (.cells #[.int .i64 0, .string (⟨#[]⟩ : ByteArray), .slice none 0 0, .slice none 0 0] 28 (0, 0))) ∧ (w.heap.size ≤ s_.2.2.2) ∧ (w.heap.size ≤ s_.2.2.2) ∧ (gb120 ≠ s_.2.2.2) ∧ (s_.2.2.2 ≠ gb120) ∧ (gb121 ≠ s_.2.2.2) ∧ (s_.2.2.2 ≠ gb121) ∧ (Below w.heap.size w w')) ?_ ?_
  rotate_left
  · intro hCont
    refine two_ (i := 3) (j := 8) (Ni := some 9) (Nj := some 3) #[true, true, true, true, false, false, false, false, false, false, false] #[true, true, true, false, false, false, false, false, true, false, false] rfl rfl rfl rfl (two_of HT_.out (by kernel_rfl)) (by decide) (by decide) (fun K hK => ?_) (fun K hK => ?_)
    · skip
      refine goes_ Try.func47 (by kernel_rfl) rfl #[.agg #[.int .i64 a0_0, .string a0_1, .slice A0_2 l0_2.length c0_2, .slice A0_3 l0_3.length c0_3]] (by rfl) rfl rfl (by (try simp only [List.map_toArray, List.map_cons, List.map_nil]); first | done | rfl | (simp only [List.length_drop, List.length_take]; rfl)) ?_
      with_reducible refine (value_Texts.calls k a0_0 a0_1 _ _ l0_2 _ _ l0_3 t122 _ ?side1 ?side2 ?side3 ?side4 A2.out).mono ?_
      (case side1 => repeat (first | exact (Kd.C_below HR0_2.out HB.out) | (with_reducible refine Kd.C_alloc ?_ _) | (with_reducible refine Kd.C_drewN ?_ _) | (with_reducible refine Kd.C_drew ?_)))
      (case side2 => exact HC0_2.out)
      (case side3 => repeat (first | exact (Kd.C_below HR0_3.out HB.out) | (with_reducible refine Kd.C_alloc ?_ _) | (with_reducible refine Kd.C_drewN ?_ _) | (with_reducible refine Kd.C_drew ?_)))
      (case side4 => exact HC0_3.out)
      rintro e w7 ⟨v123, rfl, ho0, hb⟩
      refine ⟨_, rfl, ?_⟩
      have n0_ := Aside0.mk (Kd.R_lower ho0 (below_size (by repeat (first | (with_reducible first | exact HB.out | apply below_alloc | apply pw_below_drewN | apply below_drew1 | refine below_set ?_ GE120.out | refine below_set ?_ GE121.out) | exact HB.out))))
      have n1_ := Aside0.mk (blk_below (g := gb120) (o := .cells #[.int .i64 a0_0, .string a0_1, .slice A0_2 l0_2.length c0_2, .slice A0_3 l0_3.length c0_3] 28 (0, 0)) (by (with_reducible repeat (first | refine blk_drewN ?_ _ | refine blk_drew ?_ | refine blk_alloc ?_ _)); exact BK120.out) hb)
      have n2_ := Aside0.mk (blk_below (g := gb121) (o := .cells #[.int .i64 0, .string (⟨#[]⟩ : ByteArray), .slice none 0 0, .slice none 0 0] 28 (0, 0)) (by (with_reducible repeat (first | refine blk_drewN ?_ _ | refine blk_drew ?_ | refine blk_alloc ?_ _)); exact BK121.out) hb)
      have n3_ := Aside0.mk (below_step (by repeat (first | (with_reducible first | exact HB.out | apply below_alloc | apply pw_below_drewN | apply below_drew1 | refine below_set ?_ GE120.out | refine below_set ?_ GE121.out) | exact HB.out)) hb)
      clear BK120
      clear BK121
      clear HB
      have HO124 := n0_
      have BK120 := n1_
      have BK121 := n2_
      have HB := n3_
      clear n0_ n1_ n2_ n3_
      (try clear hb)
      (try clear hb2)
      (try clear hk)
      (try clear hi)
      (try clear ho0)
      obtain ⟨Ao8, co8, eo8⟩ := Kd.R_slice HO124.out
      (first | subst eo8 | (injection eo8 with f1_ f2_ f3_; have f4_ := f1_.symm; have f5_ := f3_.symm; clear f1_ f2_ f3_; subst f4_; subst f5_))
      refine hK.out _ _ ⟨(blk_cell BK120.out 0).trans rfl, (blk_cell BK120.out 1).trans rfl, (blk_cell BK120.out 2).trans rfl, (blk_cell BK120.out 3).trans rfl⟩ (fun hHeld => ?_)
      clear hK K
      refine norm_ (a' := ?_) ?_ ?_
      rotate_left
      · show Act.put _ (some 9) _ = _
        simp only [Act.put, List.setIfInBounds_toArray, List.set_cons_zero, List.set_cons_succ, i64_w, i32_w]
        rfl
      refine two_ (i := 4) (j := 8) (Ni := some 10) (Nj := some 3) #[true, true, true, true, true, false, false, false, false, false, false] #[true, true, true, true, false, false, false, false, true, false, false] rfl rfl rfl rfl (two_of HT_.out (by kernel_rfl)) (by decide) (by decide) (fun K hK => ?_) (fun K hK => ?_)
      · skip
        refine goes_ Try.func48 (by kernel_rfl) rfl #[.int .i64 a0_0, .slice Ao8 t122.length co8] (by rfl) rfl rfl (by (try simp only [List.map_toArray, List.map_cons, List.map_nil]); first | done | rfl | (simp only [List.length_drop, List.length_take]; rfl)) ?_
        with_reducible refine (value_Of.calls a0_0 _ _ t122 t125 t126 t127 t130 t133 _ ?side1 ?side2 A3.out).mono ?_
        (case side1 => repeat (first | exact (Kd.R_reads' HO124.out).2.2 | (with_reducible refine Kd.C_alloc ?_ _) | (with_reducible refine Kd.C_drewN ?_ _) | (with_reducible refine Kd.C_drew ?_)))
        (case side2 => exact (Kd.R_reads' HO124.out).2.1)
        rintro e w9 ⟨v128, v131, rfl, ho0, ho1, hb⟩
        refine ⟨_, rfl, ?_⟩
        have n0_ := Aside0.mk (Kd.R_elder' (by (with_reducible repeat (first | apply Kd.R_alloc | apply Kd.R_drewN | apply Kd.R_drew)); exact HO124.out) (Kd.R_base ho0) hb)
        have n1_ := Aside0.mk (Kd.R_lower (Kd.R_new' ho0 (Kd.R_lt (by (with_reducible repeat (first | apply Kd.R_alloc | apply Kd.R_drewN | apply Kd.R_drew)); exact HO124.out))) (below_size (by repeat (first | (with_reducible first | exact HB.out | apply below_alloc | apply pw_below_drewN | apply below_drew1 | refine below_set ?_ GE120.out | refine below_set ?_ GE121.out) | exact HB.out))))
        have n2_ := Aside0.mk (Kd.R_lower ho1 (below_size (by repeat (first | (with_reducible first | exact HB.out | apply below_alloc | apply pw_below_drewN | apply below_drew1 | refine below_set ?_ GE120.out | refine below_set ?_ GE121.out) | exact HB.out))))
        have n3_ := Aside0.mk (blk_below (g := gb120) (o := .cells #[.int .i64 a0_0, .string a0_1, .slice A0_2 l0_2.length c0_2, .slice A0_3 l0_3.length c0_3] 28 (0, 0)) (by (with_reducible repeat (first | refine blk_drewN ?_ _ | refine blk_drew ?_ | refine blk_alloc ?_ _)); exact BK120.out) hb)
        have n4_ := Aside0.mk (blk_below (g := gb121) (o := .cells #[.int .i64 0, .string (⟨#[]⟩ : ByteArray), .slice none 0 0, .slice none 0 0] 28 (0, 0)) (by (with_reducible repeat (first | refine blk_drewN ?_ _ | refine blk_drew ?_ | refine blk_alloc ?_ _)); exact BK121.out) hb)
        have n5_ := Aside0.mk (below_step (by repeat (first | (with_reducible first | exact HB.out | apply below_alloc | apply pw_below_drewN | apply below_drew1 | refine below_set ?_ GE120.out | refine below_set ?_ GE121.out) | exact HB.out)) hb)
        clear HO124
        clear BK120
        clear BK121
        clear HB
        have HO124 := n0_
        have HO129 := n1_
        have HO132 := n2_
        have BK120 := n3_
        have BK121 := n4_
        have HB := n5_
        clear n0_ n1_ n2_ n3_ n4_ n5_
        (try clear hb)
        (try clear hb2)
        (try clear hk)
        (try clear hi)
        (try clear ho0)
        (try clear ho1)
        refine hK.out _ _ ⟨(blk_cell BK120.out 0).trans rfl, (blk_cell BK120.out 1).trans rfl, (blk_cell BK120.out 2).trans rfl, (blk_cell BK120.out 3).trans rfl⟩ (fun hHeld => ?_)
        clear hK K
        refine norm_ (a' := ?_) ?_ ?_
        rotate_left
        · show Act.put _ (some 10) _ = _
          simp only [Act.put, List.setIfInBounds_toArray, List.set_cons_zero, List.set_cons_succ, i64_w, i32_w]
          rfl
        refine pure_ (i := 5) (N := some 5) (v := ?_) (a' := ?_) #[true, true, true, true, true, true, false, false, false, false, false] rfl rfl (any_of HT_.out (by kernel_rfl)) (fun _ _ _ h => h) (Or.inl ⟨by rfl, ?_⟩) ?_ ?_
        rotate_left
        · intro w'
          go_simp
          with_reducible rfl
        rotate_left
        · simp only [Act.put, List.setIfInBounds_toArray, List.set_cons_zero, List.set_cons_succ, i64_w, i32_w]
          rfl
        refine pure_ (i := 6) (N := some 11) (v := ?_) (a' := ?_) #[true, true, true, true, true, true, true, false, false, false, false] rfl rfl (any_of HT_.out (by kernel_rfl)) (fun _ _ _ h => h) (Or.inl ⟨by rfl, ?_⟩) ?_ ?_
        rotate_left
        · intro w'
          go_simp
          with_reducible rfl
        rotate_left
        · simp only [Act.put, List.setIfInBounds_toArray, List.set_cons_zero, List.set_cons_succ, i64_w, i32_w]
          rfl
        refine pure_ (i := 7) (N := some 12) (v := ?_) (a' := ?_) #[true, true, true, true, true, true, true, true, false, false, false] rfl rfl (any_of HT_.out (by kernel_rfl)) (fun _ _ _ h => h) (Or.inl ⟨by rfl, ?_⟩) ?_ ?_
        rotate_left
        · intro w'
          go_simp
          with_reducible rfl
        rotate_left
        · simp only [Act.put, List.setIfInBounds_toArray, List.set_cons_zero, List.set_cons_succ, i64_w, i32_w]
          rfl
        refine one_ (i := 8) (N := some 3) #[true, true, true, true, true, true, true, true, true, false, false] rfl rfl (one_of HT_.out (by kernel_rfl)) (by decide) (fun K hK => ?_)
        refine box_step ?hg (N := 3) ?hd (cs := #[.int .i64 0, .string (⟨#[]⟩ : ByteArray), .slice none 0 0, .slice none 0 0]) (t := 28) ?hr ?_; (case hd => rfl); (case hg => rfl); (case hr => first | (go_simp; done) | (go_simp; rfl))
        intro gb134 hg w10 hbox hb
        have n0_ := Aside0.mk (Kd.R_below (by (with_reducible repeat (first | apply Kd.R_alloc | apply Kd.R_drewN | apply Kd.R_drew)); exact HO124.out) hb)
        have n1_ := Aside0.mk (Kd.R_below (by (with_reducible repeat (first | apply Kd.R_alloc | apply Kd.R_drewN | apply Kd.R_drew)); exact HO129.out) hb)
        have n2_ := Aside0.mk (Kd.R_below (by (with_reducible repeat (first | apply Kd.R_alloc | apply Kd.R_drewN | apply Kd.R_drew)); exact HO132.out) hb)
        have n3_ := Aside0.mk (blk_below (g := gb120) (o := .cells #[.int .i64 a0_0, .string a0_1, .slice A0_2 l0_2.length c0_2, .slice A0_3 l0_3.length c0_3] 28 (0, 0)) (by (with_reducible repeat (first | refine blk_drewN ?_ _ | refine blk_drew ?_ | refine blk_alloc ?_ _)); exact BK120.out) hb)
        have n4_ := Aside0.mk (blk_below (g := gb121) (o := .cells #[.int .i64 0, .string (⟨#[]⟩ : ByteArray), .slice none 0 0, .slice none 0 0] 28 (0, 0)) (by (with_reducible repeat (first | refine blk_drewN ?_ _ | refine blk_drew ?_ | refine blk_alloc ?_ _)); exact BK121.out) hb)
        have n5_ := Aside0.mk (below_step (by repeat (first | (with_reducible first | exact HB.out | apply below_alloc | apply pw_below_drewN | apply below_drew1 | refine below_set ?_ GE120.out | refine below_set ?_ GE121.out) | exact HB.out)) hb)
        have n6_ := Aside0.mk (hbox)
        have n7_ := Aside0.mk ((by rw [hg]; exact (below_size (by repeat (first | (with_reducible first | exact HB.out | apply below_alloc | apply pw_below_drewN | apply below_drew1 | refine below_set ?_ GE120.out | refine below_set ?_ GE121.out) | exact HB.out))) : w.heap.size ≤ gb134))
        have n8_ := Aside0.mk ((by rw [hg]; exact (below_size (by repeat (first | (with_reducible first | exact HB.out | apply below_alloc | apply pw_below_drewN | apply below_drew1 | refine below_set ?_ GE120.out | refine below_set ?_ GE121.out) | exact HB.out))) : w.heap.size ≤ gb134))
        have n9_ := Aside0.mk ((by rw [hg]; exact Nat.ne_of_lt (blk_lt (g := gb120) (o := .cells #[.int .i64 a0_0, .string a0_1, .slice A0_2 l0_2.length c0_2, .slice A0_3 l0_3.length c0_3] 28 (0, 0)) (by (with_reducible repeat (first | refine blk_drewN ?_ _ | refine blk_drew ?_ | refine blk_alloc ?_ _)); exact BK120.out)) : gb120 ≠ gb134))
        have n10_ := Aside0.mk ((by rw [hg]; exact Nat.ne_of_gt (blk_lt (g := gb120) (o := .cells #[.int .i64 a0_0, .string a0_1, .slice A0_2 l0_2.length c0_2, .slice A0_3 l0_3.length c0_3] 28 (0, 0)) (by (with_reducible repeat (first | refine blk_drewN ?_ _ | refine blk_drew ?_ | refine blk_alloc ?_ _)); exact BK120.out)) : gb134 ≠ gb120))
        have n11_ := Aside0.mk ((by rw [hg]; exact Nat.ne_of_lt (blk_lt (g := gb121) (o := .cells #[.int .i64 0, .string (⟨#[]⟩ : ByteArray), .slice none 0 0, .slice none 0 0] 28 (0, 0)) (by (with_reducible repeat (first | refine blk_drewN ?_ _ | refine blk_drew ?_ | refine blk_alloc ?_ _)); exact BK121.out)) : gb121 ≠ gb134))
        have n12_ := Aside0.mk ((by rw [hg]; exact Nat.ne_of_gt (blk_lt (g := gb121) (o := .cells #[.int .i64 0, .string (⟨#[]⟩ : ByteArray), .slice none 0 0, .slice none 0 0] 28 (0, 0)) (by (with_reducible repeat (first | refine blk_drewN ?_ _ | refine blk_drew ?_ | refine blk_alloc ?_ _)); exact BK121.out)) : gb134 ≠ gb121))
        clear HO124
        clear HO129
        clear HO132
        clear BK120
        clear BK121
        clear HB
        have HO124 := n0_
        have HO129 := n1_
        have HO132 := n2_
        have BK120 := n3_
        have BK121 := n4_
        have HB := n5_
        have BK134 := n6_
        have GW134 := n7_
        have GE134 := n8_
        have NB120_134 := n9_
        have NB134_120 := n10_
        have NB121_134 := n11_
        have NB134_121 := n12_
        clear n0_ n1_ n2_ n3_ n4_ n5_ n6_ n7_ n8_ n9_ n10_ n11_ n12_
        clear hb hbox hg
        refine hK.out _ _ ⟨(blk_cell BK120.out 0).trans rfl, (blk_cell BK120.out 1).trans rfl, (blk_cell BK120.out 2).trans rfl, (blk_cell BK120.out 3).trans rfl⟩ (fun hHeld => ?_)
        clear hK K
        refine norm_ (a' := ?_) ?_ ?_
        rotate_left
        · show Act.put _ (some 3) _ = _
          simp only [Act.put, List.setIfInBounds_toArray, List.set_cons_zero, List.set_cons_succ, i64_w, i32_w]
          rfl
        exact norm_ (by simp only [putAll, Act.put, List.setIfInBounds_toArray, List.set_cons_zero, List.set_cons_succ]) (hCont (.slice Ao8 t122.length co8, v128, v131, gb134) _ ⟨hHeld, (by (with_reducible repeat (first | apply Kd.R_alloc | apply Kd.R_drewN | apply Kd.R_drew)); exact Kd.R_mono HO124.out (fun _ hk => hk.2)), (by (with_reducible repeat (first | apply Kd.R_alloc | apply Kd.R_drewN | apply Kd.R_drew)); exact Kd.R_mono HO129.out (fun _ hk => hk.2)), (by (with_reducible repeat (first | apply Kd.R_alloc | apply Kd.R_drewN | apply Kd.R_drew)); exact HO132.out), (by (with_reducible repeat (first | refine blk_drewN ?_ _ | refine blk_drew ?_ | refine blk_alloc ?_ _)); exact BK120.out), (by (with_reducible repeat (first | refine blk_drewN ?_ _ | refine blk_drew ?_ | refine blk_alloc ?_ _)); exact BK121.out), (by (with_reducible repeat (first | refine blk_drewN ?_ _ | refine blk_drew ?_ | refine blk_alloc ?_ _)); exact BK134.out), GW134.out, GE134.out, NB120_134.out, NB134_120.out, NB121_134.out, NB134_121.out, (by repeat (first | (with_reducible first | exact HB.out | apply below_alloc | apply pw_below_drewN | apply below_drew1 | refine below_set ?_ GE120.out | refine below_set ?_ GE121.out | refine below_set ?_ GE134.out) | exact HB.out))⟩)
      · skip
        refine box_step ?hg (N := 3) ?hd (cs := #[.int .i64 0, .string (⟨#[]⟩ : ByteArray), .slice none 0 0, .slice none 0 0]) (t := 28) ?hr ?_; (case hd => rfl); (case hg => rfl); (case hr => first | (go_simp; done) | (go_simp; rfl))
        intro gb134 hg w8 hbox hb
        have n0_ := Aside0.mk (Kd.R_below (by (with_reducible repeat (first | apply Kd.R_alloc | apply Kd.R_drewN | apply Kd.R_drew)); exact HO124.out) hb)
        have n1_ := Aside0.mk (blk_below (g := gb120) (o := .cells #[.int .i64 a0_0, .string a0_1, .slice A0_2 l0_2.length c0_2, .slice A0_3 l0_3.length c0_3] 28 (0, 0)) (by (with_reducible repeat (first | refine blk_drewN ?_ _ | refine blk_drew ?_ | refine blk_alloc ?_ _)); exact BK120.out) hb)
        have n2_ := Aside0.mk (blk_below (g := gb121) (o := .cells #[.int .i64 0, .string (⟨#[]⟩ : ByteArray), .slice none 0 0, .slice none 0 0] 28 (0, 0)) (by (with_reducible repeat (first | refine blk_drewN ?_ _ | refine blk_drew ?_ | refine blk_alloc ?_ _)); exact BK121.out) hb)
        have n3_ := Aside0.mk (below_step (by repeat (first | (with_reducible first | exact HB.out | apply below_alloc | apply pw_below_drewN | apply below_drew1 | refine below_set ?_ GE120.out | refine below_set ?_ GE121.out) | exact HB.out)) hb)
        have n4_ := Aside0.mk (hbox)
        have n5_ := Aside0.mk ((by rw [hg]; exact (below_size (by repeat (first | (with_reducible first | exact HB.out | apply below_alloc | apply pw_below_drewN | apply below_drew1 | refine below_set ?_ GE120.out | refine below_set ?_ GE121.out) | exact HB.out))) : w.heap.size ≤ gb134))
        have n6_ := Aside0.mk ((by rw [hg]; exact (below_size (by repeat (first | (with_reducible first | exact HB.out | apply below_alloc | apply pw_below_drewN | apply below_drew1 | refine below_set ?_ GE120.out | refine below_set ?_ GE121.out) | exact HB.out))) : w.heap.size ≤ gb134))
        have n7_ := Aside0.mk ((by rw [hg]; exact Nat.ne_of_lt (blk_lt (g := gb120) (o := .cells #[.int .i64 a0_0, .string a0_1, .slice A0_2 l0_2.length c0_2, .slice A0_3 l0_3.length c0_3] 28 (0, 0)) (by (with_reducible repeat (first | refine blk_drewN ?_ _ | refine blk_drew ?_ | refine blk_alloc ?_ _)); exact BK120.out)) : gb120 ≠ gb134))
        have n8_ := Aside0.mk ((by rw [hg]; exact Nat.ne_of_gt (blk_lt (g := gb120) (o := .cells #[.int .i64 a0_0, .string a0_1, .slice A0_2 l0_2.length c0_2, .slice A0_3 l0_3.length c0_3] 28 (0, 0)) (by (with_reducible repeat (first | refine blk_drewN ?_ _ | refine blk_drew ?_ | refine blk_alloc ?_ _)); exact BK120.out)) : gb134 ≠ gb120))
        have n9_ := Aside0.mk ((by rw [hg]; exact Nat.ne_of_lt (blk_lt (g := gb121) (o := .cells #[.int .i64 0, .string (⟨#[]⟩ : ByteArray), .slice none 0 0, .slice none 0 0] 28 (0, 0)) (by (with_reducible repeat (first | refine blk_drewN ?_ _ | refine blk_drew ?_ | refine blk_alloc ?_ _)); exact BK121.out)) : gb121 ≠ gb134))
        have n10_ := Aside0.mk ((by rw [hg]; exact Nat.ne_of_gt (blk_lt (g := gb121) (o := .cells #[.int .i64 0, .string (⟨#[]⟩ : ByteArray), .slice none 0 0, .slice none 0 0] 28 (0, 0)) (by (with_reducible repeat (first | refine blk_drewN ?_ _ | refine blk_drew ?_ | refine blk_alloc ?_ _)); exact BK121.out)) : gb134 ≠ gb121))
        clear HO124
        clear BK120
        clear BK121
        clear HB
        have HO124 := n0_
        have BK120 := n1_
        have BK121 := n2_
        have HB := n3_
        have BK134 := n4_
        have GW134 := n5_
        have GE134 := n6_
        have NB120_134 := n7_
        have NB134_120 := n8_
        have NB121_134 := n9_
        have NB134_121 := n10_
        clear n0_ n1_ n2_ n3_ n4_ n5_ n6_ n7_ n8_ n9_ n10_
        clear hb hbox hg
        obtain ⟨Ao9, co9, eo9⟩ := Kd.R_slice HO124.out
        (first | subst eo9 | (injection eo9 with f1_ f2_ f3_; have f4_ := f1_.symm; have f5_ := f3_.symm; clear f1_ f2_ f3_; subst f4_; subst f5_))
        refine hK.out _ _ ⟨(blk_cell BK120.out 0).trans rfl, (blk_cell BK120.out 1).trans rfl, (blk_cell BK120.out 2).trans rfl, (blk_cell BK120.out 3).trans rfl⟩ (fun hHeld => ?_)
        clear hK K
        refine norm_ (a' := ?_) ?_ ?_
        rotate_left
        · show Act.put _ (some 3) _ = _
          simp only [Act.put, List.setIfInBounds_toArray, List.set_cons_zero, List.set_cons_succ, i64_w, i32_w]
          rfl
        refine one_ (i := 4) (N := some 10) #[true, true, true, true, true, false, false, false, true, false, false] rfl rfl (one_of HT_.out (by kernel_rfl)) (by decide) (fun K hK => ?_)
        refine goes_ Try.func48 (by kernel_rfl) rfl #[.int .i64 a0_0, .slice Ao9 t122.length co9] (by rfl) rfl rfl (by (try simp only [List.map_toArray, List.map_cons, List.map_nil]); first | done | rfl | (simp only [List.length_drop, List.length_take]; rfl)) ?_
        with_reducible refine (value_Of.calls a0_0 _ _ t122 t125 t126 t127 t130 t133 _ ?side1 ?side2 A3.out).mono ?_
        (case side1 => repeat (first | exact (Kd.R_reads' HO124.out).2.2 | (with_reducible refine Kd.C_alloc ?_ _) | (with_reducible refine Kd.C_drewN ?_ _) | (with_reducible refine Kd.C_drew ?_)))
        (case side2 => exact (Kd.R_reads' HO124.out).2.1)
        rintro e w10 ⟨v128, v131, rfl, ho0, ho1, hb⟩
        refine ⟨_, rfl, ?_⟩
        have n0_ := Aside0.mk (Kd.R_elder' (by (with_reducible repeat (first | apply Kd.R_alloc | apply Kd.R_drewN | apply Kd.R_drew)); exact HO124.out) (Kd.R_base ho0) hb)
        have n1_ := Aside0.mk (Kd.R_lower (Kd.R_new' ho0 (Kd.R_lt (by (with_reducible repeat (first | apply Kd.R_alloc | apply Kd.R_drewN | apply Kd.R_drew)); exact HO124.out))) (below_size (by repeat (first | (with_reducible first | exact HB.out | apply below_alloc | apply pw_below_drewN | apply below_drew1 | refine below_set ?_ GE120.out | refine below_set ?_ GE121.out | refine below_set ?_ GE134.out) | exact HB.out))))
        have n2_ := Aside0.mk (Kd.R_lower ho1 (below_size (by repeat (first | (with_reducible first | exact HB.out | apply below_alloc | apply pw_below_drewN | apply below_drew1 | refine below_set ?_ GE120.out | refine below_set ?_ GE121.out | refine below_set ?_ GE134.out) | exact HB.out))))
        have n3_ := Aside0.mk (blk_below (g := gb120) (o := .cells #[.int .i64 a0_0, .string a0_1, .slice A0_2 l0_2.length c0_2, .slice A0_3 l0_3.length c0_3] 28 (0, 0)) (by (with_reducible repeat (first | refine blk_drewN ?_ _ | refine blk_drew ?_ | refine blk_alloc ?_ _)); exact BK120.out) hb)
        have n4_ := Aside0.mk (blk_below (g := gb121) (o := .cells #[.int .i64 0, .string (⟨#[]⟩ : ByteArray), .slice none 0 0, .slice none 0 0] 28 (0, 0)) (by (with_reducible repeat (first | refine blk_drewN ?_ _ | refine blk_drew ?_ | refine blk_alloc ?_ _)); exact BK121.out) hb)
        have n5_ := Aside0.mk (blk_below (g := gb134) (o := .cells #[.int .i64 0, .string (⟨#[]⟩ : ByteArray), .slice none 0 0, .slice none 0 0] 28 (0, 0)) (by (with_reducible repeat (first | refine blk_drewN ?_ _ | refine blk_drew ?_ | refine blk_alloc ?_ _)); exact BK134.out) hb)
        have n6_ := Aside0.mk (below_step (by repeat (first | (with_reducible first | exact HB.out | apply below_alloc | apply pw_below_drewN | apply below_drew1 | refine below_set ?_ GE120.out | refine below_set ?_ GE121.out | refine below_set ?_ GE134.out) | exact HB.out)) hb)
        clear HO124
        clear BK120
        clear BK121
        clear BK134
        clear HB
        have HO124 := n0_
        have HO129 := n1_
        have HO132 := n2_
        have BK120 := n3_
        have BK121 := n4_
        have BK134 := n5_
        have HB := n6_
        clear n0_ n1_ n2_ n3_ n4_ n5_ n6_
        (try clear hb)
        (try clear hb2)
        (try clear hk)
        (try clear hi)
        (try clear ho0)
        (try clear ho1)
        refine hK.out _ _ ⟨(blk_cell BK120.out 0).trans rfl, (blk_cell BK120.out 1).trans rfl, (blk_cell BK120.out 2).trans rfl, (blk_cell BK120.out 3).trans rfl⟩ (fun hHeld => ?_)
        clear hK K
        refine norm_ (a' := ?_) ?_ ?_
        rotate_left
        · show Act.put _ (some 10) _ = _
          simp only [Act.put, List.setIfInBounds_toArray, List.set_cons_zero, List.set_cons_succ, i64_w, i32_w]
          rfl
        refine pure_ (i := 5) (N := some 5) (v := ?_) (a' := ?_) #[true, true, true, true, true, true, false, false, true, false, false] rfl rfl (any_of HT_.out (by kernel_rfl)) (fun _ _ _ h => h) (Or.inl ⟨by rfl, ?_⟩) ?_ ?_
        rotate_left
        · intro w'
          go_simp
          with_reducible rfl
        rotate_left
        · simp only [Act.put, List.setIfInBounds_toArray, List.set_cons_zero, List.set_cons_succ, i64_w, i32_w]
          rfl
        refine pure_ (i := 6) (N := some 11) (v := ?_) (a' := ?_) #[true, true, true, true, true, true, true, false, true, false, false] rfl rfl (any_of HT_.out (by kernel_rfl)) (fun _ _ _ h => h) (Or.inl ⟨by rfl, ?_⟩) ?_ ?_
        rotate_left
        · intro w'
          go_simp
          with_reducible rfl
        rotate_left
        · simp only [Act.put, List.setIfInBounds_toArray, List.set_cons_zero, List.set_cons_succ, i64_w, i32_w]
          rfl
        refine pure_ (i := 7) (N := some 12) (v := ?_) (a' := ?_) #[true, true, true, true, true, true, true, true, true, false, false] rfl rfl (any_of HT_.out (by kernel_rfl)) (fun _ _ _ h => h) (Or.inl ⟨by rfl, ?_⟩) ?_ ?_
        rotate_left
        · intro w'
          go_simp
          with_reducible rfl
        rotate_left
        · simp only [Act.put, List.setIfInBounds_toArray, List.set_cons_zero, List.set_cons_succ, i64_w, i32_w]
          rfl
        exact norm_ (by simp only [putAll, Act.put, List.setIfInBounds_toArray, List.set_cons_zero, List.set_cons_succ]) (hCont (.slice Ao9 t122.length co9, v128, v131, gb134) _ ⟨hHeld, (by (with_reducible repeat (first | apply Kd.R_alloc | apply Kd.R_drewN | apply Kd.R_drew)); exact Kd.R_mono HO124.out (fun _ hk => hk.2)), (by (with_reducible repeat (first | apply Kd.R_alloc | apply Kd.R_drewN | apply Kd.R_drew)); exact Kd.R_mono HO129.out (fun _ hk => hk.2)), (by (with_reducible repeat (first | apply Kd.R_alloc | apply Kd.R_drewN | apply Kd.R_drew)); exact HO132.out), (by (with_reducible repeat (first | refine blk_drewN ?_ _ | refine blk_drew ?_ | refine blk_alloc ?_ _)); exact BK120.out), (by (with_reducible repeat (first | refine blk_drewN ?_ _ | refine blk_drew ?_ | refine blk_alloc ?_ _)); exact BK121.out), (by (with_reducible repeat (first | refine blk_drewN ?_ _ | refine blk_drew ?_ | refine blk_alloc ?_ _)); exact BK134.out), GW134.out, GE134.out, NB120_134.out, NB134_120.out, NB121_134.out, NB134_121.out, (by repeat (first | (with_reducible first | exact HB.out | apply below_alloc | apply pw_below_drewN | apply below_drew1 | refine below_set ?_ GE120.out | refine below_set ?_ GE121.out | refine below_set ?_ GE134.out) | exact HB.out))⟩)
    · skip
      refine box_step ?hg (N := 3) ?hd (cs := #[.int .i64 0, .string (⟨#[]⟩ : ByteArray), .slice none 0 0, .slice none 0 0]) (t := 28) ?hr ?_; (case hd => rfl); (case hg => rfl); (case hr => first | (go_simp; done) | (go_simp; rfl))
      intro gb134 hg w7 hbox hb
      have n0_ := Aside0.mk (blk_below (g := gb120) (o := .cells #[.int .i64 a0_0, .string a0_1, .slice A0_2 l0_2.length c0_2, .slice A0_3 l0_3.length c0_3] 28 (0, 0)) (by (with_reducible repeat (first | refine blk_drewN ?_ _ | refine blk_drew ?_ | refine blk_alloc ?_ _)); exact BK120.out) hb)
      have n1_ := Aside0.mk (blk_below (g := gb121) (o := .cells #[.int .i64 0, .string (⟨#[]⟩ : ByteArray), .slice none 0 0, .slice none 0 0] 28 (0, 0)) (by (with_reducible repeat (first | refine blk_drewN ?_ _ | refine blk_drew ?_ | refine blk_alloc ?_ _)); exact BK121.out) hb)
      have n2_ := Aside0.mk (below_step (by repeat (first | (with_reducible first | exact HB.out | apply below_alloc | apply pw_below_drewN | apply below_drew1 | refine below_set ?_ GE120.out | refine below_set ?_ GE121.out) | exact HB.out)) hb)
      have n3_ := Aside0.mk (hbox)
      have n4_ := Aside0.mk ((by rw [hg]; exact (below_size (by repeat (first | (with_reducible first | exact HB.out | apply below_alloc | apply pw_below_drewN | apply below_drew1 | refine below_set ?_ GE120.out | refine below_set ?_ GE121.out) | exact HB.out))) : w.heap.size ≤ gb134))
      have n5_ := Aside0.mk ((by rw [hg]; exact (below_size (by repeat (first | (with_reducible first | exact HB.out | apply below_alloc | apply pw_below_drewN | apply below_drew1 | refine below_set ?_ GE120.out | refine below_set ?_ GE121.out) | exact HB.out))) : w.heap.size ≤ gb134))
      have n6_ := Aside0.mk ((by rw [hg]; exact Nat.ne_of_lt (blk_lt (g := gb120) (o := .cells #[.int .i64 a0_0, .string a0_1, .slice A0_2 l0_2.length c0_2, .slice A0_3 l0_3.length c0_3] 28 (0, 0)) (by (with_reducible repeat (first | refine blk_drewN ?_ _ | refine blk_drew ?_ | refine blk_alloc ?_ _)); exact BK120.out)) : gb120 ≠ gb134))
      have n7_ := Aside0.mk ((by rw [hg]; exact Nat.ne_of_gt (blk_lt (g := gb120) (o := .cells #[.int .i64 a0_0, .string a0_1, .slice A0_2 l0_2.length c0_2, .slice A0_3 l0_3.length c0_3] 28 (0, 0)) (by (with_reducible repeat (first | refine blk_drewN ?_ _ | refine blk_drew ?_ | refine blk_alloc ?_ _)); exact BK120.out)) : gb134 ≠ gb120))
      have n8_ := Aside0.mk ((by rw [hg]; exact Nat.ne_of_lt (blk_lt (g := gb121) (o := .cells #[.int .i64 0, .string (⟨#[]⟩ : ByteArray), .slice none 0 0, .slice none 0 0] 28 (0, 0)) (by (with_reducible repeat (first | refine blk_drewN ?_ _ | refine blk_drew ?_ | refine blk_alloc ?_ _)); exact BK121.out)) : gb121 ≠ gb134))
      have n9_ := Aside0.mk ((by rw [hg]; exact Nat.ne_of_gt (blk_lt (g := gb121) (o := .cells #[.int .i64 0, .string (⟨#[]⟩ : ByteArray), .slice none 0 0, .slice none 0 0] 28 (0, 0)) (by (with_reducible repeat (first | refine blk_drewN ?_ _ | refine blk_drew ?_ | refine blk_alloc ?_ _)); exact BK121.out)) : gb134 ≠ gb121))
      clear BK120
      clear BK121
      clear HB
      have BK120 := n0_
      have BK121 := n1_
      have HB := n2_
      have BK134 := n3_
      have GW134 := n4_
      have GE134 := n5_
      have NB120_134 := n6_
      have NB134_120 := n7_
      have NB121_134 := n8_
      have NB134_121 := n9_
      clear n0_ n1_ n2_ n3_ n4_ n5_ n6_ n7_ n8_ n9_
      clear hb hbox hg
      refine hK.out _ _ ⟨(blk_cell BK120.out 0).trans rfl, (blk_cell BK120.out 1).trans rfl, (blk_cell BK120.out 2).trans rfl, (blk_cell BK120.out 3).trans rfl⟩ (fun hHeld => ?_)
      clear hK K
      refine norm_ (a' := ?_) ?_ ?_
      rotate_left
      · show Act.put _ (some 3) _ = _
        simp only [Act.put, List.setIfInBounds_toArray, List.set_cons_zero, List.set_cons_succ, i64_w, i32_w]
        rfl
      refine one_ (i := 3) (N := some 9) #[true, true, true, true, false, false, false, false, true, false, false] rfl rfl (one_of HT_.out (by kernel_rfl)) (by decide) (fun K hK => ?_)
      refine goes_ Try.func47 (by kernel_rfl) rfl #[.agg #[.int .i64 a0_0, .string a0_1, .slice A0_2 l0_2.length c0_2, .slice A0_3 l0_3.length c0_3]] (by rfl) rfl rfl (by (try simp only [List.map_toArray, List.map_cons, List.map_nil]); first | done | rfl | (simp only [List.length_drop, List.length_take]; rfl)) ?_
      with_reducible refine (value_Texts.calls k a0_0 a0_1 _ _ l0_2 _ _ l0_3 t122 _ ?side1 ?side2 ?side3 ?side4 A2.out).mono ?_
      (case side1 => repeat (first | exact (Kd.C_below HR0_2.out HB.out) | (with_reducible refine Kd.C_alloc ?_ _) | (with_reducible refine Kd.C_drewN ?_ _) | (with_reducible refine Kd.C_drew ?_)))
      (case side2 => exact HC0_2.out)
      (case side3 => repeat (first | exact (Kd.C_below HR0_3.out HB.out) | (with_reducible refine Kd.C_alloc ?_ _) | (with_reducible refine Kd.C_drewN ?_ _) | (with_reducible refine Kd.C_drew ?_)))
      (case side4 => exact HC0_3.out)
      rintro e w8 ⟨v123, rfl, ho0, hb⟩
      refine ⟨_, rfl, ?_⟩
      have n0_ := Aside0.mk (Kd.R_lower ho0 (below_size (by repeat (first | (with_reducible first | exact HB.out | apply below_alloc | apply pw_below_drewN | apply below_drew1 | refine below_set ?_ GE120.out | refine below_set ?_ GE121.out | refine below_set ?_ GE134.out) | exact HB.out))))
      have n1_ := Aside0.mk (blk_below (g := gb120) (o := .cells #[.int .i64 a0_0, .string a0_1, .slice A0_2 l0_2.length c0_2, .slice A0_3 l0_3.length c0_3] 28 (0, 0)) (by (with_reducible repeat (first | refine blk_drewN ?_ _ | refine blk_drew ?_ | refine blk_alloc ?_ _)); exact BK120.out) hb)
      have n2_ := Aside0.mk (blk_below (g := gb121) (o := .cells #[.int .i64 0, .string (⟨#[]⟩ : ByteArray), .slice none 0 0, .slice none 0 0] 28 (0, 0)) (by (with_reducible repeat (first | refine blk_drewN ?_ _ | refine blk_drew ?_ | refine blk_alloc ?_ _)); exact BK121.out) hb)
      have n3_ := Aside0.mk (blk_below (g := gb134) (o := .cells #[.int .i64 0, .string (⟨#[]⟩ : ByteArray), .slice none 0 0, .slice none 0 0] 28 (0, 0)) (by (with_reducible repeat (first | refine blk_drewN ?_ _ | refine blk_drew ?_ | refine blk_alloc ?_ _)); exact BK134.out) hb)
      have n4_ := Aside0.mk (below_step (by repeat (first | (with_reducible first | exact HB.out | apply below_alloc | apply pw_below_drewN | apply below_drew1 | refine below_set ?_ GE120.out | refine below_set ?_ GE121.out | refine below_set ?_ GE134.out) | exact HB.out)) hb)
      clear BK120
      clear BK121
      clear BK134
      clear HB
      have HO124 := n0_
      have BK120 := n1_
      have BK121 := n2_
      have BK134 := n3_
      have HB := n4_
      clear n0_ n1_ n2_ n3_ n4_
      (try clear hb)
      (try clear hb2)
      (try clear hk)
      (try clear hi)
      (try clear ho0)
      obtain ⟨Ao9, co9, eo9⟩ := Kd.R_slice HO124.out
      (first | subst eo9 | (injection eo9 with f1_ f2_ f3_; have f4_ := f1_.symm; have f5_ := f3_.symm; clear f1_ f2_ f3_; subst f4_; subst f5_))
      refine hK.out _ _ ⟨(blk_cell BK120.out 0).trans rfl, (blk_cell BK120.out 1).trans rfl, (blk_cell BK120.out 2).trans rfl, (blk_cell BK120.out 3).trans rfl⟩ (fun hHeld => ?_)
      clear hK K
      refine norm_ (a' := ?_) ?_ ?_
      rotate_left
      · show Act.put _ (some 9) _ = _
        simp only [Act.put, List.setIfInBounds_toArray, List.set_cons_zero, List.set_cons_succ, i64_w, i32_w]
        rfl
      refine one_ (i := 4) (N := some 10) #[true, true, true, true, true, false, false, false, true, false, false] rfl rfl (one_of HT_.out (by kernel_rfl)) (by decide) (fun K hK => ?_)
      refine goes_ Try.func48 (by kernel_rfl) rfl #[.int .i64 a0_0, .slice Ao9 t122.length co9] (by rfl) rfl rfl (by (try simp only [List.map_toArray, List.map_cons, List.map_nil]); first | done | rfl | (simp only [List.length_drop, List.length_take]; rfl)) ?_
      with_reducible refine (value_Of.calls a0_0 _ _ t122 t125 t126 t127 t130 t133 _ ?side1 ?side2 A3.out).mono ?_
      (case side1 => repeat (first | exact (Kd.R_reads' HO124.out).2.2 | (with_reducible refine Kd.C_alloc ?_ _) | (with_reducible refine Kd.C_drewN ?_ _) | (with_reducible refine Kd.C_drew ?_)))
      (case side2 => exact (Kd.R_reads' HO124.out).2.1)
      rintro e w10 ⟨v128, v131, rfl, ho0, ho1, hb⟩
      refine ⟨_, rfl, ?_⟩
      have n0_ := Aside0.mk (Kd.R_elder' (by (with_reducible repeat (first | apply Kd.R_alloc | apply Kd.R_drewN | apply Kd.R_drew)); exact HO124.out) (Kd.R_base ho0) hb)
      have n1_ := Aside0.mk (Kd.R_lower (Kd.R_new' ho0 (Kd.R_lt (by (with_reducible repeat (first | apply Kd.R_alloc | apply Kd.R_drewN | apply Kd.R_drew)); exact HO124.out))) (below_size (by repeat (first | (with_reducible first | exact HB.out | apply below_alloc | apply pw_below_drewN | apply below_drew1 | refine below_set ?_ GE120.out | refine below_set ?_ GE121.out | refine below_set ?_ GE134.out) | exact HB.out))))
      have n2_ := Aside0.mk (Kd.R_lower ho1 (below_size (by repeat (first | (with_reducible first | exact HB.out | apply below_alloc | apply pw_below_drewN | apply below_drew1 | refine below_set ?_ GE120.out | refine below_set ?_ GE121.out | refine below_set ?_ GE134.out) | exact HB.out))))
      have n3_ := Aside0.mk (blk_below (g := gb120) (o := .cells #[.int .i64 a0_0, .string a0_1, .slice A0_2 l0_2.length c0_2, .slice A0_3 l0_3.length c0_3] 28 (0, 0)) (by (with_reducible repeat (first | refine blk_drewN ?_ _ | refine blk_drew ?_ | refine blk_alloc ?_ _)); exact BK120.out) hb)
      have n4_ := Aside0.mk (blk_below (g := gb121) (o := .cells #[.int .i64 0, .string (⟨#[]⟩ : ByteArray), .slice none 0 0, .slice none 0 0] 28 (0, 0)) (by (with_reducible repeat (first | refine blk_drewN ?_ _ | refine blk_drew ?_ | refine blk_alloc ?_ _)); exact BK121.out) hb)
      have n5_ := Aside0.mk (blk_below (g := gb134) (o := .cells #[.int .i64 0, .string (⟨#[]⟩ : ByteArray), .slice none 0 0, .slice none 0 0] 28 (0, 0)) (by (with_reducible repeat (first | refine blk_drewN ?_ _ | refine blk_drew ?_ | refine blk_alloc ?_ _)); exact BK134.out) hb)
      have n6_ := Aside0.mk (below_step (by repeat (first | (with_reducible first | exact HB.out | apply below_alloc | apply pw_below_drewN | apply below_drew1 | refine below_set ?_ GE120.out | refine below_set ?_ GE121.out | refine below_set ?_ GE134.out) | exact HB.out)) hb)
      clear HO124
      clear BK120
      clear BK121
      clear BK134
      clear HB
      have HO124 := n0_
      have HO129 := n1_
      have HO132 := n2_
      have BK120 := n3_
      have BK121 := n4_
      have BK134 := n5_
      have HB := n6_
      clear n0_ n1_ n2_ n3_ n4_ n5_ n6_
      (try clear hb)
      (try clear hb2)
      (try clear hk)
      (try clear hi)
      (try clear ho0)
      (try clear ho1)
      refine hK.out _ _ ⟨(blk_cell BK120.out 0).trans rfl, (blk_cell BK120.out 1).trans rfl, (blk_cell BK120.out 2).trans rfl, (blk_cell BK120.out 3).trans rfl⟩ (fun hHeld => ?_)
      clear hK K
      refine norm_ (a' := ?_) ?_ ?_
      rotate_left
      · show Act.put _ (some 10) _ = _
        simp only [Act.put, List.setIfInBounds_toArray, List.set_cons_zero, List.set_cons_succ, i64_w, i32_w]
        rfl
      refine pure_ (i := 5) (N := some 5) (v := ?_) (a' := ?_) #[true, true, true, true, true, true, false, false, true, false, false] rfl rfl (any_of HT_.out (by kernel_rfl)) (fun _ _ _ h => h) (Or.inl ⟨by rfl, ?_⟩) ?_ ?_
      rotate_left
      · intro w'
        go_simp
        with_reducible rfl
      rotate_left
      · simp only [Act.put, List.setIfInBounds_toArray, List.set_cons_zero, List.set_cons_succ, i64_w, i32_w]
        rfl
      refine pure_ (i := 6) (N := some 11) (v := ?_) (a' := ?_) #[true, true, true, true, true, true, true, false, true, false, false] rfl rfl (any_of HT_.out (by kernel_rfl)) (fun _ _ _ h => h) (Or.inl ⟨by rfl, ?_⟩) ?_ ?_
      rotate_left
      · intro w'
        go_simp
        with_reducible rfl
      rotate_left
      · simp only [Act.put, List.setIfInBounds_toArray, List.set_cons_zero, List.set_cons_succ, i64_w, i32_w]
        rfl
      refine pure_ (i := 7) (N := some 12) (v := ?_) (a' := ?_) #[true, true, true, true, true, true, true, true, true, false, false] rfl rfl (any_of HT_.out (by kernel_rfl)) (fun _ _ _ h => h) (Or.inl ⟨by rfl, ?_⟩) ?_ ?_
      rotate_left
      · intro w'
        go_simp
        with_reducible rfl
      rotate_left
      · simp only [Act.put, List.setIfInBounds_toArray, List.set_cons_zero, List.set_cons_succ, i64_w, i32_w]
        rfl
      exact norm_ (by simp only [putAll, Act.put, List.setIfInBounds_toArray, List.set_cons_zero, List.set_cons_succ]) (hCont (.slice Ao9 t122.length co9, v128, v131, gb134) _ ⟨hHeld, (by (with_reducible repeat (first | apply Kd.R_alloc | apply Kd.R_drewN | apply Kd.R_drew)); exact Kd.R_mono HO124.out (fun _ hk => hk.2)), (by (with_reducible repeat (first | apply Kd.R_alloc | apply Kd.R_drewN | apply Kd.R_drew)); exact Kd.R_mono HO129.out (fun _ hk => hk.2)), (by (with_reducible repeat (first | apply Kd.R_alloc | apply Kd.R_drewN | apply Kd.R_drew)); exact HO132.out), (by (with_reducible repeat (first | refine blk_drewN ?_ _ | refine blk_drew ?_ | refine blk_alloc ?_ _)); exact BK120.out), (by (with_reducible repeat (first | refine blk_drewN ?_ _ | refine blk_drew ?_ | refine blk_alloc ?_ _)); exact BK121.out), (by (with_reducible repeat (first | refine blk_drewN ?_ _ | refine blk_drew ?_ | refine blk_alloc ?_ _)); exact BK134.out), GW134.out, GE134.out, NB120_134.out, NB134_120.out, NB121_134.out, NB134_121.out, (by repeat (first | (with_reducible first | exact HB.out | apply below_alloc | apply pw_below_drewN | apply below_drew1 | refine below_set ?_ GE120.out | refine below_set ?_ GE121.out | refine below_set ?_ GE134.out) | exact HB.out))⟩)
  rintro ⟨v123, v128, v131, gb134⟩ w11 ⟨hS_, h0_, h1_, h2_, h3_, h4_, h5_, h6_, h7_, h8_, h9_, h10_, h11_, h12_⟩
  have n0_ : Aside0 (Kd.R Kd.string 9 w11 w.heap.size (fun k_ => some k_ ≠ (v128 : Value).ownBlock) v123 t122) := ⟨h0_⟩
  have n1_ : Aside0 (Kd.R Kd.string 9 w11 w.heap.size (fun k_ => some k_ ≠ (v123 : Value).ownBlock) v128 t127) := ⟨h1_⟩
  have n2_ : Aside0 (Kd.R k50 50 w11 w.heap.size (fun _ => True) v131 t130) := ⟨h2_⟩
  have n3_ : Aside0 (w11.heap[gb120]? = some (.cells #[.int .i64 a0_0, .string a0_1, .slice A0_2 l0_2.length c0_2, .slice A0_3 l0_3.length c0_3] 28 (0, 0))) := ⟨h3_⟩
  have n4_ : Aside0 (w11.heap[gb121]? = some (.cells #[.int .i64 0, .string (⟨#[]⟩ : ByteArray), .slice none 0 0, .slice none 0 0] 28 (0, 0))) := ⟨h4_⟩
  have n5_ : Aside0 (w11.heap[gb134]? = some (.cells #[.int .i64 0, .string (⟨#[]⟩ : ByteArray), .slice none 0 0, .slice none 0 0] 28 (0, 0))) := ⟨h5_⟩
  have n6_ : Aside0 (w.heap.size ≤ gb134) := ⟨h6_⟩
  have n7_ : Aside0 (w.heap.size ≤ gb134) := ⟨h7_⟩
  have n8_ : Aside0 (gb120 ≠ gb134) := ⟨h8_⟩
  have n9_ : Aside0 (gb134 ≠ gb120) := ⟨h9_⟩
  have n10_ : Aside0 (gb121 ≠ gb134) := ⟨h10_⟩
  have n11_ : Aside0 (gb134 ≠ gb121) := ⟨h11_⟩
  have n12_ : Aside0 (Below w.heap.size w w11) := ⟨h12_⟩
  clear BK120
  clear BK121
  clear HB
  clear h0_ h1_ h2_ h3_ h4_ h5_ h6_ h7_ h8_ h9_ h10_ h11_ h12_
  have HO124 := n0_
  have HO129 := n1_
  have HO132 := n2_
  have BK120 := n3_
  have BK121 := n4_
  have BK134 := n5_
  have GW134 := n6_
  have GE134 := n7_
  have NB120_134 := n8_
  have NB134_120 := n9_
  have NB121_134 := n10_
  have NB134_121 := n11_
  have HB := n12_
  clear n0_ n1_ n2_ n3_ n4_ n5_ n6_ n7_ n8_ n9_ n10_ n11_ n12_
  have hHeld : w11.cell? ⟨gb120, 0, none⟩ = some (.int .i64 a0_0) ∧ w11.cell? ⟨gb120, 1, none⟩ = some (.string a0_1) ∧ w11.cell? ⟨gb120, 2, none⟩ = some (.slice A0_2 l0_2.length c0_2) ∧ w11.cell? ⟨gb120, 3, none⟩ = some (.slice A0_3 l0_3.length c0_3) := hS_
  obtain ⟨Ao14, co14, eo14⟩ := Kd.R_slice HO129.out
  (first | subst eo14 | (injection eo14 with f1_ f2_ f3_; have f4_ := f1_.symm; have f5_ := f3_.symm; clear f1_ f2_ f3_; subst f4_; subst f5_))
  obtain ⟨Ao16, co16, eo16⟩ := Kd.R_slice HO132.out
  (first | subst eo16 | (injection eo16 with f1_ f2_ f3_; have f4_ := f1_.symm; have f5_ := f3_.symm; clear f1_ f2_ f3_; subst f4_; subst f5_))
  refine norm_ (a' := ?_) ?_ ?_
  rotate_left
  · simp only [putAll, Act.put, List.setIfInBounds_toArray, List.set_cons_zero, List.set_cons_succ]
    rfl
  refine one_ (i := 9) (N := none) #[true, true, true, true, true, true, true, true, true, true, false] rfl rfl (one_of HT_.out (by kernel_rfl)) (by decide) (fun K hK => ?_)
  have hs12 : w11.cell? ⟨gb134, 0, none⟩ = some (.int .i64 0) := (blk_cell BK134.out 0).trans rfl
  have hfs12 := blk_frozen BK134.out 0
  have hns12_0 := NB120_134.out
  have hns12_1 := NB121_134.out
  have hms12_0 := NB134_120.out
  have hms12_1 := NB134_121.out
  have hs13 : w11.cell? ⟨gb134, 1, none⟩ = some (.string (⟨#[]⟩ : ByteArray)) := (blk_cell BK134.out 1).trans rfl
  have hfs13 := blk_frozen BK134.out 1
  have hns13_0 := NB120_134.out
  have hns13_1 := NB121_134.out
  have hms13_0 := NB134_120.out
  have hms13_1 := NB134_121.out
  have hs15 : w11.cell? ⟨gb134, 2, none⟩ = some (.slice none 0 0) := (blk_cell BK134.out 2).trans rfl
  have hfs15 := blk_frozen BK134.out 2
  have hns15_0 := NB120_134.out
  have hns15_1 := NB121_134.out
  have hms15_0 := NB134_120.out
  have hms15_1 := NB134_121.out
  have hs17 : w11.cell? ⟨gb134, 3, none⟩ = some (.slice none 0 0) := (blk_cell BK134.out 3).trans rfl
  have hfs17 := blk_frozen BK134.out 3
  have hns17_0 := NB120_134.out
  have hns17_1 := NB121_134.out
  have hms17_0 := NB134_120.out
  have hms17_1 := NB134_121.out
  refine skip_ (w1 := ?_) (by rfl) rfl ?_ ?_
  rotate_left
  · go_simp
    rfl
  refine hK.out _ _ ⟨((cell_far (p := ⟨gb134, _, none⟩) NB120_134.out _).trans (((cell_far (p := ⟨gb134, _, none⟩) NB120_134.out _).trans (((cell_far (p := ⟨gb134, _, none⟩) NB120_134.out _).trans (((cell_far (p := ⟨gb134, _, none⟩) NB120_134.out _).trans (hHeld.1)))))))), ((cell_far (p := ⟨gb134, _, none⟩) NB120_134.out _).trans (((cell_far (p := ⟨gb134, _, none⟩) NB120_134.out _).trans (((cell_far (p := ⟨gb134, _, none⟩) NB120_134.out _).trans (((cell_far (p := ⟨gb134, _, none⟩) NB120_134.out _).trans (hHeld.2.1)))))))), ((cell_far (p := ⟨gb134, _, none⟩) NB120_134.out _).trans (((cell_far (p := ⟨gb134, _, none⟩) NB120_134.out _).trans (((cell_far (p := ⟨gb134, _, none⟩) NB120_134.out _).trans (((cell_far (p := ⟨gb134, _, none⟩) NB120_134.out _).trans (hHeld.2.2.1)))))))), ((cell_far (p := ⟨gb134, _, none⟩) NB120_134.out _).trans (((cell_far (p := ⟨gb134, _, none⟩) NB120_134.out _).trans (((cell_far (p := ⟨gb134, _, none⟩) NB120_134.out _).trans (((cell_far (p := ⟨gb134, _, none⟩) NB120_134.out _).trans (hHeld.2.2.2))))))))⟩ (fun hHeld => ?_)
  clear hK K
  refine pure_ (i := 10) (N := some 4) (v := ?_) (a' := ?_) #[true, true, true, true, true, true, true, true, true, true, true] rfl rfl (any_of HT_.out (by kernel_rfl)) (fun _ _ _ h => h) (Or.inl ⟨by rfl, ?_⟩) ?_ ?_
  rotate_left
  · intro w'
    go_simp
    with_reducible rfl
  rotate_left
  · simp only [Act.put, List.setIfInBounds_toArray, List.set_cons_zero, List.set_cons_succ, i64_w, i32_w]
    rfl
  refine done_ (done_of HT_.out (by kernel_rfl)) ?_
  have hnb18 := NB134_120.out
  have hnc18 := NB120_134.out
  have hnb19 := NB134_121.out
  have hnc19 := NB121_134.out
  have hcz20_0 : w11.cell? ⟨gb134, 0, none⟩ = some (.int .i64 0) := (blk_cell BK134.out 0).trans rfl
  have hcz20_1 : w11.cell? ⟨gb134, 1, none⟩ = some (.string (⟨#[]⟩ : ByteArray)) := (blk_cell BK134.out 1).trans rfl
  have hcz20_2 : w11.cell? ⟨gb134, 2, none⟩ = some (.slice none 0 0) := (blk_cell BK134.out 2).trans rfl
  have hcz20_3 : w11.cell? ⟨gb134, 3, none⟩ = some (.slice none 0 0) := (blk_cell BK134.out 3).trans rfl
  have hfz20_0 := blk_frozen BK134.out 0
  have hfz20_1 := blk_frozen BK134.out 1
  have hfz20_2 := blk_frozen BK134.out 2
  have hfz20_3 := blk_frozen BK134.out 3
  have hnb21 := NB121_120.out
  have hnc21 := NB120_121.out
  have hcz22_0 : w11.cell? ⟨gb121, 0, none⟩ = some (.int .i64 0) := (blk_cell BK121.out 0).trans rfl
  have hcz22_1 : w11.cell? ⟨gb121, 1, none⟩ = some (.string (⟨#[]⟩ : ByteArray)) := (blk_cell BK121.out 1).trans rfl
  have hcz22_2 : w11.cell? ⟨gb121, 2, none⟩ = some (.slice none 0 0) := (blk_cell BK121.out 2).trans rfl
  have hcz22_3 : w11.cell? ⟨gb121, 3, none⟩ = some (.slice none 0 0) := (blk_cell BK121.out 3).trans rfl
  have hfz22_0 := blk_frozen BK121.out 0
  have hfz22_1 := blk_frozen BK121.out 1
  have hfz22_2 := blk_frozen BK121.out 2
  have hfz22_3 := blk_frozen BK121.out 3
  try go_wp2
  refine bodyPost_ret (results_cell_row rfl _ _ gb121 28 #[.int .i64 t125, .string t126, .slice Ao14 t127.length co14, .slice Ao16 t130.length co16] (0, 0) _ rfl (by (with_reducible repeat (first | refine blk_drewN ?_ _ | refine blk_drew ?_ | refine blk_alloc ?_ _)); refine blk_put (cs := #[.int .i64 t125, .string t126, .slice Ao14 t127.length co14, .slice none 0 0]) ?_ 3 _ rfl; (with_reducible repeat (first | refine blk_drewN ?_ _ | refine blk_drew ?_ | refine blk_alloc ?_ _)); refine blk_put (cs := #[.int .i64 t125, .string t126, .slice none 0 0, .slice none 0 0]) ?_ 2 _ rfl; (with_reducible repeat (first | refine blk_drewN ?_ _ | refine blk_drew ?_ | refine blk_alloc ?_ _)); refine blk_put (cs := #[.int .i64 t125, .string (⟨#[]⟩ : ByteArray), .slice none 0 0, .slice none 0 0]) ?_ 1 _ rfl; (with_reducible repeat (first | refine blk_drewN ?_ _ | refine blk_drew ?_ | refine blk_alloc ?_ _)); refine blk_put (cs := #[.int .i64 0, .string (⟨#[]⟩ : ByteArray), .slice none 0 0, .slice none 0 0]) ?_ 0 _ rfl; (with_reducible repeat (first | refine blk_drewN ?_ _ | refine blk_drew ?_ | refine blk_alloc ?_ _)); refine blk_far ?_ NB121_134.out _; (with_reducible repeat (first | refine blk_drewN ?_ _ | refine blk_drew ?_ | refine blk_alloc ?_ _)); refine blk_far ?_ NB121_134.out _; (with_reducible repeat (first | refine blk_drewN ?_ _ | refine blk_drew ?_ | refine blk_alloc ?_ _)); refine blk_far ?_ NB121_134.out _; (with_reducible repeat (first | refine blk_drewN ?_ _ | refine blk_drew ?_ | refine blk_alloc ?_ _)); refine blk_far ?_ NB121_134.out _; (with_reducible repeat (first | refine blk_drewN ?_ _ | refine blk_drew ?_ | refine blk_alloc ?_ _)); exact BK121.out) Try.underlying28 rfl (by kernel_rfl)) rfl ?_
  exact ⟨_, _, by first | rfl | (simp [errW_none, errW_some] <;> rfl) | (simp [*, errW_none, errW_some] <;> rfl), by (with_reducible repeat (first | apply Kd.R_alloc | apply Kd.R_drewN | apply Kd.R_drew)); exact Kd.R_mono (Kd.R_far (p := ⟨gb121, 3, none⟩) (Kd.R_far (p := ⟨gb121, 2, none⟩) (Kd.R_far (p := ⟨gb121, 1, none⟩) (Kd.R_far (p := ⟨gb121, 0, none⟩) (Kd.R_far (p := ⟨gb134, 3, none⟩) (Kd.R_far (p := ⟨gb134, 2, none⟩) (Kd.R_far (p := ⟨gb134, 1, none⟩) (Kd.R_far (p := ⟨gb134, 0, none⟩) (Kd.R_types (Kd.R_types HO129.out BK134.out (by decide)) BK121.out (by decide)) (fun _ hk => hk.1.2) (.int .i64 t125)) (fun _ hk => hk.1.2) (.string t126)) (fun _ hk => hk.1.2) (.slice Ao14 t127.length co14)) (fun _ hk => hk.1.2) (.slice Ao16 t130.length co16)) (fun _ hk => hk.2) (.int .i64 t125)) (fun _ hk => hk.2) (.string t126)) (fun _ hk => hk.2) (.slice Ao14 t127.length co14)) (fun _ hk => hk.2) (.slice Ao16 t130.length co16)) (fun _ hk => trivial), by (with_reducible repeat (first | apply Kd.R_alloc | apply Kd.R_drewN | apply Kd.R_drew)); exact Kd.R_mono (Kd.R_far (p := ⟨gb121, 3, none⟩) (Kd.R_far (p := ⟨gb121, 2, none⟩) (Kd.R_far (p := ⟨gb121, 1, none⟩) (Kd.R_far (p := ⟨gb121, 0, none⟩) (Kd.R_far (p := ⟨gb134, 3, none⟩) (Kd.R_far (p := ⟨gb134, 2, none⟩) (Kd.R_far (p := ⟨gb134, 1, none⟩) (Kd.R_far (p := ⟨gb134, 0, none⟩) (Kd.R_types (Kd.R_types HO132.out BK134.out (by decide)) BK121.out (by decide)) (fun _ hk => hk.1.2) (.int .i64 t125)) (fun _ hk => hk.1.2) (.string t126)) (fun _ hk => hk.1.2) (.slice Ao14 t127.length co14)) (fun _ hk => hk.1.2) (.slice Ao16 t130.length co16)) (fun _ hk => hk.2) (.int .i64 t125)) (fun _ hk => hk.2) (.string t126)) (fun _ hk => hk.2) (.slice Ao14 t127.length co14)) (fun _ hk => hk.2) (.slice Ao16 t130.length co16)) (fun _ hk => trivial), by repeat (first | (with_reducible first | exact HB.out | apply below_alloc | apply pw_below_drewN | apply below_drew1 | refine below_set ?_ GE120.out | refine below_set ?_ GE121.out | refine below_set ?_ GE134.out) | exact HB.out)⟩
def cmp_Or_int.l0 : Nat → Int → List Int → Int → Int → Option (Int)
  | 0, _, _, _, _ => none
  | k + 1, x3, x6, x7, x8 => if x8 < x7 then (if 0 ≤ x8 then (if x8 < (x6.length : Int) then (if (rd x6 x8) = x3 then (cmp_Or_int.l0 k x3 x6 x7 (wrap64 (x8 + 1))) else (some (rd x6 x8))) else (none)) else (none)) else (some x3)
def cmp_Or_int.f (k : Nat) (l0 : List Int) : Option (Int) := cmp_Or_int.l0 k 0 l0 (l0.length : Int) 0
set_option maxHeartbeats 8000000 in
set_option maxRecDepth 100000 in
theorem cmp_Or_int.calls (k : Nat) (A0 : Option Addr) (c0 : Nat) (l0 : List Int) (r : Int) (w : World) (hr0 : Kd.C (Kd.int .i64) w A0 l0.length l0) (hc0 : l0.length ≤ c0) (h : cmp_Or_int.f k l0 = some r) :
    Calls Try.prog 52 #[.slice A0 l0.length c0] w fun e w' => e = .returned (.int .i64 r) ∧ Drawn0 w w' := by
  have HR0 := Aside0.mk hr0
  have HC0 := Aside0.mk hc0
  clear hr0 hc0
  have H : (cmp_Or_int.l0 k 0 l0 (l0.length : Int) 0) = some r := h
  clear h
  have H' := Aside0.mk H
  clear H
  go_enter Try.func52, Try.ntmps52
  go_wp2
  go_loopg [8] k (fun kq v8 w' => ∃ (x8_1 : Int), v8 = .int .i64 x8_1 ∧ Aside0 (cmp_Or_int.l0 kq 0 l0 (l0.length : Int) x8_1 = some r) ∧ Aside0 (kq ≤ k) ∧ Drawn0 w w')
  case atStart => exact ⟨(0), (by first | rfl | (simp; done) | (simp [*]; done)), H', ⟨Nat.le_refl _⟩, by repeat (first | exact Drawn0.refl _ | apply Drawn0.step)⟩
  case round =>
    clear H'
    obtain ⟨x8_1, rfl, HA, HK1, ⟨m1, rfl⟩⟩ := hrel
    cases gk with
    | zero => exact absurd HA.out (by simp [cmp_Or_int.l0])
    | succ k1 =>
      have H := HA.out
      clear HA
      simp only [cmp_Or_int.l0] at H
      by_cases c2 : x8_1 < (l0.length : Int)
      · rw [if_pos c2] at H
        have c2b0 : decide (x8_1 < (l0.length : Int)) = true := decide_eq_true c2
        clear c2
        by_cases c3 : 0 ≤ x8_1
        · rw [if_pos c3] at H
          have c3b0 : decide (0 ≤ x8_1) = true := decide_eq_true c3
          clear c3
          by_cases c4 : x8_1 < (l0.length : Int)
          · rw [if_pos c4] at H
            have c4b0 : decide (x8_1 < (l0.length : Int)) = true := decide_eq_true c4
            clear c4
            by_cases c5 : (rd l0 x8_1) = 0
            · rw [if_pos c5] at H
              have c5b0 : ((rd l0 x8_1) == 0) = true := beq_iff_eq.mpr c5
              have c5b1 : ((rd l0 x8_1) != 0) = false := bne_eq_false_iff_eq.mpr c5
              clear c5
              have H' := Aside0.mk H
              clear H
              have p135 : 0 ≤ (x8_1 : Int) := of_decide_eq_true (by first | (with_reducible assumption) | assumption)
              have q135 : x8_1 < (l0.length : Int) := of_decide_eq_true (by first | (with_reducible assumption) | assumption)
              obtain ⟨ad135, e135, hx135_0⟩ := Kd.at_int HR0.out x8_1 p135 q135
              cases e135
              replace p135 := eq_true p135
              replace q135 := eq_true q135
              go_wp2
              go_roundg k1
              case measure => have := HK1.out; omega
              case rel => exact ⟨(wrap64 (x8_1 + 1)), (by first | rfl | (simp; done) | (simp [*]; done)), H', ⟨by have := HK1.out; omega⟩, by repeat (first | exact Drawn0.refl _ | apply Drawn0.step)⟩
            · rw [if_neg c5] at H
              have c5b0 : ((rd l0 x8_1) == 0) = false := beq_eq_false_iff_ne.mpr c5
              have c5b1 : ((rd l0 x8_1) != 0) = true := bne_iff_ne.mpr c5
              obtain rfl := Option.some.inj H
              have p135 : 0 ≤ (x8_1 : Int) := of_decide_eq_true (by first | (with_reducible assumption) | assumption)
              have q135 : x8_1 < (l0.length : Int) := of_decide_eq_true (by first | (with_reducible assumption) | assumption)
              obtain ⟨ad135, e135, hx135_0⟩ := Kd.at_int HR0.out x8_1 p135 q135
              cases e135
              replace p135 := eq_true p135
              replace q135 := eq_true q135
              go_wp2
              go_ret
              exact ⟨by first | rfl | (simp; done) | (simp [*]; done), by repeat (first | exact Drawn0.refl _ | apply Drawn0.step)⟩
          · rw [if_neg c4] at H
            exact absurd H (by simp)
        · rw [if_neg c3] at H
          exact absurd H (by simp)
      · rw [if_neg c2] at H
        have c2b0 : decide (x8_1 < (l0.length : Int)) = false := decide_eq_false c2
        clear c2
        obtain rfl := Option.some.inj H
        go_wp2
        go_ret
        exact ⟨by first | rfl | (simp; done) | (simp [*]; done), by repeat (first | exact Drawn0.refl _ | apply Drawn0.step)⟩
end Go.Proofs.Ytfaiplbogchgjaa.PA
end
section
namespace Go.Proofs.Ytfaiplbogchgjaa.PA
open Go.RowKit Go.Proofs.YtfaiplbogchgjaaW.PrintWords Go.Proofs.YtfaiplbogchgjaaW.PrintLast Go.Proofs.YtfaiplbogchgjaaW.PrintMore
attribute [local go_sem] max2_int min2_int max_two min_two max_three min_three max_four min_four   -- for this text's walks alone
set_option linter.unusedVariables false
set_option linter.unusedSimpArgs false
def textsOf (v : S28) : List ByteArray :=
  if v.f0 = 1 then [v.f1] else if v.f0 = 2 then v.f2 else if v.f0 = 3 then v.f3.flatMap (fun x => [x.f0, x.f1]) else []
def canonS (v : S28) : S28 := ⟨(ofV v.f0 (textsOf v)).1, (ofV v.f0 (textsOf v)).2.1, (ofV v.f0 (textsOf v)).2.2.1, (ofV v.f0 (textsOf v)).2.2.2.1⟩
def defS (v : S28) : Bool := decide (0 < (textsOf v).length)
def modest (v : S28) : Prop :=
  v.f1.size ≤ 1000000 ∧ v.f2.length ≤ 100000 ∧ v.f3.length ≤ 100000 ∧ (∀ x ∈ v.f2, x.size ≤ 1000000) ∧ ∀ x ∈ v.f3, x.f0.size ≤ 1000000 ∧ x.f1.size ≤ 1000000
instance (v : S28) : Decidable (modest v) := by unfold modest; infer_instance
def modestB (l : List S38) : Prop := l.length ≤ 1000 ∧ ∀ x ∈ l, x.f0.size ≤ 1000000 ∧ modest x.f1
instance (l : List S38) : Decidable (modestB l) := by unfold modestB; infer_instance
def getL (l : List S38) (nm : List UInt8) : Option S28 := (l.find? fun x => x.f0.data.toList == nm).bind fun x => if defS x.f1 = true then some (canonS x.f1) else none
def dedupL : List (List UInt8) → List (List UInt8)
  | [] => []
  | x :: l => if x ∈ dedupL l then dedupL l else x :: dedupL l
def keysL (l : List S38) : List (List UInt8) := dedupL ((l.map fun x => x.f0.data.toList).filter fun nm => (getL l nm).isSome)
def leL (x y : List UInt8) : Bool := decide (x ≤ y)
def nmOf (x : List UInt8) : ByteArray := ⟨x.toArray⟩
def namesS (l : List S38) : List ByteArray := ((keysL l).mergeSort leL).map nmOf
def canonB (l : List S38) : List S38 := ((keysL l).mergeSort leL).map fun nm => ⟨nmOf nm, (getL l nm).getD z28⟩
instance decP : DecidableEq S50 := fun a b => if h : a.f0 = b.f0 ∧ a.f1 = b.f1 then isTrue (by cases a; cases b; simp_all) else isFalse (by rintro rfl; exact h ⟨rfl, rfl⟩)
instance decV : DecidableEq S28 := fun a b => if h : a.f0 = b.f0 ∧ a.f1 = b.f1 ∧ a.f2 = b.f2 ∧ a.f3 = b.f3 then isTrue (by cases a; cases b; simp_all) else isFalse (by rintro rfl; exact h ⟨rfl, rfl, rfl, rfl⟩)
instance decB : DecidableEq S38 := fun a b => if h : a.f0 = b.f0 ∧ a.f1 = b.f1 then isTrue (by cases a; cases b; simp_all) else isFalse (by rintro rfl; exact h ⟨rfl, rfl⟩)
def sameB (a b : List S38) : Bool := decide (canonB a = canonB b)
theorem rd_at (xs : List S50) (k : Nat) (h : k < xs.length) : rd_T50 xs (k : Int) = xs[k] := by
  unfold rd_T50; rw [Int.toNat_natCast, List.getD_eq_getElem?_getD, List.getElem?_eq_getElem h]; rfl
theorem texts_l0 (p : List S50) (hp : p.length ≤ 100000) (d : Nat) : ∀ (k : Nat) (i : Nat) (acc : List ByteArray), i + d = p.length → d < k → acc.length + 2 * d ≤ 200000 →
    value_Texts.l0 k acc p (p.length : Int) (i : Int) = some (acc ++ (p.drop i).flatMap (fun x => [x.f0, x.f1])) := by
  induction d with
  | zero =>
    intro k i acc hi hk ha
    obtain ⟨k, rfl⟩ : ∃ m, k = m + 1 := ⟨k - 1, by omega⟩
    simp only [value_Texts.l0]
    rw [if_neg (by omega), List.drop_eq_nil_of_le (by omega)]
    simp
  | succ d ih =>
    intro k i acc hi hk ha
    obtain ⟨k, rfl⟩ : ∃ m, k = m + 1 := ⟨k - 1, by omega⟩
    simp only [value_Texts.l0]
    rw [if_pos (by omega), if_pos (by omega), if_pos (by omega), rd_at p i (by omega)]
    simp only [Option.bind_some, List.length_cons, List.length_nil]
    rw [if_pos (by omega), show wrap64 ((i : Int) + 1) = ((i + 1 : Nat) : Int) from by unfold wrap64; omega,
      ih k (i + 1) _ (by omega) (by omega) (by rw [List.length_append]; simp; omega), List.drop_eq_getElem_cons (show i < p.length by omega), List.flatMap_cons, List.append_assoc]
theorem texts_f (k : Nat) (v : S28) (hm : modest v) (hk : 100000 < k) : value_Texts.f k v.f0 v.f1 v.f2 v.f3 = some (textsOf v) := by
  obtain ⟨_, hl, hp, _, _⟩ := hm
  unfold value_Texts.f textsOf
  by_cases h1 : v.f0 = 1
  · rw [if_pos h1, if_pos h1]
  rw [if_neg h1, if_neg h1]
  by_cases h2 : v.f0 = 2
  · rw [if_pos h2, if_pos h2]; unfold slices_Clone_string_string.f; rw [if_pos (by omega)]; rfl
  rw [if_neg h2, if_neg h2]
  by_cases h3 : v.f0 = 3
  · rw [if_pos h3, if_pos h3]
    have := texts_l0 v.f3 hp v.f3.length k 0 [] (by omega) (by omega) (by simp; omega)
    simpa using this
  · rw [if_neg h3, if_neg h3]
theorem flat_len (p : List S50) : (p.flatMap fun x => [x.f0, x.f1]).length = 2 * p.length := by
  induction p with
  | nil => rfl
  | cons x p ih => rw [List.flatMap_cons, List.length_append, ih]; simp; omega
theorem texts_small {v : S28} (hm : modest v) : (textsOf v).length ≤ 1000000 := by
  obtain ⟨_, hl, hp, _, _⟩ := hm
  unfold textsOf
  split
  · simp
  · split
    · omega
    · split
      · rw [flat_len]; omega
      · simp
theorem def_f (k : Nat) (v : S28) (hm : modest v) (hk : 100000 < k) : value_Defined.f k v.f0 v.f1 v.f2 v.f3 = some (defS v) := by
  unfold value_Defined.f
  rw [texts_f k v hm hk]
  simp [defS]
theorem canon_f (k : Nat) (v : S28) (hm : modest v) (hk : 100000 < k) : value_Canon.f k v.f0 v.f1 v.f2 v.f3 = some ((canonS v).f0, (canonS v).f1, (canonS v).f2, (canonS v).f3) := by
  unfold value_Canon.f
  rw [texts_f k v hm hk]
  simp only [Option.bind_some]
  unfold value_Of.f
  rw [if_pos (texts_small hm)]
  rfl
def OkV (W : World) (base : Nat) (v : Value) (s : S28) : Prop := ∃ v2 v3, v = .agg #[.int .i64 s.f0, .string s.f1, v2, v3] ∧ Kd.R Kd.string 9 W base (fun _ => True) v2 s.f2 ∧ Kd.R k50 50 W base (fun _ => True) v3 s.f3
theorem OkV.grown {W W' : World} {base : Nat} {v : Value} {s : S28} (h : OkV W base v s) {row : Option Nat} (hg : W.grownBy W' row) (hr : ∀ r, row = some r → ∃ o : Obj, W.heap[r]? = some o ∧ o.isCells = false) : OkV W' base v s := by
  obtain ⟨v2, v3, rfl, h2, h3⟩ := h
  have no : ∀ (k q : Nat) (cells : Array Value), W.heap[k]? = some (.cells cells q (0, 0)) → some k ≠ row := fun k q cells hc e => by
    obtain ⟨o, ho, hx⟩ := hr k e.symm
    rw [hc] at ho
    cases ho
    cases hx
  exact ⟨v2, v3, rfl, Kd.R_mono (Kd.R_grown (Kd.R_bound h2) hg (fun k hk => by obtain ⟨_, _, _, q, _, cells, hc⟩ := hk; exact no k q cells hc)) (fun _ _ => trivial),
    Kd.R_mono (Kd.R_grown (Kd.R_bound h3) hg (fun k hk => by obtain ⟨_, _, _, q, _, cells, hc⟩ := hk; exact no k q cells hc)) (fun _ _ => trivial)⟩
theorem enc_own {w : World} {base n size : Nat} {e : TypeId} {v : Value} {xs : List Value} (h : w.ownsRow base e size v n xs) : ∃ A c x, v = .slice A n c ∧ X.encA A n c = some x := by
  rcases h.2 with ⟨rfl, hn⟩ | ⟨g, cap, cur, rfl, _⟩
  · subst hn
    exact ⟨none, 0, _, rfl, rfl⟩
  · exact ⟨_, _, _, rfl, rfl⟩
theorem OkV.reads {W : World} {base : Nat} {v : Value} {s : S28} (h : OkV W base v s) : ∃ z, X.valR v = some z := by
  obtain ⟨v2, v3, rfl, h2, h3⟩ := h
  obtain ⟨i2, o2⟩ := Kd.R_own h2
  obtain ⟨i3, o3⟩ := Kd.R_own h3
  obtain ⟨A, c, x, rfl, hx⟩ := enc_own o2
  obtain ⟨B, d, y, rfl, hy⟩ := enc_own o3
  exact ⟨(.agg [.lit (.int .i64 s.f0), .lit (.string s.f1.data.toList), x, y], []), by simp [X.valR, X.valRL, hx, hy]⟩
def IsBV (w : World) (A : Option Addr) (k : Nat) (y : S38) (x : X.BV) : Prop :=
  (∃ ad, A = some ad ∧ w.cell? (ad.add (k * 5)) = some (.string x.nm) ∧ w.cell? ⟨(ad.add (k * 5)).block, (ad.add (k * 5)).off + 1, none⟩ = some (.int .i64 x.k) ∧
    w.cell? ⟨(ad.add (k * 5)).block, (ad.add (k * 5)).off + 2, none⟩ = some (.string x.s) ∧ w.cell? ⟨(ad.add (k * 5)).block, (ad.add (k * 5)).off + 3, none⟩ = some (.slice x.A x.n x.c) ∧ w.cell? ⟨(ad.add (k * 5)).block, (ad.add (k * 5)).off + 4, none⟩ = some (.slice x.B x.m x.d)) ∧
  x.tag = k ∧ x.nm = y.f0 ∧ x.k = y.f1.f0 ∧ x.s = y.f1.f1 ∧ x.n = y.f1.f2.length ∧ x.n ≤ x.c ∧ Kd.C Kd.string w x.A x.n y.f1.f2 ∧ x.m = y.f1.f3.length ∧ x.m ≤ x.d ∧ Kd.C k50 w x.B x.m y.f1.f3
theorem bvs {w : World} {A : Option Addr} {l : List S38} (hr : Kd.C k38 w A l.length l) : ∃ xs : List X.BV, xs.length = l.length ∧ ∀ k (h : k < xs.length), IsBV w A k (l.getD k z38) xs[k] := by
  have : ∀ k : Fin l.length, ∃ x, IsBV w A k.1 (l.getD k.1 z38) x := fun k => by
    obtain ⟨ad, A3, c3, A4, c4, e, h0, h1, h2, h3, h4, l3, g3, l4, g4⟩ := at_T38 hr (k.1 : Int) (by omega) (by omega)
    rw [Int.toNat_natCast] at h0 h1 h2 h3 h4
    exact ⟨⟨_, _, _, A3, _, c3, A4, _, c4, k.1⟩, ⟨ad, e, h0, h1, h2, h3, h4⟩, rfl, rfl, rfl, rfl, rfl, l3, g3, rfl, l4, g4⟩
  obtain ⟨f, hf⟩ := Classical.axiomOfChoice this
  refine ⟨List.ofFn f, by simp, fun k h => ?_⟩
  rw [List.getElem_ofFn]
  exact hf ⟨k, by simpa using h⟩
theorem addr_keep {W W' : World} (hb : Below W.heap.size W W') {p : Addr} {v : Value} (h : W.cell? p = some v) : W'.cell? p = some v := (hb.cell (p := p) (World.block_lt_of_cell? W _ h)).trans h
def MapOf (W : World) (b n base : Nat) (l : List S38) : Prop := ∃ C, X.VM W b n C ∧ ∀ nm, match getL l nm with | some s => ∃ v, C nm = some v ∧ OkV W base v s | none => C nm = none
set_option maxHeartbeats 8000000 in
theorem all_of (A : Option Addr) (c : Nat) (l : List S38) (w : World) (hr : Kd.C k38 w A l.length l) (hm : modestB l) :
    Calls Try.prog 28 #[.slice A l.length c] w fun e W => e = .returned (.map (some w.heap.size)) ∧ MapOf W w.heap.size l.length w.heap.size l ∧ Below w.heap.size w W := by
  obtain ⟨xs, hxl, hxs⟩ := bvs hr
  obtain ⟨hlen, hmem⟩ := hm
  have hdat : l = xs.map fun x => l.getD x.tag z38 := by
    apply List.ext_getElem (by simp [hxl])
    intro i h1 h2
    rw [List.getElem_map, (hxs i (by simpa using h2)).2.1, List.getD_eq_getElem?_getD, List.getElem?_eq_getElem h1]
    rfl
  have hin : ∀ x ∈ xs, ∃ k, k < l.length ∧ x.tag = k ∧ IsBV w A k (l.getD k z38) x := fun x hx => by
    obtain ⟨k, hk, rfl⟩ := List.getElem_of_mem hx
    exact ⟨k, by omega, (hxs k hk).2.1, hxs k hk⟩
  have hget : ∀ k, k < l.length → (l.getD k z38).f0.size ≤ 1000000 ∧ modest (l.getD k z38).f1 := fun k hk => by
    rw [List.getD_eq_getElem?_getD, List.getElem?_eq_getElem hk]
    exact hmem _ (List.getElem_mem hk)
  have h := X.all_any (fun W v x => OkV W w.heap.size v (canonS (l.getD x.tag z38).f1)) (fun x => defS (l.getD x.tag z38).f1) A c xs (by omega)
    (fun x hx => by obtain ⟨k, hk, _, hi⟩ := hin x hx; rw [hi.2.2.1]; exact Nat.le_trans (hget k hk).1 (by unfold maxLen; omega)) w
    (fun W' hb k hk => by
      obtain ⟨⟨ad, e, h0, h1, h2, h3, h4⟩, _⟩ := hxs k hk
      exact ⟨ad, e, addr_keep hb h0, addr_keep hb h1, addr_keep hb h2, addr_keep hb h3, addr_keep hb h4⟩)
    (fun W W' row v x h hg hr => h.grown hg hr)
    (fun x hx W hb => by
      obtain ⟨k, hk, ht, _, _, hnm, hkk, hs, hn, hc, hC, hmm, hd, hD⟩ := hin x hx
      obtain ⟨nm, k', s, A', n, c', B, m, d, tag⟩ := x
      dsimp only at ht hnm hkk hs hn hc hC hmm hd hD
      subst ht hnm hkk hs hn hmm
      exact value_Defined.calls 100001 _ _ _ _ _ _ _ _ _ W (Kd.C_below hC hb) hc (Kd.C_below hD hb) hd (def_f 100001 _ (hget _ hk).2 (by decide)))
    (fun x hx hdf W hb => by
      obtain ⟨k, hk, ht, _, _, hnm, hkk, hs, hn, hc, hC, hmm, hd, hD⟩ := hin x hx
      obtain ⟨nm, k', s, A', n, c', B, m, d, tag⟩ := x
      dsimp only at ht hnm hkk hs hn hc hC hmm hd hD
      subst ht hnm hkk hs hn hmm
      refine (value_Canon.calls 100001 _ _ _ _ _ _ _ _ _ _ _ _ W (Kd.C_below hC hb) hc (Kd.C_below hD hb) hd (canon_f 100001 _ (hget _ hk).2 (by decide))).mono ?_
      rintro e W' ⟨v2, v3, rfl, h2, h3, hb'⟩
      have ok : OkV W' w.heap.size (.agg #[.int .i64 (canonS (l.getD tag z38).f1).f0, .string (canonS (l.getD tag z38).f1).f1, v2, v3]) (canonS (l.getD tag z38).f1) := ⟨v2, v3, rfl, Kd.R_lower h2 hb.size, Kd.R_lower h3 hb.size⟩
      obtain ⟨z, hz⟩ := ok.reads
      exact ⟨_, z, rfl, hz, ok, hb'⟩)
  rw [hxl] at h
  refine h.mono ?_
  rintro e W ⟨rfl, ⟨C, hv, hs⟩, hb⟩
  refine ⟨rfl, ⟨C, hv, fun nm => ?_⟩, hb⟩
  have hs := hs nm
  have hf : (l.find? fun x => x.f0.data.toList == nm) = (X.firstBV xs nm).map fun x => l.getD x.tag z38 := by
    rw [hdat, List.find?_map]
    unfold X.firstBV
    rw [← hdat]
    congr 1
    have : ∀ ys : List X.BV, (∀ x ∈ ys, x ∈ xs) → ys.find? ((fun x => x.f0.data.toList == nm) ∘ fun x : X.BV => l.getD x.tag z38) = ys.find? fun x => x.nm.data.toList == nm := fun ys => by
      induction ys with
      | nil => intro _; rfl
      | cons y ys ih =>
        intro hy
        obtain ⟨k, hk, ht, hi⟩ := hin y (hy y List.mem_cons_self)
        have e : ((fun x : S38 => x.f0.data.toList == nm) ∘ fun x : X.BV => l.getD x.tag z38) y = (y.nm.data.toList == nm) := by
          show ((l.getD y.tag z38).f0.data.toList == nm) = _
          rw [ht, ← hi.2.2.1]
        rw [List.find?_cons, List.find?_cons, e, ih (fun x hx => hy x (List.mem_cons_of_mem _ hx))]
    exact this xs (fun _ h => h)
  unfold getL
  rw [hf]
  cases hfb : X.firstBV xs nm with
  | none => rw [hfb] at hs; exact hs
  | some x =>
    rw [hfb] at hs
    dsimp only at hs
    simp only [Option.map_some, Option.bind_some]
    split at hs
    · rename_i hd
      rw [if_pos hd]
      exact hs
    · rename_i hd
      rw [if_neg hd]
      exact hs
theorem MapOf.look' {W W' : World} {b n base : Nat} {l : List S38} (h : MapOf W b n base l) (hb : Below W.heap.size W W') (nm : ByteArray) (hn : nm.size ≤ 1000000) :
    ∃ A2 c2 A3 c3, (Instr.lookup 47 (.map (some b)) (.string nm) true).run Try.prog W' = .ok (.tuple #[.agg #[.int .i64 ((getL l nm.data.toList).getD z28).f0, .string ((getL l nm.data.toList).getD z28).f1, .slice A2 ((getL l nm.data.toList).getD z28).f2.length c2, .slice A3 ((getL l nm.data.toList).getD z28).f3.length c3], .bool (getL l nm.data.toList).isSome]) W' ∧
      (Instr.lookup 47 (.map (some b)) (.string nm) false).run Try.prog W' = .ok (.agg #[.int .i64 ((getL l nm.data.toList).getD z28).f0, .string ((getL l nm.data.toList).getD z28).f1, .slice A2 ((getL l nm.data.toList).getD z28).f2.length c2, .slice A3 ((getL l nm.data.toList).getD z28).f3.length c3]) W' ∧
      Kd.R Kd.string 9 W base (fun _ => True) (.slice A2 ((getL l nm.data.toList).getD z28).f2.length c2) ((getL l nm.data.toList).getD z28).f2 ∧ Kd.R k50 50 W base (fun _ => True) (.slice A3 ((getL l nm.data.toList).getD z28).f3.length c3) ((getL l nm.data.toList).getD z28).f3 := by
  obtain ⟨C, hv, hs⟩ := h
  obtain ⟨h1, h2⟩ := X.vm_look (hv.below hb) nm (by unfold maxLen; omega)
  have hs := hs nm.data.toList
  cases hg : getL l nm.data.toList with
  | none =>
    rw [hg] at hs
    rw [show C nm.data.toList = none from hs] at h1 h2
    exact ⟨none, 0, none, 0, h1, h2, Kd.R_nil _ _ _ _ _, Kd.R_nil _ _ _ _ _⟩
  | some s =>
    rw [hg] at hs
    obtain ⟨v, hc, v2, v3, rfl, r2, r3⟩ := hs
    rw [hc] at h1 h2
    obtain ⟨A2, c2, rfl⟩ := Kd.R_slice r2
    obtain ⟨A3, c3, rfl⟩ := Kd.R_slice r3
    exact ⟨A2, c2, A3, c3, h1, h2, r2, r3⟩
theorem MapOf.look {W : World} {b n base : Nat} {l : List S38} (h : MapOf W b n base l) (nm : ByteArray) (hn : nm.size ≤ 1000000) :
    ∃ A2 c2 A3 c3, (Instr.lookup 47 (.map (some b)) (.string nm) true).run Try.prog W = .ok (.tuple #[.agg #[.int .i64 ((getL l nm.data.toList).getD z28).f0, .string ((getL l nm.data.toList).getD z28).f1, .slice A2 ((getL l nm.data.toList).getD z28).f2.length c2, .slice A3 ((getL l nm.data.toList).getD z28).f3.length c3], .bool (getL l nm.data.toList).isSome]) W ∧
      (Instr.lookup 47 (.map (some b)) (.string nm) false).run Try.prog W = .ok (.agg #[.int .i64 ((getL l nm.data.toList).getD z28).f0, .string ((getL l nm.data.toList).getD z28).f1, .slice A2 ((getL l nm.data.toList).getD z28).f2.length c2, .slice A3 ((getL l nm.data.toList).getD z28).f3.length c3]) W ∧
      Kd.R Kd.string 9 W base (fun _ => True) (.slice A2 ((getL l nm.data.toList).getD z28).f2.length c2) ((getL l nm.data.toList).getD z28).f2 ∧ Kd.R k50 50 W base (fun _ => True) (.slice A3 ((getL l nm.data.toList).getD z28).f3.length c3) ((getL l nm.data.toList).getD z28).f3 := h.look' (Below.refl _ _) nm hn
set_option maxHeartbeats 8000000 in
set_option maxRecDepth 100000 in
theorem get_of (A : Option Addr) (c : Nat) (l : List S38) (a1 : ByteArray) (w : World) (hr : Kd.C k38 w A l.length l) (hm : modestB l) (hn : a1.size ≤ 1000000) :
    Calls Try.prog 11 #[.slice A l.length c, .string a1] w fun e W => ∃ v2 v3, e = .returned (.tuple #[.agg #[.int .i64 ((getL l a1.data.toList).getD z28).f0, .string ((getL l a1.data.toList).getD z28).f1, v2, v3], .bool (getL l a1.data.toList).isSome]) ∧
      Kd.R Kd.string 9 W w.heap.size (fun _ => True) v2 ((getL l a1.data.toList).getD z28).f2 ∧ Kd.R k50 50 W w.heap.size (fun _ => True) v3 ((getL l a1.data.toList).getD z28).f3 ∧ Below w.heap.size w W := by
  have HR := Aside0.mk hr
  have HM := Aside0.mk hm
  clear hr hm
  go_enter Try.func11, Try.ntmps11
  go_wp2_with fail
  refine (all_of A c l _ (Kd.C_below HR.out (X.below_new1 _ _)) HM.out).mono ?_
  rintro e W1 ⟨rfl, hmo, hb⟩
  obtain ⟨A2, c2, A3, c3, h1, _, r2, r3⟩ := hmo.look a1 hn
  rw [X.size_alloc1] at h1
  have k0 := blk_below (blk_new w (.cells #[.int .i64 0, .string ⟨#[]⟩, .slice none 0 0, .slice none 0 0] 28)) hb
  have hbw := below_step (w := w) (X.below_new1 w _) hb
  obtain ⟨g, hgg⟩ : ∃ g, g = getL l a1.data.toList := ⟨_, rfl⟩
  rw [← hgg] at h1 r2 r3
  obtain ⟨s, hss⟩ : ∃ s, s = g.getD z28 := ⟨_, rfl⟩
  rw [← hss] at h1 r2 r3
  have HG := Aside0.mk hgg
  have HS := Aside0.mk hss
  clear hgg hss
  have hl : w.heap.size < W1.heap.size := blk_lt k0
  have r2' := Kd.R_mono (ok' := fun k => k ≠ w.heap.size ∧ k < W1.heap.size) (Kd.R_lower (Kd.R_bound r2) (Nat.le_of_lt (by rw [X.size_alloc1]; omega : w.heap.size < _))) (fun k hk => ⟨by have := hk.2.1; rw [X.size_alloc1] at this; omega, hk.2.2.1⟩)
  have r3' := Kd.R_mono (ok' := fun k => k ≠ w.heap.size ∧ k < W1.heap.size) (Kd.R_lower (Kd.R_bound r3) (Nat.le_of_lt (by rw [X.size_alloc1]; omega : w.heap.size < _))) (fun k hk => ⟨by have := hk.2.1; rw [X.size_alloc1] at this; omega, hk.2.2.1⟩)
  have K0 := Aside0.mk k0
  have R2 := Aside0.mk r2'
  have R3 := Aside0.mk r3'
  have HB := Aside0.mk hbw
  have hc0 := X.cells4 k0
  clear k0 hb hbw r2 r3 r2' r3' hmo
  go_wp2_with fail
  obtain rfl := HS.out
  obtain rfl := HG.out
  have k2 := blk_put (blk_put (blk_put (blk_put K0.out 0 (.int .i64 ((getL l a1.data.toList).getD z28).f0) rfl) 1 (.string ((getL l a1.data.toList).getD z28).f1) rfl) 2 (.slice A2 ((getL l a1.data.toList).getD z28).f2.length c2) rfl) 3 (.slice A3 ((getL l a1.data.toList).getD z28).f3.length c3) rfl
  refine bodyPost_ret (results_ct rfl _ _ w.heap.size 28 _ (0, 0) _ rfl (blk_alloc k2 _) Try.underlying28 rfl (by kernel_rfl)) rfl ⟨_, _, rfl, ?_, ?_, ?_⟩
  · exact Kd.R_mono (Kd.R_alloc (Kd.R_far (Kd.R_far (Kd.R_far (Kd.R_far R2.out (fun k hk => hk.1) _) (fun k hk => hk.1) _) (fun k hk => hk.1) _) (fun k hk => hk.1) _) _) (fun _ _ => trivial)
  · exact Kd.R_mono (Kd.R_alloc (Kd.R_far (Kd.R_far (Kd.R_far (Kd.R_far R3.out (fun k hk => hk.1) _) (fun k hk => hk.1) _) (fun k hk => hk.1) _) (fun k hk => hk.1) _) _) (fun _ _ => trivial)
  · exact below_alloc (below_set (below_set (below_set (below_set HB.out (Nat.le_refl _)) (Nat.le_refl _)) (Nat.le_refl _)) (Nat.le_refl _)) _
theorem mem_dedupL (l : List (List UInt8)) (x : List UInt8) : x ∈ dedupL l ↔ x ∈ l := by
  induction l with
  | nil => rfl
  | cons y l ih =>
    unfold dedupL
    split
    · rename_i h
      rw [ih, List.mem_cons]
      constructor
      · exact .inr
      · rintro (rfl | h')
        · exact ih.1 (by rwa [ih] at h ⊢) |> fun h => h
        · exact h'
    · rw [List.mem_cons, List.mem_cons, ih]
theorem nodup_dedupL : ∀ l : List (List UInt8), (dedupL l).Nodup
  | [] => List.nodup_nil
  | y :: l => by
    unfold dedupL
    split
    · exact nodup_dedupL l
    · rename_i h
      exact List.nodup_cons.2 ⟨h, nodup_dedupL l⟩
theorem mem_keysL {l : List S38} {x : List UInt8} : x ∈ keysL l ↔ (getL l x).isSome = true := by
  unfold keysL
  rw [mem_dedupL, List.mem_filter, List.mem_map]
  constructor
  · exact fun h => h.2
  · intro h
    refine ⟨?_, h⟩
    unfold getL at h
    cases hf : l.find? (fun y => y.f0.data.toList == x) with
    | none => rw [hf] at h; cases h
    | some y => exact ⟨y, List.mem_of_find?_eq_some hf, by simpa using List.find?_some hf⟩
theorem keys_size {l : List S38} (hm : modestB l) {x : List UInt8} (h : x ∈ keysL l) : x.length ≤ 1000000 := by
  unfold keysL at h
  rw [mem_dedupL, List.mem_filter, List.mem_map] at h
  obtain ⟨⟨y, hy, rfl⟩, _⟩ := h
  have := (hm.2 y hy).1
  simpa using this
def sortedL (l : List S38) : List (List UInt8) := (keysL l).mergeSort leL
theorem names_eq (l : List S38) : namesS l = (sortedL l).map nmOf := rfl
theorem canonB_eq (l : List S38) : canonB l = (sortedL l).map fun nm => ⟨nmOf nm, (getL l nm).getD z28⟩ := rfl
theorem names_len (l : List S38) : (namesS l).length = (sortedL l).length := by rw [names_eq, List.length_map]
theorem sorted_size {l : List S38} (hm : modestB l) {x : List UInt8} (h : x ∈ sortedL l) : x.length ≤ 1000000 := keys_size hm (List.mem_mergeSort.1 h)
theorem dedup_len : ∀ l : List (List UInt8), (dedupL l).length ≤ l.length
  | [] => Nat.le_refl _
  | y :: l => by
    have := dedup_len l
    unfold dedupL
    split
    · rw [List.length_cons]; omega
    · rw [List.length_cons, List.length_cons]; omega
theorem sorted_len (l : List S38) : (sortedL l).length ≤ l.length := by
  unfold sortedL keysL
  rw [List.length_mergeSort]
  exact Nat.le_trans (dedup_len _) (Nat.le_trans (List.length_filter_le _ _) (by simp))
theorem names_of (A : Option Addr) (c : Nat) (l : List S38) (w : World) (hr : Kd.C k38 w A l.length l) (hm : modestB l) :
    Calls Try.prog 15 #[.slice A l.length c] w fun e W => ∃ v, e = .returned v ∧ Kd.R Kd.string 9 W w.heap.size (fun _ => True) v (namesS l) ∧ Below w.heap.size w W := by
  have h := X.names_any (.slice A l.length c) w.heap.size l.length X.valR (fun _ D => ∀ nm : ByteArray, nm.size ≤ maxLen → Maps.has D (.string nm.data.toList) = (getL l nm.data.toList).isSome) w (by have := hm.1; omega)
    ((all_of A c l w hr hm).mono (fun e W ⟨h1, ⟨C, ⟨D, hD, hD2⟩, hs⟩, hb⟩ => ⟨h1, ⟨D, hD, fun nm hn => by
      rw [(hD2 nm hn).1]
      have := hs nm.data.toList
      split at this
      · rename_i s hg
        obtain ⟨v, hv, _⟩ := this
        rw [hv, hg]; rfl
      · rename_i hg
        rw [this, hg]; rfl⟩, hb⟩))
  refine h.mono ?_
  rintro e W ⟨v, ss, D0, W0, rfl, hown, hQ, hp, hrow, hb⟩
  obtain ⟨es, hD, hpw, _⟩ := hown.entries X.strKeyed
  obtain ⟨es', hD', hko⟩ := hown.keysOf
  obtain rfl : es = es' := by rw [hD] at hD'; simpa using hD'
  have hkp : (keysL l).Perm (strKeys D0) := by
    rw [hD]
    refine perm_strKeys hpw (fun p hp => by obtain ⟨v, hv⟩ := hko p hp; obtain ⟨x, _, hx, _⟩ := Maps.keyOf_str Try.underlying9 hv; exact ⟨x, hx⟩) (nodup_dedupL _) (fun x => ?_)
    rw [mem_keysL, ← hD]
    constructor
    · intro hx
      have := keys_size hm (mem_keysL.2 hx)
      exact (hQ (nmOf x) (by show x.toArray.size ≤ maxLen; rw [List.size_toArray]; unfold maxLen; omega)).trans hx
    · intro hx
      have hlen : x.length ≤ maxLen := by
        rw [hD, Maps.has_eq, List.any_eq_true] at hx
        obtain ⟨p, hp, hs⟩ := hx
        obtain ⟨v, hv⟩ := hko p hp
        obtain ⟨y, _, hy, hl⟩ := Maps.keyOf_str Try.underlying9 hv
        rw [hy] at hs
        have : y = x := by simpa [Lit.sameKey] using hs
        rw [← this]; exact hl
      exact (hQ (nmOf x) (by show x.toArray.size ≤ maxLen; rw [List.size_toArray]; exact hlen)).symm.trans hx
  have hms : ss.mergeSort (fun x y => decide (x ≤ y)) = sortedL l := mergeSort_of_perm (hp.trans hkp.symm)
  have hlen : ss.length = (sortedL l).length := by rw [← hms, List.length_mergeSort]
  rw [hms] at hrow
  refine ⟨v, rfl, Kd.R_of_own (enc := Value.string) ?_ (fun _ _ => trivial), hb⟩
  have e1 : (namesS l).length = ss.length := by rw [names_len, hlen]
  rw [e1]
  have e2 : encs Value.string (namesS l) = (sortedL l).map encStr := by
    unfold encs
    rw [names_eq, List.map_map]
    rfl
  rw [e2]
  exact hrow
theorem bind_info : (Try.prog.info? 38).map (fun i => (i.zero, i.size, i.bytes)) = some (some (.agg #[(.string ⟨#[]⟩), (.int .i64 0), (.string ⟨#[]⟩), (.slice none 0 0), (.slice none 0 0)]), 5, 88) := by kernel_rfl
set_option maxHeartbeats 8000000 in
set_option maxRecDepth 100000 in
theorem canon_of (A : Option Addr) (c : Nat) (l : List S38) (w : World) (hr : Kd.C k38 w A l.length l) (hm : modestB l) :
    Calls Try.prog 18 #[.slice A l.length c] w fun e W => ∃ v, e = .returned v ∧ Kd.R k38 38 W w.heap.size (fun _ => True) v (canonB l) ∧ Below w.heap.size w W := by
  have HR := Aside0.mk hr
  have HM := Aside0.mk hm
  clear hr hm
  have hN := names_len l
  have hNl := sorted_len l
  have hl1 := HM.out.1
  go_enter Try.func18, Try.ntmps18
  go_wp2_with fail
  refine (all_of A c l _ HR.out HM.out).mono ?_
  rintro e W1 ⟨rfl, hmo, hb1⟩
  go_wp2_with fail
  refine (names_of A c l _ (Kd.C_below HR.out hb1) HM.out).mono ?_
  rintro e W2 ⟨v, rfl, hv, hb2⟩
  obtain ⟨A2, c2, rfl, hc2, hrd⟩ := Kd.R_reads hv
  have hb3 : Below w.heap.size w W2 := below_step hb1 hb2
  have hmo2 : MapOf W2 w.heap.size l.length w.heap.size l := by
    obtain ⟨C, hvm, hs⟩ := hmo
    refine ⟨C, hvm.below hb2, fun nm => ?_⟩
    have := hs nm
    split at this
    · obtain ⟨v, h1, h2⟩ := this
      exact ⟨v, h1, h2.grown (grown_of_below hb2 none) (fun r e => by cases e)⟩
    · exact this
  have hw2 := hb3.size
  clear hmo hb1 hb2 hv
  obtain ⟨N, hNN⟩ : ∃ N, N = (sortedL l).length := ⟨_, rfl⟩
  rw [← hNN] at hN hNl
  have HRD := Aside0.mk hrd
  have HM2 := Aside0.mk hmo2
  have HB3 := Aside0.mk hb3
  have HNN := Aside0.mk hNN
  rw [hN] at hc2 ⊢
  have HN := Aside0.mk hN
  clear hrd hmo2 hb3 hN hNN
  go_wp2_with fail
  go_loopw [4, 6, 12] (fun v4 _ v12 wr => ∃ k : Nat, k ≤ N ∧ v12 = .int .i64 k ∧ Below W2.heap.size W2 wr ∧ ∃ u inner, u = v4 ∧ wr.ownsRow W2.heap.size 38 5 u k inner ∧ Reps (k38.M W2 w.heap.size (fun j => j < W2.heap.size)) 5 ((canonB l).take k) inner)
    (fun _ _ v12 _ => (N - intOf v12).toNat)
  case atStart =>
    exact ⟨0, Nat.zero_le _, rfl, Below.refl _ _, _, [], rfl, ⟨rfl, .inl ⟨rfl, rfl⟩⟩, Reps.none _ _⟩
  case round =>
    obtain ⟨k, hk, rfl, hb, v4, inner, hv4, hown, hreps⟩ := hrel
    subst hv4
    by_cases hlt : k < N
    · have hrdw := Kd.C_below HRD.out hb
      obtain ⟨ad2, rfl, _⟩ := HRD.out.2.2 (by rw [HN.out]; omega)
      have hkl : k < (sortedL l).length := by rw [← HNN.out]; exact hlt
      have hce := X.cell_str hrdw k (by rw [HN.out]; exact hlt)
      have hnm : X.gAt (namesS l) k = nmOf (sortedL l)[k] := by
        unfold X.gAt
        rw [names_eq, List.getD_eq_getElem?_getD, List.getElem?_map, List.getElem?_eq_getElem hkl]
        rfl
      rw [hnm] at hce
      have hsz : (nmOf (sortedL l)[k]).size ≤ 1000000 := sorted_size HM.out (List.getElem_mem hkl)
      obtain ⟨A3, c3, A4, c4, _, hlk, r3, r4⟩ := HM2.out.look' hb (nmOf (sortedL l)[k]) hsz
      have hdl : (nmOf (sortedL l)[k]).data.toList = (sortedL l)[k] := rfl
      rw [hdl] at hlk r3 r4
      have hx : (canonB l).take (k + 1) = (canonB l).take k ++ [(⟨nmOf (sortedL l)[k], (getL l (sortedL l)[k]).getD z28⟩ : S38)] := by
        rw [List.take_succ_eq_append_getElem (by rw [canonB_eq, List.length_map]; exact hkl)]
        congr 2
        simp [canonB_eq]
      obtain ⟨nm, hnm'⟩ : ∃ nm, nm = nmOf (sortedL l)[k] := ⟨_, rfl⟩
      obtain ⟨s, hs⟩ : ∃ s, s = (getL l (sortedL l)[k]).getD z28 := ⟨_, rfl⟩
      rw [← hnm'] at hce hlk hx
      rw [← hs] at hlk r3 r4 hx
      have hM : k38.M W2 w.heap.size (fun j => j < W2.heap.size) ⟨nm, s⟩ [.string nm, .int .i64 s.f0, .string s.f1, .slice A3 s.f2.length c3, .slice A4 s.f3.length c4] :=
        k38_mkM W2 w.heap.size _ ⟨nm, s⟩ (Kd.R_mono (Kd.R_bound r3) (fun j hj => hj.2.2.1)) (Kd.R_mono (Kd.R_bound r4) (fun j hj => hj.2.2.1))
      have HX := Aside0.mk (hx ▸ hreps.snoc hM rfl)
      have HO := Aside0.mk hown
      have HF := Aside0.mk hb
      have HS := Aside0.mk hs
      have HNM := Aside0.mk hnm'
      clear hs hnm' hx hM hreps hown hb hrdw r3 r4 hnm
      go_wp2_with (at_builtin; refine print_append_cells (w0 := W2) W2.heap.size rfl (.tmp 16) (.tmp 22) 22 38 (.agg #[(.string ⟨#[]⟩), (.int .i64 0), (.string ⟨#[]⟩), (.slice none 0 0), (.slice none 0 0)]) 5 88 rfl Try.underlying22 bind_info rfl (by decide) (by decide) v4 k inner [.string nm, .int .i64 s.f0, .string s.f1, .slice A3 s.f2.length c3, .slice A4 s.f3.length c4] rfl rfl rfl (by simp [Value.oneCell']) HO.out HF.out (below_size HF.out) (by omega) ?_; intro v1 w1 q1 q2 q3 q4; have HQ := Aside0.mk q1; have HF1 := Aside0.mk q2; clear q1 q2 q3 q4)
      go_roundw
      case rel => exact ⟨k + 1, by omega, by go_num, HF1.out, _, _, rfl, HQ.out, HX.out⟩
      case measure => simp [intOf]; omega
    · have hkN : k = N := by omega
      subst hkN
      have HF := Aside0.mk hb
      have HO := Aside0.mk hown
      have HP := Aside0.mk hreps
      clear hb hown hreps hlt
      go_wp2_with fail
      go_ret
      have hlen : (canonB l).length = k := by rw [canonB_eq, List.length_map, ← HNN.out]
      have hp := HP.out
      rw [List.take_of_length_le (by omega)] at hp
      refine ⟨_, rfl, ⟨fun _ _ => trivial, inner, own_weaken (by rw [hlen]; exact HO.out) hw2, hp.imp_ (fun x cs h => Kd.M_mono _ (fun j hj => ⟨trivial, fun e => by have := X.own_base HO.out j e.symm; omega⟩) (Kd.M_move _ (fun j hj => HF.out.block j hj) h))⟩, HB3.out.trans (HF.out.mono hw2)⟩
def getT (l : List S38) (nm : ByteArray) : Int × ByteArray × List ByteArray × List S50 × Bool :=
  (((getL l nm.data.toList).getD z28).f0, ((getL l nm.data.toList).getD z28).f1, ((getL l nm.data.toList).getD z28).f2, ((getL l nm.data.toList).getD z28).f3, (getL l nm.data.toList).isSome)
end Go.Proofs.Ytfaiplbogchgjaa.PA
end
