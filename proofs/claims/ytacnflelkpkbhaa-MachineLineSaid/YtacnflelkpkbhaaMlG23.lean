/- Texts of this claim, those that nothing needs left out: Zo7. -/
import Derived.Test.YtacnflelkpkbhaaMlG22
section
namespace Go.Proofs.Ytacnflelkpkbhaa.PA
set_option linter.unusedSimpArgs false
set_option linter.unusedVariables false
open Go.RowKit Go.Maps Go.Proofs.YtacnflelkpkbhaaW.PrintWords Go.Proofs.YtacnflelkpkbhaaW.PrintLast Go.Proofs.YtacnflelkpkbhaaW.PrintMore
def eatN (s : List UInt8) (i : Nat) : S33 := ⟨1, [⟨((s.getD i 0).toNat : Int), ((s.getD i 0).toNat : Int), (i : Int) + 1⟩], [], 0, 0⟩
def lineM (s : List UInt8) : List S33 := (List.range s.length).map (eatN s) ++ [⟨4, [], [], 0, 0⟩]
theorem line_len (s : List UInt8) : (lineM s).length = s.length + 1 := by simp [lineM]
def LN (base : Nat) (W : World) (x : S33) (cs : List Value) : Prop := ∃ (B : Nat) (c t : Int), base ≤ B ∧ x = ⟨1, [⟨c, c, t⟩], [], 0, 0⟩ ∧ cs = [.int .i64 1, .slice (some ⟨B, 0, none⟩) 1 1, .slice none 0 0, .int .i64 0, .int .i64 0] ∧ W.heap[B]? = some (.cells #[.int .u8 c, .int .u8 c, .int .i64 t] 48 (0, 0))
theorem LN.step {base : Nat} {W W' : World} {x : S33} {cs : List Value} (h : LN base W x cs) (hm : ∀ (B : Nat) (c t : Int), W.heap[B]? = some (.cells #[.int .u8 c, .int .u8 c, .int .i64 t] 48 (0, 0)) → W'.heap[B]? = some (.cells #[.int .u8 c, .int .u8 c, .int .i64 t] 48 (0, 0))) : LN base W' x cs := by
  obtain ⟨B, c, t, h1, h2, h3, h4⟩ := h
  exact ⟨B, c, t, h1, h2, h3, hm _ _ _ h4⟩
theorem LN.node {base : Nat} {W : World} {x : S33} {cs : List Value} (h : LN base W x cs) : k33.K W x cs := by
  obtain ⟨B, c, t, _, rfl, rfl, h4⟩ := h
  exact k33_mk W ⟨1, [⟨c, c, t⟩], [], 0, 0⟩ (A1 := some ⟨B, 0, none⟩) (c1 := 1) (Nat.le_refl _) (edge_row1 (x := ⟨c, c, t⟩) h4) (A2 := none) (c2 := 0) (Nat.le_refl _) (X.C_nil _ _)
theorem cells_new5 (w : World) (o : Obj) (a b c d e : Value) (t : TypeId) : ∀ j u, ([a, b, c, d, e] : List Value)[j]? = some u → ((w.alloc o).alloc (.cells #[a, b, c, d, e] t)).cell? ((⟨w.heap.size + 1, 0, none⟩ : Addr).add j) = some u := by
  intro j u hj
  have hb := X.blk_new2 w o (.cells #[a, b, c, d, e] t)
  rw [add_zero_off, blk_cell hb]
  match j, hj with
  | 0, hj => exact hj
  | 1, hj => exact hj
  | 2, hj => exact hj
  | 3, hj => exact hj
  | 4, hj => exact hj
def line.T5 : Bool × List (List Nat × List Nat) := (true, [([], []), ([], []), ([], []), ([1, 2], [1, 2]), ([], []), ([], []), ([4, 5], [4, 5]), ([], []), ([7], [7]), ([3, 6, 8], [3, 6, 8]), ([9], [9]), ([10], [10]), ([11], [11]), ([0, 12], [0, 12]), ([13, 13, 0, 1, 2, 3, 4, 5, 6, 7, 8, 9, 10, 11, 12, 13], [0, 13])])
def line.B5 : List Nat := [0, 0, 0, 6, 0, 0, 48, 0, 128, 510, 1022, 2046, 4094, 8191, 16383]
theorem line.tab5 : rtab .any (opsOf Try.f17 5) = line.T5 := by kernel_rfl
theorem line.bits5 : waitsOk line.T5.2 line.B5 = true := by kernel_rfl
set_option maxHeartbeats 16000000 in
set_option maxRecDepth 100000 in
theorem line_any (s : ByteArray) (w : World) (hs : s.size ≤ 1000) :
    Calls Try.prog 17 #[.string s] w fun e W' => ∃ A c, e = .returned (.slice A (lineM s.data.toList).length c) ∧ Kd.C k33 W' A (lineM s.data.toList).length (lineM s.data.toList) ∧ Below w.heap.size w W' := by
  have hsd : s.data.toList.length = s.size := Array.length_toList
  have HSD := Aside0.mk hsd
  clear hsd
  go_enter Try.func17, Try.ntmps17
  go_wp2_with fail
  go_loopw [4, 3] (fun v4 v3 wr => ∃ (j : Nat) (inner : List Value), j ≤ s.size ∧ v4 = .int .i64 (j : Int) ∧ Below w.heap.size w wr ∧ wr.ownsRow w.heap.size 33 5 v3 j inner ∧ Reps (LN w.heap.size wr) 5 ((List.range j).map (eatN s.data.toList)) inner) (fun v4 _ _ => (s.size - intOf v4).toNat)
  case atStart => exact ⟨0, [], Nat.zero_le _, rfl, Below.refl _ _, World.ownsRow_nil _ _ _ _, Reps.none _ _⟩
  case round =>
    obtain ⟨j, inner, hj, rfl, hb, ho, hreps⟩ := hrel
    by_cases hjl : j < s.size
    · have hj2 : j < s.data.toList.length := by rw [HSD.out]; exact hjl
      obtain ⟨ch, hch⟩ : ∃ x : Int, x = ((s.data.toList[j]).toNat : Int) := ⟨_, rfl⟩
      have hbt : ((s[j]'hjl).toNat : Int) = ch := by rw [hch]; rfl
      have hen : eatN s.data.toList j = ⟨1, [⟨ch, ch, (j : Int) + 1⟩], [], 0, 0⟩ := by
        unfold eatN
        rw [List.getD_eq_getElem?_getD, List.getElem?_eq_getElem hj2, hch]
        rfl
      have hwr : IntKind.i64.wrap ((j : Int) + 1) = (j : Int) + 1 := by rw [IntKind.wrap_i64]; omega
      have hb2 : Below wr.heap.size wr (((wr.alloc (.cells #[.int .u8 ch, .int .u8 ch, .int .i64 ((j : Int) + 1)] 48)).alloc (.cells #[.int .i64 1, .slice (some ⟨wr.heap.size, 0, none⟩) 1 1, .slice none 0 0, .int .i64 0, .int .i64 0] 33)).drew) := below_drew (X.below_new2 wr _ _)
      have hoa := own_below ho hb2
      have hed : (((wr.alloc (.cells #[.int .u8 ch, .int .u8 ch, .int .i64 ((j : Int) + 1)] 48)).alloc (.cells #[.int .i64 1, .slice (some ⟨wr.heap.size, 0, none⟩) 1 1, .slice none 0 0, .int .i64 0, .int .i64 0] 33)).drew).heap[wr.heap.size]? = some (.cells #[.int .u8 ch, .int .u8 ch, .int .i64 ((j : Int) + 1)] 48 (0, 0)) := blk_drew (blk_alloc (blk_new wr _) _)
      obtain ⟨i0, hi0, hz0, hz1, hz2⟩ := info_parts node_info2
      obtain ⟨v2, w2, hrun, ho2, hg2, _, _⟩ := run_append_own_at (P := Try.prog) (w := ((wr.alloc (.cells #[.int .u8 ch, .int .u8 ch, .int .i64 ((j : Int) + 1)] 48)).alloc (.cells #[.int .i64 1, .slice (some ⟨wr.heap.size, 0, none⟩) 1 1, .slice none 0 0, .int .i64 0, .int .i64 0] 33)).drew) w.heap.size 26 26 33 i0 (.agg #[.int .i64 0, .slice none 0 0, .slice none 0 0, .int .i64 0, .int .i64 0]) 5 72 Try.underlying26 hi0 hz0 hz1 hz2 rfl (by decide) u3 j inner hoa ⟨wr.heap.size + 1, 0, none⟩ 1 1 [.int .i64 1, .slice (some ⟨wr.heap.size, 0, none⟩) 1 1, .slice none 0 0, .int .i64 0, .int .i64 0] rfl (fun k u hu => cells_new5 wr _ _ _ _ _ _ _ k u hu) (by simp [Value.oneCell']) (by unfold maxLen; omega) (by omega) (by have h1 := hb.size; have h2 := hb2.size; omega)
      obtain ⟨g', cap', rfl⟩ := ownsRow_succ ho2
      have hbw2 : Below w.heap.size w w2 := (below_step hb hb2).grown hg2 ((below_step hb hb2).size) (fun k e => own_base hoa k e)
      have hkeep : ∀ (B : Nat) (c t : Int), wr.heap[B]? = some (.cells #[.int .u8 c, .int .u8 c, .int .i64 t] 48 (0, 0)) → w2.heap[B]? = some (.cells #[.int .u8 c, .int .u8 c, .int .i64 t] 48 (0, 0)) := fun B c t h => blk_row (blk_below h hb2) hoa (by decide) hg2
      have hed2 := blk_row hed hoa (by decide) hg2
      have hreps2 : Reps (LN w.heap.size w2) 5 ((List.range (j + 1)).map (eatN s.data.toList)) (inner ++ [.int .i64 1, .slice (some ⟨wr.heap.size, 0, none⟩) 1 1, .slice none 0 0, .int .i64 0, .int .i64 0]) := by
        rw [List.range_succ, List.map_append]
        exact (hreps.imp_ (fun x cs h => h.step hkeep)).snoc ⟨wr.heap.size, ch, (j : Int) + 1, hb.size, hen, rfl, hed2⟩ rfl
      have HRUN := Aside0.mk hrun
      have HB2 := Aside0.mk hbw2
      have HO2 := Aside0.mk ho2
      have HREPS := Aside0.mk hreps2
      clear hb ho hreps hj2 hch hen hb2 hoa hed hrun ho2 hg2 hbw2 hkeep hed2 hreps2 hi0 hz0 hz1 hz2
      go_wp2_with fail
      refine start_ (n := 15) (S := fun w' => True) (ds := []) #[false, false, false, false, false, false, false, false, false, false, false, false, false, false, false] (by kernel_rfl) rfl rfl trivial (fun hHeld => ?_)
      refine with_tabW line.tab5 line.bits5 (fun HT_ HW_ => ?_)
      refine pure_ (i := 0) (N := (some 11)) (v := ?_) (a' := ?_) #[true, false, false, false, false, false, false, false, false, false, false, false, false, false, false] rfl rfl (any_of HT_.out (by kernel_rfl)) (fun _ _ _ h => h) (Or.inl ⟨by rfl, ?_⟩) ?_ ?_
      rotate_left
      · intro w'
        go_simp
        with_reducible rfl
      rotate_left
      · simp only [Act.put, List.setIfInBounds_toArray, List.set_cons_zero, List.set_cons_succ, i64_w, i32_w]
        rfl
      refine pure_ (i := 1) (N := (some 12)) (v := ?_) (a' := ?_) #[true, true, false, false, false, false, false, false, false, false, false, false, false, false, false] rfl rfl (any_of HT_.out (by kernel_rfl)) (fun _ _ _ h => h) (Or.inl ⟨by rfl, ?_⟩) ?_ ?_
      rotate_left
      · intro w'
        go_simp
        with_reducible rfl
      rotate_left
      · simp only [Act.put, List.setIfInBounds_toArray, List.set_cons_zero, List.set_cons_succ, i64_w, i32_w]
        rfl
      refine pure_ (i := 2) (N := (some 13)) (v := ?_) (a' := ?_) #[true, true, true, false, false, false, false, false, false, false, false, false, false, false, false] rfl rfl (any_of HT_.out (by kernel_rfl)) (fun _ _ _ h => h) (Or.inl ⟨by rfl, ?_⟩) ?_ ?_
      rotate_left
      · intro w'
        go_simp
        with_reducible rfl
      rotate_left
      · simp only [Act.put, List.setIfInBounds_toArray, List.set_cons_zero, List.set_cons_succ, i64_w, i32_w]
        rfl
      refine pure_ (i := 3) (N := (some 14)) (v := ?_) (a' := ?_) #[true, true, true, true, false, false, false, false, false, false, false, false, false, false, false] rfl rfl (any_of HT_.out (by kernel_rfl)) (fun _ _ _ h => h) (Or.inl ⟨by rfl, ?_⟩) ?_ ?_
      rotate_left
      · intro w'
        go_simp
        with_reducible rfl
      rotate_left
      · simp only [Act.put, List.setIfInBounds_toArray, List.set_cons_zero, List.set_cons_succ, i64_w, i32_w]
        rfl
      refine pure_ (i := 4) (N := (some 15)) (v := ?_) (a' := ?_) #[true, true, true, true, true, false, false, false, false, false, false, false, false, false, false] rfl rfl (any_of HT_.out (by kernel_rfl)) (fun _ _ _ h => h) (Or.inl ⟨by rfl, ?_⟩) ?_ ?_
      rotate_left
      · intro w'
        go_simp
        with_reducible rfl
      rotate_left
      · simp only [Act.put, List.setIfInBounds_toArray, List.set_cons_zero, List.set_cons_succ, i64_w, i32_w]
        rfl
      refine pure_ (i := 5) (N := (some 16)) (v := ?_) (a' := ?_) #[true, true, true, true, true, true, false, false, false, false, false, false, false, false, false] rfl rfl (any_of HT_.out (by kernel_rfl)) (fun _ _ _ h => h) (Or.inl ⟨by rfl, ?_⟩) ?_ ?_
      rotate_left
      · intro w'
        go_simp
        with_reducible rfl
      rotate_left
      · simp only [Act.put, List.setIfInBounds_toArray, List.set_cons_zero, List.set_cons_succ, i64_w, i32_w]
        rfl
      refine pure_ (i := 6) (N := (some 17)) (v := ?_) (a' := ?_) #[true, true, true, true, true, true, true, false, false, false, false, false, false, false, false] rfl rfl (any_of HT_.out (by kernel_rfl)) (fun _ _ _ h => h) (Or.inl ⟨by rfl, ?_⟩) ?_ ?_
      rotate_left
      · intro w'
        go_simp
        with_reducible rfl
      rotate_left
      · simp only [Act.put, List.setIfInBounds_toArray, List.set_cons_zero, List.set_cons_succ, i64_w, i32_w]
        rfl
      refine pure_ (i := 7) (N := (some 18)) (v := ?_) (a' := ?_) #[true, true, true, true, true, true, true, true, false, false, false, false, false, false, false] rfl rfl (any_of HT_.out (by kernel_rfl)) (fun _ _ _ h => h) (Or.inl ⟨by rfl, ?_⟩) ?_ ?_
      rotate_left
      · intro w'
        go_simp
        with_reducible rfl
      rotate_left
      · simp only [Act.put, List.setIfInBounds_toArray, List.set_cons_zero, List.set_cons_succ, i64_w, i32_w]
        rfl
      refine pure_ (i := 8) (N := (some 19)) (v := .int .i64 ((j : Int) + 1)) (a' := ?_) #[true, true, true, true, true, true, true, true, true, false, false, false, false, false, false] rfl rfl (any_of HT_.out (by kernel_rfl)) (fun _ _ _ h => h) (Or.inl ⟨by rfl, ?_⟩) ?_ ?_
      · intro w'
        go_simp
        try with_reducible rfl
      rotate_left
      · simp only [Act.put, List.setIfInBounds_toArray, List.set_cons_zero, List.set_cons_succ, i64_w, i32_w]
        rfl
      refine pure_ (i := 9) (N := (some 20)) (v := ?_) (a' := ?_) #[true, true, true, true, true, true, true, true, true, true, false, false, false, false, false] rfl rfl (any_of HT_.out (by kernel_rfl)) (fun _ _ _ h => h) (Or.inl ⟨by rfl, ?_⟩) ?_ ?_
      rotate_left
      · intro w'
        go_simp
        with_reducible rfl
      rotate_left
      · simp only [Act.put, List.setIfInBounds_toArray, List.set_cons_zero, List.set_cons_succ, i64_w, i32_w]
        rfl
      refine one_ (i := 10) (N := (some 21)) #[true, true, true, true, true, true, true, true, true, true, true, false, false, false, false] rfl rfl (one_of HT_.out (by kernel_rfl)) (by decide) (fun K hK => ?_)
      refine value_ (w1 := (wr.alloc (.cells #[.int .u8 ch, .int .u8 ch, .int .i64 ((j : Int) + 1)] 48)).drew) (v := .slice (some ⟨wr.heap.size, 0, none⟩) 1 1) (by rfl) rfl ?_ ?_
      · go_simp
        try rfl
      refine hK.out _ _ trivial (fun hHeld => ?_)
      clear hK K
      refine norm_ (a' := ?_) ?_ ?_
      rotate_left
      · show Act.put _ (some 21) _ = _
        simp only [Act.put, List.setIfInBounds_toArray, List.set_cons_zero, List.set_cons_succ, i64_w, i32_w]
        rfl
      refine pure_ (i := 11) (N := (some 22)) (v := ?_) (a' := ?_) #[true, true, true, true, true, true, true, true, true, true, true, true, false, false, false] rfl rfl (any_of HT_.out (by kernel_rfl)) (fun _ _ _ h => h) (Or.inl ⟨by rfl, ?_⟩) ?_ ?_
      rotate_left
      · intro w'
        go_simp
        with_reducible rfl
      rotate_left
      · simp only [Act.put, List.setIfInBounds_toArray, List.set_cons_zero, List.set_cons_succ, i64_w, i32_w]
        rfl
      refine one_ (i := 12) (N := (some 23)) #[true, true, true, true, true, true, true, true, true, true, true, true, true, false, false] rfl rfl (one_of HT_.out (by kernel_rfl)) (by decide) (fun K hK => ?_)
      refine value_ (w1 := ((wr.alloc (.cells #[.int .u8 ch, .int .u8 ch, .int .i64 ((j : Int) + 1)] 48)).alloc (.cells #[.int .i64 1, .slice (some ⟨wr.heap.size, 0, none⟩) 1 1, .slice none 0 0, .int .i64 0, .int .i64 0] 33)).drew) (v := .slice (some ⟨wr.heap.size + 1, 0, none⟩) 1 1) (by rfl) rfl ?_ ?_
      · go_simp
        try rfl
      refine hK.out _ _ trivial (fun hHeld => ?_)
      clear hK K
      refine norm_ (a' := ?_) ?_ ?_
      rotate_left
      · show Act.put _ (some 23) _ = _
        simp only [Act.put, List.setIfInBounds_toArray, List.set_cons_zero, List.set_cons_succ, i64_w, i32_w]
        rfl
      refine one_ (i := 13) (N := (some 24)) #[true, true, true, true, true, true, true, true, true, true, true, true, true, true, false] rfl rfl (one_of HT_.out (by kernel_rfl)) (by decide) (fun K hK => ?_)
      refine value_ (w1 := w2) (v := .slice (some ⟨g', 0, none⟩) (j + 1) cap') (by rfl) rfl ?_ ?_
      · exact run_appendOp rfl rfl rfl HRUN.out
      refine hK.out _ _ trivial (fun hHeld => ?_)
      clear hK K
      refine norm_ (a' := ?_) ?_ ?_
      rotate_left
      · show Act.put _ (some 24) _ = _
        simp only [Act.put, List.setIfInBounds_toArray, List.set_cons_zero, List.set_cons_succ, i64_w, i32_w]
        rfl
      refine pure_ (i := 14) (N := (some 3)) (v := ?_) (a' := ?_) #[true, true, true, true, true, true, true, true, true, true, true, true, true, true, true] rfl rfl (any_of HT_.out (by kernel_rfl)) (fun _ _ _ h => h) (Or.inl ⟨by rfl, ?_⟩) ?_ ?_
      rotate_left
      · intro w'
        go_simp
        with_reducible rfl
      rotate_left
      · simp only [Act.put, List.setIfInBounds_toArray, List.set_cons_zero, List.set_cons_succ, i64_w, i32_w]
        rfl
      refine done_ (done_of HT_.out (by kernel_rfl)) ?_
      go_wp2_with fail
      go_roundw
      case rel => exact ⟨j + 1, _, by omega, by go_num, HB2.out, HO2.out, HREPS.out⟩
      case measure => simp [intOf]; omega
    · obtain rfl : s.size = j := by omega
      have HO := Aside0.mk ho
      have HB := Aside0.mk hb
      have HREPS := Aside0.mk hreps
      clear ho hb hreps
      go_wp2_with (at_builtin; refine print_append_cells (w0 := w) w.heap.size rfl (.tmp 25) (.tmp 27) 26 33 (.agg #[.int .i64 0, .slice none 0 0, .slice none 0 0, .int .i64 0, .int .i64 0]) 5 72 rfl Try.underlying26 node_info2 rfl (by decide) (by decide) u3 s.size inner [.int .i64 4, .slice none 0 0, .slice none 0 0, .int .i64 0, .int .i64 0] rfl rfl rfl (by simp [Value.oneCell']) HO.out HB.out HB.out.size (by omega) ?_; intro v4 w4 q1 q2 q3 q4; have Q1 := Aside0.mk q1; have Q2 := Aside0.mk q2; have Q3 := Aside0.mk q3; clear q1 q2 q3 q4)
      go_ret
      have hr := (HREPS.out.imp_ (fun x cs h => (h.step (W' := w4) (fun B c t h => blk_row h HO.out (by decide) Q3.out)).node)).snoc (k33_mk w4 ⟨4, [], [], 0, 0⟩ (A1 := none) (c1 := 0) (Nat.le_refl _) (X.C_nil _ _) (A2 := none) (c2 := 0) (Nat.le_refl _) (X.C_nil _ _)) rfl
      obtain ⟨A, c, hv, hl, hC⟩ := nodes_row (l := lineM s.data.toList) Q1.out (by rw [line_len, HSD.out]) (by unfold lineM; rw [HSD.out]; exact hr)
      exact ⟨A, c, by rw [← hv]; rfl, hC, Q2.out⟩
end Go.Proofs.Ytacnflelkpkbhaa.PA
end
