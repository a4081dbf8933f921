/- Texts of this claim, those that nothing needs left out: Xyo. -/
import Derived.Laws.CopyOwn
import Derived.Test.YtfaiplbogchgjaaBaG26
section
namespace Go.Proofs.Ytfaiplbogchgjaa.X
set_option linter.unusedSimpArgs false
set_option linter.unusedVariables false
open Go.RowKit Go.Shelf Go.Maps Go.Lib Go.Proofs.YtfaiplbogchgjaaW.PrintWords
set_option maxHeartbeats 8000000 in
set_option maxRecDepth 100000 in
/-- No room: a new row. -/
theorem insert_grow (base g n c : Nat) (cs vs : List Value) (cur : Array Value) (w : World) (hn : 0 < n) (hn2 : n ≤ 1000000) (hnc : n ≤ c) (hroom : c < n + 1) (hg : w.heap[g]? = some (.cells cur 38 (0, 0))) (hcs : cs.length = n * 5) (hcur : cur.size = c * 5) (htk : cur.toList.take (n * 5) = cs)
    (h1c : ∀ v ∈ cs, v.oneCell' = true) (hbase : base ≤ w.heap.size) (vb : Nat) (hv : w.heap[vb]? = some (.cells vs.toArray 38 (0, 0))) (hvl : vs.length = 5) (h1v : ∀ v ∈ vs, v.oneCell' = true) (w0 : World) (hb : Below base w0 w) :
    Calls Try.prog 33 #[.slice (some ⟨g, 0, none⟩) n c, .int .i64 0, .slice (some ⟨vb, 0, none⟩) 1 1] w fun e w' => ∃ s', e = .returned s' ∧ w'.ownsRow base 38 5 s' (n + 1) (vs ++ cs) ∧ Below base w0 w' := by
  obtain ⟨i0, hi, hz0, hz1, hz2⟩ := info_parts bindI
  have hgl := blk_lt hg
  have hvl' := blk_lt hv
  have hold : (Builtin.firstCells i0.size 0 (.slice (some ⟨g, 0, none⟩) 0 c)).run Try.prog w.drew = .ok ([] : List Value).toArray w.drew := by
    rw [hz1]
    exact run_firstCells_some w.drew 5 0 ⟨g, 0, none⟩ 0 c [] (by simp) (fun j v hj => by simp at hj)
  have hrz : ∀ ty, (Builtin.append_ #[22, 3] ty #[.slice (some ⟨g, 0, none⟩) 0 c, .int .i64 ((n : Int) + 1)]).run Try.prog w =
      .ok (.slice (some ⟨w.heap.size, 0, none⟩) (n + 1) (grownCap w (n + 1) c 38)) (w.drew.alloc (.cells (([] : List Value).toArray ++ Builtin.zeroCells (.agg #[(.string ⟨#[]⟩), (.int .i64 0), (.string ⟨#[]⟩), (.slice none 0 0), (.slice none 0 0)] : Value).cells (n + 1) ++ Builtin.zeroCells (.agg #[(.string ⟨#[]⟩), (.int .i64 0), (.string ⟨#[]⟩), (.slice none 0 0), (.slice none 0 0)] : Value).cells (grownCap w (n + 1) c 38 - (n + 1))) 38)) := fun ty => by
    have h := Lib.run_append_grow_zeros w 22 3 ty 38 i0 _ .i64 .i64 Try.underlying22 Try.underlying3 hi hz0 (some ⟨g, 0, none⟩) 0 c [] hold (n + 1) (by omega) (by omega) (by omega) (by omega) (by rw [hz2]; omega) (by rw [hz2, Nat.zero_add]; exact growslice_fits hroom (by omega))
    rw [Nat.zero_add] at h
    exact h
  obtain ⟨G, hG⟩ : ∃ G, G = grownCap w (n + 1) c 38 := ⟨_, rfl⟩
  have hGn : n + 1 ≤ G := by rw [hG]; exact grownCap_ge w _ _ _
  have hG63 : G ≤ maxLen := by rw [hG]; exact grownCap_le_maxLen w (n + 1) c 38 (by unfold maxLen; omega)
  obtain ⟨ROW, hROW⟩ : ∃ ROW : Array Value, ROW = ([] : List Value).toArray ++ Builtin.zeroCells (.agg #[(.string ⟨#[]⟩), (.int .i64 0), (.string ⟨#[]⟩), (.slice none 0 0), (.slice none 0 0)] : Value).cells (n + 1) ++ Builtin.zeroCells (.agg #[(.string ⟨#[]⟩), (.int .i64 0), (.string ⟨#[]⟩), (.slice none 0 0), (.slice none 0 0)] : Value).cells (G - (n + 1)) := ⟨_, rfl⟩
  rw [← hG] at hrz
  rw [← hROW] at hrz
  have hRl : ROW.size = G * 5 := by
    rw [hROW]
    simp [Builtin.zeroCells, Value.cells]
    omega
  have hszI : (Try.prog.info? 38).map (·.size) = some 5 := by rw [hi]; simp [hz1]
  have hadd : ∀ b j : Nat, Addr.add ⟨b, 0, none⟩ j = ⟨b, j, none⟩ := fun b j => by cases j <;> simp [Addr.add]
  have hcpA : ∀ (W : World), W.heap[w.heap.size]? = some (.cells ROW 38 (0, 0)) → W.heap[vb]? = some (.cells vs.toArray 38 (0, 0)) → ∀ ty dc, (Builtin.copy_ #[22, 22] ty #[.slice (some ⟨w.heap.size, 0, none⟩) (n + 1) dc, .slice (some ⟨vb, 0, none⟩) 1 1]).run Try.prog W = .ok (goInt (Nat.min 1 (n + 1))) (W.setRow w.heap.size (vs ++ ROW.toList.drop 5).toArray) := fun W h1 h2 ty dc => by
    have h := run_copy_rowN (P := Try.prog) W 22 22 ty 38 5 w.heap.size 0 (n + 1) dc ⟨vb, 0, none⟩ 1 1 ROW 38 vs Try.underlying22 hszI h1 (by rw [hvl]; simp [Nat.min_def]) (fun j v hj => by rw [hadd, blk_cell h2 j]; simpa using hj) (by omega) h1v
    rw [hvl] at h
    simpa using h
  have hcpB : ∀ (W : World), W.heap[w.heap.size]? = some (.cells (vs ++ ROW.toList.drop 5).toArray 38 (0, 0)) → W.heap[g]? = some (.cells cur 38 (0, 0)) → ∀ ty dc sc, (Builtin.copy_ #[22, 22] ty #[.slice (some ⟨w.heap.size, 5, none⟩) n dc, .slice (some ⟨g, 0, none⟩) n sc]).run Try.prog W = .ok (goInt n) (W.setRow w.heap.size (vs ++ cs ++ (vs ++ ROW.toList.drop 5).drop (5 + n * 5)).toArray) := fun W h1 h2 ty dc sc => by
    have h := run_copy_rowN (P := Try.prog) W 22 22 ty 38 5 w.heap.size 5 n dc ⟨g, 0, none⟩ n sc (vs ++ ROW.toList.drop 5).toArray 38 cs Try.underlying22 hszI h1 (by rw [hcs]; simp) (fun j v hj => by
      rw [hadd, blk_cell h2 j]
      rw [← htk, List.getElem?_take] at hj
      split at hj
      · simpa using hj
      · cases hj) (by simp [hvl, hcs, hRl]; omega) h1c
    rw [hcs] at h
    have e : (vs ++ ROW.toList.drop 5).take 5 = vs := by rw [← hvl, List.take_left']; rfl
    simpa [e] using h
  clear hold hROW hG
  have hG1 : ¬ (G = 1) := by omega
  have hG0 : ¬ (G = 0) := by omega
  have hA1 : ((w.alloc (.cells ROW 38)).drew).heap[w.heap.size]? = some (.cells ROW 38 (0, 0)) := blk_new w _
  have hA2 : ((w.alloc (.cells ROW 38)).drew).heap[vb]? = some (.cells vs.toArray 38 (0, 0)) := blk_alloc hv _
  have hA3 : ((w.alloc (.cells ROW 38)).drew).heap[g]? = some (.cells cur 38 (0, 0)) := blk_alloc hg _
  have hA := hcpA _ hA1 hA2
  obtain ⟨W2, hW2⟩ : ∃ W2, W2 = (w.alloc (.cells ROW 38)).drew.setRow w.heap.size (vs ++ ROW.toList.drop 5).toArray := ⟨_, rfl⟩
  have hB1 : W2.drew.heap[w.heap.size]? = some (.cells (vs ++ ROW.toList.drop 5).toArray 38 (0, 0)) := by
    rw [hW2]; exact setRow_heap _ _ _ _ _ _ hA1
  have hB2 : W2.drew.heap[g]? = some (.cells cur 38 (0, 0)) := by
    rw [hW2]; exact (setRow_other _ _ _ _ (by omega)).trans hA3
  have hB := hcpB _ hB1 hB2
  have hw1 : IntKind.i64.wrap 1 = 1 := by decide
  have hw2 : (1 : Int) ≤ (n : Int) + 1 := by omega
  have hw3 : (1 : Int).toNat = 1 := rfl
  have mixed : Try.prog.follows Departure.mixedOrders = true := by kernel_rfl
  subst hW2
  go_enter Try.func33, Try.ntmps33
  go_wp2_with (first
    | (at_builtin; refine Lib.wpList_append_run _ rfl _ _ _ _ rfl _ _ rfl rfl _ _ (hrz _) ?_)
    | (at_builtin; refine wpList_copy_runI _ rfl _ _ 22 22 rfl _ _ rfl rfl (hA _ _) ?_)
    | fail)
  go_region_law_o (refine step_copy_runI rfl _ _ 22 22 rfl (.slice (some ⟨w.heap.size, 5, none⟩) n (G - 1)) (.slice (some ⟨g, 0, none⟩) n c) (by simp [Act.eval, Act.put]) (by simp [Act.eval, Act.put]) (hB _ _ _) ?_)
  go_wp2
  go_ret
  refine ⟨_, rfl, ⟨by simp [hvl, hcs]; omega, .inr ⟨w.heap.size, G, _, rfl, by omega, setRow_heap _ _ _ _ _ _ hB1, hGn, hG63, ?_, ?_⟩⟩, ?_⟩
  · simp [hvl, hcs, hRl]; omega
  · rw [List.toList_toArray, ← List.append_assoc, List.take_left']
    simp [hvl, hcs]; omega
  · exact below_setRow (below_setRow (hb.alloc (by omega) _).drew (by omega) _).drew (by omega) _
set_option maxHeartbeats 8000000 in
set_option maxRecDepth 100000 in
/-- There is room: in place. -/
theorem insert_shift (base g n c : Nat) (cs vs : List Value) (cur : Array Value) (w : World) (hn : 0 < n) (hn2 : n ≤ 1000000) (hroom : n + 1 ≤ c) (hc63 : c ≤ maxLen) (hg : w.heap[g]? = some (.cells cur 38 (0, 0))) (hcs : cs.length = n * 5) (hcur : cur.size = c * 5) (htk : cur.toList.take (n * 5) = cs)
    (h1c : ∀ v ∈ cs, v.oneCell' = true) (hbg : base ≤ g) (vb : Nat) (hvg : vb ≠ g) (hv : w.heap[vb]? = some (.cells vs.toArray 38 (0, 0))) (hvl : vs.length = 5) (h1v : ∀ v ∈ vs, v.oneCell' = true) (w0 : World) (hb : Below base w0 w) :
    Calls Try.prog 33 #[.slice (some ⟨g, 0, none⟩) n c, .int .i64 0, .slice (some ⟨vb, 0, none⟩) 1 1] w fun e w' => ∃ s', e = .returned s' ∧ w'.ownsRow base 38 5 s' (n + 1) (vs ++ cs) ∧ Below base w0 w' := by
  obtain ⟨i0, hi, hz0, hz1, hz2⟩ := info_parts bindI
  have hgl := blk_lt hg
  have hvl' := blk_lt hv
  have hszI : (Try.prog.info? 38).map (·.size) = some 5 := by rw [hi]; simp [hz1]
  have hadd : ∀ b j : Nat, Addr.add ⟨b, 0, none⟩ j = ⟨b, j, none⟩ := fun b j => by cases j <;> simp [Addr.add]
  have hov : ∀ lb cb, (callFunc 44 #[.slice (some ⟨vb, 0, none⟩) 1 1, .slice (some ⟨g, 5, none⟩) lb cb]).run Try.prog w = .ok (.value (.bool false)) w := fun lb cb => by
    rw [run_callFunc_extern Try.func44 (by kernel_rfl) (by kernel_rfl) (by kernel_rfl) (e := Extern.SlicesOverlaps.overlaps #[22, 22] #[4]) (by kernel_rfl),
      Lib.run_overlaps_apart w 22 4 38 Try.underlying22 5 (fun w => by simp [Go.sizeOf, typeInfo, hi, hz1]) ⟨vb, 0, none⟩ ⟨g, 5, none⟩ 1 1 lb cb hvg 38 38 vs.toArray.size cur.size (by simp [World.shape?, hv]) (by simp [World.shape?, hg]) (by rw [hcur]; omega) (blk_frozen hv 0) (blk_frozen hv _)]
    rfl
  have hcp1 : ∀ (W : World), W.heap[g]? = some (.cells cur 38 (0, 0)) → ∀ ty dc sc, (Builtin.copy_ #[22, 22] ty #[.slice (some ⟨g, 5, none⟩) n dc, .slice (some ⟨g, 0, none⟩) (n + 1) sc]).run Try.prog W = .ok (goInt n) (W.setRow g (cur.toList.take 5 ++ cs ++ cur.toList.drop (5 + n * 5)).toArray) := fun W h1 ty dc sc => by
    have h := run_copy_rowN (P := Try.prog) W 22 22 ty 38 5 g 5 n dc ⟨g, 0, none⟩ (n + 1) sc cur 38 cs Try.underlying22 hszI h1 (by rw [hcs]; simp) (fun j v hj => by
      rw [hadd, blk_cell h1 j]
      rw [← htk, List.getElem?_take] at hj
      split at hj
      · simpa using hj
      · cases hj) (by rw [hcs, hcur]; omega) h1c
    rw [hcs] at h
    simpa using h
  obtain ⟨R1, hR1⟩ : ∃ R1 : List Value, R1 = cur.toList.take 5 ++ cs ++ cur.toList.drop (5 + n * 5) := ⟨_, rfl⟩
  have hR1l : R1.length = c * 5 := by rw [hR1]; simp [hcs, hcur]; omega
  have hR1d : R1.drop 5 = cs ++ cur.toList.drop (5 + n * 5) := by
    rw [hR1, List.append_assoc, List.drop_left']
    simp [hcur]; omega
  rw [← hR1] at hcp1
  have hcp2 : ∀ (W : World), W.heap[g]? = some (.cells R1.toArray 38 (0, 0)) → W.heap[vb]? = some (.cells vs.toArray 38 (0, 0)) → ∀ ty dc, (Builtin.copy_ #[22, 22] ty #[.slice (some ⟨g, 0, none⟩) (n + 1) dc, .slice (some ⟨vb, 0, none⟩) 1 1]).run Try.prog W = .ok (goInt (Nat.min 1 (n + 1))) (W.setRow g (vs ++ R1.drop 5).toArray) := fun W h1 h2 ty dc => by
    have h := run_copy_rowN (P := Try.prog) W 22 22 ty 38 5 g 0 (n + 1) dc ⟨vb, 0, none⟩ 1 1 R1.toArray 38 vs Try.underlying22 hszI h1 (by rw [hvl]; simp [Nat.min_def]) (fun j v hj => by rw [hadd, blk_cell h2 j]; simpa using hj) (by simp [hvl, hR1l]; omega) h1v
    rw [hvl] at h
    simpa using h
  have hC1 := hcp1 w.drew hg
  have hA1 : (w.drew.setRow g R1.toArray).heap[g]? = some (.cells R1.toArray 38 (0, 0)) := setRow_heap _ _ _ _ _ _ (show w.drew.heap[g]? = _ from hg)
  have hA2 : (w.drew.setRow g R1.toArray).heap[vb]? = some (.cells vs.toArray 38 (0, 0)) := (setRow_other _ _ _ _ hvg).trans hv
  have hC2 := hcp2 _ hA1 hA2
  have hw4 : (0 : Int) ≤ (n : Int) + 1 := by omega
  have hb1 : ¬ (c = 1) := by omega
  have hb2 : ¬ (c = 0) := by omega
  have hw1 : IntKind.i64.wrap 1 = 1 := by decide
  have hw2 : (1 : Int) ≤ (n : Int) + 1 := by omega
  have hw3 : (1 : Int).toNat = 1 := rfl
  have mixed : Try.prog.follows Departure.mixedOrders = true := by kernel_rfl
  have HR := Aside0.mk hR1d
  have HC := Aside0.mk hcur
  clear hR1 hR1d hcp1 hcp2 htk hcur
  go_enter Try.func33, Try.ntmps33
  go_wp2_with (simp only [hov])
  go_region_law_o (refine step_copy_runI rfl _ _ 22 22 rfl (.slice (some ⟨g, 5, none⟩) n (c - 1)) (.slice (some ⟨g, 0, none⟩) (n + 1) c) (by simp [Act.eval, Act.put]) (by simp [Act.eval, Act.put]) (hC1 _ _ _) ?_)
  go_wp2_with (at_builtin; refine wpList_copy_runI _ rfl _ _ 22 22 rfl _ _ rfl rfl (hC2 _ _) ?_)
  go_ret
  refine ⟨_, rfl, ⟨by simp [hvl, hcs]; omega, .inr ⟨g, c, _, rfl, hbg, setRow_heap _ _ _ _ _ _ hA1, hroom, hc63, ?_, ?_⟩⟩, ?_⟩
  · simp [hvl, hR1l]; omega
  · rw [HR.out, List.toList_toArray, ← List.append_assoc, List.take_left']
    simp [hvl, hcs]; omega
  · exact below_setRow (below_setRow hb.drew hbg _) hbg _
end Go.Proofs.Ytfaiplbogchgjaa.X
end
