/- Package chars, on: unions, and the classes. -/
import Derived.Test.YthllgnephigfkaaDoorEtXc
namespace Go.Proofs.YthllgnephigfkaaDoor.X
set_option linter.unusedSimpArgs false
set_option linter.unusedVariables false
open Go.RowKit Go.Proofs.YthllgnephigfkaaDoorW.PrintWords Go.Proofs.YthllgnephigfkaaDoor.Y
def Row4 (w : World) (b : Nat) (l : List Set4) : Prop := ∀ k s, l[k]? = some s → w.cell? ⟨b, k * 4, none⟩ = some (.int .u64 s.a) ∧ w.cell? ⟨b, k * 4 + 1, none⟩ = some (.int .u64 s.b) ∧ w.cell? ⟨b, k * 4 + 2, none⟩ = some (.int .u64 s.c) ∧ w.cell? ⟨b, k * 4 + 3, none⟩ = some (.int .u64 s.d)
theorem Row4.below {w w1 : World} {b : Nat} {l : List Set4} (h : Row4 w b l) (hb : Below w.heap.size w w1) (hlt : b < w.heap.size) : Row4 w1 b l := fun k s hk => by
  obtain ⟨h0, h1, h2, h3⟩ := h k s hk
  exact ⟨(hb.cell (p := ⟨b, k * 4, none⟩) hlt).trans h0, (hb.cell (p := ⟨b, k * 4 + 1, none⟩) hlt).trans h1, (hb.cell (p := ⟨b, k * 4 + 2, none⟩) hlt).trans h2, (hb.cell (p := ⟨b, k * 4 + 3, none⟩) hlt).trans h3⟩
theorem row4_two (w : World) (s0 s1 : Set4) (t : TypeId) : Row4 (w.alloc (.cells #[.int .u64 s0.a, .int .u64 s0.b, .int .u64 s0.c, .int .u64 s0.d, .int .u64 s1.a, .int .u64 s1.b, .int .u64 s1.c, .int .u64 s1.d] t)) w.heap.size [s0, s1] := by
  intro k s hk
  match k, hk with
  | 0, hk => simp at hk; subst hk; simp
  | 1, hk => simp at hk; subst hk; simp
theorem row4_three (w : World) (s0 s1 s2 : Set4) (t : TypeId) : Row4 (w.alloc (.cells #[.int .u64 s0.a, .int .u64 s0.b, .int .u64 s0.c, .int .u64 s0.d, .int .u64 s1.a, .int .u64 s1.b, .int .u64 s1.c, .int .u64 s1.d, .int .u64 s2.a, .int .u64 s2.b, .int .u64 s2.c, .int .u64 s2.d] t)) w.heap.size [s0, s1, s2] := by
  intro k s hk
  match k, hk with
  | 0, hk => simp at hk; subst hk; simp
  | 1, hk => simp at hk; subst hk; simp
  | 2, hk => simp at hk; subst hk; simp
set_option maxHeartbeats 1600000 in
theorem union_any (l : List Set4) (b : Nat) (w : World) (hn : l.length ≤ 1000) (hp : 0 < l.length) (hlt : b < w.heap.size) (hr : Row4 w b l) :
    Calls Tryd.prog 46 #[.slice (some ⟨b, 0, none⟩) l.length l.length] w fun e w' => e = .returned (orAll l).val ∧ Below w.heap.size w w' := by
  have HR := Aside0.mk hr
  clear hr
  go_enter Tryd.func46, Tryd.ntmps46
  go_wp2_with fail
  go_loopw [10] (fun c wr => ∃ k : Nat, k ≤ l.length ∧ c = .int .i64 k ∧ wr.heap[w.heap.size]? = some (.cells Set4.zero.cells 56 (0, 0)) ∧ wr.heap[w.heap.size + 1]? = some (.cells (orAll (l.take k)).cells 56 (0, 0)) ∧ Below w.heap.size w wr) (fun c _ => (l.length - intOf c).toNat)
  case atStart => exact ⟨0, by omega, by simp, blk_alloc (blk_new _ _) _, blk_new2 _ _ _, below_new2 _ _ _⟩
  case round =>
    obtain ⟨k, hk, rfl, hres, hs, hb⟩ := hrel
    have HRES := Aside0.mk hres
    have HS := Aside0.mk hs
    have HB := Aside0.mk hb
    clear hres hs hb
    by_cases hlt2 : k < l.length
    · obtain ⟨c0, c1, c2, c3⟩ := (HR.out.below HB.out hlt) k _ (List.getElem?_eq_getElem hlt2)
      have HT := Aside0.mk (orAll_take l k hlt2)
      obtain ⟨⟨sa, sb, sc, sd⟩, HSS⟩ : ∃ s, Aside0 (s = l[k]) := ⟨_, ⟨rfl⟩⟩
      rw [← HSS.out] at c0 c1 c2 c3
      go_wp2_with fail
      have hres' := blk_alloc HRES.out (.cells #[Value.int .u64 sa, Value.int .u64 sb, Value.int .u64 sc, Value.int .u64 sd] 56)
      have hs' := blk_alloc HS.out (.cells #[Value.int .u64 sa, Value.int .u64 sb, Value.int .u64 sc, Value.int .u64 sd] 56)
      have hb' := below_alloc HB.out (.cells #[Value.int .u64 sa, Value.int .u64 sb, Value.int .u64 sc, Value.int .u64 sd] 56)
      obtain ⟨wo, hwo⟩ : ∃ wo : World, wo = wr.alloc (.cells #[Value.int .u64 sa, Value.int .u64 sb, Value.int .u64 sc, Value.int .u64 sd] 56) := ⟨_, rfl⟩
      rw [← hwo] at hres' hs' hb' ⊢
      have HRES' := Aside0.mk hres'
      have HS' := Aside0.mk hs'
      have HB' := Aside0.mk hb'
      clear hres' hs' hb' HRES HS HB c0 c1 c2 c3 hwo
      go_loopw [15] (fun c wi => ∃ j : Nat, j ≤ 4 ∧ c = .int .i64 j ∧ wi.heap[w.heap.size]? = some (.cells Set4.zero.cells 56 (0, 0)) ∧ wi.heap[w.heap.size + 1]? = some (.cells (partOr (orAll (l.take k)) ⟨sa, sb, sc, sd⟩ j).cells 56 (0, 0)) ∧ Below w.heap.size w wi) (fun c _ => (4 - intOf c).toNat)
      case atStart => exact ⟨0, by omega, rfl, HRES'.out, HS'.out, HB'.out⟩
      case round =>
        obtain ⟨j, hj, rfl, hres, hs, hb⟩ := hrel
        have HRES := Aside0.mk hres
        have HB := Aside0.mk hb
        obtain ⟨⟨ua, ub, uc, ud⟩, HU⟩ : ∃ u, Aside0 (u = orAll (l.take k)) := ⟨_, ⟨rfl⟩⟩
        rw [← HU.out] at hs
        clear hres hb
        rcases (by omega : j = 0 ∨ j = 1 ∨ j = 2 ∨ j = 3 ∨ j = 4) with rfl | rfl | rfl | rfl | rfl
        · have hs : wr.heap[w.heap.size + 1]? = some (.cells #[.int .u64 ua, .int .u64 ub, .int .u64 uc, .int .u64 ud] 56 (0, 0)) := hs
          obtain ⟨c0, c1, c2, c3, f0, f1, f2, f3⟩ := cells4 hs
          have HS := Aside0.mk hs
          clear hs
          have i0 : ∀ w, (Instr.index 56 (.agg #[.int .u64 sa, .int .u64 sb, .int .u64 sc, .int .u64 sd]) (.int .i64 0)).run Tryd.prog w = .ok (.int .u64 sa) w := fun _ => by kernel_rfl
          go_wp2_with fail
          go_roundw
          case rel => exact ⟨1, by omega, rfl, blk_far HRES.out (Nat.ne_of_lt (Nat.lt_succ_self _)) _, by rw [← HU.out]; exact blk_put HS.out 0 _ rfl, below_set HB.out (Nat.le_succ _)⟩
          case measure => simp [intOf]
        · have hs : wr.heap[w.heap.size + 1]? = some (.cells #[.int .u64 (orW ua sa), .int .u64 ub, .int .u64 uc, .int .u64 ud] 56 (0, 0)) := hs
          obtain ⟨c0, c1, c2, c3, f0, f1, f2, f3⟩ := cells4 hs
          have HS := Aside0.mk hs
          clear hs
          have i0 : ∀ w, (Instr.index 56 (.agg #[.int .u64 sa, .int .u64 sb, .int .u64 sc, .int .u64 sd]) (.int .i64 1)).run Tryd.prog w = .ok (.int .u64 sb) w := fun _ => by kernel_rfl
          go_wp2_with fail
          go_roundw
          case rel => exact ⟨2, by omega, rfl, blk_far HRES.out (Nat.ne_of_lt (Nat.lt_succ_self _)) _, by rw [← HU.out]; exact blk_put HS.out 1 _ rfl, below_set HB.out (Nat.le_succ _)⟩
          case measure => simp [intOf]
        · have hs : wr.heap[w.heap.size + 1]? = some (.cells #[.int .u64 (orW ua sa), .int .u64 (orW ub sb), .int .u64 uc, .int .u64 ud] 56 (0, 0)) := hs
          obtain ⟨c0, c1, c2, c3, f0, f1, f2, f3⟩ := cells4 hs
          have HS := Aside0.mk hs
          clear hs
          have i0 : ∀ w, (Instr.index 56 (.agg #[.int .u64 sa, .int .u64 sb, .int .u64 sc, .int .u64 sd]) (.int .i64 2)).run Tryd.prog w = .ok (.int .u64 sc) w := fun _ => by kernel_rfl
          go_wp2_with fail
          go_roundw
          case rel => exact ⟨3, by omega, rfl, blk_far HRES.out (Nat.ne_of_lt (Nat.lt_succ_self _)) _, by rw [← HU.out]; exact blk_put HS.out 2 _ rfl, below_set HB.out (Nat.le_succ _)⟩
          case measure => simp [intOf]
        · have hs : wr.heap[w.heap.size + 1]? = some (.cells #[.int .u64 (orW ua sa), .int .u64 (orW ub sb), .int .u64 (orW uc sc), .int .u64 ud] 56 (0, 0)) := hs
          obtain ⟨c0, c1, c2, c3, f0, f1, f2, f3⟩ := cells4 hs
          have HS := Aside0.mk hs
          clear hs
          have i0 : ∀ w, (Instr.index 56 (.agg #[.int .u64 sa, .int .u64 sb, .int .u64 sc, .int .u64 sd]) (.int .i64 3)).run Tryd.prog w = .ok (.int .u64 sd) w := fun _ => by kernel_rfl
          go_wp2_with fail
          go_roundw
          case rel => exact ⟨4, by omega, rfl, blk_far HRES.out (Nat.ne_of_lt (Nat.lt_succ_self _)) _, by rw [← HU.out]; exact blk_put HS.out 3 _ rfl, below_set HB.out (Nat.le_succ _)⟩
          case measure => simp [intOf]
        · have HS := Aside0.mk hs
          clear hs
          go_wp2_with fail
          go_roundw
          case rel => exact ⟨k + 1, by omega, by go_num, HRES.out, by rw [HT.out, ← HSS.out, ← HU.out]; exact HS.out, HB.out⟩
          case measure => simp [intOf]; omega
    · have HK := Aside0.mk (List.take_of_length_le (by omega) : l.take k = l)
      obtain ⟨c0, c1, c2, c3, _⟩ := cells4 HS.out
      obtain ⟨r0, r1, r2, r3, f0, f1, f2, f3⟩ := cells4 HRES.out
      go_wp2_with fail
      refine bodyPost_ret (v := (orAll (l.take k)).val) (by simp [results, Tryd.results46, go_sem, Set4.val, r0, r1, r2, r3]) rfl ⟨by rw [HK.out], ?_⟩
      repeat (first | exact HB.out | refine below_set ?_ (Nat.le_refl _))
set_option maxHeartbeats 800000 in
theorem digit_any (w : World) : Calls Tryd.prog 39 #[] w fun e w' => e = .returned digitSet.val ∧ Below w.heap.size w w' := by
  go_enter Tryd.func39, Tryd.ntmps39
  go_wp2_with fail
  refine (range_any 48 57 _ (by omega) (by omega) (by omega)).mono ?_
  rintro e w1 ⟨rfl, hb1⟩
  have hr := blk_below (blk_new w _) hb1
  obtain ⟨r0, r1, r2, r3, f0, f1, f2, f3⟩ := cells4 hr
  have HB := Aside0.mk ((below_new1 w _).trans (hb1.mono (Nat.le_of_lt (by simp))))
  clear hr hb1
  unfold Set4.val
  go_wp2_with fail
  refine bodyPost_ret (v := digitSet.val) (by simp [results, Tryd.results39, go_sem, Set4.val, r0, r1, r2, r3, digitSet]) rfl ⟨rfl, ?_⟩
  repeat (first | exact HB.out | refine below_set ?_ (Nat.le_refl _))
set_option maxHeartbeats 800000 in
theorem alpha_any (w : World) : Calls Tryd.prog 47 #[] w fun e w' => e = .returned alphaSet.val ∧ Below w.heap.size w w' := by
  go_enter Tryd.func47, Tryd.ntmps47
  go_wp2_with fail
  refine (range_any 65 90 _ (by omega) (by omega) (by omega)).mono ?_
  rintro e w1 ⟨rfl, hb1⟩
  have HR1 := Aside0.mk (blk_below (blk_new w _) hb1)
  have HB1 := Aside0.mk ((below_new1 w _).trans (hb1.mono (Nat.le_of_lt (by simp))))
  clear hb1
  go_wp2_with fail
  refine (range_any 97 122 _ (by omega) (by omega) (by omega)).mono ?_
  rintro e w2 ⟨rfl, hb2⟩
  have HR2 := Aside0.mk (blk_below HR1.out hb2)
  have HB2 := Aside0.mk (below_step HB1.out hb2)
  clear hb2 HR1 HB1
  unfold Set4.val
  go_wp2_with fail
  refine (union_any [rangeSet 65 26, rangeSet 97 26] _ _ (by simp) (by simp) (by simp) (row4_two _ _ _ _)).mono ?_
  rintro e w3 ⟨rfl, hb3⟩
  obtain ⟨r0, r1, r2, r3, f0, f1, f2, f3⟩ := cells4 (blk_below (blk_alloc HR2.out _) hb3)
  have HB3 := Aside0.mk (below_step (below_alloc HB2.out _) hb3)
  clear hb3 HR2 HB2
  unfold Set4.val
  go_wp2_with fail
  refine bodyPost_ret (v := alphaSet.val) (by simp [results, Tryd.results47, go_sem, Set4.val, r0, r1, r2, r3, alphaSet]) rfl ⟨rfl, ?_⟩
  repeat (first | exact HB3.out | refine below_set ?_ (Nat.le_refl _))
set_option maxHeartbeats 800000 in
theorem word_any (w : World) : Calls Tryd.prog 35 #[] w fun e w' => e = .returned wordSet.val ∧ Below w.heap.size w w' := by
  go_enter Tryd.func35, Tryd.ntmps35
  go_wp2_with fail
  refine (alpha_any _).mono ?_
  rintro e w1 ⟨rfl, hb1⟩
  have HR1 := Aside0.mk (blk_below (blk_new w _) hb1)
  have HB1 := Aside0.mk ((below_new1 w _).trans (hb1.mono (Nat.le_of_lt (by simp))))
  clear hb1
  go_wp2_with fail
  refine (digit_any _).mono ?_
  rintro e w2 ⟨rfl, hb2⟩
  have HR2 := Aside0.mk (blk_below HR1.out hb2)
  have HB2 := Aside0.mk (below_step HB1.out hb2)
  clear hb2 HR1 HB1
  go_wp2_with fail
  refine (of_any ⟨#[95]⟩ _ (by decide)).mono ?_
  rintro e w3 ⟨rfl, hb3⟩
  have HR3 := Aside0.mk (blk_below HR2.out hb3)
  have HB3 := Aside0.mk (below_step HB2.out hb3)
  clear hb3 HR2 HB2
  unfold Set4.val
  go_wp2_with fail
  refine (union_any [alphaSet, digitSet, listSet [95]] _ _ (by simp) (by simp) (by simp) (row4_three _ _ _ _ _)).mono ?_
  rintro e w4 ⟨rfl, hb4⟩
  obtain ⟨r0, r1, r2, r3, f0, f1, f2, f3⟩ := cells4 (blk_below (blk_alloc HR3.out _) hb4)
  have HB4 := Aside0.mk (below_step (below_alloc HB3.out _) hb4)
  clear hb4 HR3 HB3
  unfold Set4.val
  go_wp2_with fail
  refine bodyPost_ret (v := wordSet.val) (by simp [results, Tryd.results35, go_sem, Set4.val, r0, r1, r2, r3, wordSet]) rfl ⟨rfl, ?_⟩
  repeat (first | exact HB4.out | refine below_set ?_ (Nat.le_refl _))
set_option maxHeartbeats 800000 in
theorem hex_any (w : World) : Calls Tryd.prog 36 #[] w fun e w' => e = .returned hexSet.val ∧ Below w.heap.size w w' := by
  go_enter Tryd.func36, Tryd.ntmps36
  go_wp2_with fail
  refine (digit_any _).mono ?_
  rintro e w1 ⟨rfl, hb1⟩
  have HR1 := Aside0.mk (blk_below (blk_new w _) hb1)
  have HB1 := Aside0.mk ((below_new1 w _).trans (hb1.mono (Nat.le_of_lt (by simp))))
  clear hb1
  go_wp2_with fail
  refine (range_any 65 70 _ (by omega) (by omega) (by omega)).mono ?_
  rintro e w2 ⟨rfl, hb2⟩
  have HR2 := Aside0.mk (blk_below HR1.out hb2)
  have HB2 := Aside0.mk (below_step HB1.out hb2)
  clear hb2 HR1 HB1
  go_wp2_with fail
  refine (range_any 97 102 _ (by omega) (by omega) (by omega)).mono ?_
  rintro e w3 ⟨rfl, hb3⟩
  have HR3 := Aside0.mk (blk_below HR2.out hb3)
  have HB3 := Aside0.mk (below_step HB2.out hb3)
  clear hb3 HR2 HB2
  unfold Set4.val
  go_wp2_with fail
  refine (union_any [digitSet, rangeSet 65 6, rangeSet 97 6] _ _ (by simp) (by simp) (by simp) (row4_three _ _ _ _ _)).mono ?_
  rintro e w4 ⟨rfl, hb4⟩
  obtain ⟨r0, r1, r2, r3, f0, f1, f2, f3⟩ := cells4 (blk_below (blk_alloc HR3.out _) hb4)
  have HB4 := Aside0.mk (below_step (below_alloc HB3.out _) hb4)
  clear hb4 HR3 HB3
  unfold Set4.val
  go_wp2_with fail
  refine bodyPost_ret (v := hexSet.val) (by simp [results, Tryd.results36, go_sem, Set4.val, r0, r1, r2, r3, hexSet]) rfl ⟨rfl, ?_⟩
  repeat (first | exact HB4.out | refine below_set ?_ (Nat.le_refl _))
end Go.Proofs.YthllgnephigfkaaDoor.X
