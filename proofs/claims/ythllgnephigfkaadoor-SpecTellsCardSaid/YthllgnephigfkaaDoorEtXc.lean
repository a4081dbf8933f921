/- What the functions of package chars do: contracts over the seat's program. -/
import Derived.Test.YthllgnephigfkaaDoorProg
import Derived.Below
import Derived.Deep.Draws
import Derived.Deep.AppendLies
import Derived.Maps.AppendAt
import Derived.OwnWalk
import Derived.Laws.BytesArg
import Derived.Laws.MakeOwn
import Derived.Laws.OwnMore
import Derived.Deep.OwnRows
import Derived.Tactics
import Derived.Lib.ConvBytes
import Derived.Laws.Slices
import Derived.WalkKit
import Derived.KernelRfl
import Derived.RowKit3
import Derived.Deep.LoopGhost
import Derived.Deep.QuietTactic
import Derived.BigQuiet
import Derived.WideLaws
import Derived.Deep.DeepCutAuto
import Derived.Deep.CutBlock
import Derived.Deep.RegionHeld3
import Derived.Laws.Rows
import Derived.Lib.AppendStr
import Derived.ArgAppend
import Derived.Laws.IdiomCopy
import Derived.OrdersHeld
import Derived.Laws.BitsLemmas
import Derived.RowKit
import Derived.Test.YthllgnephigfkaaDoorEtWWords
import Derived.Test.YthllgnephigfkaaDoorEtWLast
import Derived.Test.YthllgnephigfkaaDoorEtWMore
import Derived.RegionTactic
import Derived.Test.YthllgnephigfkaaDoorEtYc
import Derived.Test.YthllgnephigfkaaDoorEtXb
namespace Go.Proofs.YthllgnephigfkaaDoor.X
set_option linter.unusedSimpArgs false
set_option linter.unusedVariables false
open Go.RowKit Go.Proofs.YthllgnephigfkaaDoorW.PrintWords Go.Proofs.YthllgnephigfkaaDoor.Y
theorem four_ways {x : Int} (h0 : 0 ≤ x) (h1 : x < 256) : (∃ y, x = y ∧ 0 ≤ y ∧ y < 64) ∨ (∃ y, x = 64 + y ∧ 0 ≤ y ∧ y < 64) ∨ (∃ y, x = 128 + y ∧ 0 ≤ y ∧ y < 64) ∨ (∃ y, x = 192 + y ∧ 0 ≤ y ∧ y < 64) := by
  rcases (by omega : x < 64 ∨ (64 ≤ x ∧ x < 128) ∨ (128 ≤ x ∧ x < 192) ∨ 192 ≤ x) with h | h | h | h
  · exact .inl ⟨x, rfl, h0, h⟩
  · exact .inr (.inl ⟨x - 64, by omega, by omega, by omega⟩)
  · exact .inr (.inr (.inl ⟨x - 128, by omega, by omega, by omega⟩))
  · exact .inr (.inr (.inr ⟨x - 192, by omega, by omega, by omega⟩))
set_option maxHeartbeats 800000 in
theorem has_any (s : Set4) (x : Int) (w : World) (h0 : 0 ≤ x) (h1 : x < 256) :
    Calls Tryd.prog 37 #[s.val, .int .u8 x] w fun e w' => e = .returned (.bool (s.has x)) ∧ Below w.heap.size w w' := by
  obtain ⟨a, b, c, d⟩ := s
  unfold Set4.val
  rcases four_ways h0 h1 with ⟨y, rfl, hy, hy'⟩ | ⟨y, rfl, hy, hy'⟩ | ⟨y, rfl, hy, hy'⟩ | ⟨y, rfl, hy, hy'⟩
  · have h2 : x / 64 = 0 := by omega
    have h3 : x % 64 = x := by omega
    go_enter Tryd.func37, Tryd.ntmps37
    go_wp2
    go_ret
    exact ⟨by rw [Set4.has0 _ _ _ _ hy']; rfl, (Below.refl _ _).alloc (Nat.le_refl _) _⟩
  · have h2 : (64 + y) / 64 = 1 := by omega
    have h3 : (64 + y) % 64 = y := by omega
    go_enter Tryd.func37, Tryd.ntmps37
    go_wp2
    go_ret
    exact ⟨by rw [Set4.has1 _ _ _ _ hy hy']; rfl, (Below.refl _ _).alloc (Nat.le_refl _) _⟩
  · have h2 : (128 + y) / 64 = 2 := by omega
    have h3 : (128 + y) % 64 = y := by omega
    go_enter Tryd.func37, Tryd.ntmps37
    go_wp2
    go_ret
    exact ⟨by rw [Set4.has2 _ _ _ _ hy hy']; rfl, (Below.refl _ _).alloc (Nat.le_refl _) _⟩
  · have h2 : (192 + y) / 64 = 3 := by omega
    have h3 : (192 + y) % 64 = y := by omega
    go_enter Tryd.func37, Tryd.ntmps37
    go_wp2
    go_ret
    exact ⟨by rw [Set4.has3 _ _ _ _ hy hy']; rfl, (Below.refl _ _).alloc (Nat.le_refl _) _⟩
set_option maxHeartbeats 800000 in
theorem add_any (s : Set4) (x : Int) (B : Nat) (w : World) (h0 : 0 ≤ x) (h1 : x < 256) (hB : w.heap[B]? = some (.cells s.cells 56 (0, 0))) :
    Calls Tryd.prog 60 #[.pointer (some ⟨B, 0, none⟩), .int .u8 x] w fun e w' => e = .returned (.tuple #[]) ∧ Below B w w' ∧ w'.heap[B]? = some (.cells (s.add x).cells 56 (0, 0)) := by
  obtain ⟨a, b, c, d⟩ := s
  have c0 := blk_cell hB 0
  have c1 := blk_cell hB 1
  have c2 := blk_cell hB 2
  have c3 := blk_cell hB 3
  have f0 := blk_frozen hB 0
  have f1 := blk_frozen hB 1
  have f2 := blk_frozen hB 2
  have f3 := blk_frozen hB 3
  simp only [Set4.cells, List.getElem?_toArray, List.getElem?_cons_zero, List.getElem?_cons_succ] at c0 c1 c2 c3
  have HB := Aside0.mk hB
  clear hB
  rcases four_ways h0 h1 with ⟨y, rfl, hy, hy'⟩ | ⟨y, rfl, hy, hy'⟩ | ⟨y, rfl, hy, hy'⟩ | ⟨y, rfl, hy, hy'⟩
  · have h2 : x / 64 = 0 := by omega
    have h3 : x % 64 = x := by omega
    go_enter Tryd.func60, Tryd.ntmps60
    go_wp2
    go_region
    all_goals (go_end0; exact ⟨rfl, ((Below.refl _ _).setCell (p := ⟨B, 0, none⟩) (Nat.le_refl _) _).drew, blk_drew (blk_put HB.out 0 _ (by rw [Set4.add0 _ _ _ _ hy']; rfl))⟩)
  · have h2 : (64 + y) / 64 = 1 := by omega
    have h3 : (64 + y) % 64 = y := by omega
    go_enter Tryd.func60, Tryd.ntmps60
    go_wp2
    go_region
    all_goals (go_end0; exact ⟨rfl, ((Below.refl _ _).setCell (p := ⟨B, 1, none⟩) (Nat.le_refl _) _).drew, blk_drew (blk_put HB.out 1 _ (by rw [Set4.add1 _ _ _ _ hy hy']; rfl))⟩)
  · have h2 : (128 + y) / 64 = 2 := by omega
    have h3 : (128 + y) % 64 = y := by omega
    go_enter Tryd.func60, Tryd.ntmps60
    go_wp2
    go_region
    all_goals (go_end0; exact ⟨rfl, ((Below.refl _ _).setCell (p := ⟨B, 2, none⟩) (Nat.le_refl _) _).drew, blk_drew (blk_put HB.out 2 _ (by rw [Set4.add2 _ _ _ _ hy hy']; rfl))⟩)
  · have h2 : (192 + y) / 64 = 3 := by omega
    have h3 : (192 + y) % 64 = y := by omega
    go_enter Tryd.func60, Tryd.ntmps60
    go_wp2
    go_region
    all_goals (go_end0; exact ⟨rfl, ((Below.refl _ _).setCell (p := ⟨B, 3, none⟩) (Nat.le_refl _) _).drew, blk_drew (blk_put HB.out 3 _ (by rw [Set4.add3 _ _ _ _ hy hy']; rfl))⟩)
set_option maxHeartbeats 800000 in
theorem range_any (lo hi : Int) (w : World) (h0 : 0 ≤ lo) (h1 : lo ≤ hi) (h2 : hi < 256) :
    Calls Tryd.prog 49 #[.int .u8 lo, .int .u8 hi] w fun e w' => e = .returned (rangeSet lo (hi + 1 - lo).toNat).val ∧ Below w.heap.size w w' := by
  go_enter Tryd.func49, Tryd.ntmps49
  go_wp2_with fail
  go_loopw [6] (fun c wr => ∃ k : Nat, lo + k ≤ hi + 1 ∧ c = .int .i64 (lo + k) ∧ wr.heap[w.heap.size]? = some (.cells Set4.zero.cells 56 (0, 0)) ∧ wr.heap[w.heap.size + 1]? = some (.cells (rangeSet lo k).cells 56 (0, 0)) ∧ Below w.heap.size w wr) (fun c _ => (hi + 1 - intOf c).toNat)
  case atStart => exact ⟨0, by omega, by simp, blk_alloc (blk_new _ _) _, blk_new2 _ _ _, below_new2 _ _ _⟩
  case round =>
    obtain ⟨k, hk, rfl, hr, hs, hb⟩ := hrel
    have HR := Aside0.mk hr
    have HS := Aside0.mk hs
    have HB := Aside0.mk hb
    clear hr hs hb
    by_cases hlt : lo + k ≤ hi
    · go_wp2_with fail
      refine (add_any (rangeSet lo k) (lo + k) _ _ (by omega) (by omega) HS.out).mono ?_
      rintro e w1 ⟨rfl, hb1, hs1⟩
      have HR1 := Aside0.mk ((hb1.block _ (Nat.lt_succ_self _)).trans HR.out)
      have HS1 := Aside0.mk hs1
      have HB1 := Aside0.mk (HB.out.trans (hb1.mono (Nat.le_succ _)))
      clear hs1 hb1 HR HS HB
      go_wp2_with fail
      go_roundw
      case rel => exact ⟨k + 1, by omega, by go_num, HR1.out, HS1.out, HB1.out⟩
      case measure => simp [intOf]; omega
    · have hk' : hi = lo + k - 1 := by omega
      have hn : (hi + 1 - lo).toNat = k := by omega
      obtain ⟨c0, c1, c2, c3, _⟩ := cells4 HS.out
      obtain ⟨r0, r1, r2, r3, f0, f1, f2, f3⟩ := cells4 HR.out
      have HN := Aside0.mk hn
      clear hk' hn
      go_wp2_with fail
      refine bodyPost_ret (v := (rangeSet lo k).val) (by simp [results, Tryd.results49, go_sem, Set4.val, r0, r1, r2, r3]) rfl ⟨by rw [HN.out], ?_⟩
      repeat (first | exact HB.out | refine below_set ?_ (Nat.le_refl _))
set_option maxHeartbeats 800000 in
theorem of_any (s : ByteArray) (w : World) (hn : s.size ≤ 1000000) :
    Calls Tryd.prog 48 #[.string s] w fun e w' => e = .returned (listSet s.data.toList).val ∧ Below w.heap.size w w' := by
  go_enter Tryd.func48, Tryd.ntmps48
  go_wp2_with fail
  go_loopw [4, 7] (fun _ c wr => ∃ k : Nat, k ≤ s.size ∧ c = .int .i64 k ∧ wr.heap[w.heap.size]? = some (.cells Set4.zero.cells 56 (0, 0)) ∧ wr.heap[w.heap.size + 1]? = some (.cells (listSet (s.data.toList.take k)).cells 56 (0, 0)) ∧ Below w.heap.size w wr) (fun _ c _ => (s.size - intOf c).toNat)
  case atStart => exact ⟨0, by omega, by simp, blk_alloc (blk_new _ _) _, blk_new2 _ _ _, below_new2 _ _ _⟩
  case round =>
    obtain ⟨k, hk, rfl, hr, hs, hb⟩ := hrel
    have HR := Aside0.mk hr
    have HS := Aside0.mk hs
    have HB := Aside0.mk hb
    clear hr hs hb
    by_cases hlt : k < s.size
    · have HT := Aside0.mk (listSet_take s k hlt)
      go_wp2_with fail
      refine (add_any (listSet (s.data.toList.take k)) _ _ _ (by omega) (by have := (s[k]'hlt).toNat_lt; omega) HS.out).mono ?_
      rintro e w1 ⟨rfl, hb1, hs1⟩
      have HR1 := Aside0.mk ((hb1.block _ (Nat.lt_succ_self _)).trans HR.out)
      have HS1 := Aside0.mk hs1
      have HB1 := Aside0.mk (HB.out.trans (hb1.mono (Nat.le_succ _)))
      clear hs1 hb1 HR HS HB
      go_wp2_with fail
      go_roundw
      case rel => exact ⟨k + 1, by omega, by go_num, HR1.out, by rw [HT.out]; exact HS1.out, HB1.out⟩
      case measure => simp [intOf]; omega
    · have hn : s.data.toList.take k = s.data.toList := List.take_of_length_le (by simp; omega)
      have HN := Aside0.mk hn
      clear hn
      obtain ⟨c0, c1, c2, c3, _⟩ := cells4 HS.out
      obtain ⟨r0, r1, r2, r3, f0, f1, f2, f3⟩ := cells4 HR.out
      go_wp2_with fail
      refine bodyPost_ret (v := (listSet (s.data.toList.take k)).val) (by simp [results, Tryd.results48, go_sem, Set4.val, r0, r1, r2, r3]) rfl ⟨by rw [HN.out], ?_⟩
      repeat (first | exact HB.out | refine below_set ?_ (Nat.le_refl _))
end Go.Proofs.YthllgnephigfkaaDoor.X
