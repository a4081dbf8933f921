/- Plain words on sets of bytes as four numbers of 64 bits. No program. -/
import Derived.WalkKit
import Derived.KernelRfl
import Derived.Laws.BitsLemmas
namespace Go.Proofs.YthllgnephigfkaaDoor.Y
open Go.RowKit
structure Set4 where
  a : Int
  b : Int
  c : Int
  d : Int
def Set4.zero : Set4 := ⟨0, 0, 0, 0⟩
def Set4.cells (s : Set4) : Array Value := #[.int .u64 s.a, .int .u64 s.b, .int .u64 s.c, .int .u64 s.d]
def Set4.val (s : Set4) : Value := .agg #[.int .u64 s.a, .int .u64 s.b, .int .u64 s.c, .int .u64 s.d]
def orBit (a x : Int) : Int := bits BinOp.or IntKind.u64 a (IntKind.u64.wrap (2 ^ x.toNat))
def orW (a x : Int) : Int := bits BinOp.or IntKind.u64 a x
def bitOf (a x : Int) : Bool := bits BinOp.and IntKind.u64 (a / 2 ^ x.toNat) 1 == 1
def Set4.add (s : Set4) (x : Int) : Set4 :=
  if x < 64 then { s with a := orBit s.a x } else if x < 128 then { s with b := orBit s.b (x - 64) } else if x < 192 then { s with c := orBit s.c (x - 128) } else { s with d := orBit s.d (x - 192) }
def Set4.has (s : Set4) (x : Int) : Bool :=
  if x < 64 then bitOf s.a x else if x < 128 then bitOf s.b (x - 64) else if x < 192 then bitOf s.c (x - 128) else bitOf s.d (x - 192)
def Set4.or (s t : Set4) : Set4 := ⟨orW s.a t.a, orW s.b t.b, orW s.c t.c, orW s.d t.d⟩
theorem Set4.has0 (a b c d : Int) {y : Int} (h : y < 64) : Set4.has ⟨a, b, c, d⟩ y = bitOf a y := by unfold Set4.has; rw [if_pos h]
theorem Set4.has1 (a b c d : Int) {y : Int} (h0 : 0 ≤ y) (h : y < 64) : Set4.has ⟨a, b, c, d⟩ (64 + y) = bitOf b y := by
  unfold Set4.has; rw [if_neg (by omega), if_pos (by omega), show 64 + y - 64 = y from by omega]
theorem Set4.has2 (a b c d : Int) {y : Int} (h0 : 0 ≤ y) (h : y < 64) : Set4.has ⟨a, b, c, d⟩ (128 + y) = bitOf c y := by
  unfold Set4.has; rw [if_neg (by omega), if_neg (by omega), if_pos (by omega), show 128 + y - 128 = y from by omega]
theorem Set4.has3 (a b c d : Int) {y : Int} (h0 : 0 ≤ y) (h : y < 64) : Set4.has ⟨a, b, c, d⟩ (192 + y) = bitOf d y := by
  unfold Set4.has; rw [if_neg (by omega), if_neg (by omega), if_neg (by omega), show 192 + y - 192 = y from by omega]
theorem Set4.add0 (a b c d : Int) {y : Int} (h : y < 64) : Set4.add ⟨a, b, c, d⟩ y = ⟨orBit a y, b, c, d⟩ := by unfold Set4.add; rw [if_pos h]
theorem Set4.add1 (a b c d : Int) {y : Int} (h0 : 0 ≤ y) (h : y < 64) : Set4.add ⟨a, b, c, d⟩ (64 + y) = ⟨a, orBit b y, c, d⟩ := by
  unfold Set4.add; rw [if_neg (by omega), if_pos (by omega), show 64 + y - 64 = y from by omega]
theorem Set4.add2 (a b c d : Int) {y : Int} (h0 : 0 ≤ y) (h : y < 64) : Set4.add ⟨a, b, c, d⟩ (128 + y) = ⟨a, b, orBit c y, d⟩ := by
  unfold Set4.add; rw [if_neg (by omega), if_neg (by omega), if_pos (by omega), show 128 + y - 128 = y from by omega]
theorem Set4.add3 (a b c d : Int) {y : Int} (h0 : 0 ≤ y) (h : y < 64) : Set4.add ⟨a, b, c, d⟩ (192 + y) = ⟨a, b, c, orBit d y⟩ := by
  unfold Set4.add; rw [if_neg (by omega), if_neg (by omega), if_neg (by omega), show 192 + y - 192 = y from by omega]
def rangeSet (lo : Int) : Nat → Set4
  | 0 => Set4.zero
  | n + 1 => (rangeSet lo n).add (lo + n)
def listSet (l : List UInt8) : Set4 := l.foldl (fun s x => s.add x.toNat) Set4.zero
theorem listSet_take (s : ByteArray) (k : Nat) (h : k < s.size) : listSet (s.data.toList.take (k + 1)) = (listSet (s.data.toList.take k)).add ((s[k]'h).toNat : Int) := by
  have e : s.data.toList.take (k + 1) = s.data.toList.take k ++ [s[k]'h] := by
    rw [List.take_succ_eq_append_getElem (by simpa using h)]; rfl
  rw [e]; unfold listSet; rw [List.foldl_append]; rfl
def orAll (l : List Set4) : Set4 := l.foldl Set4.or Set4.zero
def partOr (s t : Set4) (j : Nat) : Set4 := ⟨if 0 < j then orW s.a t.a else s.a, if 1 < j then orW s.b t.b else s.b, if 2 < j then orW s.c t.c else s.c, if 3 < j then orW s.d t.d else s.d⟩
theorem orAll_take (l : List Set4) (k : Nat) (h : k < l.length) : orAll (l.take (k + 1)) = (orAll (l.take k)).or l[k] := by
  rw [List.take_succ_eq_append_getElem h]; unfold orAll; rw [List.foldl_append]; rfl
def digitSet : Set4 := rangeSet 48 10
def alphaSet : Set4 := orAll [rangeSet 65 26, rangeSet 97 26]
def hexSet : Set4 := orAll [digitSet, rangeSet 65 6, rangeSet 97 6]
def wordSet : Set4 := orAll [alphaSet, digitSet, listSet [95]]
end Go.Proofs.YthllgnephigfkaaDoor.Y
