/- Triplets and names of variables, plain. -/
import Derived.Test.YthllgnephigfkaaDoorEeYu
import Derived.Test.YthllgnephigfkaaDoorEeYh
namespace Go.Proofs.YthllgnephigfkaaDoor.Y
set_option linter.unusedSimpArgs false
set_option linter.unusedVariables false
open Go.RowKit
def hexV (c : Int) : Int := if 48 ≤ c ∧ c ≤ 57 then c - 48 else if 65 ≤ c ∧ c ≤ 70 then c - 65 + 10 else if 97 ≤ c ∧ c ≤ 102 then c - 97 + 10 else 0
theorem hex_ways (c : Int) : (48 ≤ c ∧ c ≤ 57 ∧ isHex c = true ∧ hexV c = c - 48) ∨ (65 ≤ c ∧ c ≤ 70 ∧ isHex c = true ∧ hexV c = c - 65 + 10) ∨ (97 ≤ c ∧ c ≤ 102 ∧ isHex c = true ∧ hexV c = c - 97 + 10) ∨
    (¬ (48 ≤ c ∧ c ≤ 57) ∧ ¬ (65 ≤ c ∧ c ≤ 70) ∧ ¬ (97 ≤ c ∧ c ≤ 102) ∧ isHex c = false ∧ hexV c = 0) := by
  unfold isHex isDigit hexV
  by_cases h1 : 48 ≤ c ∧ c ≤ 57
  · exact .inl ⟨h1.1, h1.2, by simp [h1], by rw [if_pos h1]⟩
  by_cases h2 : 65 ≤ c ∧ c ≤ 70
  · exact .inr (.inl ⟨h2.1, h2.2, by simp [h2], by rw [if_neg h1, if_pos h2]⟩)
  by_cases h3 : 97 ≤ c ∧ c ≤ 102
  · exact .inr (.inr (.inl ⟨h3.1, h3.2, by simp [h3], by rw [if_neg h1, if_neg h2, if_pos h3]⟩))
  · refine .inr (.inr (.inr ⟨h1, h2, h3, ?_, by rw [if_neg h1, if_neg h2, if_neg h3]⟩))
    simp only [Bool.or_eq_false_iff, Bool.and_eq_false_iff, decide_eq_false_iff_not]
    omega
theorem hexV_range (c : Int) : 0 ≤ hexV c ∧ hexV c ≤ 15 := by rcases hex_ways c with ⟨_, _, _, e⟩ | ⟨_, _, _, e⟩ | ⟨_, _, _, e⟩ | ⟨_, _, _, _, e⟩ <;> rw [e] <;> omega
def bI (s : ByteArray) (i : Nat) : Int := (byteAt s i : Int)
theorem bI_range (s : ByteArray) (i : Nat) : 0 ≤ bI s i ∧ bI s i < 256 := by have := byteAt_lt s i; unfold bI; omega
theorem bI_at (s : ByteArray) (i : Nat) (h : i < s.size) : bI s i = (s[i].toNat : Int) := by
  unfold bI byteAt
  rw [show s.get! i = s[i] from getElem!_pos s.data i h]
def tri (s : ByteArray) (p : Nat) : Bool := decide (p + 3 ≤ s.size) && (bI s p == 37) && (isHex (bI s (p + 1)) && isHex (bI s (p + 2)))
def triV (s : ByteArray) (p : Nat) : Int := 16 * hexV (bI s (p + 1)) + hexV (bI s (p + 2))
theorem bt_out (s : ByteArray) (i : Nat) (h : ¬ i < s.size) : byteAt s i = 0 := by
  unfold byteAt
  have : s.get! i = default := getElem!_neg s.data i h
  rw [this]; rfl
theorem ext_size (s : ByteArray) (p : Nat) : (s.extract p s.size).size = s.size - p := by
  have hs : s.data.size = s.size := rfl
  show (s.extract p s.size).data.size = _
  rw [ByteArray.data_extract, Array.size_extract]
  omega
theorem ext_byteAt (s : ByteArray) (p i : Nat) : byteAt (s.extract p s.size) i = byteAt s (p + i) := by
  by_cases h : p + i < s.size
  · have h1 : i < (s.extract p s.size).size := by rw [ext_size]; omega
    unfold byteAt
    rw [get!_at _ _ h1, get!_at _ _ h]
    congr 1
    simp [ByteArray.data_extract]
  · rw [bt_out _ _ h, bt_out _ _ (by rw [ext_size]; omega)]
theorem tri_ext (s : ByteArray) (p : Nat) (hp : p ≤ s.size) : tri (s.extract p s.size) 0 = tri s p := by
  unfold tri bI
  rw [ext_size, ext_byteAt, ext_byteAt, ext_byteAt]
  by_cases h : p + 3 ≤ s.size
  · rw [decide_eq_true h, decide_eq_true (by omega)]; rfl
  · rw [decide_eq_false h, decide_eq_false (by omega)]; rfl
def endsN (s : ByteArray) : Nat → Nat → Nat → Nat × Nat
  | 0, a, e => (a, e)
  | f + 1, a, e => if a < s.size then
      if isWord (bI s a) = true then endsN s f (a + 1) (a + 1)
      else if bI s a = 46 ∧ 0 < a ∧ a = e then endsN s f (a + 1) e
      else if tri s a = true then endsN s f (a + 3) (a + 3)
      else if bI s a = 37 then (if a + 1 < s.size ∧ isHex (bI s (a + 1)) = true then (a + 2, e) else (a + 1, e))
      else (a, e)
    else (a, e)
theorem endsN_out (s : ByteArray) (f a e : Nat) (h : ¬ a < s.size) : endsN s f a e = (a, e) := by
  cases f with
  | zero => rfl
  | succ f => rw [endsN, if_neg h]
theorem endsN_in (s : ByteArray) (f a e : Nat) (ha : a < s.size) : endsN s (f + 1) a e =
      if isWord (bI s a) = true then endsN s f (a + 1) (a + 1)
      else if bI s a = 46 ∧ 0 < a ∧ a = e then endsN s f (a + 1) e
      else if tri s a = true then endsN s f (a + 3) (a + 3)
      else if bI s a = 37 then (if a + 1 < s.size ∧ isHex (bI s (a + 1)) = true then (a + 2, e) else (a + 1, e))
      else (a, e) := by rw [endsN, if_pos ha]
theorem endsN_more (s : ByteArray) (f : Nat) : ∀ a e, s.size ≤ a + f → endsN s (f + 1) a e = endsN s f a e := by
  induction f with
  | zero => intro a e h; rw [endsN_out s 1 a e (by omega)]; rfl
  | succ f ih =>
    intro a e h
    by_cases ha : a < s.size
    · rw [endsN_in s (f + 1) a e ha, endsN_in s f a e ha, ih (a + 1) (a + 1) (by omega), ih (a + 1) e (by omega), ih (a + 3) (a + 3) (by omega)]
    · rw [endsN_out _ _ _ _ ha, endsN_out _ _ _ _ ha]
def ends (s : ByteArray) : Nat × Nat := endsN s s.size 0 0
theorem ends_step (s : ByteArray) (f a e : Nat) (h : s.size ≤ a + f) (ha : a < s.size) :
    endsN s f a e = if isWord (bI s a) = true then endsN s f (a + 1) (a + 1)
      else if bI s a = 46 ∧ 0 < a ∧ a = e then endsN s f (a + 1) e
      else if tri s a = true then endsN s f (a + 3) (a + 3)
      else if bI s a = 37 then (if a + 1 < s.size ∧ isHex (bI s (a + 1)) = true then (a + 2, e) else (a + 1, e))
      else (a, e) := by
  rw [← endsN_more s f a e h, endsN_in s f a e ha]
theorem tri_in {s : ByteArray} {p : Nat} (h : tri s p = true) : p + 3 ≤ s.size := by
  unfold tri at h; simp only [Bool.and_eq_true, decide_eq_true_eq] at h; exact h.1.1
def nameMay (s : ByteArray) : Bool := decide (0 < s.size) && ((ends s).2 == s.size)
end Go.Proofs.YthllgnephigfkaaDoor.Y
