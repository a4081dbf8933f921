/- Plain words on characters of texts. No program. -/
import Derived.WalkKit
import Derived.KernelRfl
import Derived.Laws.RangeString
namespace Go.Proofs.Ytbjeegkmafbejaa.Y
open Go.RowKit

/-- Where a text isn't valid: Go's decoding tells U+FFFD, one byte wide. -/
def badAt (s : ByteArray) (p : Nat) : Bool := (Utf8.decode s p).1 == 65533 && (Utf8.decode s p).2 == 1
/-- The characters from a place on, up to the first one that isn't valid, and where that is. -/
def charsFrom (s : ByteArray) : Nat → Nat → List Int × Nat
  | 0, p => ([], p)
  | f + 1, p => if p < s.size then (if badAt s p then ([], p) else (((Utf8.decode s p).1 : Int) :: (charsFrom s f (p + (Utf8.decode s p).2)).1, (charsFrom s f (p + (Utf8.decode s p).2)).2)) else ([], p)
def chars (s : ByteArray) : List Int := (charsFrom s s.size 0).1
def badPos (s : ByteArray) : Nat := (charsFrom s s.size 0).2
theorem decode_pos (s : ByteArray) (p : Nat) : 1 ≤ (Utf8.decode s p).2 := by
  unfold Utf8.decode
  simp only
  repeat' split
  all_goals simp
theorem decode_top (s : ByteArray) (p : Nat) : (Utf8.decode s p).1 ≤ 1114111 := by
  unfold Utf8.decode Utf8.runeError Utf8.valid
  simp only
  repeat' split
  all_goals simp only
  all_goals (try omega)
  all_goals
    rename_i h
    simp only [Bool.and_eq_true, Bool.or_eq_true, decide_eq_true_eq] at h
    omega
theorem decode_in (s : ByteArray) (p : Nat) (h : p < s.size) : p + (Utf8.decode s p).2 ≤ s.size := by
  unfold Utf8.decode Utf8.runeError
  simp only
  repeat' split
  all_goals simp only
  all_goals (try omega)
  all_goals
    simp only [Bool.and_eq_true, decide_eq_true_eq] at *
    omega
theorem charsFrom_end (s : ByteArray) (f p : Nat) (h : ¬ p < s.size) : charsFrom s f p = ([], p) := by
  cases f with
  | zero => rfl
  | succ f => simp only [charsFrom]; rw [if_neg h]
theorem charsFrom_bad (s : ByteArray) (f p : Nat) (hb : badAt s p = true) : charsFrom s f p = ([], p) := by
  cases f with
  | zero => rfl
  | succ f => simp only [charsFrom, hb, if_true, ite_self]
theorem charsFrom_go (s : ByteArray) (f p : Nat) (h : p < s.size) (hb : badAt s p = false) : charsFrom s (f + 1) p = (((Utf8.decode s p).1 : Int) :: (charsFrom s f (p + (Utf8.decode s p).2)).1, (charsFrom s f (p + (Utf8.decode s p).2)).2) := by
  simp only [charsFrom]; rw [if_pos h, hb]; rfl
def byteAt (s : ByteArray) (i : Nat) : Nat := (s.get! i).toNat
theorem byteAt_lt (s : ByteArray) (i : Nat) : byteAt s i < 256 := (s.get! i).toNat_lt
theorem valid_nat (c : Nat) : Utf8.valid (c : Int) = true ↔ (c < 55296 ∨ (57344 ≤ c ∧ c ≤ 1114111)) := by
  unfold Utf8.valid
  rw [Bool.or_eq_true, Bool.and_eq_true, Bool.and_eq_true, decide_eq_true_iff, decide_eq_true_iff, decide_eq_true_iff, decide_eq_true_iff]
  omega
theorem and2 (a n b m c : Nat) : ((a == n && (decide (b < m) && c == 2)) = true) = (a = n ∧ b < m ∧ c = 2) := by
  rw [Bool.and_eq_true, Bool.and_eq_true, beq_iff_eq, beq_iff_eq, decide_eq_true_iff]
theorem and3 (a n b m c d e : Nat) : ((a == n && (decide (b < m) && c == 2) && (decide (d < m) && e == 2)) = true) = ((a = n ∧ b < m ∧ c = 2) ∧ d < m ∧ e = 2) := by
  rw [Bool.and_eq_true, and2, Bool.and_eq_true, beq_iff_eq, decide_eq_true_iff]
theorem and4 (a n b m c d e f g : Nat) : ((a == n && (decide (b < m) && c == 2) && (decide (d < m) && e == 2) && (decide (f < m) && g == 2)) = true) = (((a = n ∧ b < m ∧ c = 2) ∧ d < m ∧ e = 2) ∧ f < m ∧ g = 2) := by
  rw [Bool.and_eq_true, and3, Bool.and_eq_true, beq_iff_eq, decide_eq_true_iff]
/-- Go's decoding, arm by arm. -/
theorem decode_arms (s : ByteArray) (p : Nat) :
    (byteAt s p < 128 ∧ Utf8.decode s p = (byteAt s p, 1)) ∨
    (∃ c, byteAt s p / 32 = 6 ∧ p + 1 < s.size ∧ byteAt s (p + 1) / 64 = 2 ∧ c = byteAt s p % 32 * 64 + byteAt s (p + 1) % 64 ∧ 128 ≤ c ∧ Utf8.decode s p = (c, 2)) ∨
    (∃ c, byteAt s p / 16 = 14 ∧ p + 2 < s.size ∧ byteAt s (p + 1) / 64 = 2 ∧ byteAt s (p + 2) / 64 = 2 ∧ c = byteAt s p % 16 * 4096 + byteAt s (p + 1) % 64 * 64 + byteAt s (p + 2) % 64 ∧ 2048 ≤ c ∧ (c < 55296 ∨ 57344 ≤ c) ∧ Utf8.decode s p = (c, 3)) ∨
    (∃ c, byteAt s p / 8 = 30 ∧ p + 3 < s.size ∧ byteAt s (p + 1) / 64 = 2 ∧ byteAt s (p + 2) / 64 = 2 ∧ byteAt s (p + 3) / 64 = 2 ∧ c = byteAt s p % 8 * 262144 + byteAt s (p + 1) % 64 * 4096 + byteAt s (p + 2) % 64 * 64 + byteAt s (p + 3) % 64 ∧ 65536 ≤ c ∧ c ≤ 1114111 ∧ Utf8.decode s p = (c, 4)) ∨
    (Utf8.decode s p = (65533, 1) ∧ 128 ≤ byteAt s p ∧
      ¬ (byteAt s p / 32 = 6 ∧ p + 1 < s.size ∧ byteAt s (p + 1) / 64 = 2 ∧ 128 ≤ byteAt s p % 32 * 64 + byteAt s (p + 1) % 64) ∧
      ¬ (byteAt s p / 16 = 14 ∧ p + 2 < s.size ∧ byteAt s (p + 1) / 64 = 2 ∧ byteAt s (p + 2) / 64 = 2 ∧ 2048 ≤ byteAt s p % 16 * 4096 + byteAt s (p + 1) % 64 * 64 + byteAt s (p + 2) % 64 ∧ (byteAt s p % 16 * 4096 + byteAt s (p + 1) % 64 * 64 + byteAt s (p + 2) % 64 < 55296 ∨ 57344 ≤ byteAt s p % 16 * 4096 + byteAt s (p + 1) % 64 * 64 + byteAt s (p + 2) % 64)) ∧
      ¬ (byteAt s p / 8 = 30 ∧ p + 3 < s.size ∧ byteAt s (p + 1) / 64 = 2 ∧ byteAt s (p + 2) / 64 = 2 ∧ byteAt s (p + 3) / 64 = 2 ∧ 65536 ≤ byteAt s p % 8 * 262144 + byteAt s (p + 1) % 64 * 4096 + byteAt s (p + 2) % 64 * 64 + byteAt s (p + 3) % 64 ∧ byteAt s p % 8 * 262144 + byteAt s (p + 1) % 64 * 4096 + byteAt s (p + 2) % 64 * 64 + byteAt s (p + 3) % 64 ≤ 1114111)) := by
  have e : Utf8.decode s p = (if byteAt s p < 128 then (byteAt s p, 1) else if (byteAt s p / 32 == 6 && (decide (p + 1 < s.size) && byteAt s (p + 1) / 64 == 2)) = true then (if byteAt s p % 32 * 64 + byteAt s (p + 1) % 64 ≥ 128 then (byteAt s p % 32 * 64 + byteAt s (p + 1) % 64, 2) else (65533, 1))
    else if (byteAt s p / 16 == 14 && (decide (p + 1 < s.size) && byteAt s (p + 1) / 64 == 2) && (decide (p + 2 < s.size) && byteAt s (p + 2) / 64 == 2)) = true then (if (decide (byteAt s p % 16 * 4096 + byteAt s (p + 1) % 64 * 64 + byteAt s (p + 2) % 64 ≥ 2048) && Utf8.valid ((byteAt s p % 16 * 4096 + byteAt s (p + 1) % 64 * 64 + byteAt s (p + 2) % 64 : Nat) : Int)) = true then (byteAt s p % 16 * 4096 + byteAt s (p + 1) % 64 * 64 + byteAt s (p + 2) % 64, 3) else (65533, 1))
    else if (byteAt s p / 8 == 30 && (decide (p + 1 < s.size) && byteAt s (p + 1) / 64 == 2) && (decide (p + 2 < s.size) && byteAt s (p + 2) / 64 == 2) && (decide (p + 3 < s.size) && byteAt s (p + 3) / 64 == 2)) = true then (if (decide (byteAt s p % 8 * 262144 + byteAt s (p + 1) % 64 * 4096 + byteAt s (p + 2) % 64 * 64 + byteAt s (p + 3) % 64 ≥ 65536) && Utf8.valid ((byteAt s p % 8 * 262144 + byteAt s (p + 1) % 64 * 4096 + byteAt s (p + 2) % 64 * 64 + byteAt s (p + 3) % 64 : Nat) : Int)) = true then (byteAt s p % 8 * 262144 + byteAt s (p + 1) % 64 * 4096 + byteAt s (p + 2) % 64 * 64 + byteAt s (p + 3) % 64, 4) else (65533, 1))
    else (65533, 1)) := rfl
  rw [e]
  clear e
  have u0 := byteAt_lt s p
  generalize byteAt s p = b0 at *
  generalize byteAt s (p + 1) = b1 at *
  generalize byteAt s (p + 2) = b2 at *
  generalize byteAt s (p + 3) = b3 at *
  by_cases h0 : b0 < 128
  · rw [if_pos h0]; exact .inl ⟨h0, rfl⟩
  rw [if_neg h0]
  right
  have hv1 : ∀ c : Nat, (decide (c ≥ 2048) && Utf8.valid (c : Int)) = true ↔ (2048 ≤ c ∧ (c < 55296 ∨ (57344 ≤ c ∧ c ≤ 1114111))) := fun c => by rw [Bool.and_eq_true, valid_nat, decide_eq_true_iff]
  have hv2 : ∀ c : Nat, (decide (c ≥ 65536) && Utf8.valid (c : Int)) = true ↔ (65536 ≤ c ∧ (c < 55296 ∨ (57344 ≤ c ∧ c ≤ 1114111))) := fun c => by rw [Bool.and_eq_true, valid_nat, decide_eq_true_iff]
  by_cases h1 : b0 / 32 = 6 ∧ p + 1 < s.size ∧ b1 / 64 = 2
  · rw [if_pos ((and2 _ _ _ _ _).mpr h1)]
    by_cases h2 : b0 % 32 * 64 + b1 % 64 ≥ 128
    · rw [if_pos h2]; exact .inl ⟨_, h1.1, h1.2.1, h1.2.2, rfl, h2, rfl⟩
    · rw [if_neg h2]; exact .inr (.inr (.inr ⟨rfl, by omega, by omega, by omega, by omega⟩))
  rw [if_neg (fun h => h1 ((and2 _ _ _ _ _).mp h))]
  right
  by_cases h3 : (b0 / 16 = 14 ∧ p + 1 < s.size ∧ b1 / 64 = 2) ∧ p + 2 < s.size ∧ b2 / 64 = 2
  · rw [if_pos ((and3 _ _ _ _ _ _ _).mpr h3)]
    split
    · rename_i h4; rw [hv1] at h4; exact .inl ⟨_, h3.1.1, h3.2.1, h3.1.2.2, h3.2.2, rfl, h4.1, by omega, rfl⟩
    · rename_i h4; rw [hv1] at h4; exact .inr (.inr ⟨rfl, by omega, by omega, by omega, by omega⟩)
  rw [if_neg (fun h => h3 ((and3 _ _ _ _ _ _ _).mp h))]
  right
  by_cases h5 : ((b0 / 8 = 30 ∧ p + 1 < s.size ∧ b1 / 64 = 2) ∧ p + 2 < s.size ∧ b2 / 64 = 2) ∧ p + 3 < s.size ∧ b3 / 64 = 2
  · rw [if_pos ((and4 _ _ _ _ _ _ _ _ _).mpr h5)]
    split
    · rename_i h6; rw [hv2] at h6; exact .inl ⟨_, h5.1.1.1, h5.2.1, h5.1.1.2.2, h5.1.2.2, h5.2.2, rfl, h6.1, by omega, rfl⟩
    · rename_i h6; rw [hv2] at h6; exact .inr ⟨rfl, by omega, by omega, by omega, by omega⟩
  · rw [if_neg (fun h => h5 ((and4 _ _ _ _ _ _ _ _ _).mp h))]; exact .inr ⟨rfl, by omega, by omega, by omega, by omega⟩
theorem decode_fffd (s : ByteArray) (p : Nat) (h : (Utf8.decode s p).1 = 65533) : (Utf8.decode s p).2 = 1 ∨ ((Utf8.decode s p).2 = 3 ∧ p + 2 < s.size ∧ (s.get! p).toNat = 239 ∧ (s.get! (p + 1)).toNat = 191 ∧ (s.get! (p + 2)).toNat = 189) := by
  have u0 := byteAt_lt s p
  have u1 := byteAt_lt s (p + 1)
  have u2 := byteAt_lt s (p + 2)
  rcases decode_arms s p with ⟨h0, e⟩ | ⟨c, h0, h1, h2, h3, h4, e⟩ | ⟨c, h0, h1, h2, h3, h4, h5, h6, e⟩ | ⟨c, h0, h1, h2, h3, h4, h5, h6, h7, e⟩ | ⟨e, _⟩
  · rw [e] at h; simp only at h; omega
  · rw [e] at h; simp only at h; omega
  · rw [e] at h ⊢
    simp only at h
    refine .inr ⟨rfl, h1, ?_, ?_, ?_⟩
    · show byteAt s p = _; omega
    · show byteAt s (p + 1) = _; omega
    · show byteAt s (p + 2) = _; omega
  · rw [e] at h; simp only at h; omega
  · rw [e]; exact .inl rfl
set_option maxRecDepth 100000 in
theorem decode_of_fffd (s : ByteArray) (p : Nat) (hp : p + 2 < s.size) (h0 : (s.get! p).toNat = 239) (h1 : (s.get! (p + 1)).toNat = 191) (h2 : (s.get! (p + 2)).toNat = 189) : Utf8.decode s p = (65533, 3) := by
  unfold Utf8.decode Utf8.runeError Utf8.valid
  simp only [Nat.add_zero, h0, h1, h2]
  rw [if_neg (by decide), if_neg (by simp), if_pos (by simp; omega)]
  rfl
theorem get!_at (s : ByteArray) (j : Nat) (h : j < s.size) : s.get! j = s.data[j]'h := getElem!_pos s.data j h
theorem extract3 (s : ByteArray) (p : Nat) (hp : p + 3 ≤ s.size) : (s.extract p (p + 3)).toList = [s.get! p, s.get! (p + 1), s.get! (p + 2)] := by
  rw [ByteArray.toList_eq, get!_at s p (by omega), get!_at s (p + 1) (by omega), get!_at s (p + 2) (by omega)]
  have hs : s.data.size = s.size := rfl
  apply List.ext_getElem
  · simp [ByteArray.data_extract]; omega
  · intro i h1 h2
    have h3 : i < 3 := by simpa using h2
    match i, h3 with
    | 0, _ => simp [ByteArray.data_extract]
    | 1, _ => simp [ByteArray.data_extract]
    | 2, _ => simp [ByteArray.data_extract]
theorem bad_short (s : ByteArray) (p : Nat) (h : (Utf8.decode s p).1 = 65533) (hp : (s.size : Int) - p < 3) : badAt s p = true := by
  rcases decode_fffd s p h with h1 | ⟨_, h2, _⟩
  · simp [badAt, h, h1]
  · omega
theorem bad_long (s : ByteArray) (p : Nat) (h : (Utf8.decode s p).1 = 65533) (hp : ¬ (s.size : Int) - p < 3) : badAt s p = !((s.extract p (p + 3)).toList == (Utf8.encode 65533).toList) := by
  rw [extract3 s p (by omega)]
  have e : (Utf8.encode 65533).toList = [239, 191, 189] := by decide +kernel
  rw [e]
  rcases decode_fffd s p h with h1 | ⟨h1, h2, h3, h4, h5⟩
  · rw [show badAt s p = true from by simp [badAt, h, h1]]
    symm
    rw [Bool.not_eq_true', beq_eq_false_iff_ne]
    intro he
    injection he with e0 he
    injection he with e1 he
    injection he with e2 he
    have := decode_of_fffd s p (by omega) (by rw [e0]; rfl) (by rw [e1]; rfl) (by rw [e2]; rfl)
    rw [this] at h1
    cases h1
  · rw [show badAt s p = false from by simp [badAt, h1]]
    symm
    rw [Bool.not_eq_false', beq_iff_eq]
    have g : ∀ (x : UInt8) (n : Nat), x.toNat = n → x = UInt8.ofNat n := fun x n hx => by rw [← hx]; simp
    rw [g _ _ h3, g _ _ h4, g _ _ h5]
    rfl
theorem bad_not (s : ByteArray) (p : Nat) (h : (Utf8.decode s p).1 ≠ 65533) : badAt s p = false := by
  unfold badAt
  rw [beq_eq_false_iff_ne.2 h]; rfl
theorem charsFrom_length (s : ByteArray) (f : Nat) : ∀ p, (charsFrom s f p).1.length ≤ f := by
  induction f with
  | zero => intro p; exact Nat.le_refl _
  | succ f ih =>
    intro p
    simp only [charsFrom]
    split
    · split
      · simp
      · simp only [List.length_cons]; have := ih (p + (Utf8.decode s p).2); omega
    · simp
theorem chars_length (s : ByteArray) : (chars s).length ≤ s.size := charsFrom_length s s.size 0
def validS (s : ByteArray) : Bool := decide (s.size ≤ badPos s)
/-- A text's characters; none, where it isn't valid. -/
def charsOr (s : ByteArray) : List Int := if validS s = true then chars s else []
theorem charsOr_yes {s : ByteArray} (h : validS s = true) : charsOr s = chars s := if_pos h
theorem charsOr_no {s : ByteArray} (h : validS s = false) : charsOr s = [] := if_neg (by rw [h]; decide)
/-- Rounds enough for any text of moderate size. -/
def bigK : Nat := 2000000
theorem bigK_eq : bigK = 2000000 := rfl
end Go.Proofs.Ytbjeegkmafbejaa.Y
