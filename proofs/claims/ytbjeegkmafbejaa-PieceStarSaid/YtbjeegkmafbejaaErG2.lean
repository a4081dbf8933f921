/- Texts of this claim, those that nothing needs left out: Yu Yc Yh Yn Xb Xc Xd Xh Xn Xm Xba Xbb Xbc Xbd Xu Xz Xs Xk Xr XxE. -/
import Derived.WalkKit
import Derived.KernelRfl
import Derived.Laws.RangeString
import Derived.Laws.BitsLemmas
import Derived.Test.YtbjeegkmafbejaaProg
import Derived.Below
import Derived.Deep.Draws
import Derived.Deep.AppendLies
import Derived.Maps.AppendAt
import Derived.OwnWalk
import Derived.Laws.BytesArg
import Derived.Laws.MakeOwn
import Derived.Laws.OwnMore
import Derived.Deep.OwnRows
import Derived.Tactics
import Derived.Lib.ConvBytes
import Derived.Laws.Slices
import Derived.RowKit3
import Derived.Deep.LoopGhost
import Derived.Deep.QuietTactic
import Derived.BigQuiet
import Derived.WideLaws
import Derived.Deep.DeepCutAuto
import Derived.Deep.CutBlock
import Derived.Deep.RegionHeld3
import Derived.Laws.Rows
import Derived.Lib.AppendStr
import Derived.ArgAppend
import Derived.Laws.IdiomCopy
import Derived.OrdersHeld
import Derived.RowKit
import Derived.Test.YtbjeegkmafbejaaErG0
import Derived.RegionTactic
import Derived.WalkMore
import Derived.WalkSpells
import Derived.WalkLawsBesides
import Derived.Lib.Builder
import Derived.Laws.Externs
import Derived.Lib.Strings
import Derived.Laws.AppendOwn
import Derived.Outline
import Derived.Deep.DeepMust
import Derived.Lib.OthersKept
import Derived.ProofKit
import Derived.OpenShut
import Derived.ShutString
import Derived.Deep.Slices
import Derived.Lib.SmallJoins
section
namespace Go.Proofs.Ytbjeegkmafbejaa.Y
open Go.RowKit
def badAt (s : ByteArray) (p : Nat) : Bool := (Utf8.decode s p).1 == 65533 && (Utf8.decode s p).2 == 1
def charsFrom (s : ByteArray) : Nat → Nat → List Int × Nat
  | 0, p => ([], p)
  | f + 1, p => if p < s.size then (if badAt s p then ([], p) else (((Utf8.decode s p).1 : Int) :: (charsFrom s f (p + (Utf8.decode s p).2)).1, (charsFrom s f (p + (Utf8.decode s p).2)).2)) else ([], p)
def chars (s : ByteArray) : List Int := (charsFrom s s.size 0).1
def badPos (s : ByteArray) : Nat := (charsFrom s s.size 0).2
theorem decode_pos (s : ByteArray) (p : Nat) : 1 ≤ (Utf8.decode s p).2 := by
  unfold Utf8.decode
  simp only
  repeat' split
  all_goals simp
theorem decode_top (s : ByteArray) (p : Nat) : (Utf8.decode s p).1 ≤ 1114111 := by
  unfold Utf8.decode Utf8.runeError Utf8.valid
  simp only
  repeat' split
  all_goals simp only
  all_goals (try omega)
  all_goals
    rename_i h
    simp only [Bool.and_eq_true, Bool.or_eq_true, decide_eq_true_eq] at h
    omega
theorem decode_in (s : ByteArray) (p : Nat) (h : p < s.size) : p + (Utf8.decode s p).2 ≤ s.size := by
  unfold Utf8.decode Utf8.runeError
  simp only
  repeat' split
  all_goals simp only
  all_goals (try omega)
  all_goals
    simp only [Bool.and_eq_true, decide_eq_true_eq] at *
    omega
theorem charsFrom_end (s : ByteArray) (f p : Nat) (h : ¬ p < s.size) : charsFrom s f p = ([], p) := by
  cases f with
  | zero => rfl
  | succ f => simp only [charsFrom]; rw [if_neg h]
theorem charsFrom_bad (s : ByteArray) (f p : Nat) (hb : badAt s p = true) : charsFrom s f p = ([], p) := by
  cases f with
  | zero => rfl
  | succ f => simp only [charsFrom, hb, if_true, ite_self]
theorem charsFrom_go (s : ByteArray) (f p : Nat) (h : p < s.size) (hb : badAt s p = false) : charsFrom s (f + 1) p = (((Utf8.decode s p).1 : Int) :: (charsFrom s f (p + (Utf8.decode s p).2)).1, (charsFrom s f (p + (Utf8.decode s p).2)).2) := by
  simp only [charsFrom]; rw [if_pos h, hb]; rfl
def byteAt (s : ByteArray) (i : Nat) : Nat := (s.get! i).toNat
theorem byteAt_lt (s : ByteArray) (i : Nat) : byteAt s i < 256 := (s.get! i).toNat_lt
theorem valid_nat (c : Nat) : Utf8.valid (c : Int) = true ↔ (c < 55296 ∨ (57344 ≤ c ∧ c ≤ 1114111)) := by
  unfold Utf8.valid
  rw [Bool.or_eq_true, Bool.and_eq_true, Bool.and_eq_true, decide_eq_true_iff, decide_eq_true_iff, decide_eq_true_iff, decide_eq_true_iff]
  omega
theorem and2 (a n b m c : Nat) : ((a == n && (decide (b < m) && c == 2)) = true) = (a = n ∧ b < m ∧ c = 2) := by
  rw [Bool.and_eq_true, Bool.and_eq_true, beq_iff_eq, beq_iff_eq, decide_eq_true_iff]
theorem and3 (a n b m c d e : Nat) : ((a == n && (decide (b < m) && c == 2) && (decide (d < m) && e == 2)) = true) = ((a = n ∧ b < m ∧ c = 2) ∧ d < m ∧ e = 2) := by
  rw [Bool.and_eq_true, and2, Bool.and_eq_true, beq_iff_eq, decide_eq_true_iff]
theorem and4 (a n b m c d e f g : Nat) : ((a == n && (decide (b < m) && c == 2) && (decide (d < m) && e == 2) && (decide (f < m) && g == 2)) = true) = (((a = n ∧ b < m ∧ c = 2) ∧ d < m ∧ e = 2) ∧ f < m ∧ g = 2) := by
  rw [Bool.and_eq_true, and3, Bool.and_eq_true, beq_iff_eq, decide_eq_true_iff]
theorem decode_arms (s : ByteArray) (p : Nat) :
    (byteAt s p < 128 ∧ Utf8.decode s p = (byteAt s p, 1)) ∨
    (∃ c, byteAt s p / 32 = 6 ∧ p + 1 < s.size ∧ byteAt s (p + 1) / 64 = 2 ∧ c = byteAt s p % 32 * 64 + byteAt s (p + 1) % 64 ∧ 128 ≤ c ∧ Utf8.decode s p = (c, 2)) ∨
    (∃ c, byteAt s p / 16 = 14 ∧ p + 2 < s.size ∧ byteAt s (p + 1) / 64 = 2 ∧ byteAt s (p + 2) / 64 = 2 ∧ c = byteAt s p % 16 * 4096 + byteAt s (p + 1) % 64 * 64 + byteAt s (p + 2) % 64 ∧ 2048 ≤ c ∧ (c < 55296 ∨ 57344 ≤ c) ∧ Utf8.decode s p = (c, 3)) ∨
    (∃ c, byteAt s p / 8 = 30 ∧ p + 3 < s.size ∧ byteAt s (p + 1) / 64 = 2 ∧ byteAt s (p + 2) / 64 = 2 ∧ byteAt s (p + 3) / 64 = 2 ∧ c = byteAt s p % 8 * 262144 + byteAt s (p + 1) % 64 * 4096 + byteAt s (p + 2) % 64 * 64 + byteAt s (p + 3) % 64 ∧ 65536 ≤ c ∧ c ≤ 1114111 ∧ Utf8.decode s p = (c, 4)) ∨
    (Utf8.decode s p = (65533, 1) ∧ 128 ≤ byteAt s p ∧
      ¬ (byteAt s p / 32 = 6 ∧ p + 1 < s.size ∧ byteAt s (p + 1) / 64 = 2 ∧ 128 ≤ byteAt s p % 32 * 64 + byteAt s (p + 1) % 64) ∧
      ¬ (byteAt s p / 16 = 14 ∧ p + 2 < s.size ∧ byteAt s (p + 1) / 64 = 2 ∧ byteAt s (p + 2) / 64 = 2 ∧ 2048 ≤ byteAt s p % 16 * 4096 + byteAt s (p + 1) % 64 * 64 + byteAt s (p + 2) % 64 ∧ (byteAt s p % 16 * 4096 + byteAt s (p + 1) % 64 * 64 + byteAt s (p + 2) % 64 < 55296 ∨ 57344 ≤ byteAt s p % 16 * 4096 + byteAt s (p + 1) % 64 * 64 + byteAt s (p + 2) % 64)) ∧
      ¬ (byteAt s p / 8 = 30 ∧ p + 3 < s.size ∧ byteAt s (p + 1) / 64 = 2 ∧ byteAt s (p + 2) / 64 = 2 ∧ byteAt s (p + 3) / 64 = 2 ∧ 65536 ≤ byteAt s p % 8 * 262144 + byteAt s (p + 1) % 64 * 4096 + byteAt s (p + 2) % 64 * 64 + byteAt s (p + 3) % 64 ∧ byteAt s p % 8 * 262144 + byteAt s (p + 1) % 64 * 4096 + byteAt s (p + 2) % 64 * 64 + byteAt s (p + 3) % 64 ≤ 1114111)) := by
  have e : Utf8.decode s p = (if byteAt s p < 128 then (byteAt s p, 1) else if (byteAt s p / 32 == 6 && (decide (p + 1 < s.size) && byteAt s (p + 1) / 64 == 2)) = true then (if byteAt s p % 32 * 64 + byteAt s (p + 1) % 64 ≥ 128 then (byteAt s p % 32 * 64 + byteAt s (p + 1) % 64, 2) else (65533, 1))
    else if (byteAt s p / 16 == 14 && (decide (p + 1 < s.size) && byteAt s (p + 1) / 64 == 2) && (decide (p + 2 < s.size) && byteAt s (p + 2) / 64 == 2)) = true then (if (decide (byteAt s p % 16 * 4096 + byteAt s (p + 1) % 64 * 64 + byteAt s (p + 2) % 64 ≥ 2048) && Utf8.valid ((byteAt s p % 16 * 4096 + byteAt s (p + 1) % 64 * 64 + byteAt s (p + 2) % 64 : Nat) : Int)) = true then (byteAt s p % 16 * 4096 + byteAt s (p + 1) % 64 * 64 + byteAt s (p + 2) % 64, 3) else (65533, 1))
    else if (byteAt s p / 8 == 30 && (decide (p + 1 < s.size) && byteAt s (p + 1) / 64 == 2) && (decide (p + 2 < s.size) && byteAt s (p + 2) / 64 == 2) && (decide (p + 3 < s.size) && byteAt s (p + 3) / 64 == 2)) = true then (if (decide (byteAt s p % 8 * 262144 + byteAt s (p + 1) % 64 * 4096 + byteAt s (p + 2) % 64 * 64 + byteAt s (p + 3) % 64 ≥ 65536) && Utf8.valid ((byteAt s p % 8 * 262144 + byteAt s (p + 1) % 64 * 4096 + byteAt s (p + 2) % 64 * 64 + byteAt s (p + 3) % 64 : Nat) : Int)) = true then (byteAt s p % 8 * 262144 + byteAt s (p + 1) % 64 * 4096 + byteAt s (p + 2) % 64 * 64 + byteAt s (p + 3) % 64, 4) else (65533, 1))
    else (65533, 1)) := rfl
  rw [e]
  clear e
  have u0 := byteAt_lt s p
  generalize byteAt s p = b0 at *
  generalize byteAt s (p + 1) = b1 at *
  generalize byteAt s (p + 2) = b2 at *
  generalize byteAt s (p + 3) = b3 at *
  by_cases h0 : b0 < 128
  · rw [if_pos h0]; exact .inl ⟨h0, rfl⟩
  rw [if_neg h0]
  right
  have hv1 : ∀ c : Nat, (decide (c ≥ 2048) && Utf8.valid (c : Int)) = true ↔ (2048 ≤ c ∧ (c < 55296 ∨ (57344 ≤ c ∧ c ≤ 1114111))) := fun c => by rw [Bool.and_eq_true, valid_nat, decide_eq_true_iff]
  have hv2 : ∀ c : Nat, (decide (c ≥ 65536) && Utf8.valid (c : Int)) = true ↔ (65536 ≤ c ∧ (c < 55296 ∨ (57344 ≤ c ∧ c ≤ 1114111))) := fun c => by rw [Bool.and_eq_true, valid_nat, decide_eq_true_iff]
  by_cases h1 : b0 / 32 = 6 ∧ p + 1 < s.size ∧ b1 / 64 = 2
  · rw [if_pos ((and2 _ _ _ _ _).mpr h1)]
    by_cases h2 : b0 % 32 * 64 + b1 % 64 ≥ 128
    · rw [if_pos h2]; exact .inl ⟨_, h1.1, h1.2.1, h1.2.2, rfl, h2, rfl⟩
    · rw [if_neg h2]; exact .inr (.inr (.inr ⟨rfl, by omega, by omega, by omega, by omega⟩))
  rw [if_neg (fun h => h1 ((and2 _ _ _ _ _).mp h))]
  right
  by_cases h3 : (b0 / 16 = 14 ∧ p + 1 < s.size ∧ b1 / 64 = 2) ∧ p + 2 < s.size ∧ b2 / 64 = 2
  · rw [if_pos ((and3 _ _ _ _ _ _ _).mpr h3)]
    split
    · rename_i h4; rw [hv1] at h4; exact .inl ⟨_, h3.1.1, h3.2.1, h3.1.2.2, h3.2.2, rfl, h4.1, by omega, rfl⟩
    · rename_i h4; rw [hv1] at h4; exact .inr (.inr ⟨rfl, by omega, by omega, by omega, by omega⟩)
  rw [if_neg (fun h => h3 ((and3 _ _ _ _ _ _ _).mp h))]
  right
  by_cases h5 : ((b0 / 8 = 30 ∧ p + 1 < s.size ∧ b1 / 64 = 2) ∧ p + 2 < s.size ∧ b2 / 64 = 2) ∧ p + 3 < s.size ∧ b3 / 64 = 2
  · rw [if_pos ((and4 _ _ _ _ _ _ _ _ _).mpr h5)]
    split
    · rename_i h6; rw [hv2] at h6; exact .inl ⟨_, h5.1.1.1, h5.2.1, h5.1.1.2.2, h5.1.2.2, h5.2.2, rfl, h6.1, by omega, rfl⟩
    · rename_i h6; rw [hv2] at h6; exact .inr ⟨rfl, by omega, by omega, by omega, by omega⟩
  · rw [if_neg (fun h => h5 ((and4 _ _ _ _ _ _ _ _ _).mp h))]; exact .inr ⟨rfl, by omega, by omega, by omega, by omega⟩
theorem decode_fffd (s : ByteArray) (p : Nat) (h : (Utf8.decode s p).1 = 65533) : (Utf8.decode s p).2 = 1 ∨ ((Utf8.decode s p).2 = 3 ∧ p + 2 < s.size ∧ (s.get! p).toNat = 239 ∧ (s.get! (p + 1)).toNat = 191 ∧ (s.get! (p + 2)).toNat = 189) := by
  have u0 := byteAt_lt s p
  have u1 := byteAt_lt s (p + 1)
  have u2 := byteAt_lt s (p + 2)
  rcases decode_arms s p with ⟨h0, e⟩ | ⟨c, h0, h1, h2, h3, h4, e⟩ | ⟨c, h0, h1, h2, h3, h4, h5, h6, e⟩ | ⟨c, h0, h1, h2, h3, h4, h5, h6, h7, e⟩ | ⟨e, _⟩
  · rw [e] at h; simp only at h; omega
  · rw [e] at h; simp only at h; omega
  · rw [e] at h ⊢
    simp only at h
    refine .inr ⟨rfl, h1, ?_, ?_, ?_⟩
    · show byteAt s p = _; omega
    · show byteAt s (p + 1) = _; omega
    · show byteAt s (p + 2) = _; omega
  · rw [e] at h; simp only at h; omega
  · rw [e]; exact .inl rfl
set_option maxRecDepth 100000 in
theorem decode_of_fffd (s : ByteArray) (p : Nat) (hp : p + 2 < s.size) (h0 : (s.get! p).toNat = 239) (h1 : (s.get! (p + 1)).toNat = 191) (h2 : (s.get! (p + 2)).toNat = 189) : Utf8.decode s p = (65533, 3) := by
  unfold Utf8.decode Utf8.runeError Utf8.valid
  simp only [Nat.add_zero, h0, h1, h2]
  rw [if_neg (by decide), if_neg (by simp), if_pos (by simp; omega)]
  rfl
theorem get!_at (s : ByteArray) (j : Nat) (h : j < s.size) : s.get! j = s.data[j]'h := getElem!_pos s.data j h
theorem extract3 (s : ByteArray) (p : Nat) (hp : p + 3 ≤ s.size) : (s.extract p (p + 3)).toList = [s.get! p, s.get! (p + 1), s.get! (p + 2)] := by
  rw [ByteArray.toList_eq, get!_at s p (by omega), get!_at s (p + 1) (by omega), get!_at s (p + 2) (by omega)]
  have hs : s.data.size = s.size := rfl
  apply List.ext_getElem
  · simp [ByteArray.data_extract]; omega
  · intro i h1 h2
    have h3 : i < 3 := by simpa using h2
    match i, h3 with
    | 0, _ => simp [ByteArray.data_extract]
    | 1, _ => simp [ByteArray.data_extract]
    | 2, _ => simp [ByteArray.data_extract]
theorem bad_short (s : ByteArray) (p : Nat) (h : (Utf8.decode s p).1 = 65533) (hp : (s.size : Int) - p < 3) : badAt s p = true := by
  rcases decode_fffd s p h with h1 | ⟨_, h2, _⟩
  · simp [badAt, h, h1]
  · omega
theorem bad_long (s : ByteArray) (p : Nat) (h : (Utf8.decode s p).1 = 65533) (hp : ¬ (s.size : Int) - p < 3) : badAt s p = !((s.extract p (p + 3)).toList == (Utf8.encode 65533).toList) := by
  rw [extract3 s p (by omega)]
  have e : (Utf8.encode 65533).toList = [239, 191, 189] := by decide +kernel
  rw [e]
  rcases decode_fffd s p h with h1 | ⟨h1, h2, h3, h4, h5⟩
  · rw [show badAt s p = true from by simp [badAt, h, h1]]
    symm
    rw [Bool.not_eq_true', beq_eq_false_iff_ne]
    intro he
    injection he with e0 he
    injection he with e1 he
    injection he with e2 he
    have := decode_of_fffd s p (by omega) (by rw [e0]; rfl) (by rw [e1]; rfl) (by rw [e2]; rfl)
    rw [this] at h1
    cases h1
  · rw [show badAt s p = false from by simp [badAt, h1]]
    symm
    rw [Bool.not_eq_false', beq_iff_eq]
    have g : ∀ (x : UInt8) (n : Nat), x.toNat = n → x = UInt8.ofNat n := fun x n hx => by rw [← hx]; simp
    rw [g _ _ h3, g _ _ h4, g _ _ h5]
    rfl
theorem bad_not (s : ByteArray) (p : Nat) (h : (Utf8.decode s p).1 ≠ 65533) : badAt s p = false := by
  unfold badAt
  rw [beq_eq_false_iff_ne.2 h]; rfl
def validS (s : ByteArray) : Bool := decide (s.size ≤ badPos s)
end Go.Proofs.Ytbjeegkmafbejaa.Y
end
section
namespace Go.Proofs.Ytbjeegkmafbejaa.Y
open Go.RowKit
structure Set4 where
  a : Int
  b : Int
  c : Int
  d : Int
def Set4.zero : Set4 := ⟨0, 0, 0, 0⟩
def Set4.cells (s : Set4) : Array Value := #[.int .u64 s.a, .int .u64 s.b, .int .u64 s.c, .int .u64 s.d]
def Set4.val (s : Set4) : Value := .agg #[.int .u64 s.a, .int .u64 s.b, .int .u64 s.c, .int .u64 s.d]
def orBit (a x : Int) : Int := bits BinOp.or IntKind.u64 a (IntKind.u64.wrap (2 ^ x.toNat))
def orW (a x : Int) : Int := bits BinOp.or IntKind.u64 a x
def bitOf (a x : Int) : Bool := bits BinOp.and IntKind.u64 (a / 2 ^ x.toNat) 1 == 1
def Set4.add (s : Set4) (x : Int) : Set4 :=
  if x < 64 then { s with a := orBit s.a x } else if x < 128 then { s with b := orBit s.b (x - 64) } else if x < 192 then { s with c := orBit s.c (x - 128) } else { s with d := orBit s.d (x - 192) }
def Set4.has (s : Set4) (x : Int) : Bool :=
  if x < 64 then bitOf s.a x else if x < 128 then bitOf s.b (x - 64) else if x < 192 then bitOf s.c (x - 128) else bitOf s.d (x - 192)
def Set4.or (s t : Set4) : Set4 := ⟨orW s.a t.a, orW s.b t.b, orW s.c t.c, orW s.d t.d⟩
theorem Set4.has0 (a b c d : Int) {y : Int} (h : y < 64) : Set4.has ⟨a, b, c, d⟩ y = bitOf a y := by unfold Set4.has; rw [if_pos h]
theorem Set4.has1 (a b c d : Int) {y : Int} (h0 : 0 ≤ y) (h : y < 64) : Set4.has ⟨a, b, c, d⟩ (64 + y) = bitOf b y := by
  unfold Set4.has; rw [if_neg (by omega), if_pos (by omega), show 64 + y - 64 = y from by omega]
theorem Set4.has2 (a b c d : Int) {y : Int} (h0 : 0 ≤ y) (h : y < 64) : Set4.has ⟨a, b, c, d⟩ (128 + y) = bitOf c y := by
  unfold Set4.has; rw [if_neg (by omega), if_neg (by omega), if_pos (by omega), show 128 + y - 128 = y from by omega]
theorem Set4.has3 (a b c d : Int) {y : Int} (h0 : 0 ≤ y) (h : y < 64) : Set4.has ⟨a, b, c, d⟩ (192 + y) = bitOf d y := by
  unfold Set4.has; rw [if_neg (by omega), if_neg (by omega), if_neg (by omega), show 192 + y - 192 = y from by omega]
theorem Set4.add0 (a b c d : Int) {y : Int} (h : y < 64) : Set4.add ⟨a, b, c, d⟩ y = ⟨orBit a y, b, c, d⟩ := by unfold Set4.add; rw [if_pos h]
theorem Set4.add1 (a b c d : Int) {y : Int} (h0 : 0 ≤ y) (h : y < 64) : Set4.add ⟨a, b, c, d⟩ (64 + y) = ⟨a, orBit b y, c, d⟩ := by
  unfold Set4.add; rw [if_neg (by omega), if_pos (by omega), show 64 + y - 64 = y from by omega]
theorem Set4.add2 (a b c d : Int) {y : Int} (h0 : 0 ≤ y) (h : y < 64) : Set4.add ⟨a, b, c, d⟩ (128 + y) = ⟨a, b, orBit c y, d⟩ := by
  unfold Set4.add; rw [if_neg (by omega), if_neg (by omega), if_pos (by omega), show 128 + y - 128 = y from by omega]
theorem Set4.add3 (a b c d : Int) {y : Int} (h0 : 0 ≤ y) (h : y < 64) : Set4.add ⟨a, b, c, d⟩ (192 + y) = ⟨a, b, c, orBit d y⟩ := by
  unfold Set4.add; rw [if_neg (by omega), if_neg (by omega), if_neg (by omega), show 192 + y - 192 = y from by omega]
def rangeSet (lo : Int) : Nat → Set4
  | 0 => Set4.zero
  | n + 1 => (rangeSet lo n).add (lo + n)
def listSet (l : List UInt8) : Set4 := l.foldl (fun s x => s.add x.toNat) Set4.zero
theorem listSet_take (s : ByteArray) (k : Nat) (h : k < s.size) : listSet (s.data.toList.take (k + 1)) = (listSet (s.data.toList.take k)).add ((s[k]'h).toNat : Int) := by
  have e : s.data.toList.take (k + 1) = s.data.toList.take k ++ [s[k]'h] := by
    rw [List.take_succ_eq_append_getElem (by simpa using h)]; rfl
  rw [e]; unfold listSet; rw [List.foldl_append]; rfl
def orAll (l : List Set4) : Set4 := l.foldl Set4.or Set4.zero
def partOr (s t : Set4) (j : Nat) : Set4 := ⟨if 0 < j then orW s.a t.a else s.a, if 1 < j then orW s.b t.b else s.b, if 2 < j then orW s.c t.c else s.c, if 3 < j then orW s.d t.d else s.d⟩
theorem orAll_take (l : List Set4) (k : Nat) (h : k < l.length) : orAll (l.take (k + 1)) = (orAll (l.take k)).or l[k] := by
  rw [List.take_succ_eq_append_getElem h]; unfold orAll; rw [List.foldl_append]; rfl
def digitSet : Set4 := rangeSet 48 10
def alphaSet : Set4 := orAll [rangeSet 65 26, rangeSet 97 26]
def hexSet : Set4 := orAll [digitSet, rangeSet 65 6, rangeSet 97 6]
def wordSet : Set4 := orAll [alphaSet, digitSet, listSet [95]]
def unreservedSet : Set4 := orAll [alphaSet, digitSet, listSet [45, 46, 95, 126]]
end Go.Proofs.Ytbjeegkmafbejaa.Y
end
section
namespace Go.Proofs.Ytbjeegkmafbejaa.Y
def mayC (c : Int) : Bool := decide (0 ≤ c) && decide (c ≤ 1114111) && (decide (c < 55296) || decide (57343 < c))
def isDigit (c : Int) : Bool := decide (48 ≤ c) && decide (c ≤ 57)
def isAlpha (c : Int) : Bool := (decide (65 ≤ c) && decide (c ≤ 90)) || (decide (97 ≤ c) && decide (c ≤ 122))
def isWord (c : Int) : Bool := isAlpha c || isDigit c || c == 95
def isHex (c : Int) : Bool := isDigit c || (decide (65 ≤ c) && decide (c ≤ 70)) || (decide (97 ≤ c) && decide (c ≤ 102))
theorem all256 {p : Int → Bool} (h : (List.range 256).all (fun n => p (n : Int)) = true) (c : Int) (h0 : 0 ≤ c) (h1 : c < 256) : p c = true := by
  have := List.all_eq_true.1 h c.toNat (List.mem_range.2 (by omega))
  rwa [Int.toNat_of_nonneg h0] at this
theorem word_has (c : Int) (h0 : 0 ≤ c) (h1 : c < 256) : wordSet.has c = isWord c := eq_of_beq (all256 (p := fun c => wordSet.has c == isWord c) (by decide +kernel) c h0 h1)
theorem hex_has (c : Int) (h0 : 0 ≤ c) (h1 : c < 256) : hexSet.has c = isHex c := eq_of_beq (all256 (p := fun c => hexSet.has c == isHex c) (by decide +kernel) c h0 h1)
end Go.Proofs.Ytbjeegkmafbejaa.Y
end
section
namespace Go.Proofs.Ytbjeegkmafbejaa.Y
set_option linter.unusedSimpArgs false
set_option linter.unusedVariables false
open Go.RowKit
def hexV (c : Int) : Int := if 48 ≤ c ∧ c ≤ 57 then c - 48 else if 65 ≤ c ∧ c ≤ 70 then c - 65 + 10 else if 97 ≤ c ∧ c ≤ 102 then c - 97 + 10 else 0
theorem hex_ways (c : Int) : (48 ≤ c ∧ c ≤ 57 ∧ isHex c = true ∧ hexV c = c - 48) ∨ (65 ≤ c ∧ c ≤ 70 ∧ isHex c = true ∧ hexV c = c - 65 + 10) ∨ (97 ≤ c ∧ c ≤ 102 ∧ isHex c = true ∧ hexV c = c - 97 + 10) ∨
    (¬ (48 ≤ c ∧ c ≤ 57) ∧ ¬ (65 ≤ c ∧ c ≤ 70) ∧ ¬ (97 ≤ c ∧ c ≤ 102) ∧ isHex c = false ∧ hexV c = 0) := by
  unfold isHex isDigit hexV
  by_cases h1 : 48 ≤ c ∧ c ≤ 57
  · exact .inl ⟨h1.1, h1.2, by simp [h1], by rw [if_pos h1]⟩
  by_cases h2 : 65 ≤ c ∧ c ≤ 70
  · exact .inr (.inl ⟨h2.1, h2.2, by simp [h2], by rw [if_neg h1, if_pos h2]⟩)
  by_cases h3 : 97 ≤ c ∧ c ≤ 102
  · exact .inr (.inr (.inl ⟨h3.1, h3.2, by simp [h3], by rw [if_neg h1, if_neg h2, if_pos h3]⟩))
  · refine .inr (.inr (.inr ⟨h1, h2, h3, ?_, by rw [if_neg h1, if_neg h2, if_neg h3]⟩))
    simp only [Bool.or_eq_false_iff, Bool.and_eq_false_iff, decide_eq_false_iff_not]
    omega
theorem hexV_range (c : Int) : 0 ≤ hexV c ∧ hexV c ≤ 15 := by rcases hex_ways c with ⟨_, _, _, e⟩ | ⟨_, _, _, e⟩ | ⟨_, _, _, e⟩ | ⟨_, _, _, _, e⟩ <;> rw [e] <;> omega
def bI (s : ByteArray) (i : Nat) : Int := (byteAt s i : Int)
theorem bI_range (s : ByteArray) (i : Nat) : 0 ≤ bI s i ∧ bI s i < 256 := by have := byteAt_lt s i; unfold bI; omega
theorem bI_at (s : ByteArray) (i : Nat) (h : i < s.size) : bI s i = (s[i].toNat : Int) := by
  unfold bI byteAt
  rw [show s.get! i = s[i] from getElem!_pos s.data i h]
def tri (s : ByteArray) (p : Nat) : Bool := decide (p + 3 ≤ s.size) && (bI s p == 37) && (isHex (bI s (p + 1)) && isHex (bI s (p + 2)))
def triV (s : ByteArray) (p : Nat) : Int := 16 * hexV (bI s (p + 1)) + hexV (bI s (p + 2))
theorem bt_out (s : ByteArray) (i : Nat) (h : ¬ i < s.size) : byteAt s i = 0 := by
  unfold byteAt
  have : s.get! i = default := getElem!_neg s.data i h
  rw [this]; rfl
theorem ext_size (s : ByteArray) (p : Nat) : (s.extract p s.size).size = s.size - p := by
  have hs : s.data.size = s.size := rfl
  show (s.extract p s.size).data.size = _
  rw [ByteArray.data_extract, Array.size_extract]
  omega
theorem ext_byteAt (s : ByteArray) (p i : Nat) : byteAt (s.extract p s.size) i = byteAt s (p + i) := by
  by_cases h : p + i < s.size
  · have h1 : i < (s.extract p s.size).size := by rw [ext_size]; omega
    unfold byteAt
    rw [get!_at _ _ h1, get!_at _ _ h]
    congr 1
    simp [ByteArray.data_extract]
  · rw [bt_out _ _ h, bt_out _ _ (by rw [ext_size]; omega)]
theorem tri_ext (s : ByteArray) (p : Nat) (hp : p ≤ s.size) : tri (s.extract p s.size) 0 = tri s p := by
  unfold tri bI
  rw [ext_size, ext_byteAt, ext_byteAt, ext_byteAt]
  by_cases h : p + 3 ≤ s.size
  · rw [decide_eq_true h, decide_eq_true (by omega)]; rfl
  · rw [decide_eq_false h, decide_eq_false (by omega)]; rfl
def endsN (s : ByteArray) : Nat → Nat → Nat → Nat × Nat
  | 0, a, e => (a, e)
  | f + 1, a, e => if a < s.size then
      if isWord (bI s a) = true then endsN s f (a + 1) (a + 1)
      else if bI s a = 46 ∧ 0 < a ∧ a = e then endsN s f (a + 1) e
      else if tri s a = true then endsN s f (a + 3) (a + 3)
      else if bI s a = 37 then (if a + 1 < s.size ∧ isHex (bI s (a + 1)) = true then (a + 2, e) else (a + 1, e))
      else (a, e)
    else (a, e)
theorem endsN_out (s : ByteArray) (f a e : Nat) (h : ¬ a < s.size) : endsN s f a e = (a, e) := by
  cases f with
  | zero => rfl
  | succ f => rw [endsN, if_neg h]
theorem endsN_in (s : ByteArray) (f a e : Nat) (ha : a < s.size) : endsN s (f + 1) a e =
      if isWord (bI s a) = true then endsN s f (a + 1) (a + 1)
      else if bI s a = 46 ∧ 0 < a ∧ a = e then endsN s f (a + 1) e
      else if tri s a = true then endsN s f (a + 3) (a + 3)
      else if bI s a = 37 then (if a + 1 < s.size ∧ isHex (bI s (a + 1)) = true then (a + 2, e) else (a + 1, e))
      else (a, e) := by rw [endsN, if_pos ha]
theorem endsN_more (s : ByteArray) (f : Nat) : ∀ a e, s.size ≤ a + f → endsN s (f + 1) a e = endsN s f a e := by
  induction f with
  | zero => intro a e h; rw [endsN_out s 1 a e (by omega)]; rfl
  | succ f ih =>
    intro a e h
    by_cases ha : a < s.size
    · rw [endsN_in s (f + 1) a e ha, endsN_in s f a e ha, ih (a + 1) (a + 1) (by omega), ih (a + 1) e (by omega), ih (a + 3) (a + 3) (by omega)]
    · rw [endsN_out _ _ _ _ ha, endsN_out _ _ _ _ ha]
def ends (s : ByteArray) : Nat × Nat := endsN s s.size 0 0
theorem ends_step (s : ByteArray) (f a e : Nat) (h : s.size ≤ a + f) (ha : a < s.size) :
    endsN s f a e = if isWord (bI s a) = true then endsN s f (a + 1) (a + 1)
      else if bI s a = 46 ∧ 0 < a ∧ a = e then endsN s f (a + 1) e
      else if tri s a = true then endsN s f (a + 3) (a + 3)
      else if bI s a = 37 then (if a + 1 < s.size ∧ isHex (bI s (a + 1)) = true then (a + 2, e) else (a + 1, e))
      else (a, e) := by
  rw [← endsN_more s f a e h, endsN_in s f a e ha]
theorem tri_in {s : ByteArray} {p : Nat} (h : tri s p = true) : p + 3 ≤ s.size := by
  unfold tri at h; simp only [Bool.and_eq_true, decide_eq_true_eq] at h; exact h.1.1
def nameMay (s : ByteArray) : Bool := decide (0 < s.size) && ((ends s).2 == s.size)
end Go.Proofs.Ytbjeegkmafbejaa.Y
end
section
namespace Go.Proofs.Ytbjeegkmafbejaa.X
open Go.RowKit Go.Proofs.YtbjeegkmafbejaaW.PrintWords
theorem size_alloc1 (w : World) (o : Obj) : (w.alloc o).heap.size = w.heap.size + 1 := by simp
theorem blk_new2 (w : World) (o1 o2 : Obj) : ((w.alloc o1).alloc o2).heap[w.heap.size + 1]? = some o2 := by
  have h := blk_new (w.alloc o1) o2
  rwa [size_alloc1] at h
theorem below_new2 (w : World) (o1 o2 : Obj) : Below w.heap.size w ((w.alloc o1).alloc o2) := ((Below.refl _ _).alloc (Nat.le_refl _) _).alloc (by simp) _
theorem below_new1 (w : World) (o1 : Obj) : Below w.heap.size w (w.alloc o1) := (Below.refl _ _).alloc (Nat.le_refl _) _
theorem cells4 {w : World} {B : Nat} {a b c d : Value} {t : TypeId} (h : w.heap[B]? = some (.cells #[a, b, c, d] t (0, 0))) :
    w.cell? ⟨B, 0, none⟩ = some a ∧ w.cell? ⟨B, 1, none⟩ = some b ∧ w.cell? ⟨B, 2, none⟩ = some c ∧ w.cell? ⟨B, 3, none⟩ = some d ∧
    w.frozen? ⟨B, 0, none⟩ = false ∧ w.frozen? ⟨B, 1, none⟩ = false ∧ w.frozen? ⟨B, 2, none⟩ = false ∧ w.frozen? ⟨B, 3, none⟩ = false := by
  refine ⟨?_, ?_, ?_, ?_, blk_frozen h 0, blk_frozen h 1, blk_frozen h 2, blk_frozen h 3⟩ <;> simp [blk_cell h]
theorem C_cell1 {α : Type} {enc : α → Value} {h1 : ∀ x, (enc x).oneCell' = true} {w : World} {A : Option Addr} {n : Nat} {xs : List α} (h : Kd.C (Kd.scalar enc h1) w A n xs) (k : Nat) (hk : k < xs.length) :
    ∃ ad, A = some ad ∧ w.cell? (ad.add k) = some (enc xs[k]) := by
  have hn : 0 < n := by have := h.1; omega
  obtain ⟨ad, e, hc⟩ := h.2.2 hn
  obtain ⟨c, hs, hr, hcell⟩ := hc k _ (List.getElem?_eq_getElem hk)
  have hr : c = [enc xs[k]] := hr
  subst hr
  refine ⟨ad, e, ?_⟩
  have := hcell 0 (enc xs[k]) rfl
  simpa [Kd.scalar] using this
theorem own_empty (w : World) (e : TypeId) (size : Nat) : (w.alloc (.cells #[] e)).ownsRow w.heap.size e size (.slice (some ⟨w.heap.size, 0, none⟩) 0 0) 0 [] := by
  refine ⟨by simp, .inr ⟨w.heap.size, 0, #[], rfl, Nat.le_refl _, blk_new _ _, Nat.le_refl _, by simp [maxLen], ?_, ?_⟩⟩
  · simp
  · simp
theorem C_nil {α : Type} (d : Kd α) (w : World) : Kd.C d w none ([] : List α).length [] := ⟨rfl, by simp, fun h => absurd h (Nat.lt_irrefl 0)⟩
theorem cell_keep {W W' : World} (hb : Below W.heap.size W W') {B o : Nat} {v : Value} (h : W.cell? ⟨B, o, none⟩ = some v) : W'.cell? ⟨B, o, none⟩ = some v :=
  (hb.cell (p := ⟨B, o, none⟩) (World.block_lt_of_cell? W _ h)).trans h
end Go.Proofs.Ytbjeegkmafbejaa.X
end
section
namespace Go.Proofs.Ytbjeegkmafbejaa.X
set_option linter.unusedSimpArgs false
set_option linter.unusedVariables false
open Go.RowKit Go.Proofs.YtbjeegkmafbejaaW.PrintWords Go.Proofs.Ytbjeegkmafbejaa.Y
theorem four_ways {x : Int} (h0 : 0 ≤ x) (h1 : x < 256) : (∃ y, x = y ∧ 0 ≤ y ∧ y < 64) ∨ (∃ y, x = 64 + y ∧ 0 ≤ y ∧ y < 64) ∨ (∃ y, x = 128 + y ∧ 0 ≤ y ∧ y < 64) ∨ (∃ y, x = 192 + y ∧ 0 ≤ y ∧ y < 64) := by
  rcases (by omega : x < 64 ∨ (64 ≤ x ∧ x < 128) ∨ (128 ≤ x ∧ x < 192) ∨ 192 ≤ x) with h | h | h | h
  · exact .inl ⟨x, rfl, h0, h⟩
  · exact .inr (.inl ⟨x - 64, by omega, by omega, by omega⟩)
  · exact .inr (.inr (.inl ⟨x - 128, by omega, by omega, by omega⟩))
  · exact .inr (.inr (.inr ⟨x - 192, by omega, by omega, by omega⟩))
set_option maxHeartbeats 800000 in
theorem has_any (s : Set4) (x : Int) (w : World) (h0 : 0 ≤ x) (h1 : x < 256) :
    Calls Try.prog 64 #[s.val, .int .u8 x] w fun e w' => e = .returned (.bool (s.has x)) ∧ Below w.heap.size w w' := by
  obtain ⟨a, b, c, d⟩ := s
  unfold Set4.val
  rcases four_ways h0 h1 with ⟨y, rfl, hy, hy'⟩ | ⟨y, rfl, hy, hy'⟩ | ⟨y, rfl, hy, hy'⟩ | ⟨y, rfl, hy, hy'⟩
  · have h2 : x / 64 = 0 := by omega
    have h3 : x % 64 = x := by omega
    go_enter Try.func64, Try.ntmps64
    go_wp2
    go_ret
    exact ⟨by rw [Set4.has0 _ _ _ _ hy']; rfl, (Below.refl _ _).alloc (Nat.le_refl _) _⟩
  · have h2 : (64 + y) / 64 = 1 := by omega
    have h3 : (64 + y) % 64 = y := by omega
    go_enter Try.func64, Try.ntmps64
    go_wp2
    go_ret
    exact ⟨by rw [Set4.has1 _ _ _ _ hy hy']; rfl, (Below.refl _ _).alloc (Nat.le_refl _) _⟩
  · have h2 : (128 + y) / 64 = 2 := by omega
    have h3 : (128 + y) % 64 = y := by omega
    go_enter Try.func64, Try.ntmps64
    go_wp2
    go_ret
    exact ⟨by rw [Set4.has2 _ _ _ _ hy hy']; rfl, (Below.refl _ _).alloc (Nat.le_refl _) _⟩
  · have h2 : (192 + y) / 64 = 3 := by omega
    have h3 : (192 + y) % 64 = y := by omega
    go_enter Try.func64, Try.ntmps64
    go_wp2
    go_ret
    exact ⟨by rw [Set4.has3 _ _ _ _ hy hy']; rfl, (Below.refl _ _).alloc (Nat.le_refl _) _⟩
set_option maxHeartbeats 800000 in
theorem add_any (s : Set4) (x : Int) (B : Nat) (w : World) (h0 : 0 ≤ x) (h1 : x < 256) (hB : w.heap[B]? = some (.cells s.cells 85 (0, 0))) :
    Calls Try.prog 91 #[.pointer (some ⟨B, 0, none⟩), .int .u8 x] w fun e w' => e = .returned (.tuple #[]) ∧ Below B w w' ∧ w'.heap[B]? = some (.cells (s.add x).cells 85 (0, 0)) := by
  obtain ⟨a, b, c, d⟩ := s
  have c0 := blk_cell hB 0
  have c1 := blk_cell hB 1
  have c2 := blk_cell hB 2
  have c3 := blk_cell hB 3
  have f0 := blk_frozen hB 0
  have f1 := blk_frozen hB 1
  have f2 := blk_frozen hB 2
  have f3 := blk_frozen hB 3
  simp only [Set4.cells, List.getElem?_toArray, List.getElem?_cons_zero, List.getElem?_cons_succ] at c0 c1 c2 c3
  have HB := Aside0.mk hB
  clear hB
  rcases four_ways h0 h1 with ⟨y, rfl, hy, hy'⟩ | ⟨y, rfl, hy, hy'⟩ | ⟨y, rfl, hy, hy'⟩ | ⟨y, rfl, hy, hy'⟩
  · have h2 : x / 64 = 0 := by omega
    have h3 : x % 64 = x := by omega
    go_enter Try.func91, Try.ntmps91
    go_wp2
    go_region
    all_goals (go_end0; exact ⟨rfl, ((Below.refl _ _).setCell (p := ⟨B, 0, none⟩) (Nat.le_refl _) _).drew, blk_drew (blk_put HB.out 0 _ (by rw [Set4.add0 _ _ _ _ hy']; rfl))⟩)
  · have h2 : (64 + y) / 64 = 1 := by omega
    have h3 : (64 + y) % 64 = y := by omega
    go_enter Try.func91, Try.ntmps91
    go_wp2
    go_region
    all_goals (go_end0; exact ⟨rfl, ((Below.refl _ _).setCell (p := ⟨B, 1, none⟩) (Nat.le_refl _) _).drew, blk_drew (blk_put HB.out 1 _ (by rw [Set4.add1 _ _ _ _ hy hy']; rfl))⟩)
  · have h2 : (128 + y) / 64 = 2 := by omega
    have h3 : (128 + y) % 64 = y := by omega
    go_enter Try.func91, Try.ntmps91
    go_wp2
    go_region
    all_goals (go_end0; exact ⟨rfl, ((Below.refl _ _).setCell (p := ⟨B, 2, none⟩) (Nat.le_refl _) _).drew, blk_drew (blk_put HB.out 2 _ (by rw [Set4.add2 _ _ _ _ hy hy']; rfl))⟩)
  · have h2 : (192 + y) / 64 = 3 := by omega
    have h3 : (192 + y) % 64 = y := by omega
    go_enter Try.func91, Try.ntmps91
    go_wp2
    go_region
    all_goals (go_end0; exact ⟨rfl, ((Below.refl _ _).setCell (p := ⟨B, 3, none⟩) (Nat.le_refl _) _).drew, blk_drew (blk_put HB.out 3 _ (by rw [Set4.add3 _ _ _ _ hy hy']; rfl))⟩)
set_option maxHeartbeats 800000 in
theorem range_any (lo hi : Int) (w : World) (h0 : 0 ≤ lo) (h1 : lo ≤ hi) (h2 : hi < 256) :
    Calls Try.prog 90 #[.int .u8 lo, .int .u8 hi] w fun e w' => e = .returned (rangeSet lo (hi + 1 - lo).toNat).val ∧ Below w.heap.size w w' := by
  go_enter Try.func90, Try.ntmps90
  go_wp2_with fail
  go_loopw [6] (fun c wr => ∃ k : Nat, lo + k ≤ hi + 1 ∧ c = .int .i64 (lo + k) ∧ wr.heap[w.heap.size]? = some (.cells Set4.zero.cells 85 (0, 0)) ∧ wr.heap[w.heap.size + 1]? = some (.cells (rangeSet lo k).cells 85 (0, 0)) ∧ Below w.heap.size w wr) (fun c _ => (hi + 1 - intOf c).toNat)
  case atStart => exact ⟨0, by omega, by simp, blk_alloc (blk_new _ _) _, blk_new2 _ _ _, below_new2 _ _ _⟩
  case round =>
    obtain ⟨k, hk, rfl, hr, hs, hb⟩ := hrel
    have HR := Aside0.mk hr
    have HS := Aside0.mk hs
    have HB := Aside0.mk hb
    clear hr hs hb
    by_cases hlt : lo + k ≤ hi
    · go_wp2_with fail
      refine (add_any (rangeSet lo k) (lo + k) _ _ (by omega) (by omega) HS.out).mono ?_
      rintro e w1 ⟨rfl, hb1, hs1⟩
      have HR1 := Aside0.mk ((hb1.block _ (Nat.lt_succ_self _)).trans HR.out)
      have HS1 := Aside0.mk hs1
      have HB1 := Aside0.mk (HB.out.trans (hb1.mono (Nat.le_succ _)))
      clear hs1 hb1 HR HS HB
      go_wp2_with fail
      go_roundw
      case rel => exact ⟨k + 1, by omega, by go_num, HR1.out, HS1.out, HB1.out⟩
      case measure => simp [intOf]; omega
    · have hk' : hi = lo + k - 1 := by omega
      have hn : (hi + 1 - lo).toNat = k := by omega
      obtain ⟨c0, c1, c2, c3, _⟩ := cells4 HS.out
      obtain ⟨r0, r1, r2, r3, f0, f1, f2, f3⟩ := cells4 HR.out
      have HN := Aside0.mk hn
      clear hk' hn
      go_wp2_with fail
      refine bodyPost_ret (v := (rangeSet lo k).val) (by simp [results, Try.results90, go_sem, Set4.val, r0, r1, r2, r3]) rfl ⟨by rw [HN.out], ?_⟩
      repeat (first | exact HB.out | refine below_set ?_ (Nat.le_refl _))
set_option maxHeartbeats 800000 in
theorem of_any (s : ByteArray) (w : World) (hn : s.size ≤ 1000000) :
    Calls Try.prog 81 #[.string s] w fun e w' => e = .returned (listSet s.data.toList).val ∧ Below w.heap.size w w' := by
  go_enter Try.func81, Try.ntmps81
  go_wp2_with fail
  go_loopw [4, 7] (fun _ c wr => ∃ k : Nat, k ≤ s.size ∧ c = .int .i64 k ∧ wr.heap[w.heap.size]? = some (.cells Set4.zero.cells 85 (0, 0)) ∧ wr.heap[w.heap.size + 1]? = some (.cells (listSet (s.data.toList.take k)).cells 85 (0, 0)) ∧ Below w.heap.size w wr) (fun _ c _ => (s.size - intOf c).toNat)
  case atStart => exact ⟨0, by omega, by simp, blk_alloc (blk_new _ _) _, blk_new2 _ _ _, below_new2 _ _ _⟩
  case round =>
    obtain ⟨k, hk, rfl, hr, hs, hb⟩ := hrel
    have HR := Aside0.mk hr
    have HS := Aside0.mk hs
    have HB := Aside0.mk hb
    clear hr hs hb
    by_cases hlt : k < s.size
    · have HT := Aside0.mk (listSet_take s k hlt)
      go_wp2_with fail
      refine (add_any (listSet (s.data.toList.take k)) _ _ _ (by omega) (by have := (s[k]'hlt).toNat_lt; omega) HS.out).mono ?_
      rintro e w1 ⟨rfl, hb1, hs1⟩
      have HR1 := Aside0.mk ((hb1.block _ (Nat.lt_succ_self _)).trans HR.out)
      have HS1 := Aside0.mk hs1
      have HB1 := Aside0.mk (HB.out.trans (hb1.mono (Nat.le_succ _)))
      clear hs1 hb1 HR HS HB
      go_wp2_with fail
      go_roundw
      case rel => exact ⟨k + 1, by omega, by go_num, HR1.out, by rw [HT.out]; exact HS1.out, HB1.out⟩
      case measure => simp [intOf]; omega
    · have hn : s.data.toList.take k = s.data.toList := List.take_of_length_le (by simp; omega)
      have HN := Aside0.mk hn
      clear hn
      obtain ⟨c0, c1, c2, c3, _⟩ := cells4 HS.out
      obtain ⟨r0, r1, r2, r3, f0, f1, f2, f3⟩ := cells4 HR.out
      go_wp2_with fail
      refine bodyPost_ret (v := (listSet (s.data.toList.take k)).val) (by simp [results, Try.results81, go_sem, Set4.val, r0, r1, r2, r3]) rfl ⟨by rw [HN.out], ?_⟩
      repeat (first | exact HB.out | refine below_set ?_ (Nat.le_refl _))
end Go.Proofs.Ytbjeegkmafbejaa.X
end
section
namespace Go.Proofs.Ytbjeegkmafbejaa.X
set_option linter.unusedSimpArgs false
set_option linter.unusedVariables false
open Go.RowKit Go.Proofs.YtbjeegkmafbejaaW.PrintWords Go.Proofs.Ytbjeegkmafbejaa.Y
def Row4 (w : World) (b : Nat) (l : List Set4) : Prop := ∀ k s, l[k]? = some s → w.cell? ⟨b, k * 4, none⟩ = some (.int .u64 s.a) ∧ w.cell? ⟨b, k * 4 + 1, none⟩ = some (.int .u64 s.b) ∧ w.cell? ⟨b, k * 4 + 2, none⟩ = some (.int .u64 s.c) ∧ w.cell? ⟨b, k * 4 + 3, none⟩ = some (.int .u64 s.d)
theorem Row4.below {w w1 : World} {b : Nat} {l : List Set4} (h : Row4 w b l) (hb : Below w.heap.size w w1) (hlt : b < w.heap.size) : Row4 w1 b l := fun k s hk => by
  obtain ⟨h0, h1, h2, h3⟩ := h k s hk
  exact ⟨(hb.cell (p := ⟨b, k * 4, none⟩) hlt).trans h0, (hb.cell (p := ⟨b, k * 4 + 1, none⟩) hlt).trans h1, (hb.cell (p := ⟨b, k * 4 + 2, none⟩) hlt).trans h2, (hb.cell (p := ⟨b, k * 4 + 3, none⟩) hlt).trans h3⟩
theorem row4_two (w : World) (s0 s1 : Set4) (t : TypeId) : Row4 (w.alloc (.cells #[.int .u64 s0.a, .int .u64 s0.b, .int .u64 s0.c, .int .u64 s0.d, .int .u64 s1.a, .int .u64 s1.b, .int .u64 s1.c, .int .u64 s1.d] t)) w.heap.size [s0, s1] := by
  intro k s hk
  match k, hk with
  | 0, hk => simp at hk; subst hk; simp
  | 1, hk => simp at hk; subst hk; simp
theorem row4_three (w : World) (s0 s1 s2 : Set4) (t : TypeId) : Row4 (w.alloc (.cells #[.int .u64 s0.a, .int .u64 s0.b, .int .u64 s0.c, .int .u64 s0.d, .int .u64 s1.a, .int .u64 s1.b, .int .u64 s1.c, .int .u64 s1.d, .int .u64 s2.a, .int .u64 s2.b, .int .u64 s2.c, .int .u64 s2.d] t)) w.heap.size [s0, s1, s2] := by
  intro k s hk
  match k, hk with
  | 0, hk => simp at hk; subst hk; simp
  | 1, hk => simp at hk; subst hk; simp
  | 2, hk => simp at hk; subst hk; simp
set_option maxHeartbeats 1600000 in
theorem union_any (l : List Set4) (b : Nat) (w : World) (hn : l.length ≤ 1000) (hp : 0 < l.length) (hlt : b < w.heap.size) (hr : Row4 w b l) :
    Calls Try.prog 62 #[.slice (some ⟨b, 0, none⟩) l.length l.length] w fun e w' => e = .returned (orAll l).val ∧ Below w.heap.size w w' := by
  have HR := Aside0.mk hr
  clear hr
  go_enter Try.func62, Try.ntmps62
  go_wp2_with fail
  go_loopw [10] (fun c wr => ∃ k : Nat, k ≤ l.length ∧ c = .int .i64 k ∧ wr.heap[w.heap.size]? = some (.cells Set4.zero.cells 85 (0, 0)) ∧ wr.heap[w.heap.size + 1]? = some (.cells (orAll (l.take k)).cells 85 (0, 0)) ∧ Below w.heap.size w wr) (fun c _ => (l.length - intOf c).toNat)
  case atStart => exact ⟨0, by omega, by simp, blk_alloc (blk_new _ _) _, blk_new2 _ _ _, below_new2 _ _ _⟩
  case round =>
    obtain ⟨k, hk, rfl, hres, hs, hb⟩ := hrel
    have HRES := Aside0.mk hres
    have HS := Aside0.mk hs
    have HB := Aside0.mk hb
    clear hres hs hb
    by_cases hlt2 : k < l.length
    · obtain ⟨c0, c1, c2, c3⟩ := (HR.out.below HB.out hlt) k _ (List.getElem?_eq_getElem hlt2)
      have HT := Aside0.mk (orAll_take l k hlt2)
      obtain ⟨⟨sa, sb, sc, sd⟩, HSS⟩ : ∃ s, Aside0 (s = l[k]) := ⟨_, ⟨rfl⟩⟩
      rw [← HSS.out] at c0 c1 c2 c3
      go_wp2_with fail
      have hres' := blk_alloc HRES.out (.cells #[Value.int .u64 sa, Value.int .u64 sb, Value.int .u64 sc, Value.int .u64 sd] 85)
      have hs' := blk_alloc HS.out (.cells #[Value.int .u64 sa, Value.int .u64 sb, Value.int .u64 sc, Value.int .u64 sd] 85)
      have hb' := below_alloc HB.out (.cells #[Value.int .u64 sa, Value.int .u64 sb, Value.int .u64 sc, Value.int .u64 sd] 85)
      obtain ⟨wo, hwo⟩ : ∃ wo : World, wo = wr.alloc (.cells #[Value.int .u64 sa, Value.int .u64 sb, Value.int .u64 sc, Value.int .u64 sd] 85) := ⟨_, rfl⟩
      rw [← hwo] at hres' hs' hb' ⊢
      have HRES' := Aside0.mk hres'
      have HS' := Aside0.mk hs'
      have HB' := Aside0.mk hb'
      clear hres' hs' hb' HRES HS HB c0 c1 c2 c3 hwo
      go_loopw [15] (fun c wi => ∃ j : Nat, j ≤ 4 ∧ c = .int .i64 j ∧ wi.heap[w.heap.size]? = some (.cells Set4.zero.cells 85 (0, 0)) ∧ wi.heap[w.heap.size + 1]? = some (.cells (partOr (orAll (l.take k)) ⟨sa, sb, sc, sd⟩ j).cells 85 (0, 0)) ∧ Below w.heap.size w wi) (fun c _ => (4 - intOf c).toNat)
      case atStart => exact ⟨0, by omega, rfl, HRES'.out, HS'.out, HB'.out⟩
      case round =>
        obtain ⟨j, hj, rfl, hres, hs, hb⟩ := hrel
        have HRES := Aside0.mk hres
        have HB := Aside0.mk hb
        obtain ⟨⟨ua, ub, uc, ud⟩, HU⟩ : ∃ u, Aside0 (u = orAll (l.take k)) := ⟨_, ⟨rfl⟩⟩
        rw [← HU.out] at hs
        clear hres hb
        rcases (by omega : j = 0 ∨ j = 1 ∨ j = 2 ∨ j = 3 ∨ j = 4) with rfl | rfl | rfl | rfl | rfl
        · have hs : wr.heap[w.heap.size + 1]? = some (.cells #[.int .u64 ua, .int .u64 ub, .int .u64 uc, .int .u64 ud] 85 (0, 0)) := hs
          obtain ⟨c0, c1, c2, c3, f0, f1, f2, f3⟩ := cells4 hs
          have HS := Aside0.mk hs
          clear hs
          have i0 : ∀ w, (Instr.index 85 (.agg #[.int .u64 sa, .int .u64 sb, .int .u64 sc, .int .u64 sd]) (.int .i64 0)).run Try.prog w = .ok (.int .u64 sa) w := fun _ => by kernel_rfl
          go_wp2_with fail
          go_roundw
          case rel => exact ⟨1, by omega, rfl, blk_far HRES.out (Nat.ne_of_lt (Nat.lt_succ_self _)) _, by rw [← HU.out]; exact blk_put HS.out 0 _ rfl, below_set HB.out (Nat.le_succ _)⟩
          case measure => simp [intOf]
        · have hs : wr.heap[w.heap.size + 1]? = some (.cells #[.int .u64 (orW ua sa), .int .u64 ub, .int .u64 uc, .int .u64 ud] 85 (0, 0)) := hs
          obtain ⟨c0, c1, c2, c3, f0, f1, f2, f3⟩ := cells4 hs
          have HS := Aside0.mk hs
          clear hs
          have i0 : ∀ w, (Instr.index 85 (.agg #[.int .u64 sa, .int .u64 sb, .int .u64 sc, .int .u64 sd]) (.int .i64 1)).run Try.prog w = .ok (.int .u64 sb) w := fun _ => by kernel_rfl
          go_wp2_with fail
          go_roundw
          case rel => exact ⟨2, by omega, rfl, blk_far HRES.out (Nat.ne_of_lt (Nat.lt_succ_self _)) _, by rw [← HU.out]; exact blk_put HS.out 1 _ rfl, below_set HB.out (Nat.le_succ _)⟩
          case measure => simp [intOf]
        · have hs : wr.heap[w.heap.size + 1]? = some (.cells #[.int .u64 (orW ua sa), .int .u64 (orW ub sb), .int .u64 uc, .int .u64 ud] 85 (0, 0)) := hs
          obtain ⟨c0, c1, c2, c3, f0, f1, f2, f3⟩ := cells4 hs
          have HS := Aside0.mk hs
          clear hs
          have i0 : ∀ w, (Instr.index 85 (.agg #[.int .u64 sa, .int .u64 sb, .int .u64 sc, .int .u64 sd]) (.int .i64 2)).run Try.prog w = .ok (.int .u64 sc) w := fun _ => by kernel_rfl
          go_wp2_with fail
          go_roundw
          case rel => exact ⟨3, by omega, rfl, blk_far HRES.out (Nat.ne_of_lt (Nat.lt_succ_self _)) _, by rw [← HU.out]; exact blk_put HS.out 2 _ rfl, below_set HB.out (Nat.le_succ _)⟩
          case measure => simp [intOf]
        · have hs : wr.heap[w.heap.size + 1]? = some (.cells #[.int .u64 (orW ua sa), .int .u64 (orW ub sb), .int .u64 (orW uc sc), .int .u64 ud] 85 (0, 0)) := hs
          obtain ⟨c0, c1, c2, c3, f0, f1, f2, f3⟩ := cells4 hs
          have HS := Aside0.mk hs
          clear hs
          have i0 : ∀ w, (Instr.index 85 (.agg #[.int .u64 sa, .int .u64 sb, .int .u64 sc, .int .u64 sd]) (.int .i64 3)).run Try.prog w = .ok (.int .u64 sd) w := fun _ => by kernel_rfl
          go_wp2_with fail
          go_roundw
          case rel => exact ⟨4, by omega, rfl, blk_far HRES.out (Nat.ne_of_lt (Nat.lt_succ_self _)) _, by rw [← HU.out]; exact blk_put HS.out 3 _ rfl, below_set HB.out (Nat.le_succ _)⟩
          case measure => simp [intOf]
        · have HS := Aside0.mk hs
          clear hs
          go_wp2_with fail
          go_roundw
          case rel => exact ⟨k + 1, by omega, by go_num, HRES.out, by rw [HT.out, ← HSS.out, ← HU.out]; exact HS.out, HB.out⟩
          case measure => simp [intOf]; omega
    · have HK := Aside0.mk (List.take_of_length_le (by omega) : l.take k = l)
      obtain ⟨c0, c1, c2, c3, _⟩ := cells4 HS.out
      obtain ⟨r0, r1, r2, r3, f0, f1, f2, f3⟩ := cells4 HRES.out
      go_wp2_with fail
      refine bodyPost_ret (v := (orAll (l.take k)).val) (by simp [results, Try.results62, go_sem, Set4.val, r0, r1, r2, r3]) rfl ⟨by rw [HK.out], ?_⟩
      repeat (first | exact HB.out | refine below_set ?_ (Nat.le_refl _))
set_option maxHeartbeats 800000 in
theorem digit_any (w : World) : Calls Try.prog 80 #[] w fun e w' => e = .returned digitSet.val ∧ Below w.heap.size w w' := by
  go_enter Try.func80, Try.ntmps80
  go_wp2_with fail
  refine (range_any 48 57 _ (by omega) (by omega) (by omega)).mono ?_
  rintro e w1 ⟨rfl, hb1⟩
  have hr := blk_below (blk_new w _) hb1
  obtain ⟨r0, r1, r2, r3, f0, f1, f2, f3⟩ := cells4 hr
  have HB := Aside0.mk ((below_new1 w _).trans (hb1.mono (Nat.le_of_lt (by simp))))
  clear hr hb1
  unfold Set4.val
  go_wp2_with fail
  refine bodyPost_ret (v := digitSet.val) (by simp [results, Try.results80, go_sem, Set4.val, r0, r1, r2, r3, digitSet]) rfl ⟨rfl, ?_⟩
  repeat (first | exact HB.out | refine below_set ?_ (Nat.le_refl _))
set_option maxHeartbeats 800000 in
theorem alpha_any (w : World) : Calls Try.prog 79 #[] w fun e w' => e = .returned alphaSet.val ∧ Below w.heap.size w w' := by
  go_enter Try.func79, Try.ntmps79
  go_wp2_with fail
  refine (range_any 65 90 _ (by omega) (by omega) (by omega)).mono ?_
  rintro e w1 ⟨rfl, hb1⟩
  have HR1 := Aside0.mk (blk_below (blk_new w _) hb1)
  have HB1 := Aside0.mk ((below_new1 w _).trans (hb1.mono (Nat.le_of_lt (by simp))))
  clear hb1
  go_wp2_with fail
  refine (range_any 97 122 _ (by omega) (by omega) (by omega)).mono ?_
  rintro e w2 ⟨rfl, hb2⟩
  have HR2 := Aside0.mk (blk_below HR1.out hb2)
  have HB2 := Aside0.mk (below_step HB1.out hb2)
  clear hb2 HR1 HB1
  unfold Set4.val
  go_wp2_with fail
  refine (union_any [rangeSet 65 26, rangeSet 97 26] _ _ (by simp) (by simp) (by simp) (row4_two _ _ _ _)).mono ?_
  rintro e w3 ⟨rfl, hb3⟩
  obtain ⟨r0, r1, r2, r3, f0, f1, f2, f3⟩ := cells4 (blk_below (blk_alloc HR2.out _) hb3)
  have HB3 := Aside0.mk (below_step (below_alloc HB2.out _) hb3)
  clear hb3 HR2 HB2
  unfold Set4.val
  go_wp2_with fail
  refine bodyPost_ret (v := alphaSet.val) (by simp [results, Try.results79, go_sem, Set4.val, r0, r1, r2, r3, alphaSet]) rfl ⟨rfl, ?_⟩
  repeat (first | exact HB3.out | refine below_set ?_ (Nat.le_refl _))
set_option maxHeartbeats 800000 in
theorem word_any (w : World) : Calls Try.prog 93 #[] w fun e w' => e = .returned wordSet.val ∧ Below w.heap.size w w' := by
  go_enter Try.func93, Try.ntmps93
  go_wp2_with fail
  refine (alpha_any _).mono ?_
  rintro e w1 ⟨rfl, hb1⟩
  have HR1 := Aside0.mk (blk_below (blk_new w _) hb1)
  have HB1 := Aside0.mk ((below_new1 w _).trans (hb1.mono (Nat.le_of_lt (by simp))))
  clear hb1
  go_wp2_with fail
  refine (digit_any _).mono ?_
  rintro e w2 ⟨rfl, hb2⟩
  have HR2 := Aside0.mk (blk_below HR1.out hb2)
  have HB2 := Aside0.mk (below_step HB1.out hb2)
  clear hb2 HR1 HB1
  go_wp2_with fail
  refine (of_any ⟨#[95]⟩ _ (by decide)).mono ?_
  rintro e w3 ⟨rfl, hb3⟩
  have HR3 := Aside0.mk (blk_below HR2.out hb3)
  have HB3 := Aside0.mk (below_step HB2.out hb3)
  clear hb3 HR2 HB2
  unfold Set4.val
  go_wp2_with fail
  refine (union_any [alphaSet, digitSet, listSet [95]] _ _ (by simp) (by simp) (by simp) (row4_three _ _ _ _ _)).mono ?_
  rintro e w4 ⟨rfl, hb4⟩
  obtain ⟨r0, r1, r2, r3, f0, f1, f2, f3⟩ := cells4 (blk_below (blk_alloc HR3.out _) hb4)
  have HB4 := Aside0.mk (below_step (below_alloc HB3.out _) hb4)
  clear hb4 HR3 HB3
  unfold Set4.val
  go_wp2_with fail
  refine bodyPost_ret (v := wordSet.val) (by simp [results, Try.results93, go_sem, Set4.val, r0, r1, r2, r3, wordSet]) rfl ⟨rfl, ?_⟩
  repeat (first | exact HB4.out | refine below_set ?_ (Nat.le_refl _))
set_option maxHeartbeats 800000 in
theorem hex_any (w : World) : Calls Try.prog 94 #[] w fun e w' => e = .returned hexSet.val ∧ Below w.heap.size w w' := by
  go_enter Try.func94, Try.ntmps94
  go_wp2_with fail
  refine (digit_any _).mono ?_
  rintro e w1 ⟨rfl, hb1⟩
  have HR1 := Aside0.mk (blk_below (blk_new w _) hb1)
  have HB1 := Aside0.mk ((below_new1 w _).trans (hb1.mono (Nat.le_of_lt (by simp))))
  clear hb1
  go_wp2_with fail
  refine (range_any 65 70 _ (by omega) (by omega) (by omega)).mono ?_
  rintro e w2 ⟨rfl, hb2⟩
  have HR2 := Aside0.mk (blk_below HR1.out hb2)
  have HB2 := Aside0.mk (below_step HB1.out hb2)
  clear hb2 HR1 HB1
  go_wp2_with fail
  refine (range_any 97 102 _ (by omega) (by omega) (by omega)).mono ?_
  rintro e w3 ⟨rfl, hb3⟩
  have HR3 := Aside0.mk (blk_below HR2.out hb3)
  have HB3 := Aside0.mk (below_step HB2.out hb3)
  clear hb3 HR2 HB2
  unfold Set4.val
  go_wp2_with fail
  refine (union_any [digitSet, rangeSet 65 6, rangeSet 97 6] _ _ (by simp) (by simp) (by simp) (row4_three _ _ _ _ _)).mono ?_
  rintro e w4 ⟨rfl, hb4⟩
  obtain ⟨r0, r1, r2, r3, f0, f1, f2, f3⟩ := cells4 (blk_below (blk_alloc HR3.out _) hb4)
  have HB4 := Aside0.mk (below_step (below_alloc HB3.out _) hb4)
  clear hb4 HR3 HB3
  unfold Set4.val
  go_wp2_with fail
  refine bodyPost_ret (v := hexSet.val) (by simp [results, Try.results94, go_sem, Set4.val, r0, r1, r2, r3, hexSet]) rfl ⟨rfl, ?_⟩
  repeat (first | exact HB4.out | refine below_set ?_ (Nat.le_refl _))
set_option maxHeartbeats 800000 in
theorem unreserved_any (w : World) : Calls Try.prog 61 #[] w fun e w' => e = .returned unreservedSet.val ∧ Below w.heap.size w w' := by
  go_enter Try.func61, Try.ntmps61
  go_wp2_with fail
  refine (alpha_any _).mono ?_
  rintro e w1 ⟨rfl, hb1⟩
  have HR1 := Aside0.mk (blk_below (blk_new w _) hb1)
  have HB1 := Aside0.mk ((below_new1 w _).trans (hb1.mono (Nat.le_of_lt (by simp))))
  clear hb1
  go_wp2_with fail
  refine (digit_any _).mono ?_
  rintro e w2 ⟨rfl, hb2⟩
  have HR2 := Aside0.mk (blk_below HR1.out hb2)
  have HB2 := Aside0.mk (below_step HB1.out hb2)
  clear hb2 HR1 HB1
  go_wp2_with fail
  refine (of_any ⟨#[45, 46, 95, 126]⟩ _ (by decide)).mono ?_
  rintro e w3 ⟨rfl, hb3⟩
  have HR3 := Aside0.mk (blk_below HR2.out hb3)
  have HB3 := Aside0.mk (below_step HB2.out hb3)
  clear hb3 HR2 HB2
  unfold Set4.val
  go_wp2_with fail
  refine (union_any [alphaSet, digitSet, listSet [45, 46, 95, 126]] _ _ (by simp) (by simp) (by simp) (row4_three _ _ _ _ _)).mono ?_
  rintro e w4 ⟨rfl, hb4⟩
  obtain ⟨r0, r1, r2, r3, f0, f1, f2, f3⟩ := cells4 (blk_below (blk_alloc HR3.out _) hb4)
  have HB4 := Aside0.mk (below_step (below_alloc HB3.out _) hb4)
  clear hb4 HR3 HB3
  unfold Set4.val
  go_wp2_with fail
  refine bodyPost_ret (v := unreservedSet.val) (by simp [results, Try.results61, go_sem, Set4.val, r0, r1, r2, r3, unreservedSet]) rfl ⟨rfl, ?_⟩
  repeat (first | exact HB4.out | refine below_set ?_ (Nat.le_refl _))
end Go.Proofs.Ytbjeegkmafbejaa.X
end
section
namespace Go.Proofs.Ytbjeegkmafbejaa.X
set_option linter.unusedSimpArgs false
set_option linter.unusedVariables false
open Go.RowKit Go.Proofs.YtbjeegkmafbejaaW.PrintWords Go.Proofs.Ytbjeegkmafbejaa.Y
end Go.Proofs.Ytbjeegkmafbejaa.X
end
section
namespace Go.Proofs.Ytbjeegkmafbejaa.X
set_option linter.unusedSimpArgs false
set_option linter.unusedVariables false
open Go.RowKit Go.Proofs.YtbjeegkmafbejaaW.PrintWords Go.Proofs.Ytbjeegkmafbejaa.Y
set_option maxHeartbeats 1600000 in
theorem pctDigit_any (c : Int) (w : World) (h0 : 0 ≤ c) (h1 : c < 256) : Calls Try.prog 78 #[.int .u8 c] w fun e w' => e = .returned (.tuple #[.int .i64 (hexV c), .bool (isHex c)]) ∧ w = w' := by
  rcases hex_ways c with ⟨a, b, e1, e2⟩ | ⟨a, b, e1, e2⟩ | ⟨a, b, e1, e2⟩ | ⟨a, b, d, e1, e2⟩
  · have HE := Aside0.mk (And.intro e1 e2); clear e1 e2
    go_enter Try.func78, Try.ntmps78
    go_wp2
    go_ret2
    exact ⟨by rw [HE.out.1, HE.out.2]; rfl, rfl⟩
  · have HE := Aside0.mk (And.intro e1 e2); clear e1 e2
    have t0 : decide (c ≤ 57) = false := decide_eq_false (by omega)
    go_enter Try.func78, Try.ntmps78
    go_wp2
    go_ret2
    exact ⟨by rw [HE.out.1, HE.out.2]; rfl, rfl⟩
  · have HE := Aside0.mk (And.intro e1 e2); clear e1 e2
    have t0 : decide (c ≤ 57) = false := decide_eq_false (by omega)
    have t1 : decide (c ≤ 70) = false := decide_eq_false (by omega)
    go_enter Try.func78, Try.ntmps78
    go_wp2
    go_ret2
    exact ⟨by rw [HE.out.1, HE.out.2]; rfl, rfl⟩
  · have HE := Aside0.mk (And.intro e1 e2); clear e1 e2
    have dd : ∀ {x y : Int}, ¬ (x ≤ c ∧ c ≤ y) → (decide (x ≤ c) = false) ∨ (decide (x ≤ c) = true ∧ decide (c ≤ y) = false) := fun {x y} h => by
      by_cases hx : x ≤ c
      · exact .inr ⟨decide_eq_true hx, decide_eq_false (fun hy => h ⟨hx, hy⟩)⟩
      · exact .inl (decide_eq_false hx)
    rcases dd a with t0 | ⟨t0, t0'⟩ <;> rcases dd b with t1 | ⟨t1, t1'⟩ <;> rcases dd d with t2 | ⟨t2, t2'⟩ <;> clear a b d dd <;> (
    go_enter Try.func78, Try.ntmps78
    go_wp2
    go_ret2
    exact ⟨by rw [HE.out.1, HE.out.2]; rfl, rfl⟩)
set_option maxHeartbeats 1600000 in
theorem pctValue_any (s : ByteArray) (w : World) : Calls Try.prog 60 #[.string s] w fun e w' => (∃ v : Int, e = .returned (.tuple #[.int .u8 v, .bool (tri s 0)]) ∧ (tri s 0 = true → v = triV s 0)) ∧ w = w' := by
  by_cases h3 : 3 ≤ s.size
  · by_cases hp : bI s 0 = 37
    · have r1 := bI_range s 1
      have r2 := bI_range s 2
      have b1 := bI_at s 1 (by omega)
      have b2 := bI_at s 2 (by omega)
      rw [b1] at r1
      rw [b2] at r2
      have t0 : decide ((s.size : Int) < 3) = false := decide_eq_false (by omega)
      have t1 : ((s[0].toNat : Int) != 37) = false := by rw [← bI_at s 0 (by omega), hp]; rfl
      have hV : (wrap64 (wrap64 (16 * hexV (s[1].toNat : Int)) + hexV (s[2].toNat : Int)) % 256) = triV s 0 := by
        have g1 := hexV_range (s[1].toNat : Int)
        have g2 := hexV_range (s[2].toNat : Int)
        unfold triV
        rw [b1, b2]
        unfold wrap64
        omega
      have HV := Aside0.mk hV
      clear hV
      cases e1 : isHex (s[1].toNat : Int) with
      | true =>
        have HT := Aside0.mk (show tri s 0 = isHex (s[2].toNat : Int) by
          unfold tri; rw [b1, b2, hp, e1, decide_eq_true h3]; rfl)
        go_enter Try.func60, Try.ntmps60
        go_wp2_with fail
        refine (pctDigit_any (s[1].toNat) _ r1.1 r1.2).mono ?_
        rintro e w1 ⟨rfl, rfl⟩
        go_wp2_with fail
        refine (pctDigit_any (s[2].toNat) _ r2.1 r2.2).mono ?_
        rintro e w1 ⟨rfl, rfl⟩
        go_wp2_with fail
        go_ret2
        exact ⟨⟨_, by rw [HT.out, ← HV.out]; rfl, fun _ => rfl⟩, rfl⟩
      | false =>
        have HT := Aside0.mk (show tri s 0 = false by
          unfold tri; rw [b1, b2, hp, e1, decide_eq_true h3]; rfl)
        go_enter Try.func60, Try.ntmps60
        go_wp2_with fail
        refine (pctDigit_any (s[1].toNat) _ r1.1 r1.2).mono ?_
        rintro e w1 ⟨rfl, rfl⟩
        go_wp2_with fail
        refine (pctDigit_any (s[2].toNat) _ r2.1 r2.2).mono ?_
        rintro e w1 ⟨rfl, rfl⟩
        go_wp2_with fail
        go_ret2
        exact ⟨⟨_, by rw [HT.out, ← HV.out]; rfl, fun _ => rfl⟩, rfl⟩
    · have t0 : decide ((s.size : Int) < 3) = false := decide_eq_false (by omega)
      have t1 : ((s[0].toNat : Int) != 37) = true := by rw [← bI_at s 0 (by omega)]; simpa using hp
      have HT := Aside0.mk (show tri s 0 = false by
        unfold tri; rw [beq_eq_false_iff_ne.2 hp]; simp)
      go_enter Try.func60, Try.ntmps60
      go_wp2_with fail
      go_ret2
      exact ⟨⟨0, by rw [HT.out]; rfl, fun h => by rw [HT.out] at h; cases h⟩, rfl⟩
  · have t0 : decide ((s.size : Int) < 3) = true := decide_eq_true (by omega)
    have HT := Aside0.mk (show tri s 0 = false by
      unfold tri; rw [decide_eq_false (by omega)]; rfl)
    go_enter Try.func60, Try.ntmps60
    go_wp2_with fail
    go_ret2
    exact ⟨⟨0, by rw [HT.out]; rfl, fun h => by rw [HT.out] at h; cases h⟩, rfl⟩
set_option maxHeartbeats 800000 in
theorem pctTriplet_any (s : ByteArray) (w : World) : Calls Try.prog 65 #[.string s] w fun e w' => e = .returned (.bool (tri s 0)) ∧ w = w' := by
  go_enter Try.func65, Try.ntmps65
  go_wp2_with fail
  refine (pctValue_any s _).mono ?_
  rintro e w1 ⟨⟨v, rfl, _⟩, rfl⟩
  go_wp2_with fail
  go_ret
  exact ⟨rfl, rfl⟩
end Go.Proofs.Ytbjeegkmafbejaa.X
end
section
namespace Go.Proofs.Ytbjeegkmafbejaa.X
set_option linter.unusedSimpArgs false
set_option linter.unusedVariables false
open Go.RowKit Go.Proofs.YtbjeegkmafbejaaW.PrintWords Go.Proofs.Ytbjeegkmafbejaa.Y
theorem nil_of_size_zero {s : ByteArray} (h : s.size = 0) : s.toList = [] := by
  rw [ByteArray.toList_eq]
  exact List.eq_nil_of_length_eq_zero (by simpa using h)
theorem size_zero_of_nil {s : ByteArray} (h : s.toList = []) : s.size = 0 := by
  rw [ByteArray.toList_eq] at h
  have := congrArg List.length h
  simpa using this
set_option maxHeartbeats 4000000 in
theorem vnameEnds_any (s : ByteArray) (w : World) (hs : s.size ≤ 100000000) : Calls Try.prog 83 #[.string s] w fun e w' => e = .returned (.tuple #[.int .i64 (Y.ends s).1, .int .i64 (Y.ends s).2]) ∧ Below w.heap.size w w' := by
  go_enter Try.func83, Try.ntmps83
  go_wp2_with fail
  apply wp_scope_straight
  go_wp2_with fail
  refine (word_any _).mono ?_
  rintro e w1 ⟨rfl, hb1⟩
  have HB1 := Aside0.mk hb1
  clear hb1
  go_wp2_with fail
  refine (hex_any _).mono ?_
  rintro e w2 ⟨rfl, hb2⟩
  have HB2 := Aside0.mk (below_step HB1.out hb2)
  clear hb2 HB1
  unfold Set4.val
  go_wp2_with fail
  apply wp_label
  go_wp2_with fail
  go_loopw [6, 7] (fun c d wr => ∃ a e : Nat, a ≤ s.size ∧ e ≤ a ∧ c = .int .i64 a ∧ d = .int .i64 e ∧ wr.heap[w2.heap.size]? = some (.cells wordSet.cells 85 (0, 0)) ∧ wr.heap[w2.heap.size + 1]? = some (.cells hexSet.cells 85 (0, 0)) ∧ Below w.heap.size w wr ∧ Aside0 (endsN s s.size a e = Y.ends s)) (fun c _ _ => (s.size - intOf c).toNat)
  case atStart =>
    exact ⟨0, 0, by omega, by omega, rfl, rfl, blk_alloc (blk_new _ _) _, blk_new2 _ _ _, below_alloc (below_alloc HB2.out _) _, ⟨rfl⟩⟩
  case round =>
    obtain ⟨a, e, ha, he, rfl, rfl, hw, hh, hb, hE⟩ := hrel
    have HW := Aside0.mk hw
    have HH := Aside0.mk hh
    have HB := Aside0.mk hb
    have c0 := blk_cell hw 0
    have c1 := blk_cell hw 1
    have c2 := blk_cell hw 2
    have c3 := blk_cell hw 3
    clear hw hh hb
    simp only [Set4.cells, List.getElem?_toArray, List.getElem?_cons_zero, List.getElem?_cons_succ] at c0 c1 c2 c3
    by_cases hlt : a < s.size
    · have r := bI_range s a
      have hb := bI_at s a hlt
      have HS := Aside0.mk (ends_step s s.size a e (by omega) hlt)
      rw [hb] at r
      have HX := Aside0.mk (word_has (s[a].toNat : Int) r.1 r.2)
      have hgo : decide ((a : Int) < (s.size : Int)) = true := decide_eq_true (by omega)
      cases hword : isWord (s[a].toNat : Int) with
      | true =>
        rw [hword] at HX
        have HN := Aside0.mk (show endsN s s.size (a + 1) (a + 1) = Y.ends s by rw [← hE.out, HS.out, hb, hword]; rfl)
        clear HS hE hb hword
        go_wp2_with fail
        refine (has_any wordSet _ _ r.1 r.2).mono ?_
        rintro e w3 ⟨rfl, hb3⟩
        rw [HX.out]
        have HB3 := Aside0.mk (below_step HB.out hb3)
        have HW3 := Aside0.mk (blk_below HW.out hb3)
        have HH3 := Aside0.mk (blk_below HH.out hb3)
        clear HB HW HH hb3 c0 c1 c2 c3
        go_wp2_with fail
        go_roundw
        case rel => exact ⟨a + 1, a + 1, by omega, by omega, by go_num, by go_num, HW3.out, HH3.out, HB3.out, HN⟩
        case measure => simp [intOf]; omega
      | false =>
        rw [hword] at HX
        have HS2 := Aside0.mk (show Y.ends s = _ by rw [← hE.out, HS.out, hb, hword, if_neg (by decide)])
        clear HS hE hb hword
        by_cases h46 : (s[a].toNat : Int) = 46 ∧ 0 < a ∧ a = e
        · obtain ⟨h46, hpos, rfl⟩ := h46
          have HN := Aside0.mk (show endsN s s.size (a + 1) a = Y.ends s by rw [HS2.out, if_pos ⟨h46, hpos, rfl⟩])
          have t0 : ((s[a].toNat : Int) == 46) = true := beq_iff_eq.2 h46
          have t1 : decide ((0 : Int) < (a : Int)) = true := decide_eq_true (by omega)
          clear HS2 h46
          go_wp2_with fail
          refine (has_any wordSet _ _ r.1 r.2).mono ?_
          rintro e w3 ⟨rfl, hb3⟩
          rw [HX.out]
          have HB3 := Aside0.mk (below_step HB.out hb3)
          have HW3 := Aside0.mk (blk_below HW.out hb3)
          have HH3 := Aside0.mk (blk_below HH.out hb3)
          clear HB HW HH hb3 c0 c1 c2 c3
          go_wp2_with fail
          go_roundw
          case rel => exact ⟨a + 1, a, by omega, by omega, by go_num, rfl, HW3.out, HH3.out, HB3.out, HN⟩
          case measure => simp [intOf]; omega
        · have HS3 := Aside0.mk (show Y.ends s = _ by rw [HS2.out, if_neg h46])
          clear HS2
          have hT := tri_ext s a (by omega)
          by_cases h46' : (s[a].toNat : Int) = 46
          · have t0 : ((s[a].toNat : Int) == 46) = true := beq_iff_eq.2 h46'
            have t37 : ((s[a].toNat : Int) == 37) = false := beq_eq_false_iff_ne.2 (by omega)
            have HT := Aside0.mk (show tri (s.extract a s.size) 0 = false by rw [hT]; unfold tri; rw [bI_at s a hlt, t37]; simp)
            have HN := Aside0.mk (show Y.ends s = (a, e) by
              rw [HS3.out, if_neg (by rw [← hT, HT.out]; decide), if_neg (by omega)])
            clear HS3 hT
            by_cases hpos : 0 < a
            · have t1 : decide ((0 : Int) < (a : Int)) = true := decide_eq_true (by omega)
              have t2 : ((a : Int) == (e : Int)) = false := beq_eq_false_iff_ne.2 (fun h => h46 ⟨h46', hpos, by omega⟩)
              clear h46 h46'
              go_wp2_with fail
              refine (has_any wordSet _ _ r.1 r.2).mono ?_
              rintro e w3 ⟨rfl, hb3⟩
              rw [HX.out]
              have HB3 := Aside0.mk (below_step HB.out hb3)
              have HW3 := Aside0.mk (blk_below HW.out hb3)
              have HH3 := Aside0.mk (blk_below HH.out hb3)
              clear HB HW HH hb3 c0 c1 c2 c3
              go_wp2_with fail
              refine (pctTriplet_any _ _).mono ?_
              rintro e w4 ⟨rfl, rfl⟩
              rw [HT.out]
              go_wp2_with fail
              rw [Exit.noGoto_ret]
              go_ret2
              exact ⟨by rw [HN.out]; first | rfl | (simp; done), HB3.out⟩
            · have t1 : decide ((0 : Int) < (a : Int)) = false := decide_eq_false (by omega)
              clear h46 h46'
              go_wp2_with fail
              refine (has_any wordSet _ _ r.1 r.2).mono ?_
              rintro e w3 ⟨rfl, hb3⟩
              rw [HX.out]
              have HB3 := Aside0.mk (below_step HB.out hb3)
              have HW3 := Aside0.mk (blk_below HW.out hb3)
              have HH3 := Aside0.mk (blk_below HH.out hb3)
              clear HB HW HH hb3 c0 c1 c2 c3
              go_wp2_with fail
              refine (pctTriplet_any _ _).mono ?_
              rintro e w4 ⟨rfl, rfl⟩
              rw [HT.out]
              go_wp2_with fail
              rw [Exit.noGoto_ret]
              go_ret2
              exact ⟨by rw [HN.out]; first | rfl | (simp; done), HB3.out⟩
          · have t0 : ((s[a].toNat : Int) == 46) = false := beq_eq_false_iff_ne.2 h46'
            clear h46 h46'
            cases htri : tri s a with
            | true =>
              have hin := tri_in htri
              have HT := Aside0.mk (show tri (s.extract a s.size) 0 = true by rw [hT]; exact htri)
              have HN := Aside0.mk (show endsN s s.size (a + 3) (a + 3) = Y.ends s by rw [HS3.out, if_pos htri])
              clear HS3 hT htri
              go_wp2_with fail
              refine (has_any wordSet _ _ r.1 r.2).mono ?_
              rintro e w3 ⟨rfl, hb3⟩
              rw [HX.out]
              have HB3 := Aside0.mk (below_step HB.out hb3)
              have HW3 := Aside0.mk (blk_below HW.out hb3)
              have HH3 := Aside0.mk (blk_below HH.out hb3)
              clear HB HW HH hb3 c0 c1 c2 c3
              go_wp2_with fail
              refine (pctTriplet_any _ _).mono ?_
              rintro e w4 ⟨rfl, rfl⟩
              rw [HT.out]
              go_wp2_with fail
              go_roundw
              case rel => exact ⟨a + 3, a + 3, by omega, by omega, by go_num, by go_num, HW3.out, HH3.out, HB3.out, HN⟩
              case measure => simp [intOf]; omega
            | false =>
              have HT := Aside0.mk (show tri (s.extract a s.size) 0 = false by rw [hT]; exact htri)
              have HS4 := Aside0.mk (show Y.ends s = _ by rw [HS3.out, if_neg (by rw [htri]; decide)])
              clear HS3 hT htri
              by_cases h37 : (s[a].toNat : Int) = 37
              · have t37 : ((s[a].toNat : Int) == 37) = true := beq_iff_eq.2 h37
                have HS5 := Aside0.mk (show Y.ends s = _ by rw [HS4.out, if_pos h37])
                clear HS4 h37
                by_cases hlt' : a + 1 < s.size
                · have r' := bI_range s (a + 1)
                  have hb' := bI_at s (a + 1) hlt'
                  rw [hb'] at r'
                  have HX' := Aside0.mk (hex_has (s[a + 1].toNat : Int) r'.1 r'.2)
                  have hgo' : decide (((a : Int) + 1) < (s.size : Int)) = true := decide_eq_true (by omega)
                  cases hx : isHex (s[a + 1].toNat : Int) with
                  | true =>
                    rw [hx] at HX'
                    have HN := Aside0.mk (show Y.ends s = (a + 2, e) by rw [HS5.out, if_pos ⟨hlt', by rw [hb', hx]⟩])
                    clear HS5 hb' hx
                    go_wp2_with fail
                    refine (has_any wordSet _ _ r.1 r.2).mono ?_
                    rintro e w3 ⟨rfl, hb3⟩
                    rw [HX.out]
                    have HB3 := Aside0.mk (below_step HB.out hb3)
                    have HW3 := Aside0.mk (blk_below HW.out hb3)
                    have HH3 := Aside0.mk (blk_below HH.out hb3)
                    clear HB HW HH hb3 c0 c1 c2 c3
                    go_wp2_with fail
                    refine (pctTriplet_any _ _).mono ?_
                    rintro e w4 ⟨rfl, rfl⟩
                    rw [HT.out]
                    have d0 := blk_cell HH3.out 0
                    have d1 := blk_cell HH3.out 1
                    have d2 := blk_cell HH3.out 2
                    have d3 := blk_cell HH3.out 3
                    simp only [Set4.cells, List.getElem?_toArray, List.getElem?_cons_zero, List.getElem?_cons_succ] at d0 d1 d2 d3
                    go_wp2_with fail
                    go_region_held3 (fun w' => w'.cell? ⟨w2.heap.size + 1, 0, none⟩ = some (.int .u64 hexSet.a) ∧ w'.cell? ⟨w2.heap.size + 1, 1, none⟩ = some (.int .u64 hexSet.b) ∧ w'.cell? ⟨w2.heap.size + 1, 2, none⟩ = some (.int .u64 hexSet.c) ∧ w'.cell? ⟨w2.heap.size + 1, 3, none⟩ = some (.int .u64 hexSet.d) ∧ Aside0 (Below w.heap.size w w')) (((try dsimp only); (try go_split_ands); (repeat' apply And.intro) <;> first | assumption | exact cell_keep hb (by assumption) | exact ⟨below_step (Aside0.out (by assumption)) hb⟩ | exact ⟨below_step (Below.drew (Aside0.out (by assumption))) hb⟩ | exact ⟨Below.drew (Aside0.out (by assumption))⟩)) (first | (go_at_call 64; refine (has_any hexSet _ _ r'.1 r'.2).mono ?_; rintro e w' ⟨rfl, hb⟩; rw [HX'.out]))
                    all_goals go_wp2
                    all_goals (rw [Exit.noGoto_ret])
                    all_goals go_ret2
                    all_goals exact ⟨by rw [HN.out]; first | rfl | (simp; done), Aside0.out (And.right (And.right (And.right (And.right (by assumption)))))⟩
                  | false =>
                    rw [hx] at HX'
                    have HN := Aside0.mk (show Y.ends s = (a + 1, e) by rw [HS5.out, if_neg (fun h => by rw [hb', hx] at h; exact absurd h.2 (by decide))])
                    clear HS5 hb' hx
                    go_wp2_with fail
                    refine (has_any wordSet _ _ r.1 r.2).mono ?_
                    rintro e w3 ⟨rfl, hb3⟩
                    rw [HX.out]
                    have HB3 := Aside0.mk (below_step HB.out hb3)
                    have HW3 := Aside0.mk (blk_below HW.out hb3)
                    have HH3 := Aside0.mk (blk_below HH.out hb3)
                    clear HB HW HH hb3 c0 c1 c2 c3
                    go_wp2_with fail
                    refine (pctTriplet_any _ _).mono ?_
                    rintro e w4 ⟨rfl, rfl⟩
                    rw [HT.out]
                    have d0 := blk_cell HH3.out 0
                    have d1 := blk_cell HH3.out 1
                    have d2 := blk_cell HH3.out 2
                    have d3 := blk_cell HH3.out 3
                    simp only [Set4.cells, List.getElem?_toArray, List.getElem?_cons_zero, List.getElem?_cons_succ] at d0 d1 d2 d3
                    go_wp2_with fail
                    go_region_held3 (fun w' => w'.cell? ⟨w2.heap.size + 1, 0, none⟩ = some (.int .u64 hexSet.a) ∧ w'.cell? ⟨w2.heap.size + 1, 1, none⟩ = some (.int .u64 hexSet.b) ∧ w'.cell? ⟨w2.heap.size + 1, 2, none⟩ = some (.int .u64 hexSet.c) ∧ w'.cell? ⟨w2.heap.size + 1, 3, none⟩ = some (.int .u64 hexSet.d) ∧ Aside0 (Below w.heap.size w w')) (((try dsimp only); (try go_split_ands); (repeat' apply And.intro) <;> first | assumption | exact cell_keep hb (by assumption) | exact ⟨below_step (Aside0.out (by assumption)) hb⟩ | exact ⟨below_step (Below.drew (Aside0.out (by assumption))) hb⟩ | exact ⟨Below.drew (Aside0.out (by assumption))⟩)) (first | (go_at_call 64; refine (has_any hexSet _ _ r'.1 r'.2).mono ?_; rintro e w' ⟨rfl, hb⟩; rw [HX'.out]))
                    all_goals go_wp2
                    all_goals (rw [Exit.noGoto_ret])
                    all_goals go_ret2
                    all_goals exact ⟨by rw [HN.out]; first | rfl | (simp; done), Aside0.out (And.right (And.right (And.right (And.right (by assumption)))))⟩
                · have hgo' : decide (((a : Int) + 1) < (s.size : Int)) = false := decide_eq_false (by omega)
                  have HN := Aside0.mk (show Y.ends s = (a + 1, e) by rw [HS5.out, if_neg (fun h => hlt' h.1)])
                  clear HS5
                  go_wp2_with fail
                  refine (has_any wordSet _ _ r.1 r.2).mono ?_
                  rintro e w3 ⟨rfl, hb3⟩
                  rw [HX.out]
                  have HB3 := Aside0.mk (below_step HB.out hb3)
                  have HW3 := Aside0.mk (blk_below HW.out hb3)
                  have HH3 := Aside0.mk (blk_below HH.out hb3)
                  clear HB HW HH hb3 c0 c1 c2 c3
                  go_wp2_with fail
                  refine (pctTriplet_any _ _).mono ?_
                  rintro e w4 ⟨rfl, rfl⟩
                  rw [HT.out]
                  go_wp2_with fail
                  go_quiet (fail)
                  all_goals go_wp2
                  all_goals rw [Exit.noGoto_ret]
                  all_goals go_ret2
                  all_goals exact ⟨by rw [HN.out]; first | rfl | (simp; done), by first | exact HB3.out | exact HB3.out.drew | (apply pw_below_drewN; exact HB3.out)⟩
              · have t37 : ((s[a].toNat : Int) == 37) = false := beq_eq_false_iff_ne.2 h37
                have HN := Aside0.mk (show Y.ends s = (a, e) by rw [HS4.out, if_neg h37])
                clear HS4 h37
                go_wp2_with fail
                refine (has_any wordSet _ _ r.1 r.2).mono ?_
                rintro e w3 ⟨rfl, hb3⟩
                rw [HX.out]
                have HB3 := Aside0.mk (below_step HB.out hb3)
                have HW3 := Aside0.mk (blk_below HW.out hb3)
                have HH3 := Aside0.mk (blk_below HH.out hb3)
                clear HB HW HH hb3 c0 c1 c2 c3
                go_wp2_with fail
                refine (pctTriplet_any _ _).mono ?_
                rintro e w4 ⟨rfl, rfl⟩
                rw [HT.out]
                go_wp2_with fail
                rw [Exit.noGoto_ret]
                go_ret2
                exact ⟨by rw [HN.out]; first | rfl | (simp; done), HB3.out⟩
    · have hgo : decide ((a : Int) < (s.size : Int)) = false := decide_eq_false (by omega)
      have HN := Aside0.mk (show Y.ends s = (a, e) by rw [← hE.out, endsN_out _ _ _ _ hlt])
      clear hE
      go_wp2_with fail
      rw [Exit.noGoto_ret]
      go_ret2
      exact ⟨by rw [HN.out]; first | rfl | (simp; done), HB.out⟩
set_option maxHeartbeats 1600000 in
theorem vnameEnd_any (s : ByteArray) (w : World) (hs : s.size ≤ 100000000) : Calls Try.prog 70 #[.string s] w fun e w' => e = .returned (.int .i64 (Y.ends s).2) ∧ Below w.heap.size w w' := by
  go_enter Try.func70, Try.ntmps70
  go_wp2_with fail
  refine (vnameEnds_any s _ hs).mono ?_
  rintro e w1 ⟨rfl, hb⟩
  have HB := Aside0.mk hb
  clear hb
  go_wp2_with fail
  go_ret
  exact ⟨rfl, HB.out⟩
set_option maxHeartbeats 1600000 in
theorem vnameMay_any (s : ByteArray) (w : World) (hs : s.size ≤ 100000000) : Calls Try.prog 46 #[.string s] w fun e w' => e = .returned (.bool (nameMay s)) ∧ Below w.heap.size w w' := by
  by_cases h0 : s.toList = []
  · have HM := Aside0.mk (show nameMay s = false by unfold nameMay; rw [decide_eq_false (by rw [size_zero_of_nil h0]; omega)]; rfl)
    go_enter Try.func46, Try.ntmps46
    go_wp2_with fail
    go_ret
    exact ⟨by rw [HM.out]; rfl, Below.refl _ _⟩
  · have HM := Aside0.mk (show nameMay s = ((Y.ends s).2 == s.size) by unfold nameMay; rw [decide_eq_true (Nat.pos_of_ne_zero fun h => h0 (nil_of_size_zero h))]; rfl)
    go_enter Try.func46, Try.ntmps46
    go_wp2_with fail
    refine (vnameEnd_any s _ hs).mono ?_
    rintro e w1 ⟨rfl, hb⟩
    have HB := Aside0.mk hb
    clear hb
    go_wp2_with fail
    go_ret
    exact ⟨by
      have e : s.toList.isEmpty = false := by cases h : s.toList with
        | nil => exact absurd h h0
        | cons _ _ => rfl
      have e2 : (((Y.ends s).2 : Int) == (s.size : Int)) = ((Y.ends s).2 == s.size) := Bool.eq_iff_iff.2 (by simp [Int.ofNat_inj])
      rw [HM.out, ← e2]
      simp [e], HB.out⟩
end Go.Proofs.Ytbjeegkmafbejaa.X
end
section
namespace Go.Proofs.Ytbjeegkmafbejaa.X
set_option linter.unusedSimpArgs false
set_option linter.unusedVariables false
open Go.RowKit Go.Proofs.YtbjeegkmafbejaaW.PrintWords
theorem info_builder : (Try.prog.info? 90).map (·.size) = some 2 := by kernel_rfl
theorem lies_builder : liesAt Try.prog Try.prog.depth 90 (2 / Try.prog.cellsOf 90) 0 90 1 = true := by kernel_rfl
set_option maxRecDepth 20000 in
theorem copyCheck_used (b : Nat) (w : World) (h0 : w.cell? ⟨b, 0, none⟩ = some (.pointer (some ⟨b, 0, none⟩))) :
    Calls Try.prog 82 #[.pointer (some ⟨b, 0, none⟩)] w fun e w' => e = .returned (.tuple #[]) ∧ w' = w := by
  obtain ⟨j, hj, _⟩ := Option.map_eq_some_iff.1 info_builder
  go_enter Try.func82, Try.ntmps82
  go_wp2
  rw [Lib.run_neq_ptr_same w _ Try.underlying88 hj]
  go_wp2
  go_end0
  exact ⟨rfl, rfl⟩
set_option maxRecDepth 20000 in
theorem copyCheck_fresh (b : Nat) (w : World) (h0 : w.cell? ⟨b, 0, none⟩ = some (.pointer none)) (hsh : w.shape? b = some (90, 2)) (hfz : w.frozen? ⟨b, 0, none⟩ = false) :
    Calls Try.prog 82 #[.pointer (some ⟨b, 0, none⟩)] w fun e w' => e = .returned (.tuple #[]) ∧ w' = w.setCell ⟨b, 0, none⟩ (.pointer (some ⟨b, 0, none⟩)) := by
  obtain ⟨j, hj, hjs⟩ := Option.map_eq_some_iff.1 info_builder
  go_enter Try.func82, Try.ntmps82
  go_wp2
  rw [Lib.run_to_unsafe w ⟨b, 0, none⟩ Try.underlying88 Try.underlying113 hj (by rw [hjs]; decide) hsh (Nat.zero_lt_succ 1)]
  simp only [Result.andThen]
  rw [Oper.upon_value]
  go_wp2
  rw [run_callFunc_extern Try.func92 (by kernel_rfl) (by kernel_rfl) (by kernel_rfl) (e := Extern.AbiNoEscape.same) (by kernel_rfl)]
  rw [Lib.run_noEscape]
  simp only [Result.andThen]
  rw [Oper.upon_value]
  go_wp2
  rw [Lib.run_from_unsafe w ⟨b, 0, none⟩ Try.underlying113 Try.underlying88 hj hsh lies_builder]
  simp only [Result.andThen]
  rw [Oper.upon_value]
  go_wp2
  go_end0
  exact ⟨rfl, rfl⟩
theorem copyCheck_any (B b : Nat) (bs : List Value) (w : World) (h : Lib.IsBuilder 90 5 B b bs w) :
    Calls Try.prog 82 #[.pointer (some ⟨b, 0, none⟩)] w fun e w' => e = .returned (.tuple #[]) ∧ (Lib.BuilderAt 90 5 B b (.pointer (some ⟨b, 0, none⟩)) bs w' ∧ Below B w w') := by
  rcases h with h | h
  · refine (copyCheck_fresh b w h.cell0 h.shape h.frozen0).mono ?_
    rintro e w' ⟨rfl, rfl⟩
    exact ⟨rfl, h.used _, (Below.refl B w).setCell (p := ⟨b, 0, none⟩) h.1 _⟩
  · refine (copyCheck_used b w h.cell0).mono ?_
    rintro e w' ⟨rfl, rfl⟩
    exact ⟨rfl, h, Below.refl _ _⟩
end Go.Proofs.Ytbjeegkmafbejaa.X
end
section
namespace Go.Proofs.Ytbjeegkmafbejaa.X
set_option linter.unusedSimpArgs false
set_option linter.unusedVariables false
open Go.RowKit Go.Proofs.YtbjeegkmafbejaaW.PrintWords
abbrev BAt (B b : Nat) (bs : List Value) (w : World) : Prop := Lib.BuilderAt 90 5 B b (.pointer (some ⟨b, 0, none⟩)) bs w
theorem info_u8 : (Try.prog.info? 5).map (fun i => (i.zero, i.size, i.bytes)) = some (some (.int .u8 0), 1, 1) := by kernel_rfl
theorem block_lt {w : World} {b : Nat} {o : Obj} (h : w.heap[b]? = some o) : b < w.heap.size := by
  rcases Nat.lt_or_ge b w.heap.size with h' | h'
  · exact h'
  · simp [Array.getElem?_eq_none h'] at h
theorem builderAt_below {B b : Nat} {p : Value} {bs : List Value} {w w1 : World} (h : Lib.BuilderAt 90 5 B b p bs w) (hb : Below w.heap.size w w1) : Lib.BuilderAt 90 5 B b p bs w1 := by
  obtain ⟨hB, v, hbk, ⟨h1, h2⟩, hne⟩ := h
  refine ⟨hB, v, blk_below hbk hb, ⟨h1, ?_⟩, hne⟩
  rcases h2 with h2 | ⟨g, cap, cur, hv, hg, hc, hr⟩
  · exact .inl h2
  · exact .inr ⟨g, cap, cur, hv, hg, blk_below hc hb, hr⟩
theorem builder_below {B b : Nat} {bs : List Value} {w w1 : World} (h : Lib.IsBuilder 90 5 B b bs w) (hb : Below w.heap.size w w1) : Lib.IsBuilder 90 5 B b bs w1 := by
  rcases h with h | h
  · exact .inl (builderAt_below h hb)
  · exact .inr (builderAt_below h hb)
set_option maxHeartbeats 2000000 in
set_option maxRecDepth 100000 in
theorem writeString_any (B b : Nat) (bs : List Value) (s : ByteArray) (w : World) (h : Lib.IsBuilder 90 5 B b bs w) (hlen : bs.length + s.size ≤ 100000000000000) (hBw : B ≤ w.heap.size) :
    Calls Try.prog 67 #[.pointer (some ⟨b, 0, none⟩), .string s] w fun e w' => e = .returned (.tuple #[.int .i64 s.size, .nilIface]) ∧ BAt B b (bs ++ Lib.strCells s) w' ∧ Below B w w' := by
  obtain ⟨i0, hi, hz0, hz1, hz2⟩ := info_parts info_u8
  go_enter Try.func67, Try.ntmps67
  go_wp2_with fail
  refine (copyCheck_any B b bs _ h).mono ?_
  rintro e w1 ⟨rfl, ⟨hB, v, hbk, hown, hne⟩, hb1⟩
  have hs1 := hb1.size
  have hlt := block_lt hbk
  have c0 : w1.cell? ⟨b, 0, none⟩ = some (.pointer (some ⟨b, 0, none⟩)) := by rw [Lib.cell_of_heap hbk]; rfl
  have c1 : w1.cell? ⟨b, 1, none⟩ = some v := by rw [Lib.cell_of_heap hbk]; rfl
  go_wp2_with (at_builtin; refine Lib.wpList_append_own_string _ rfl _ _ 59 9 rfl B 5 i0 Try.underlying59 Try.underlying9 hi hz0 hz1 hz2 _ _ _ rfl hown s rfl (by unfold maxLen; omega) (by omega) (by omega) ?_)
  intro v' w2 hown' hgrow _
  have hb2 : w2.heap[b]? = some (.cells #[.pointer (some ⟨b, 0, none⟩), v] 90 (0, 0)) := by
    rw [hgrow.block b hlt (fun e => hne e.symm)]; exact hbk
  have d0 : w2.cell? ⟨b, 0, none⟩ = some (.pointer (some ⟨b, 0, none⟩)) := by rw [Lib.cell_of_heap hb2]; rfl
  have d1 : w2.cell? ⟨b, 1, none⟩ = some v := by rw [Lib.cell_of_heap hb2]; rfl
  have f1 : w2.frozen? ⟨b, 1, none⟩ = false := Lib.frozen_of_heap hb2 1
  obtain ⟨ao, n', cap, rfl⟩ : ∃ ao n' cap, v' = .slice ao n' cap := by
    rcases hown'.2 with ⟨hv, _⟩ | ⟨g, cap, cur, hv, _⟩
    · exact ⟨_, _, _, hv⟩
    · exact ⟨_, _, _, hv⟩
  go_wp2_with fail
  go_ret2
  refine ⟨rfl, ?_, ?_⟩
  · exact Lib.BuilderAt.put (T := 90) (e := 5) hB hb2 (bs' := bs ++ Lib.strCells s) (by simpa [Lib.strCells_length] using hown') (by decide)
  · exact (hb1.grown hgrow (by omega) (fun k hk => (hown.lt k hk).1)).setCell (p := ⟨b, 1, none⟩) hB _
set_option maxHeartbeats 2000000 in
set_option maxRecDepth 100000 in
theorem writeByte_any (B b : Nat) (bs : List Value) (c : Int) (w : World) (h : Lib.IsBuilder 90 5 B b bs w) (hlen : bs.length + 1 ≤ 100000000000000) (hBw : B ≤ w.heap.size) :
    Calls Try.prog 66 #[.pointer (some ⟨b, 0, none⟩), .int .u8 c] w fun e w' => e = .returned .nilIface ∧ BAt B b (bs ++ [.int .u8 c]) w' ∧ Below B w w' := by
  obtain ⟨i0, hi, hz0, hz1, hz2⟩ := info_parts info_u8
  go_enter Try.func66, Try.ntmps66
  go_wp2_with fail
  refine (copyCheck_any B b bs _ h).mono ?_
  rintro e w1 ⟨rfl, ⟨hB, v, hbk, hown, hne⟩, hb1⟩
  have hs1 := hb1.size
  have hlt := block_lt hbk
  have c0 : w1.cell? ⟨b, 0, none⟩ = some (.pointer (some ⟨b, 0, none⟩)) := by rw [Lib.cell_of_heap hbk]; rfl
  have c1 : w1.cell? ⟨b, 1, none⟩ = some v := by rw [Lib.cell_of_heap hbk]; rfl
  go_wp2_with (at_builtin; refine wpList_append_own _ rfl _ _ 59 rfl B 5 i0 (.int .u8 0) 1 1 Try.underlying59 hi hz0 hz1 hz2 rfl (by decide) _ _ _ rfl (hown.alloc _) ⟨w1.heap.size, 0, none⟩ 1 1 [.int .u8 c] rfl rfl ?c1 ?c2 (by unfold maxLen; omega) (by omega) (by simp; omega) ?_)
  case c1 =>
    intro j u hj
    match j, hj with
    | 0, hj => simp at hj; subst hj; simp [Addr.add]
  case c2 => intro u hu; simp at hu; subst hu; rfl
  intro v' w2 hown' hgrow _
  have hb2 : w2.heap[b]? = some (.cells #[.pointer (some ⟨b, 0, none⟩), v] 90 (0, 0)) := by
    rw [hgrow.block b (by simp; omega) (fun e => hne e.symm), Lib.alloc_old w1 _ b hlt]; exact hbk
  have d0 : w2.cell? ⟨b, 0, none⟩ = some (.pointer (some ⟨b, 0, none⟩)) := by rw [Lib.cell_of_heap hb2]; rfl
  have d1 : w2.cell? ⟨b, 1, none⟩ = some v := by rw [Lib.cell_of_heap hb2]; rfl
  have f1 : w2.frozen? ⟨b, 1, none⟩ = false := Lib.frozen_of_heap hb2 1
  obtain ⟨g, cap, rfl⟩ : ∃ g cap, v' = .slice (some ⟨g, 0, none⟩) (bs.length + 1) cap := by
    rcases hown'.2 with ⟨_, h0⟩ | ⟨g, cap, cur, hv, _⟩
    · omega
    · exact ⟨g, cap, hv⟩
  go_wp2_with fail
  go_ret
  refine ⟨rfl, ?_, ?_⟩
  · exact Lib.BuilderAt.put (T := 90) (e := 5) hB hb2 (bs' := bs ++ [.int .u8 c]) (by simpa using hown') (by decide)
  · exact ((hb1.alloc (by omega) _).grown hgrow (by simp; omega) (fun k hk => (hown.lt k hk).1)).setCell (p := ⟨b, 1, none⟩) hB _
end Go.Proofs.Ytbjeegkmafbejaa.X
end
section
namespace Go.Proofs.Ytbjeegkmafbejaa.X
set_option linter.unusedSimpArgs false
set_option linter.unusedVariables false
open Go.RowKit Go.Proofs.YtbjeegkmafbejaaW.PrintWords
def hexD (d : Int) : Int := if d < 10 then 48 + d else 55 + d
def tripS (c : Int) : ByteArray := strOfNums [37, hexD (c / 16), hexD (c % 16)]
theorem great_at (d : Int) (h0 : 0 ≤ d) (h1 : d < 16) (W : World) : (Instr.index 9 (.string ⟨#[48, 49, 50, 51, 52, 53, 54, 55, 56, 57, 65, 66, 67, 68, 69, 70]⟩) (.int .u8 d)).run Try.prog W = .ok (.int .u8 (hexD d)) W := by
  rcases (by omega : d = 0 ∨ d = 1 ∨ d = 2 ∨ d = 3 ∨ d = 4 ∨ d = 5 ∨ d = 6 ∨ d = 7 ∨ d = 8 ∨ d = 9 ∨ d = 10 ∨ d = 11 ∨ d = 12 ∨ d = 13 ∨ d = 14 ∨ d = 15) with rfl | rfl | rfl | rfl | rfl | rfl | rfl | rfl | rfl | rfl | rfl | rfl | rfl | rfl | rfl | rfl <;> first | kernel_rfl | rfl
theorem convT (W : World) (B : Nat) (x y z : Int) (h0 : W.cell? ⟨B, 0, none⟩ = some (.int .u8 x)) (h1 : W.cell? ⟨B, 1, none⟩ = some (.int .u8 y)) (h2 : W.cell? ⟨B, 2, none⟩ = some (.int .u8 z)) :
    (convert 59 9 (.slice (some ⟨B, 0, none⟩) 3 3)).run Try.prog W = .ok (.string (strOfNums [x, y, z])) W :=
  run_convert_bytes_arg W 59 5 Try.underlying59 Try.underlying5 B 0 3 3 [x, y, z] rfl (fun i hi => by
    have : i = 0 ∨ i = 1 ∨ i = 2 := by omega
    rcases this with rfl | rfl | rfl
    · exact h0
    · exact h1
    · exact h2) 9 Try.underlying9
set_option maxHeartbeats 1600000 in
set_option maxRecDepth 100000 in
theorem pctOne_all (c : Int) (w : World) (hc0 : 0 ≤ c) (hc1 : c < 256) : Calls Try.prog 68 #[.int .u8 c] w fun e w' => e = .returned (.string (tripS c)) ∧ Below w.heap.size w w' := by
  have hcv := fun W B => convT W B 37 (hexD (c / 16)) (hexD (c % 16))
  have hd1 : Int.tdiv c 16 = c / 16 := Int.tdiv_eq_ediv_of_nonneg hc0
  have hd2 : Int.tmod c 16 = c % 16 := Int.tmod_eq_emod_of_nonneg hc0
  have hw1 : IntKind.u8.wrap (c / 16) = c / 16 := by show (c / 16) % 256 = c / 16; omega
  have hw2 : IntKind.u8.wrap (c % 16) = c % 16 := by show (c % 16) % 256 = c % 16; omega
  have hix1 := fun W => great_at (c / 16) (by omega) (by omega) W
  have hix2 := fun W => great_at (c % 16) (by omega) (by omega) W
  have HT := Aside0.mk (show tripS c = strOfNums [37, hexD (c / 16), hexD (c % 16)] from rfl)
  generalize hexD (c / 16) = x at *
  generalize hexD (c % 16) = y at *
  go_enter Try.func68, Try.ntmps68
  go_wp2_with fail
  go_region_with (fail)
  all_goals go_wp2
  all_goals go_ret
  all_goals exact ⟨by rw [HT.out]; rfl, by repeat (with_reducible first | exact Below.refl _ _ | apply Below.drew | apply below_alloc | apply pw_below_drewN)⟩
end Go.Proofs.Ytbjeegkmafbejaa.X
end
section
namespace Go.Proofs.Ytbjeegkmafbejaa.X
set_option linter.unusedSimpArgs false
set_option linter.unusedVariables false
open Go.RowKit Go.Proofs.YtbjeegkmafbejaaW.PrintWords Go.Proofs.Ytbjeegkmafbejaa.Y
def reservedSet : Set4 := listSet [58, 47, 63, 35, 91, 93, 64, 33, 36, 38, 39, 40, 41, 42, 43, 44, 59, 61]
set_option maxHeartbeats 800000 in
theorem reserved_any (w : World) : Calls Try.prog 63 #[] w fun e w' => e = .returned reservedSet.val ∧ Below w.heap.size w w' := by
  go_enter Try.func63, Try.ntmps63
  go_wp2_with fail
  refine (of_any ⟨#[58, 47, 63, 35, 91, 93, 64, 33, 36, 38, 39, 40, 41, 42, 43, 44, 59, 61]⟩ _ (by decide)).mono ?_
  rintro e w1 ⟨rfl, hb1⟩
  have hr := blk_below (blk_new w _) hb1
  obtain ⟨r0, r1, r2, r3, f0, f1, f2, f3⟩ := cells4 hr
  have HB := Aside0.mk ((below_new1 w _).trans (hb1.mono (Nat.le_of_lt (by simp))))
  clear hr hb1
  unfold Set4.val
  go_wp2_with fail
  refine bodyPost_ret (v := reservedSet.val) (by simp [results, Try.results63, go_sem, Set4.val, r0, r1, r2, r3, reservedSet]) rfl ⟨rfl, ?_⟩
  repeat (first | exact HB.out | refine below_set ?_ (Nat.le_refl _))
def staySet (keep : Bool) : Set4 := if keep = true then orAll [unreservedSet, reservedSet] else unreservedSet
end Go.Proofs.Ytbjeegkmafbejaa.X
end
section
namespace Go.Proofs.Ytbjeegkmafbejaa.X
set_option linter.unusedSimpArgs false
set_option linter.unusedVariables false
open Go.RowKit Go.Proofs.YtbjeegkmafbejaaW.PrintWords Go.Proofs.Ytbjeegkmafbejaa.Y
end Go.Proofs.Ytbjeegkmafbejaa.X
end
section
namespace Go.Proofs.Ytbjeegkmafbejaa.X
set_option linter.unusedSimpArgs false
set_option linter.unusedVariables false
open Go.RowKit Go.Proofs.YtbjeegkmafbejaaW.PrintWords Go.Proofs.Ytbjeegkmafbejaa.Y
theorem badDo_any (c : Int) (w : World) : Calls Try.prog 85 #[.int .i64 c] w fun e w' => e = .returned (.tuple #[]) ∧ w = w' := by
  go_enter Try.func85, Try.ntmps85
  go_wp2_with fail
  go_end0
  exact ⟨rfl, rfl⟩
set_option maxHeartbeats 1600000 in
theorem each_bad (s : ByteArray) (w0 w : World) (hs : s.size ≤ 1000000) (hb : Below w0.heap.size w0 w) :
    Calls Try.prog 84 #[.string s, .func (.func 85) #[] #[]] w fun e w' => e = .returned (.int .i64 (badPos s)) ∧ Below w0.heap.size w0 w' := by
  have HB := Aside0.mk hb
  have hsz := hb.size
  clear hb
  go_enter Try.func84, Try.ntmps84
  go_wp2_with fail
  go_loopw [5] (fun _ wr => ∃ (p f : Nat), p ≤ s.size ∧ s.size ≤ p + f ∧ wr.heap[w.heap.size]? = some (.stringIter s p) ∧ Below w0.heap.size w0 wr ∧ Aside0 (badPos s = (charsFrom s f p).2)) (fun _ wr => s.size - wr.iterPos w.heap.size)
  case atStart => exact ⟨0, s.size, by omega, by omega, World.iter_heap _ _ _, HB.out.alloc (by omega) _, ⟨rfl⟩⟩
  case round =>
    obtain ⟨p, f, hp, hf, hit, hb, hspec⟩ := hrel
    clear HB
    have HIT := Aside0.mk hit
    have HB := Aside0.mk hb
    clear hb
    by_cases hlt2 : p < s.size
    · have hnx := fun ty => Lib.run_next_any_at (P := Try.prog) wr w.heap.size s p ty hit hlt2
      clear hit
      have hd1 := decode_top s p
      have hd2 := decode_in s p hlt2
      have hd3 := decode_pos s p
      have hgo := fun g hb => charsFrom_go s g p hlt2 hb
      have hstop := fun g => charsFrom_bad s g p
      have hA := bad_short s p
      have hB1 := bad_long s p
      have hC := bad_not s p
      obtain ⟨c, n, HD⟩ : ∃ c n, Aside0 (Utf8.decode s p = (c, n)) := ⟨_, _, ⟨rfl⟩⟩
      rw [HD.out] at hnx hd1 hd2 hd3 hgo hA hB1 hC
      simp only at hnx hd1 hd2 hd3 hgo hA hB1 hC
      have HGO := Aside0.mk hgo
      have HSTOP := Aside0.mk hstop
      clear hgo hstop
      by_cases h1 : c = 65533
      · subst h1
        by_cases h2 : (s.size : Int) - p < 3
        · have HE := Aside0.mk ((HSTOP.out f (hA rfl h2)) ▸ hspec.out)
          clear hA hB1 hC
          go_wp2_with fail
          go_ret
          exact ⟨by rw [HE.out]; rfl, Lib.below_iterAt HB.out (by omega) _ _⟩
        · have hb2 := hB1 rfl h2
          by_cases h3 : ((s.extract p (p + 3)).toList == (Utf8.encode 65533).toList) = true
          · rw [h3] at hb2
            have HB2 := Aside0.mk hb2
            clear hA hB1 hC hb2
            go_wp2_with fail
            obtain ⟨f', rfl⟩ : ∃ f', f = f' + 1 := ⟨f - 1, by omega⟩
            have HSP := Aside0.mk ((HGO.out f' HB2.out) ▸ hspec.out)
            clear hspec HGO HSTOP
            refine (badDo_any 65533 _).mono ?_
            rintro e w2 ⟨rfl, rfl⟩
            have HIT2 := Aside0.mk (Lib.iterAt_heap wr w.heap.size s p (p + n) HIT.out)
            have hit1 := HIT.out
            go_wp2_with fail
            go_roundw
            case rel => exact ⟨p + n, f', by omega, by omega, HIT2.out, Lib.below_iterAt HB.out (by omega) _ _, ⟨HSP.out⟩⟩
            case measure => simp only [World.iterPos, HIT2.out, HIT.out]; omega
          · have h3' : ((s.extract p (p + 3)).toList == (Utf8.encode 65533).toList) = false := by simpa using h3
            rw [h3'] at hb2
            have HE := Aside0.mk ((HSTOP.out f hb2) ▸ hspec.out)
            clear hA hB1 hC hb2 h3
            go_wp2_with fail
            go_ret
            exact ⟨by rw [HE.out]; rfl, Lib.below_iterAt HB.out (by omega) _ _⟩
      · have HB2 := Aside0.mk (hC h1)
        clear hA hB1 hC
        have h1' : ((c : Int) == 65533) = false := by rw [beq_eq_false_iff_ne]; omega
        go_wp2_with fail
        obtain ⟨f', rfl⟩ : ∃ f', f = f' + 1 := ⟨f - 1, by omega⟩
        have HSP := Aside0.mk ((HGO.out f' HB2.out) ▸ hspec.out)
        clear hspec HGO HSTOP
        refine (badDo_any c _).mono ?_
        rintro e w2 ⟨rfl, rfl⟩
        have HIT2 := Aside0.mk (Lib.iterAt_heap wr w.heap.size s p (p + n) HIT.out)
        have hit1 := HIT.out
        go_wp2_with fail
        go_roundw
        case rel => exact ⟨p + n, f', by omega, by omega, HIT2.out, Lib.below_iterAt HB.out (by omega) _ _, ⟨HSP.out⟩⟩
        case measure => simp only [World.iterPos, HIT2.out, HIT.out]; omega
    · have hnx := fun ty => Lib.run_next_end_at (P := Try.prog) wr w.heap.size s p ty hit hlt2
      have HE := Aside0.mk ((charsFrom_end s f p hlt2) ▸ hspec.out)
      have HPS := Aside0.mk (by omega : s.size = p)
      clear hit
      go_wp2_with fail
      go_ret
      exact ⟨by rw [HE.out, HPS.out]; rfl, HB.out⟩
theorem utfBad_any (s : ByteArray) (w : World) (hs : s.size ≤ 1000000) : Calls Try.prog 73 #[.string s] w fun e w' => e = .returned (.int .i64 (badPos s)) ∧ Below w.heap.size w w' := by
  go_enter Try.func73, Try.ntmps73
  go_wp2_with fail
  refine (each_bad s w w hs (Below.refl _ _)).mono ?_
  rintro e w1 ⟨rfl, hb⟩
  have HB := Aside0.mk hb
  clear hb
  go_wp2_with fail
  go_ret
  exact ⟨rfl, HB.out⟩
theorem charsFrom_le (s : ByteArray) (f : Nat) : ∀ p, p ≤ s.size → (charsFrom s f p).2 ≤ s.size := by
  induction f with
  | zero =>
    intro p hp
    by_cases h : p < s.size
    · cases hb : badAt s p with
      | true => rw [charsFrom_bad s 0 p hb]; exact hp
      | false => unfold charsFrom; exact hp
    · rw [charsFrom_end s 0 p h]; exact hp
  | succ f ih =>
    intro p hp
    by_cases h : p < s.size
    · cases hb : badAt s p with
      | true => rw [charsFrom_bad s (f + 1) p hb]; exact hp
      | false => rw [charsFrom_go s f p h hb]; exact ih _ (decode_in s p h)
    · rw [charsFrom_end s (f + 1) p h]; exact hp
theorem badPos_le (s : ByteArray) : badPos s ≤ s.size := charsFrom_le s s.size 0 (Nat.zero_le _)
def posN (v : ByteArray) : Nat → Nat → Nat
  | 0, p => p
  | k + 1, p => if p < v.size then posN v k (p + (Utf8.decode v p).2) else p
def prefixS (s : ByteArray) (most : Nat) : ByteArray := (s.extract 0 (badPos s)).extract 0 (posN (s.extract 0 (badPos s)) most 0)
theorem posN_end (v : ByteArray) (k p : Nat) (h : ¬ p < v.size) : posN v k p = p := by
  cases k with
  | zero => rfl
  | succ k => unfold posN; rw [if_neg h]
set_option maxHeartbeats 1600000 in
theorem utfPrefix_any (s : ByteArray) (most : Nat) (w : World) (hs : s.size ≤ 1000000) (hm : most ≤ 1000000) : Calls Try.prog 51 #[.string s, .int .i64 most] w fun e w' => e = .returned (.string (prefixS s most)) ∧ Below w.heap.size w w' := by
  have hle := badPos_le s
  go_enter Try.func51, Try.ntmps51
  go_wp2_with fail
  refine (utfBad_any s _ hs).mono ?_
  rintro e w1 ⟨rfl, hb⟩
  have HB := Aside0.mk hb
  have hsz := hb.size
  clear hb
  go_wp2_with fail
  have hvs : (s.extract 0 (badPos s)).size ≤ 1000000 := by have := ByteArray.size_extract (a := s) (b := 0) (e := badPos s); omega
  have hspec : Aside0 (prefixS s most = (s.extract 0 (badPos s)).extract 0 (posN (s.extract 0 (badPos s)) most 0)) := ⟨rfl⟩
  clear hle hs
  generalize s.extract 0 (badPos s) = v at *
  go_loopw [5] (fun c wr => ∃ (p k : Nat), c = .int .i64 k ∧ k ≤ most ∧ k ≤ p ∧ p ≤ v.size ∧ wr.heap[w1.heap.size]? = some (.stringIter v p) ∧ Below w.heap.size w wr ∧ Aside0 (posN v most 0 = posN v (most - k) p)) (fun _ wr => v.size - wr.iterPos w1.heap.size)
  case atStart => exact ⟨0, 0, by simp, by omega, by omega, by omega, World.iter_heap _ _ _, HB.out.alloc (by omega) _, ⟨rfl⟩⟩
  case round =>
    obtain ⟨p, k, rfl, hk, hkp, hp, hit, hb, HI⟩ := hrel
    have HIT := Aside0.mk hit
    clear HB
    have HB := Aside0.mk hb
    clear hb
    by_cases hlt2 : p < v.size
    · have hnx := fun ty => Lib.run_next_any_at (P := Try.prog) wr w1.heap.size v p ty hit hlt2
      clear hit
      have hd2 := decode_in v p hlt2
      have hd3 := decode_pos v p
      by_cases hkm : k < most
      · have HI2 := Aside0.mk (show posN v most 0 = posN v (most - (k + 1)) (p + (Utf8.decode v p).2) by
          rw [HI.out, show most - k = (most - (k + 1)) + 1 from by omega, posN, if_pos hlt2])
        obtain ⟨c, n, HD⟩ : ∃ c n, Aside0 (Utf8.decode v p = (c, n)) := ⟨_, _, ⟨rfl⟩⟩
        rw [HD.out] at hnx hd2 hd3 HI2
        simp only at hnx hd2 hd3 HI2
        have HIT2 := Aside0.mk (Lib.iterAt_heap wr w1.heap.size v p (p + n) HIT.out)
        go_wp2_with fail
        go_roundw
        case rel => exact ⟨p + n, k + 1, by go_num, by omega, by omega, by omega, HIT2.out, Lib.below_iterAt HB.out (by omega) _ _, HI2⟩
        case measure => simp only [World.iterPos, HIT2.out, HIT.out]; omega
      · have HP := Aside0.mk (show posN v most 0 = p by rw [HI.out, show most - k = 0 from by omega]; rfl)
        obtain ⟨c, n, HD⟩ : ∃ c n, Aside0 (Utf8.decode v p = (c, n)) := ⟨_, _, ⟨rfl⟩⟩
        rw [HD.out] at hnx
        clear hd2 hd3
        go_wp2_with fail
        go_ret
        exact ⟨by rw [hspec.out, HP.out]; rfl, Lib.below_iterAt HB.out (by omega) _ _⟩
    · have hnx := fun ty => Lib.run_next_end_at (P := Try.prog) wr w1.heap.size v p ty hit hlt2
      have HP := Aside0.mk (show posN v most 0 = v.size by rw [HI.out, posN_end v _ p hlt2]; omega)
      clear hit
      go_wp2_with fail
      go_ret
      exact ⟨by rw [hspec.out, HP.out, ByteArray.extract_zero_size]; rfl, HB.out⟩
end Go.Proofs.Ytbjeegkmafbejaa.X
end
section
namespace Go.Proofs.Ytbjeegkmafbejaa.X
set_option linter.unusedSimpArgs false
set_option linter.unusedVariables false
open Go.RowKit Go.Proofs.YtbjeegkmafbejaaW.PrintWords
def idxOf {α : Type} (p : α → Bool) : List α → Int → Int
  | [], _ => -1
  | x :: l, i => if p x = true then i else idxOf p l (i + 1)
theorem idxOf_drop {α : Type} (p : α → Bool) (l : List α) (k : Nat) (h : k < l.length) : idxOf p (l.drop k) k = if p l[k] = true then (k : Int) else idxOf p (l.drop (k + 1)) ((k + 1 : Nat) : Int) := by
  rw [List.drop_eq_getElem_cons h]; rfl
theorem idxOf_end {α : Type} (p : α → Bool) (l : List α) (k : Nat) (h : ¬ k < l.length) : idxOf p (l.drop k) k = -1 := by
  rw [List.drop_eq_nil_of_le (by omega)]; rfl
theorem idxOf_any {α : Type} (p : α → Bool) (l : List α) : ∀ i : Int, 0 ≤ i → decide (0 ≤ idxOf p l i) = l.any p := by
  induction l with
  | nil => intro i _; rfl
  | cons x l ih =>
    intro i hi
    unfold idxOf
    rw [List.any_cons]
    by_cases h : p x = true
    · rw [if_pos h, h]; simp [hi]
    · rw [if_neg h, ih (i + 1) (by omega)]; simp [h]
def Tells (P : Program) (g : FuncId) (lb : Array Value) (w : World) {α : Type} (enc : α → Value) (l : List α) (p : α → Bool) : Prop :=
  (∀ args w, (callFunc g args).run P w = .ok (.enter g args) w) ∧ ∀ x W, Below w.heap.size w W → x ∈ l → Calls P g (#[enc x] ++ lb) W fun e w' => e = .returned (.bool (p x)) ∧ Below W.heap.size W w'
set_option maxHeartbeats 800000 in
theorem indexFunc_str (g : FuncId) (lb : Array Value) (p : ByteArray → Bool) (l : List ByteArray) (A : Option Addr) (n : Nat) (w : World) (hl : l.length ≤ 1000000) (hr : Kd.C (Kd.string) w A l.length l) (hp : Tells Try.prog g lb w (Value.string) l p) :
    Calls Try.prog 72 #[.slice A l.length n, .func (.func g) #[] lb] w fun e w' => e = .returned (.int .i64 (idxOf p l 0)) ∧ Below w.heap.size w w' := by
  have HP := Aside0.mk hp.2
  have eg := hp.1
  have HR := Aside0.mk hr
  clear hp hr
  go_enter Try.func72, Try.ntmps72
  go_wp2_with fail
  go_loopw [8] (fun c wr => ∃ k : Nat, k ≤ l.length ∧ c = .int .i64 k ∧ Below w.heap.size w wr ∧ Aside0 (idxOf p l 0 = idxOf p (l.drop k) k)) (fun c _ => (l.length - intOf c).toNat)
  case atStart => exact ⟨0, by omega, by simp, Below.refl _ _, ⟨rfl⟩⟩
  case round =>
    obtain ⟨k, hk, rfl, hb, HI⟩ := hrel
    have HB := Aside0.mk hb
    clear hb
    by_cases hlt : k < l.length
    · obtain ⟨ad, rfl, hcell⟩ := C_cell1 (Kd.C_below HR.out HB.out) k hlt
      have HI1 := Aside0.mk (HI.out.trans (idxOf_drop p l k hlt))
      clear HI
      cases hpk : p l[k] with
      | true =>
        have HK := Aside0.mk hpk
        clear hpk
        go_wp2_with fail
        refine (HP.out _ _ HB.out (List.getElem_mem hlt)).mono ?_
        rintro e w1 ⟨rfl, hb1⟩
        have HB1 := Aside0.mk (below_step HB.out hb1)
        rw [HK.out]
        clear hb1
        go_wp2_with fail
        go_ret
        exact ⟨by rw [HI1.out, if_pos HK.out]; rfl, HB1.out⟩
      | false =>
        have HK := Aside0.mk hpk
        clear hpk
        go_wp2_with fail
        refine (HP.out _ _ HB.out (List.getElem_mem hlt)).mono ?_
        rintro e w1 ⟨rfl, hb1⟩
        have HB1 := Aside0.mk (below_step HB.out hb1)
        rw [HK.out]
        clear hb1 HB
        go_wp2_with fail
        go_roundw
        case rel => exact ⟨k + 1, by omega, by go_num, HB1.out, ⟨by rw [HI1.out, if_neg (by rw [HK.out]; decide)]⟩⟩
        case measure => simp [intOf]; omega
    · have HI1 := Aside0.mk (HI.out.trans (idxOf_end p l k hlt))
      clear HI
      go_wp2_with fail
      go_ret
      exact ⟨by rw [HI1.out]; rfl, HB.out⟩
set_option maxHeartbeats 800000 in
theorem containsFunc_str (g : FuncId) (lb : Array Value) (p : ByteArray → Bool) (l : List ByteArray) (A : Option Addr) (n : Nat) (w : World) (hl : l.length ≤ 1000000) (hr : Kd.C (Kd.string) w A l.length l) (hp : Tells Try.prog g lb w (Value.string) l p) :
    Calls Try.prog 48 #[.slice A l.length n, .func (.func g) #[] lb] w fun e w' => e = .returned (.bool (l.any p)) ∧ Below w.heap.size w w' := by
  have HI := Aside0.mk (idxOf_any p l 0 (Int.le_refl _))
  go_enter Try.func48, Try.ntmps48
  go_wp2_with fail
  refine (indexFunc_str g lb p l A n w hl hr hp).mono ?_
  rintro e w1 ⟨rfl, hb1⟩
  have HB := Aside0.mk hb1
  clear hb1 hr hp
  go_wp2_with fail
  go_ret
  exact ⟨by rw [← HI.out]; rfl, HB.out⟩
end Go.Proofs.Ytbjeegkmafbejaa.X
end
section
namespace Go.Proofs.YtbjeegkmafbejaaW.PrintWords
open Go.RowKit
end Go.Proofs.YtbjeegkmafbejaaW.PrintWords
end
section
namespace Go.Proofs.Ytbjeegkmafbejaa.X
set_option linter.unusedSimpArgs false
set_option linter.unusedVariables false
open Go.RowKit Go.Joins Go.WideShapes Go.ChangeShapes Go.Proofs.YtbjeegkmafbejaaW.PrintWords
def Down {α : Type} (P : Program) (d : Kd α) (ok : α → Prop) (t : TypeId) : Prop :=
  ∀ (H : Type) (enc : TypeId × Value → H) (w : World) (base : Nat) (spare : Nat → Bool) (held : Bool) (fuel : Nat) (cs : List Value) (x : DataW H × List MemPlace), DataW.trod enc P w base spare held fuel t cs = some x → ∃ a, d.K w a cs ∧ ok a
variable {P : Program}
theorem down_int {t : TypeId} {k : IntKind} (ht : P.underlying t = some (.int k)) : Down P (Kd.int k) (fun n => (Lit.int k n).wf = true) t := by
  intro H enc w base spare held fuel cs x h
  obtain ⟨n, rfl, _, hw⟩ := DataW.trod_int ht h
  exact ⟨n, rfl, hw⟩
theorem down_bool {t : TypeId} (ht : P.underlying t = some .bool) : Down P Kd.bool (fun _ => True) t := by
  intro H enc w base spare held fuel cs x h
  obtain ⟨n, rfl, _⟩ := DataW.trod_bool ht h
  exact ⟨n, rfl, trivial⟩
theorem down_string {t : TypeId} (ht : P.underlying t = some .string) : Down P Kd.string (fun s => s.size ≤ maxLen) t := by
  intro H enc w base spare held fuel cs x h
  obtain ⟨n, rfl, _, hw⟩ := DataW.trod_string ht h
  exact ⟨n, rfl, hw⟩
theorem list_of {α : Type} (R : Nat → α → Prop) : ∀ n : Nat, (∀ i, i < n → ∃ a, R i a) → ∃ xs : List α, xs.length = n ∧ ∀ i a, xs[i]? = some a → R i a := by
  intro n
  induction n with
  | zero => intro _; exact ⟨[], rfl, fun i a h => by simp at h⟩
  | succ n ih =>
    intro h
    obtain ⟨xs, hl, hx⟩ := ih (fun i hi => h i (by omega))
    obtain ⟨a, ha⟩ := h n (by omega)
    refine ⟨xs ++ [a], by simp [hl], fun i b hb => ?_⟩
    rcases Nat.lt_or_ge i xs.length with hi | hi
    · rw [List.getElem?_append_left hi] at hb; exact hx i b hb
    · have hlt := (List.getElem?_eq_some_iff.1 hb).1
      rw [List.length_append, List.length_singleton] at hlt
      have : i = xs.length := by omega
      subst this
      simp at hb
      rw [← hb, hl]; exact ha
theorem down_slice {α : Type} {d : Kd α} {ok : α → Prop} {t e : TypeId} (ht : P.underlying t = some (.slice e)) (he : Down P d ok e) (hsz : P.cellsOf e = d.sz) : Down P (Kd.slice e d) (fun xs => ∀ x ∈ xs, ok x) t := by
  intro H enc w base spare held fuel cs x h
  rcases Go.Deep.open_slice ht h with ⟨rfl, _⟩ | ⟨a, len, cap, m, n, D, Pl, rfl, hb, hl, hm, hmm, _, hel⟩
  · exact ⟨[], ⟨none, 0, rfl, Nat.le_refl _, rfl, by simp, fun h => absurd h (Nat.lt_irrefl 0)⟩, fun x hx => by simp at hx⟩
  · have hlm : len ≤ m := by rw [hmm]; split <;> omega
    obtain ⟨xs, hxl, hx⟩ := list_of (fun i p => ∃ c, d.K w p c ∧ ok p ∧ w.cells? base (a.add (i * P.cellsOf e)) (P.cellsOf e) = some c) len (fun i hi => by
      obtain ⟨c, h1, h2⟩ := hel i (by omega)
      obtain ⟨p, h3, h4⟩ := he H enc w base spare held n c _ h2
      exact ⟨p, c, h3, h4, h1⟩)
    have hmax : maxLen = 9223372036854775807 := by decide
    refine ⟨xs, ⟨some a, cap, by rw [hxl], by omega, rfl, by omega, fun _ => ⟨a, rfl, fun j p hj => ?_⟩⟩, fun p hp => ?_⟩
    · obtain ⟨c, h1, _, h3⟩ := hx j p hj
      refine ⟨c, d.K_len h1, h1, fun i u hu => ?_⟩
      obtain ⟨_, h5, h6⟩ := World.cells?_some h3
      have hi : i < P.cellsOf e := by rw [hsz, ← d.K_len h1]; exact (List.getElem?_eq_some_iff.1 hu).1
      have h7 := h6 i hi
      rw [Go.Deep.add_add, hsz] at h7
      rw [h7]; exact hu
    · obtain ⟨i, hi, rfl⟩ := List.mem_iff_getElem.1 hp
      obtain ⟨_, _, h2, _⟩ := hx i _ (List.getElem?_eq_getElem hi)
      exact h2
def FDown {α : Type} (P : Program) (d : Kd α) (ok : α → Prop) (fs : List Field) (o : Nat) : Prop :=
  ∀ (H : Type) (enc : TypeId × Value → H) (w : World) (base : Nat) (spare : Nat → Bool) (held : Bool) (n : Nat) (cs : List Value), cs.length = o + d.sz →
    (∀ f ∈ fs, ∃ x, DataW.trod enc P w base spare held n f.type ((cs.drop f.offset).take (P.cellsOf f.type)) = some x) → ∃ a, d.K w a (cs.drop o) ∧ ok a
theorem fdown_one {α : Type} {d : Kd α} {ok : α → Prop} {f : Field} {o : Nat} (hf : Down P d ok f.type) (ho : f.offset = o) (hs : P.cellsOf f.type = d.sz) : FDown P d ok [f] o := by
  intro H enc w base spare held n cs hl h
  obtain ⟨x, hx⟩ := h f (List.mem_singleton.2 rfl)
  rw [ho, List.take_of_length_le (by rw [List.length_drop, hs]; omega)] at hx
  exact hf H enc w base spare held n _ x hx
theorem fdown_cons {α β : Type} {a : Kd α} {b : Kd β} {oka : α → Prop} {okb : β → Prop} {f : Field} {fs : List Field} {o : Nat} (hf : Down P a oka f.type) (ho : f.offset = o) (hs : P.cellsOf f.type = a.sz) (hr : FDown P b okb fs (o + a.sz)) :
    FDown P (Kd.pair a b) (fun x => oka x.1 ∧ okb x.2) (f :: fs) o := by
  intro H enc w base spare held n cs hl h
  have hl : cs.length = o + (a.sz + b.sz) := hl
  obtain ⟨x, hx⟩ := h f List.mem_cons_self
  rw [ho, hs] at hx
  obtain ⟨p, hp, hpo⟩ := hf H enc w base spare held n _ x hx
  obtain ⟨q, hq, hqo⟩ := hr H enc w base spare held n cs (by omega) (fun g hg => h g (List.mem_cons_of_mem _ hg))
  refine ⟨(p, q), ⟨_, _, ?_, hp, hq⟩, hpo, hqo⟩
  rw [← List.drop_drop, List.take_append_drop]
theorem down_struct {α : Type} {d : Kd α} {ok : α → Prop} {t : TypeId} {fs : Array Field} (ht : P.underlying t = some (.struct fs)) (hf : FDown P d ok fs.toList 0) (hs : P.cellsOf t = d.sz) : Down P d ok t := by
  intro H enc w base spare held fuel cs x h
  obtain ⟨xs, n, _, _, hl, hxl, hx⟩ := DataW.trod_struct ht h
  have := hf H enc w base spare held n cs (by omega) (fun f hfm => by
    obtain ⟨i, hi, rfl⟩ := List.mem_iff_getElem.1 hfm
    have h1 : fs[i]? = some fs.toList[i] := by simp at hi; simp [hi]
    have h2 := hx i _ h1
    simp at hi
    rw [List.getElem?_eq_getElem (by omega)] at h2
    exact ⟨_, h2⟩)
  simpa using this
theorem down_iso {α β : Type} {d : Kd α} {ok : α → Prop} {t : TypeId} {f : β → α} (g : α → β) (hg : ∀ x, f (g x) = x) (h : Down P d ok t) : Down P (Kd.iso d f) (fun y => ok (f y)) t := by
  intro H enc w base spare held fuel cs x hx
  obtain ⟨a, h1, h2⟩ := h H enc w base spare held fuel cs x hx
  exact ⟨g a, by show d.K w (f (g a)) cs; rw [hg]; exact h1, by show ok (f (g a)); rw [hg]; exact h2⟩
theorem arg_struct {α : Type} {d : Kd α} {ok : α → Prop} {t : TypeId} {fs : Array Field} (ht : P.underlying t = some (.struct fs)) (hd : Down P d ok t) {H : Type} {enc : TypeId × Value → H} {w : World} {r : Reach} {b0 : Nat} {base : Nat} {spare : Nat → Bool} {held : Bool} {v : Value} {x : DataW H} {p : List MemPlace}
    (hv : Value.okWide P w r b0 t v) (h : DataW.Trod enc P w base spare held t v x p) : ∃ a cs, v = .agg cs ∧ d.K w a cs.toList ∧ ok a := by
  obtain ⟨cs, rfl, _⟩ := okWide_struct ht hv
  obtain ⟨fuel, hf⟩ := h
  obtain ⟨a, h1, h2⟩ := hd H enc w base spare held fuel _ _ hf
  exact ⟨a, cs, rfl, by simpa [Value.cells] using h1, h2⟩
end Go.Proofs.Ytbjeegkmafbejaa.X
end
section
namespace Go.Proofs.Ytbjeegkmafbejaa.PE
open Go.RowKit Go.Proofs.YtbjeegkmafbejaaW.PrintWords Go.Proofs.YtbjeegkmafbejaaW.PrintLast X
def specK : Kd (ByteArray × Int × Bool) := Kd.pair Kd.string (Kd.pair (Kd.int .i64) Kd.bool)
set_option maxRecDepth 100000 in
theorem down_spec : Down Try.prog specK (fun x => x.1.size ≤ maxLen ∧ (Lit.int .i64 x.2.1).wf = true ∧ True) 23 :=
  down_struct Try.underlying23 (fdown_cons (down_string Try.underlying9) rfl (by kernel_rfl) (fdown_cons (down_int Try.underlying3) rfl (by kernel_rfl) (fdown_one (down_bool Try.underlying4) rfl (by kernel_rfl)))) (by kernel_rfl)
set_option maxRecDepth 100000 in
theorem arg_spec {H : Type} {enc : TypeId × Value → H} {w : World} {r : Reach} {b0 base : Nat} {spare : Nat → Bool} {held : Bool} {v : Value} {x : DataW H} {p : List MemPlace} (hv : Value.okWide Try.prog w r b0 23 v) (h : DataW.Trod enc Try.prog w base spare held 23 v x p) :
    ∃ (nm : ByteArray) (k : Int) (b : Bool), v = .agg #[.string nm, .int .i64 k, .bool b] ∧ nm.size ≤ maxLen ∧ (Lit.int .i64 k).wf = true := by
  obtain ⟨⟨nm, k, b⟩, cs, rfl, ⟨_, _, e, rfl, _, _, rfl, rfl, rfl⟩, h1, h2, _⟩ := arg_struct Try.underlying23 down_spec hv h
  refine ⟨nm, k, b, ?_, h1, h2⟩
  have : cs = #[.string nm, .int .i64 k, .bool b] := by rw [← Array.toArray_toList (xs := cs), e]; rfl
  rw [this]
end Go.Proofs.Ytbjeegkmafbejaa.PE
end
