/- Small words over a print, and the reference's classes of characters as printed. -/
import Derived.Test.YthllgnephigfkaaDoorEtYu
import Derived.Test.YthllgnephigfkaaDoorEtYh
import Derived.Test.YthllgnephigfkaaDoorEtYn
import Derived.Test.YthllgnephigfkaaDoorEtPTx0
import Derived.Test.YthllgnephigfkaaDoorEtPTx2
namespace Go.Proofs.YthllgnephigfkaaDoor.PT
set_option linter.unusedSimpArgs false
set_option linter.unusedVariables false
open Go.RowKit Go.Proofs.YthllgnephigfkaaDoorW.PrintWords Go.Proofs.YthllgnephigfkaaDoorW.PrintLast Y
theorem w64 (n : Int) (h0 : -9223372036854775808 ≤ n) (h1 : n ≤ 9223372036854775807) : wrap64 n = n := by unfold wrap64; omega
theorem get!_out (s : ByteArray) (i : Nat) (h : ¬ i < s.size) : byteAt s i = 0 := by
  unfold byteAt
  have : s.get! i = default := getElem!_neg s.data i h
  rw [this]; rfl
theorem bt_byteAt (s : ByteArray) (i : Nat) : bt s (i : Int) = (byteAt s i : Int) := by
  unfold bt
  rw [Int.toNat_natCast]
  split
  · rename_i h
    unfold byteAt
    rw [get!_at s i h]; rfl
  · rename_i h
    rw [get!_out s i h]; rfl
theorem tdiv64 (c : Nat) (n : Nat) : Int.tdiv (c : Int) (n : Int) = ((c / n : Nat) : Int) := by
  rw [Int.tdiv_eq_ediv_of_nonneg (by omega)]; rfl
theorem tmod64 (c : Nat) (n : Nat) : Int.tmod (c : Int) (n : Int) = ((c % n : Nat) : Int) := by
  rw [Int.tmod_eq_emod_of_nonneg (by omega)]; rfl
theorem w1 (i : Nat) (h : i < 1000000000) : wrap64 ((i : Int) + 1) = ((i + 1 : Nat) : Int) := w64 _ (by omega) (by omega)
theorem nil_of_size {s : ByteArray} (h : s.size = 0) : s.toList = [] := by
  rw [ByteArray.toList_eq]
  exact List.eq_nil_of_length_eq_zero (by simpa using h)
theorem size_of_nil {s : ByteArray} (h : s.toList = []) : s.size = 0 := by
  rw [ByteArray.toList_eq] at h
  have := congrArg List.length h
  simpa using this
theorem digit_f (c : Int) : phalaroperef02_Digit.f c = some (isDigit c) := by
  unfold phalaroperef02_Digit.f isDigit
  by_cases h : 48 ≤ c
  · rw [if_pos h, decide_eq_true h]; rfl
  · rw [if_neg h, decide_eq_false h]; rfl
theorem alpha_f (c : Int) : phalaroperef02_Alpha.f c = some (isAlpha c) := by
  unfold phalaroperef02_Alpha.f isAlpha
  by_cases h : 65 ≤ c
  · by_cases h2 : c ≤ 90
    · rw [if_pos h, if_pos h2]; simp [h, h2]
    · by_cases h3 : 97 ≤ c
      · rw [if_pos h, if_neg h2, if_pos h3]; simp [h, h2, h3]
      · rw [if_pos h, if_neg h2, if_neg h3]; simp [h, h2, h3]
  · have h3 : ¬ 97 ≤ c := by omega
    rw [if_neg h, if_neg h3]; simp [h, h3]
theorem word_f (c : Int) : phalaroperef02_Word.f c = some (isWord c) := by
  unfold phalaroperef02_Word.f isWord
  rw [alpha_f]
  simp only [Option.bind_some]
  cases isAlpha c
  · rw [if_neg (by decide), digit_f]
    simp only [Option.bind_some]
    cases isDigit c
    · rw [if_neg (by decide)]; rfl
    · rw [if_pos rfl]; rfl
  · rw [if_pos rfl]; rfl
theorem hex_f (c : Int) : phalaroperef02_Hex.f c = some (isHex c) := by
  unfold phalaroperef02_Hex.f
  rw [digit_f]
  simp only [Option.bind_some]
  unfold isHex
  cases isDigit c with
  | true => rfl
  | false =>
    by_cases h1 : c ≥ 65
    · by_cases h2 : c ≤ 70
      · simp [h1, h2]
      · by_cases h3 : c ≥ 97 <;> simp [h1, h2, h3]
    · by_cases h3 : c ≥ 97 <;> simp [h1, h3]
theorem trip_f (s : ByteArray) : phalaroperef03_Triplet.f s = some (tri s 0) := by
  unfold phalaroperef03_Triplet.f tri bI
  have b0 : bt s 0 = (byteAt s 0 : Int) := bt_byteAt s 0
  have b1 : bt s 1 = (byteAt s 1 : Int) := bt_byteAt s 1
  have b2 : bt s 2 = (byteAt s 2 : Int) := bt_byteAt s 2
  by_cases h3 : 3 ≤ s.size
  · rw [if_pos (by omega), if_pos (by omega), decide_eq_true (by omega), b0, b1, b2]
    by_cases hp : (byteAt s 0 : Int) = 37
    · rw [if_pos hp, if_pos (by omega), hex_f, hp]
      simp only [Option.bind_some]
      cases isHex (byteAt s 1 : Int) with
      | true => rw [if_pos rfl, if_pos (by omega), hex_f]; simp
      | false => simp
    · rw [if_neg hp]; simp [hp]
  · rw [if_neg (by omega), decide_eq_false (by omega)]; rfl
theorem may2_at (s : ByteArray) (f : Nat) : ∀ (k p e : Nat), s.size ≤ p + f → p ≤ s.size → e ≤ p → 0 < s.size → f + 1 < k →
    phalaroperef05_May2.f k (s.extract p s.size) (decide (p = e ∧ 0 < p)) = some ((endsN s f p e).2 == s.size) := by
  induction f with
  | zero =>
    intro k p e hf hp he hz hk
    obtain ⟨k, rfl⟩ : ∃ m, k = m + 1 := ⟨k - 1, by omega⟩
    have hps : p = s.size := by omega
    rw [phalaroperef05_May2.f, if_pos (nil_of_size (by rw [ext_size]; omega))]
    show _ = some ((p, e).2 == s.size)
    congr 1
    exact Bool.eq_iff_iff.2 (by simp; omega)
  | succ f ih =>
    intro k p e hf hp he hz hk
    obtain ⟨k, rfl⟩ : ∃ m, k = m + 1 := ⟨k - 1, by omega⟩
    by_cases hlt : p < s.size
    · have hsz := ext_size s p
      have hb : bt (s.extract p s.size) 0 = bI s p := by
        have h0 := bt_byteAt (s.extract p s.size) 0
        rw [ext_byteAt] at h0
        exact h0
      have hex : ∀ n, n ≤ s.size - p → (s.extract p s.size).extract n (s.extract p s.size).size = s.extract (p + n) s.size := fun n hn => by
        rw [hsz, ByteArray.extract_extract]
        congr 1
        omega
      have hE := endsN_in s f p e hlt
      have hL : phalaroperef05_May2.f (k + 1) (s.extract p s.size) (decide (p = e ∧ 0 < p)) = if isWord (bI s p) = true then (if 1 ≤ ((s.extract p s.size).size : Int) then (phalaroperef05_May2.f k (s.extract (p + 1) s.size) true) else none)
          else if tri s p = true then (if 3 ≤ ((s.extract p s.size).size : Int) then (phalaroperef05_May2.f k (s.extract (p + 3) s.size) true) else none)
          else if bI s p = 46 then (if decide (p = e ∧ 0 < p) = true then (if 1 ≤ ((s.extract p s.size).size : Int) then (phalaroperef05_May2.f k (s.extract (p + 1) s.size) false) else none) else some false) else some false := by
        rw [phalaroperef05_May2.f, if_neg (fun h => by have := size_of_nil h; omega), if_pos (by omega), hb, word_f, trip_f, tri_ext s p hp]
        simp only [Option.bind_some]
        rw [hex 1 (by omega)]
        by_cases ht : tri s p = true
        · have hin := tri_in ht
          rw [hex 3 (by omega)]
          simp [ht]
        · simp [ht]
      rw [hL, hE]
      clear hL hE
      by_cases hw : isWord (bI s p) = true
      · rw [if_pos hw, if_pos hw, if_pos (by omega), show true = decide (p + 1 = p + 1 ∧ 0 < p + 1) from by simp, ih k (p + 1) (p + 1) (by omega) (by omega) (by omega) hz (by omega)]
      rw [if_neg hw, if_neg hw]
      by_cases ht : tri s p = true
      · have hin := tri_in ht
        have h37 : bI s p = 37 := by unfold tri at ht; simp only [Bool.and_eq_true, beq_iff_eq] at ht; exact ht.1.2
        have hn : ¬ (bI s p = 46 ∧ 0 < p ∧ p = e) := by omega
        have h3 : (3 : Int) ≤ ((s.extract p s.size).size : Int) := by omega
        rw [if_pos ht, if_neg hn, if_pos ht, if_pos h3, show true = decide (p + 3 = p + 3 ∧ 0 < p + 3) from by simp, ih k (p + 3) (p + 3) (by omega) (by omega) (by omega) hz (by omega)]
      rw [if_neg ht]
      by_cases h46 : bI s p = 46
      · rw [if_pos h46]
        by_cases hb2 : p = e ∧ 0 < p
        · have hp2 : bI s p = 46 ∧ 0 < p ∧ p = e := ⟨h46, hb2.2, hb2.1⟩
          have h1 : (1 : Int) ≤ ((s.extract p s.size).size : Int) := by omega
          rw [if_pos (decide_eq_true hb2), if_pos hp2, if_pos h1, show false = decide (p + 1 = e ∧ 0 < p + 1) from (decide_eq_false (by omega)).symm, ih k (p + 1) e (by omega) (by omega) (by omega) hz (by omega)]
        · have hp2 : ¬ (bI s p = 46 ∧ 0 < p ∧ p = e) := fun h => hb2 ⟨h.2.2, h.2.1⟩
          have h37 : ¬ bI s p = 37 := by omega
          rw [if_neg (by rw [decide_eq_false hb2]; decide), if_neg hp2, if_neg ht, if_neg h37]
          congr 1
          exact (beq_eq_false_iff_ne.2 (by dsimp only; omega)).symm
      · have hp2 : ¬ (bI s p = 46 ∧ 0 < p ∧ p = e) := fun h => h46 h.1
        rw [if_neg h46, if_neg hp2, if_neg ht]
        congr 1
        refine (beq_eq_false_iff_ne.2 ?_).symm
        split
        · split <;> dsimp only <;> omega
        · dsimp only; omega
    · rw [endsN_out _ _ _ _ hlt]
      have hps : p = s.size := by omega
      rw [phalaroperef05_May2.f, if_pos (nil_of_size (by rw [ext_size]; omega))]
      congr 1
      exact Bool.eq_iff_iff.2 (by simp; omega)
theorem rname_f (s : ByteArray) (k : Nat) (hk : s.size + 1 < k) : phalaroperef05_May.f k s = some (nameMay s) := by
  unfold phalaroperef05_May.f
  by_cases h0 : 0 < s.size
  · have h := may2_at s s.size k 0 0 (by omega) (by omega) (by omega) h0 (by omega)
    rw [show s.extract 0 s.size = s from by simp, show decide (0 = 0 ∧ 0 < 0) = false from by simp] at h
    rw [h]
    unfold nameMay ends
    rw [decide_eq_true h0]; simp
  · obtain ⟨k, rfl⟩ : ∃ m, k = m + 1 := ⟨k - 1, by omega⟩
    rw [phalaroperef05_May2.f, if_pos (nil_of_size (by omega))]
    unfold nameMay
    rw [decide_eq_false h0]; rfl
end Go.Proofs.YthllgnephigfkaaDoor.PT
