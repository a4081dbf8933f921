/- Small words over a print, and the reference's classes of characters as printed. FitNarrower, FitMissing: what the printed laws come to. FitNarrower, FitMissing: the laws. FitNarrower: the law. Arguments of the program's own types, read down: each kind that the print holds. FitNarrower: walk and plain law joined. -/
import Derived.Test.YtjhihohofhhknaaYu
import Derived.Test.YtjhihohofhhknaaYh
import Derived.Test.YtjhihohofhhknaaYn
import Derived.Test.YtjhihohofhhknaaPAx0
import Derived.Test.YtjhihohofhhknaaPAx11
import Derived.Test.YtjhihohofhhknaaPAx12
import Derived.Test.YtjhihohofhhknaaPAx9
import Derived.Test.YtjhihohofhhknaaPAx3
import Derived.Test.YtjhihohofhhknaaPAx4
import Derived.Test.YtjhihohofhhknaaPAx5
import Derived.Test.YtjhihohofhhknaaPAx6
import Derived.Test.YtjhihohofhhknaaPAx7
import Derived.Test.YtjhihohofhhknaaPAx8
import Derived.Test.YtjhihohofhhknaaXr
namespace Go.Proofs.Ytjhihohofhhknaa.PA
set_option linter.unusedSimpArgs false
set_option linter.unusedVariables false
open Go.RowKit Go.Proofs.YtjhihohofhhknaaW.PrintWords Go.Proofs.YtjhihohofhhknaaW.PrintLast Y
theorem w64 (n : Int) (h0 : -9223372036854775808 ≤ n) (h1 : n ≤ 9223372036854775807) : wrap64 n = n := by unfold wrap64; omega
theorem get!_out (s : ByteArray) (i : Nat) (h : ¬ i < s.size) : byteAt s i = 0 := by
  unfold byteAt
  have : s.get! i = default := getElem!_neg s.data i h
  rw [this]; rfl
theorem bt_byteAt (s : ByteArray) (i : Nat) : bt s (i : Int) = (byteAt s i : Int) := by
  unfold bt
  rw [Int.toNat_natCast]
  split
  · rename_i h
    unfold byteAt
    rw [get!_at s i h]; rfl
  · rename_i h
    rw [get!_out s i h]; rfl
theorem tdiv64 (c : Nat) (n : Nat) : Int.tdiv (c : Int) (n : Int) = ((c / n : Nat) : Int) := by
  rw [Int.tdiv_eq_ediv_of_nonneg (by omega)]; rfl
theorem tmod64 (c : Nat) (n : Nat) : Int.tmod (c : Int) (n : Int) = ((c % n : Nat) : Int) := by
  rw [Int.tmod_eq_emod_of_nonneg (by omega)]; rfl
theorem rdOf_at (xs : List ByteArray) (k : Nat) (h : k < xs.length) : rdOf ByteArray.empty xs (k : Int) = xs[k] := by
  unfold rdOf; rw [Int.toNat_natCast, List.getD_eq_getElem?_getD, List.getElem?_eq_getElem h]; rfl
theorem rd_int (xs : List Int) (k : Nat) (h : k < xs.length) : rd xs (k : Int) = xs[k] := by
  unfold rd; rw [Int.toNat_natCast, List.getD_eq_getElem?_getD, List.getElem?_eq_getElem h]; rfl
theorem w1 (i : Nat) (h : i < 1000000000) : wrap64 ((i : Int) + 1) = ((i + 1 : Nat) : Int) := w64 _ (by omega) (by omega)
theorem may_of_digit {c : Int} (h : isDigit c = true) : mayC c = true ∧ 0 ≤ c ∧ c < 256 := by
  unfold isDigit at h
  rw [Bool.and_eq_true, decide_eq_true_iff, decide_eq_true_iff] at h
  refine ⟨?_, by omega, by omega⟩
  unfold mayC
  rw [Bool.and_eq_true, Bool.and_eq_true, Bool.or_eq_true, decide_eq_true_iff, decide_eq_true_iff, decide_eq_true_iff]
  omega
theorem may_of_word {c : Int} (h : isWord c = true) : mayC c = true ∧ 0 ≤ c ∧ c < 256 := by
  unfold isWord isAlpha isDigit at h
  simp only [Bool.or_eq_true, Bool.and_eq_true, decide_eq_true_eq, beq_iff_eq] at h
  refine ⟨?_, by omega, by omega⟩
  unfold mayC
  rw [Bool.and_eq_true, Bool.and_eq_true, Bool.or_eq_true, decide_eq_true_iff, decide_eq_true_iff, decide_eq_true_iff]
  omega
theorem may_pos {c : Int} (h : mayC c = true) : 0 ≤ c := by
  unfold mayC at h
  rw [Bool.and_eq_true, Bool.and_eq_true, decide_eq_true_iff] at h
  exact h.1.1
theorem nil_of_size {s : ByteArray} (h : s.size = 0) : s.toList = [] := by
  rw [ByteArray.toList_eq]
  exact List.eq_nil_of_length_eq_zero (by simpa using h)
theorem size_of_nil {s : ByteArray} (h : s.toList = []) : s.size = 0 := by
  rw [ByteArray.toList_eq] at h
  have := congrArg List.length h
  simpa using this
theorem may_f (c : Int) : phalaroperef01_May.f c = some (mayC c) := by
  unfold phalaroperef01_May.f mayC
  by_cases h0 : 0 ≤ c
  · by_cases h1 : c ≤ 1114111
    · by_cases h2 : c < 55296
      · rw [if_pos h0, if_pos h1, if_pos h2]; simp [h0, h1, h2]
      · rw [if_pos h0, if_pos h1, if_neg h2]; simp [h0, h1, h2]
    · rw [if_pos h0, if_neg h1]; simp [h0, h1]
  · rw [if_neg h0]; simp [h0]
theorem digit_f (c : Int) : phalaroperef02_Digit.f c = some (isDigit c) := by
  unfold phalaroperef02_Digit.f isDigit
  by_cases h : 48 ≤ c
  · rw [if_pos h, decide_eq_true h]; rfl
  · rw [if_neg h, decide_eq_false h]; rfl
theorem alpha_f (c : Int) : phalaroperef02_Alpha.f c = some (isAlpha c) := by
  unfold phalaroperef02_Alpha.f isAlpha
  by_cases h : 65 ≤ c
  · by_cases h2 : c ≤ 90
    · rw [if_pos h, if_pos h2]; simp [h, h2]
    · by_cases h3 : 97 ≤ c
      · rw [if_pos h, if_neg h2, if_pos h3]; simp [h, h2, h3]
      · rw [if_pos h, if_neg h2, if_neg h3]; simp [h, h2, h3]
  · have h3 : ¬ 97 ≤ c := by omega
    rw [if_neg h, if_neg h3]; simp [h, h3]
theorem word_f (c : Int) : phalaroperef02_Word.f c = some (isWord c) := by
  unfold phalaroperef02_Word.f isWord
  rw [alpha_f]
  simp only [Option.bind_some]
  cases isAlpha c
  · rw [if_neg (by decide), digit_f]
    simp only [Option.bind_some]
    cases isDigit c
    · rw [if_neg (by decide)]; rfl
    · rw [if_pos rfl]; rfl
  · rw [if_pos rfl]; rfl
theorem hex_f (c : Int) : phalaroperef02_Hex.f c = some (isHex c) := by
  unfold phalaroperef02_Hex.f
  rw [digit_f]
  simp only [Option.bind_some]
  unfold isHex
  cases isDigit c with
  | true => rfl
  | false =>
    by_cases h1 : c ≥ 65
    · by_cases h2 : c ≤ 70
      · simp [h1, h2]
      · by_cases h3 : c ≥ 97 <;> simp [h1, h2, h3]
    · by_cases h3 : c ≥ 97 <;> simp [h1, h3]
theorem trip_f (s : ByteArray) : phalaroperef03_Triplet.f s = some (tri s 0) := by
  unfold phalaroperef03_Triplet.f tri bI
  have b0 : bt s 0 = (byteAt s 0 : Int) := bt_byteAt s 0
  have b1 : bt s 1 = (byteAt s 1 : Int) := bt_byteAt s 1
  have b2 : bt s 2 = (byteAt s 2 : Int) := bt_byteAt s 2
  by_cases h3 : 3 ≤ s.size
  · rw [if_pos (by omega), if_pos (by omega), decide_eq_true (by omega), b0, b1, b2]
    by_cases hp : (byteAt s 0 : Int) = 37
    · rw [if_pos hp, if_pos (by omega), hex_f, hp]
      simp only [Option.bind_some]
      cases isHex (byteAt s 1 : Int) with
      | true => rw [if_pos rfl, if_pos (by omega), hex_f]; simp
      | false => simp
    · rw [if_neg hp]; simp [hp]
  · rw [if_neg (by omega), decide_eq_false (by omega)]; rfl
/-- A name's end, as the reference tells it, is what our walk through it tells. -/
theorem may2_at (s : ByteArray) (f : Nat) : ∀ (k p e : Nat), s.size ≤ p + f → p ≤ s.size → e ≤ p → 0 < s.size → f + 1 < k →
    phalaroperef05_May2.f k (s.extract p s.size) (decide (p = e ∧ 0 < p)) = some ((endsN s f p e).2 == s.size) := by
  induction f with
  | zero =>
    intro k p e hf hp he hz hk
    obtain ⟨k, rfl⟩ : ∃ m, k = m + 1 := ⟨k - 1, by omega⟩
    have hps : p = s.size := by omega
    rw [phalaroperef05_May2.f, if_pos (nil_of_size (by rw [ext_size]; omega))]
    show _ = some ((p, e).2 == s.size)
    congr 1
    exact Bool.eq_iff_iff.2 (by simp; omega)
  | succ f ih =>
    intro k p e hf hp he hz hk
    obtain ⟨k, rfl⟩ : ∃ m, k = m + 1 := ⟨k - 1, by omega⟩
    by_cases hlt : p < s.size
    · have hsz := ext_size s p
      have hb : bt (s.extract p s.size) 0 = bI s p := by
        have h0 := bt_byteAt (s.extract p s.size) 0
        rw [ext_byteAt] at h0
        exact h0
      have hex : ∀ n, n ≤ s.size - p → (s.extract p s.size).extract n (s.extract p s.size).size = s.extract (p + n) s.size := fun n hn => by
        rw [hsz, ByteArray.extract_extract]
        congr 1
        omega
      have hE := endsN_in s f p e hlt
      have hL : phalaroperef05_May2.f (k + 1) (s.extract p s.size) (decide (p = e ∧ 0 < p)) = if isWord (bI s p) = true then (if 1 ≤ ((s.extract p s.size).size : Int) then (phalaroperef05_May2.f k (s.extract (p + 1) s.size) true) else none)
          else if tri s p = true then (if 3 ≤ ((s.extract p s.size).size : Int) then (phalaroperef05_May2.f k (s.extract (p + 3) s.size) true) else none)
          else if bI s p = 46 then (if decide (p = e ∧ 0 < p) = true then (if 1 ≤ ((s.extract p s.size).size : Int) then (phalaroperef05_May2.f k (s.extract (p + 1) s.size) false) else none) else some false) else some false := by
        rw [phalaroperef05_May2.f, if_neg (fun h => by have := size_of_nil h; omega), if_pos (by omega), hb, word_f, trip_f, tri_ext s p hp]
        simp only [Option.bind_some]
        rw [hex 1 (by omega)]
        by_cases ht : tri s p = true
        · have hin := tri_in ht
          rw [hex 3 (by omega)]
          simp [ht]
        · simp [ht]
      rw [hL, hE]
      clear hL hE
      by_cases hw : isWord (bI s p) = true
      · rw [if_pos hw, if_pos hw, if_pos (by omega), show true = decide (p + 1 = p + 1 ∧ 0 < p + 1) from by simp, ih k (p + 1) (p + 1) (by omega) (by omega) (by omega) hz (by omega)]
      rw [if_neg hw, if_neg hw]
      by_cases ht : tri s p = true
      · have hin := tri_in ht
        have h37 : bI s p = 37 := by unfold tri at ht; simp only [Bool.and_eq_true, beq_iff_eq] at ht; exact ht.1.2
        have hn : ¬ (bI s p = 46 ∧ 0 < p ∧ p = e) := by omega
        have h3 : (3 : Int) ≤ ((s.extract p s.size).size : Int) := by omega
        rw [if_pos ht, if_neg hn, if_pos ht, if_pos h3, show true = decide (p + 3 = p + 3 ∧ 0 < p + 3) from by simp, ih k (p + 3) (p + 3) (by omega) (by omega) (by omega) hz (by omega)]
      rw [if_neg ht]
      by_cases h46 : bI s p = 46
      · rw [if_pos h46]
        by_cases hb2 : p = e ∧ 0 < p
        · have hp2 : bI s p = 46 ∧ 0 < p ∧ p = e := ⟨h46, hb2.2, hb2.1⟩
          have h1 : (1 : Int) ≤ ((s.extract p s.size).size : Int) := by omega
          rw [if_pos (decide_eq_true hb2), if_pos hp2, if_pos h1, show false = decide (p + 1 = e ∧ 0 < p + 1) from (decide_eq_false (by omega)).symm, ih k (p + 1) e (by omega) (by omega) (by omega) hz (by omega)]
        · have hp2 : ¬ (bI s p = 46 ∧ 0 < p ∧ p = e) := fun h => hb2 ⟨h.2.2, h.2.1⟩
          have h37 : ¬ bI s p = 37 := by omega
          rw [if_neg (by rw [decide_eq_false hb2]; decide), if_neg hp2, if_neg ht, if_neg h37]
          congr 1
          exact (beq_eq_false_iff_ne.2 (by dsimp only; omega)).symm
      · have hp2 : ¬ (bI s p = 46 ∧ 0 < p ∧ p = e) := fun h => h46 h.1
        rw [if_neg h46, if_neg hp2, if_neg ht]
        congr 1
        refine (beq_eq_false_iff_ne.2 ?_).symm
        split
        · split <;> dsimp only <;> omega
        · dsimp only; omega
    · rw [endsN_out _ _ _ _ hlt]
      have hps : p = s.size := by omega
      rw [phalaroperef05_May2.f, if_pos (nil_of_size (by rw [ext_size]; omega))]
      congr 1
      exact Bool.eq_iff_iff.2 (by simp; omega)
theorem rname_f (s : ByteArray) (k : Nat) (hk : s.size + 1 < k) : phalaroperef05_May.f k s = some (nameMay s) := by
  unfold phalaroperef05_May.f
  by_cases h0 : 0 < s.size
  · have h := may2_at s s.size k 0 0 (by omega) (by omega) (by omega) h0 (by omega)
    rw [show s.extract 0 s.size = s from by simp, show decide (0 = 0 ∧ 0 < 0) = false from by simp] at h
    rw [h]
    unfold nameMay ends
    rw [decide_eq_true h0]; simp
  · obtain ⟨k, rfl⟩ : ∃ m, k = m + 1 := ⟨k - 1, by omega⟩
    rw [phalaroperef05_May2.f, if_pos (nil_of_size (by omega))]
    unfold nameMay
    rw [decide_eq_false h0]; rfl
end Go.Proofs.Ytjhihohofhhknaa.PA
namespace Go.Proofs.Ytjhihohofhhknaa.PA
set_option linter.unusedSimpArgs false
set_option linter.unusedVariables false
open Go.RowKit Go.Proofs.YtjhihohofhhknaaW.PrintWords Go.Proofs.YtjhihohofhhknaaW.PrintLast Y
theorem wm1 (i : Nat) (h : 0 < i) (h2 : i < 1000000000) : wrap64 ((i : Int) - 1) = ((i - 1 : Nat) : Int) := by unfold wrap64; omega
/-- Few parts, of few variables, of short texts. -/
def okQ (q : S42) : Prop := q.f0.size ≤ 200 ∧ q.f2.length ≤ 20 ∧ ∀ x ∈ q.f2, x.f0.size ≤ 200
def FewT (t : List S42) : Prop := t.length ≤ 30 ∧ ∀ q ∈ t, okQ q
theorem rfewT_l1 (t : List S42) (i : Nat) (hi : i < t.length) (hb : i < 1000000) (hn : t[i].f2.length ≤ 20) (P : Prop) (d : Nat) : ∀ j : Nat, j + d = t[i].f2.length → (∀ j' (h : j' < t[i].f2.length), j' < j → t[i].f2[j'].f0.size ≤ 200) →
    ((∀ x ∈ t[i].f2, x.f0.size ≤ 200) → ∃ b, Ev (fun k => phalaroperef07_Few.l0 k t ((i + 1 : Nat) : Int)) b ∧ (b = true → P)) → ∃ b, Ev (fun k => phalaroperef07_Few.l1 k t (i : Int) (j : Int)) b ∧ (b = true → P) := by
  induction d with
  | zero =>
    intro j hj hok next
    obtain ⟨b, h1, h2⟩ := next (fun x hx => by
      obtain ⟨j', hl, rfl⟩ := List.mem_iff_getElem.1 hx
      exact hok j' hl (by omega))
    refine ⟨b, Ev.step (fun k => ?_) h1, h2⟩
    simp only [phalaroperef07_Few.l1]
    rw [if_pos (by omega), if_pos (by omega), rdp_at t i hi, if_neg (by omega), w1 i (by omega)]
  | succ d ih =>
    intro j hj hok next
    have hlt : j < t[i].f2.length := by omega
    by_cases hs : t[i].f2[j].f0.size ≤ 200
    · obtain ⟨b, h1, h2⟩ := ih (j + 1) (by omega) (fun j' hl hjj => by
        rcases Nat.lt_or_ge j' j with h | h
        · exact hok j' hl h
        · obtain rfl : j' = j := by omega
          exact hs) next
      refine ⟨b, Ev.step (fun k => ?_) h1, h2⟩
      simp only [phalaroperef07_Few.l1]
      rw [if_pos (by omega), if_pos (by omega), rdp_at t i hi, if_pos (by omega), if_pos (by omega), rds_at _ j hlt, if_neg (by omega), w1 j (by omega)]
    · refine ⟨false, Ev.step (fun k => ?_) (Ev.now false), fun h => by cases h⟩
      simp only [phalaroperef07_Few.l1]
      rw [if_pos (by omega), if_pos (by omega), rdp_at t i hi, if_pos (by omega), if_pos (by omega), rds_at _ j hlt, if_pos (by omega)]
theorem rfewT_l0 (t : List S42) (d : Nat) : ∀ i : Nat, i + d = 31 → (∀ j (h : j < t.length), j < i → okQ t[j]) → ∃ b, Ev (fun k => phalaroperef07_Few.l0 k t (i : Int)) b ∧ (b = true → FewT t) := by
  induction d with
  | zero =>
    intro i hi hok
    refine ⟨decide ((t.length : Int) ≤ 30), Ev.step (f := fun k => phalaroperef07_Few.j1 k t (i : Int) false) (fun k => ?_) (Ev.step (fun k => ?_) (Ev.now _)), fun h => ?_⟩
    · simp only [phalaroperef07_Few.l0]
      rw [decide_eq_false (by omega : ¬ ((i : Int) < 31))]
      split <;> rfl
    · simp [phalaroperef07_Few.j1]
    · rw [decide_eq_true_iff] at h
      refine ⟨by omega, fun q hq => ?_⟩
      obtain ⟨j, hl, rfl⟩ := List.mem_iff_getElem.1 hq
      exact hok j hl (by omega)
  | succ d ih =>
    intro i hi hok
    by_cases hlt : i < t.length
    · have hj1 : ∀ k, phalaroperef07_Few.l0 (k + 1) t (i : Int) = phalaroperef07_Few.j1 k t (i : Int) true := fun k => by
        simp only [phalaroperef07_Few.l0]
        rw [if_pos (by omega), decide_eq_true (by omega : ((i : Int) < 31))]
      by_cases h0 : t[i].f0.size ≤ 200 ∧ t[i].f2.length ≤ 20
      · have := rfewT_l1 t i hlt (by omega) h0.2 (FewT t) t[i].f2.length 0 (by omega) (fun _ _ h => by omega) (fun hx => ih (i + 1) (by omega) (fun j hl hji => by
          rcases Nat.lt_or_ge j i with h | h
          · exact hok j hl h
          · obtain rfl : j = i := by omega
            exact ⟨h0.1, h0.2, hx⟩))
        obtain ⟨b, h1, h2⟩ := this
        refine ⟨b, Ev.step hj1 (Ev.step (f := fun k => phalaroperef07_Few.j2 k t (i : Int) false) (fun k => ?_) (Ev.step (fun k => ?_) h1)), h2⟩
        · simp only [phalaroperef07_Few.j1]
          rw [if_pos trivial, if_pos (by omega), if_pos (by omega), rdp_at t i hlt, if_neg (by omega), decide_eq_false (by omega)]
        · simp [phalaroperef07_Few.j2]
      · refine ⟨false, Ev.step hj1 (Ev.step (f := fun k => phalaroperef07_Few.j2 k t (i : Int) true) (fun k => ?_) (Ev.step (fun k => ?_) (Ev.now false))), fun h => by cases h⟩
        · simp only [phalaroperef07_Few.j1]
          rw [if_pos trivial, if_pos (by omega), if_pos (by omega), rdp_at t i hlt]
          by_cases h1 : t[i].f0.size ≤ 200
          · rw [if_neg (by omega), decide_eq_true (by omega)]
          · rw [if_pos (by omega)]
        · simp [phalaroperef07_Few.j2]
    · refine ⟨decide ((t.length : Int) ≤ 30), Ev.step (f := fun k => phalaroperef07_Few.j1 k t (i : Int) false) (fun k => ?_) (Ev.step (fun k => ?_) (Ev.now _)), fun h => ?_⟩
      · simp only [phalaroperef07_Few.l0]
        rw [if_neg (by omega)]
      · simp [phalaroperef07_Few.j1]
      · rw [decide_eq_true_iff] at h
        refine ⟨by omega, fun q hq => ?_⟩
        obtain ⟨j, hl, rfl⟩ := List.mem_iff_getElem.1 hq
        exact hok j hl (by omega)
theorem rfewT_f (t : List S42) : ∃ b, Ev (fun k => phalaroperef07_Few.f k t) b ∧ (b = true → FewT t) := rfewT_l0 t 31 0 (by omega) (fun _ _ h => by omega)
/-- Few variables, of short names. -/
def FewS (l : List S30) : Prop := l.length ≤ 12 ∧ ∀ x ∈ l, x.f0.size ≤ 200
theorem rfewS_l0 (l : List S30) (d : Nat) : ∀ i : Nat, i + d = 13 → (∀ j (hj : j < l.length), j < i → l[j].f0.size ≤ 200) → ∃ b, Ev (fun k => phalaroperef14_Few.l0 k l (i : Int)) b ∧ (b = true → FewS l) := by
  have fin : ∀ i : Nat, i ≤ 13 → ((l.length : Int) ≤ 30 → l.length ≤ i ∨ 12 < l.length) → (∀ j (hj : j < l.length), j < i → l[j].f0.size ≤ 200) → (i < l.length → 13 ≤ i) → ∃ b, Ev (fun k => phalaroperef14_Few.l0 k l (i : Int)) b ∧ (b = true → FewS l) := by
    intro i hi _ hok hge
    refine ⟨decide ((l.length : Int) ≤ 12), Ev.step (f := fun k => phalaroperef14_Few.j1 k l (i : Int) false) (fun k => ?_) (Ev.step (fun k => ?_) (Ev.now _)), fun h => ?_⟩
    · simp only [phalaroperef14_Few.l0]
      by_cases hlt : i < l.length
      · rw [if_pos (by omega), decide_eq_false (by have := hge hlt; omega)]
      · rw [if_neg (by omega)]
    · simp [phalaroperef14_Few.j1]
    · rw [decide_eq_true_iff] at h
      refine ⟨by omega, fun q hq => ?_⟩
      obtain ⟨j, hl, rfl⟩ := List.mem_iff_getElem.1 hq
      exact hok j hl (by have : i < l.length → 13 ≤ i := hge; omega)
  induction d with
  | zero => intro i hi hok; exact fin i (by omega) (fun _ => by omega) hok (fun _ => by omega)
  | succ d ih =>
    intro i hi hok
    by_cases hlt : i < l.length
    · have hj1 : ∀ k, phalaroperef14_Few.l0 (k + 1) l (i : Int) = phalaroperef14_Few.j1 k l (i : Int) true := fun k => by
        simp only [phalaroperef14_Few.l0]
        rw [if_pos (by omega), decide_eq_true (by omega : ((i : Int) < 13))]
      by_cases h0 : l[i].f0.size ≤ 200
      · obtain ⟨b, h1, h2⟩ := ih (i + 1) (by omega) (fun j hl hji => by
          rcases Nat.lt_or_ge j i with h | h
          · exact hok j hl h
          · obtain rfl : j = i := by omega
            exact h0)
        refine ⟨b, Ev.step hj1 (Ev.step (fun k => ?_) h1), h2⟩
        simp only [phalaroperef14_Few.j1]
        rw [if_pos trivial, if_pos (by omega), if_pos (by omega), rdv_at l i hlt, if_neg (by omega), w1 i (by omega)]
      · refine ⟨false, Ev.step hj1 (Ev.step (fun k => ?_) (Ev.now false)), fun h => by cases h⟩
        simp only [phalaroperef14_Few.j1]
        rw [if_pos trivial, if_pos (by omega), if_pos (by omega), rdv_at l i hlt, if_pos (by omega)]
    · exact fin i (by omega) (fun _ => by omega) hok (fun h => absurd h hlt)
theorem rfewS_f (l : List S30) : ∃ b, Ev (fun k => phalaroperef14_Few.f k l) b ∧ (b = true → FewS l) := rfewS_l0 l 13 0 (by omega) (fun _ _ h => by omega)
theorem FewS.small {l : List S30} (h : FewS l) : smallV l := ⟨by have := h.1; omega, fun x hx => by have := h.2 x hx; omega⟩
/-- The piece of a literal lies in it. -/
theorem pieceN_le (s : ByteArray) : 0 ≤ X.pieceN s ∧ X.pieceN s ≤ s.size := by
  unfold X.pieceN
  split
  · omega
  split
  · omega
  split
  · rename_i h; have := tri_in h; omega
  · unfold X.takeU X.takeOf
    have := X.prefixS_le s 1
    split <;> dsimp only <;> omega
theorem pieces_l0 (s : ByteArray) (hs : s.size ≤ 1000000) (d : Nat) : ∀ (k : Nat) (a n : Int), (s.size : Int) - a ≤ d → 0 ≤ a → 0 ≤ n → a + n ≤ s.size → d < k → ∃ r, tmpl_pieces.l0 k s a n = some r := by
  induction d with
  | zero =>
    intro k a n hd ha hn han hk
    obtain ⟨k, rfl⟩ : ∃ m, k = m + 1 := ⟨k - 1, by omega⟩
    exact ⟨a, by simp only [tmpl_pieces.l0]; rw [if_neg (by omega)]⟩
  | succ d ih =>
    intro k a n hd ha hn han hk
    obtain ⟨k, rfl⟩ : ∃ m, k = m + 1 := ⟨k - 1, by omega⟩
    simp only [tmpl_pieces.l0]
    by_cases h0 : n > 0
    · have hsz := ext_size s (a + n).toNat
      have hp := pieceN_le (s.extract (a + n).toNat s.size)
      rw [if_pos h0, w64 _ (by omega) (by omega), if_pos (by omega), if_pos (by omega)]
      have hf : tmpl_piece.f (s.extract (a + n).toNat s.size) = some (X.pieceN (s.extract (a + n).toNat s.size)) := by unfold tmpl_piece.f; rw [if_pos (by omega)]
      rw [hf]
      simp only [Option.bind_some]
      exact ih k (a + n) _ (by omega) (by omega) hp.1 (by omega) (by omega)
    · exact ⟨a, by rw [if_neg h0]⟩
theorem pieces_f (s : ByteArray) (hs : s.size ≤ 1000000) : ∃ r, tmpl_pieces.f bigK s = some r := by
  unfold tmpl_pieces.f
  have hf : tmpl_piece.f s = some (X.pieceN s) := by unfold tmpl_piece.f; rw [if_pos (by omega)]
  rw [hf]
  have hp := pieceN_le s
  exact pieces_l0 s hs s.size bigK 0 _ (by omega) (by omega) hp.1 (by omega) (by unfold bigK; omega)
/-- Is a part a literal, or an expression? -/
def fineP (x : S42) : Bool := (tmpl_fine.f x.f0 x.f1 x.f2).getD false
def okB (x : S42) : Prop := 0 ≤ x.f1 ∧ x.f1 ≤ 255
theorem fine_f (x : S42) (h : okQ x) (hb : okB x) : tmpl_fine.f x.f0 x.f1 x.f2 = some (fineP x) := by
  have hsm : fineSmall x.f0 x.f1 x.f2 := ⟨⟨by have := h.1; omega, hb.1, hb.2⟩, by have := h.2.1; omega, fun y hy => by have := h.2.2 y hy; omega⟩
  obtain ⟨r, hr⟩ := pieces_f x.f0 (by have := h.1; omega)
  unfold fineP tmpl_fine.f
  rw [if_pos hsm, show tmpl_pieces.f Y.bigK x.f0 = some r from hr]
  rfl
/-- Are parts a template, behind one? -/
def mayP : Option S42 → List S42 → Bool
  | _, [] => true
  | p, x :: l => fineP x && !(p.any fun q => x.f2.length == 0 && q.f2.length == 0) && mayP (some x) l
def prevP (t : List S42) (i : Nat) : Option S42 := if i = 0 then none else t[i - 1]?
theorem tmay_l0 (t : List S42) (ht : t.length ≤ 1000) (hq : ∀ q ∈ t, okQ q ∧ okB q) (d : Nat) : ∀ k i : Nat, i + d = t.length → d < k → tmpl_May.l0 k t t (t.length : Int) (i : Int) = some (mayP (prevP t i) (t.drop i)) := by
  induction d with
  | zero =>
    intro k i hi hk
    obtain ⟨k, rfl⟩ : ∃ m, k = m + 1 := ⟨k - 1, by omega⟩
    simp only [tmpl_May.l0]
    rw [if_neg (by omega), List.drop_eq_nil_iff.2 (by omega)]
    rfl
  | succ d ih =>
    intro k i hi hk
    obtain ⟨k, rfl⟩ : ∃ m, k = m + 1 := ⟨k - 1, by omega⟩
    have hlt : i < t.length := by omega
    have hx := hq t[i] (List.getElem_mem hlt)
    have hnext := ih k (i + 1) (by omega) (by omega)
    have hprev : prevP t (i + 1) = some t[i] := by unfold prevP; rw [if_neg (by omega)]; simp [hlt]
    rw [hprev] at hnext
    simp only [tmpl_May.l0]
    rw [if_pos (by omega), if_pos (by omega), if_pos (by omega), rdp_at t i hlt, fine_f _ hx.1 hx.2, List.drop_eq_getElem_cons hlt]
    simp only [Option.bind_some, mayP]
    cases hf : fineP t[i] with
    | false => simp
    | true =>
      rw [if_pos rfl]
      by_cases h0 : i = 0
      · subst h0
        rw [if_neg (by omega), w1 0 (by omega), hnext]
        simp [prevP]
      · have hp : prevP t i = some t[i - 1] := by unfold prevP; rw [if_neg h0]; simp [show i - 1 < t.length by omega]
        rw [if_pos (by omega), wm1 i (by omega) (by omega), hp, rdp_at t (i - 1) (by omega), w1 i (by omega), hnext]
        by_cases e1 : t[i].f2.length = 0
        · rw [if_pos (by omega), if_pos (by omega), if_pos (by omega)]
          by_cases e2 : t[i - 1].f2.length = 0
          · rw [if_pos (by omega)]; simp [e1, e2]
          · rw [if_neg (by omega)]; simp [e1, e2]
        · rw [if_neg (by omega)]; simp [e1]
theorem tmay_f (t : List S42) (ht : t.length ≤ 1000) (hq : ∀ q ∈ t, okQ q ∧ okB q) : tmpl_May.f bigK t = some (mayP none t) := by
  exact tmay_l0 t ht hq t.length bigK 0 (by omega) (by unfold bigK; omega)
theorem mayP_take (t : List S42) : ∀ (p : Option S42) (n : Nat), mayP p t = true → mayP p (t.take n) = true := by
  induction t with
  | nil => intro p n _; simp [mayP]
  | cons x l ih =>
    intro p n h
    cases n with
    | zero => simp [mayP]
    | succ n =>
      rw [List.take_succ_cons]
      unfold mayP at h ⊢
      rw [Bool.and_eq_true] at h ⊢
      exact ⟨h.1, ih _ n h.2⟩
theorem fit_f (t : List S42) (s : List S30) (ht : t.length ≤ 1000) (hq : ∀ q ∈ t, okQ q ∧ okB q) (hs : smallV s) : fit_Fit.f t s = some (fitV (mayP none t) t s) := by
  have hsm : fitSmall t s := ⟨⟨hs, by omega⟩, fun q h => ⟨(hq q h).2, by have := (hq q h).1.2.1; omega⟩⟩
  unfold fit_Fit.f
  rw [if_pos hsm, show tmpl_May.f Y.bigK t = some (mayP none t) from tmay_f t ht hq]
  rfl
theorem fitV_ok (tm : Bool) (t : List S42) (s : List S30) : fitV tm t s = 0 ↔ tm = true ∧ mayS s = true ∧ ∀ q ∈ t, ∀ x ∈ q.f2, badB s q.f1 x = false := by
  have e : (t.any fun q => q.f2.any (badB s q.f1)) = true ↔ ∃ q ∈ t, ∃ x ∈ q.f2, badB s q.f1 x = true := by simp [List.any_eq_true]
  unfold fitV
  split
  · rename_i h
    rw [Bool.and_eq_true] at h
    split
    · rename_i hb
      obtain ⟨q, hq, x, hx, hb⟩ := e.1 hb
      refine ⟨fun h => by omega, fun h' => ?_⟩
      have := h'.2.2 q hq x hx
      rw [hb] at this; cases this
    · rename_i hb
      refine ⟨fun _ => ⟨h.1, h.2, fun q hq x hx => ?_⟩, fun _ => rfl⟩
      cases hbb : badB s q.f1 x with
      | false => rfl
      | true => exact absurd (e.2 ⟨q, hq, x, hx, hbb⟩) hb
  · rename_i h
    refine ⟨fun h => by omega, fun h' => absurd (by rw [h'.1, h'.2.1]; rfl) h⟩
end Go.Proofs.Ytjhihohofhhknaa.PA
namespace Go.Proofs.Ytjhihohofhhknaa.PA
set_option linter.unusedSimpArgs false
set_option linter.unusedVariables false
open Go.RowKit Go.Proofs.YtjhihohofhhknaaW.PrintWords Go.Proofs.YtjhihohofhhknaaW.PrintLast Y
theorem mayFrom_iff (l : List S30) : ∀ seen, mayFrom seen l = true ↔ (∀ x ∈ l, varOk x = true ∧ ∀ y ∈ seen, y.toList ≠ x.f0.toList) ∧ l.Pairwise (fun a b => a.f0.toList ≠ b.f0.toList) := by
  induction l with
  | nil => intro seen; simp [mayFrom]
  | cons x l ih =>
    intro seen
    unfold mayFrom
    by_cases hs : (seen.any fun y => y.toList == x.f0.toList) = true
    · rw [if_pos hs]
      refine ⟨(fun h => by cases h), fun h => ?_⟩
      obtain ⟨y, hy, he⟩ := List.any_eq_true.1 hs
      exact absurd (beq_iff_eq.1 he) ((h.1 x List.mem_cons_self).2 y hy)
    · rw [if_neg hs]
      have hs' : ∀ y ∈ seen, y.toList ≠ x.f0.toList := fun y hy he => hs (List.any_eq_true.2 ⟨y, hy, beq_iff_eq.2 he⟩)
      by_cases hv : varOk x = true
      · rw [if_pos hv, ih, List.pairwise_cons]
        constructor
        · rintro ⟨h1, h2⟩
          refine ⟨fun y hy => ?_, fun y hy => ((h1 y hy).2 _ List.mem_cons_self), h2⟩
          rcases List.mem_cons.1 hy with rfl | hy
          · exact ⟨hv, hs'⟩
          · exact ⟨(h1 y hy).1, fun z hz => (h1 y hy).2 z (List.mem_cons_of_mem _ hz)⟩
        · rintro ⟨h1, h2, h3⟩
          refine ⟨fun y hy => ⟨(h1 y (List.mem_cons_of_mem _ hy)).1, fun z hz => ?_⟩, h3⟩
          rcases List.mem_cons.1 hz with rfl | hz
          · exact h2 y hy
          · exact (h1 y (List.mem_cons_of_mem _ hy)).2 z hz
      · rw [if_neg hv]
        exact ⟨(fun h => by cases h), fun h => absurd (h.1 x List.mem_cons_self).1 hv⟩
theorem mayS_iff (s : List S30) : mayS s = true ↔ ((∀ x ∈ s, varOk x = true) ∧ s.Pairwise (fun a b => a.f0.toList ≠ b.f0.toList)) ∧ s.length ≤ 8 := by
  unfold mayS
  rw [Bool.and_eq_true, mayFrom_iff, decide_eq_true_iff]
  simp
theorem varOk_iff (x : S30) : varOk x = true ↔ nameMay x.f0 = true ∧ (1 ≤ x.f1 ∧ x.f1 ≤ 3) ∧ (1 ≤ x.f3 ∧ x.f3 ≤ 4) ∧ 0 ≤ x.f4 ∧ x.f4 ≤ 8 := by
  unfold varOk
  simp [Bool.and_eq_true, and_assoc]
theorem findV_mem (l : List S30) (nm : ByteArray) : (findV l nm).2 = true → (findV l nm).1 ∈ l ∧ (findV l nm).1.f0.toList = nm.toList := by
  induction l with
  | nil => intro h; cases h
  | cons x l ih =>
    unfold findV
    split
    · rename_i h; intro _; exact ⟨List.mem_cons_self, beq_iff_eq.1 h⟩
    · intro h; exact ⟨List.mem_cons_of_mem _ (ih h).1, (ih h).2⟩
theorem findV_none (l : List S30) (nm : ByteArray) (h : ∀ x ∈ l, x.f0.toList ≠ nm.toList) : (findV l nm).2 = false := by
  cases e : (findV l nm).2 with
  | false => rfl
  | true => have := findV_mem l nm e; exact absurd this.2 (h _ this.1)
theorem findV_map (f : S30 → S30) (hf : ∀ x, (f x).f0 = x.f0) (l : List S30) (nm : ByteArray) : (findV (l.map f) nm).2 = (findV l nm).2 ∧ ((findV l nm).2 = true → (findV (l.map f) nm).1 = f (findV l nm).1) := by
  induction l with
  | nil => exact ⟨rfl, fun h => by cases h⟩
  | cons x l ih =>
    rw [List.map_cons]
    unfold findV
    rw [hf]
    split
    · exact ⟨rfl, fun _ => rfl⟩
    · exact ih
theorem findV_without (l : List S30) (nm : ByteArray) : ∀ i (h : i < l.length), l[i].f0.toList ≠ nm.toList → findV (l.take i ++ l.drop (i + 1)) nm = findV l nm := by
  induction l with
  | nil => intro i h; simp at h
  | cons x l ih =>
    intro i h hne
    cases i with
    | zero =>
      simp only [List.take_zero, List.nil_append, Nat.zero_add, List.drop_succ_cons, List.drop_zero]
      conv => rhs; unfold findV
      have hne' : ¬ (x.f0.toList == nm.toList) = true := fun e => hne (beq_iff_eq.1 e)
      rw [if_neg hne']
    | succ i =>
      rw [List.take_succ_cons, List.drop_succ_cons, List.cons_append]
      unfold findV
      rw [ih i (by simpa using h) (by simpa using hne)]
theorem mem_without {l : List S30} {i : Nat} {x : S30} (h : x ∈ l.take i ++ l.drop (i + 1)) : x ∈ l := by
  rcases List.mem_append.1 h with h | h
  · exact List.mem_of_mem_take h
  · exact List.mem_of_mem_drop h
theorem without_sub (l : List S30) (i : Nat) : (l.take i ++ l.drop (i + 1)).Sublist l := by
  rw [← List.eraseIdx_eq_take_drop_succ]; exact List.eraseIdx_sublist l i
theorem mayS_sub {l m : List S30} (h : m.Sublist l) (hl : mayS l = true) : mayS m = true := by
  rw [mayS_iff] at hl ⊢
  exact ⟨⟨fun x hx => hl.1.1 x (h.mem hx), hl.1.2.sublist h⟩, Nat.le_trans h.length_le hl.2⟩
theorem smallV_of {s s' : List S30} (h : FewS s) (hl : s'.length ≤ s.length) (hx : ∀ x ∈ s', x.f0.size ≤ 200) : smallV s' := ⟨by have := h.1; omega, fun x hx' => by have := hx x hx'; omega⟩
/-! ### FitMissing -/
def hasN (l : List ByteArray) (nm : ByteArray) : Bool := l.any fun y => y.toList == nm.toList
theorem rhas_l0 (l : List ByteArray) (nm : ByteArray) (hl : l.length ≤ 1000000) (d : Nat) : ∀ k i : Nat, i + d = l.length → d < k → phalaroperef07_Has.l0 k l nm (i : Int) = some (hasN (l.drop i) nm) := by
  induction d with
  | zero =>
    intro k i hi hk
    obtain ⟨k, rfl⟩ : ∃ m, k = m + 1 := ⟨k - 1, by omega⟩
    simp only [phalaroperef07_Has.l0]
    rw [if_neg (by omega), List.drop_eq_nil_iff.2 (by omega)]
    rfl
  | succ d ih =>
    intro k i hi hk
    obtain ⟨k, rfl⟩ : ∃ m, k = m + 1 := ⟨k - 1, by omega⟩
    have hlt : i < l.length := by omega
    simp only [phalaroperef07_Has.l0]
    rw [if_pos (by omega), if_pos (by omega), rdOf_at l i hlt, w1 i (by omega), ih k (i + 1) (by omega) (by omega), List.drop_eq_getElem_cons hlt]
    unfold hasN
    rw [List.any_cons]
    by_cases h : l[i].toList = nm.toList
    · rw [if_pos h, beq_iff_eq.2 h]; rfl
    · rw [if_neg h, beq_eq_false_iff_ne.2 h]; rfl
theorem rhas_f (l : List ByteArray) (nm : ByteArray) (hl : l.length ≤ 1000000) (k : Nat) (hk : l.length < k) : phalaroperef07_Has.f k l nm = some (hasN l nm) := by
  exact rhas_l0 l nm hl l.length k 0 (by omega) (by omega)
theorem evHas (l : List ByteArray) (nm : ByteArray) (hl : l.length ≤ 1000000) : Ev (fun k => phalaroperef07_Has.f k l nm) (hasN l nm) := ⟨l.length + 1, fun k hk => rhas_f l nm hl k (by omega)⟩
/-- One name more, if it isn't there. -/
def addN (l : List ByteArray) (nm : ByteArray) : List ByteArray := if hasN l nm = true then l else l ++ [nm]
def namesQ (acc : List ByteArray) (xs : List S37) : List ByteArray := xs.foldl (fun a x => addN a x.f0) acc
def namesT (acc : List ByteArray) (t : List S42) : List ByteArray := t.foldl (fun a q => namesQ a q.f2) acc
theorem addN_len (l : List ByteArray) (nm : ByteArray) : (addN l nm).length ≤ l.length + 1 := by unfold addN; split <;> simp
theorem rnames_l1 (t : List S42) (i : Nat) (hi : i < t.length) (hib : i < 1000000) (R : List ByteArray) (d : Nat) : ∀ (j : Nat) (acc : List ByteArray), j + d = t[i].f2.length → t[i].f2.length ≤ 1000000 → acc.length + d ≤ 1000000 →
    Ev (fun k => phalaroperef07_Names.l0 k t (namesQ acc (t[i].f2.drop j)) ((i + 1 : Nat) : Int)) R → Ev (fun k => phalaroperef07_Names.l1 k t acc (i : Int) (j : Int)) R := by
  induction d with
  | zero =>
    intro j acc hj hm hl next
    rw [List.drop_eq_nil_iff.2 (by omega)] at next
    refine Ev.step (fun k => ?_) next
    simp only [phalaroperef07_Names.l1]
    rw [if_pos (by omega), if_pos (by omega), rdp_at t i hi, if_neg (by omega), w1 i (by omega)]
    rfl
  | succ d ih =>
    intro j acc hj hm hl next
    have hlt : j < t[i].f2.length := by omega
    rw [List.drop_eq_getElem_cons hlt] at next
    refine Ev.step (f := fun k => (phalaroperef07_Has.f k acc t[i].f2[j].f0).bind fun b => if b = true then phalaroperef07_Names.l1 k t acc (i : Int) ((j + 1 : Nat) : Int) else if acc.length < 8796093022208 then phalaroperef07_Names.l1 k t (acc ++ [t[i].f2[j].f0]) (i : Int) ((j + 1 : Nat) : Int) else none) (fun k => ?_) ?_
    · simp only [phalaroperef07_Names.l1]
      rw [if_pos (by omega), if_pos (by omega), rdp_at t i hi, if_pos (by omega), if_pos (by omega), rds_at _ j hlt, w1 j (by omega)]
    · refine Ev.bind (evHas acc _ (by omega)) ?_
      cases hb : hasN acc t[i].f2[j].f0 with
      | true =>
        simp only [if_true]
        refine ih (j + 1) acc (by omega) hm (by omega) ?_
        have e : namesQ acc (t[i].f2[j] :: t[i].f2.drop (j + 1)) = namesQ acc (t[i].f2.drop (j + 1)) := by unfold namesQ; rw [List.foldl_cons]; unfold addN; rw [if_pos hb]
        rw [e] at next; exact next
      | false =>
        simp only [Bool.false_eq_true, if_false, if_pos (show acc.length < 8796093022208 by omega)]
        refine ih (j + 1) (acc ++ [t[i].f2[j].f0]) (by omega) hm (by simp; omega) ?_
        have e : namesQ acc (t[i].f2[j] :: t[i].f2.drop (j + 1)) = namesQ (acc ++ [t[i].f2[j].f0]) (t[i].f2.drop (j + 1)) := by unfold namesQ; rw [List.foldl_cons]; unfold addN; rw [if_neg (by rw [hb]; decide)]
        rw [e] at next; exact next
theorem namesQ_len (xs : List S37) : ∀ acc, (namesQ acc xs).length ≤ acc.length + xs.length := by
  induction xs with
  | nil => intro acc; simp [namesQ]
  | cons x xs ih =>
    intro acc
    have h1 := ih (addN acc x.f0)
    have h2 := addN_len acc x.f0
    unfold namesQ at h1 ⊢
    rw [List.foldl_cons, List.length_cons]; omega
theorem rnames_l0 (t : List S42) (ht : t.length ≤ 30) (hq : ∀ q ∈ t, q.f2.length ≤ 20) (d : Nat) : ∀ (i : Nat) (acc : List ByteArray), i + d = t.length → acc.length + 20 * d ≤ 1000 →
    Ev (fun k => phalaroperef07_Names.l0 k t acc (i : Int)) (namesT acc (t.drop i)) := by
  induction d with
  | zero =>
    intro i acc hi hl
    rw [List.drop_eq_nil_iff.2 (by omega)]
    refine Ev.step (fun k => ?_) (Ev.now _)
    simp only [phalaroperef07_Names.l0]
    rw [if_neg (by omega)]
    rfl
  | succ d ih =>
    intro i acc hi hl
    have hlt : i < t.length := by omega
    have h20 := hq t[i] (List.getElem_mem hlt)
    have hn := namesQ_len t[i].f2 acc
    refine Ev.step (f := fun k => phalaroperef07_Names.l1 k t acc (i : Int) 0) (fun k => ?_) (rnames_l1 t i hlt (by omega) _ t[i].f2.length 0 acc (by omega) (by omega) (by omega) ?_)
    · simp only [phalaroperef07_Names.l0]
      rw [if_pos (by omega)]
    · have := ih (i + 1) (namesQ acc t[i].f2) (by omega) (by omega)
      rw [List.drop_eq_getElem_cons hlt]
      exact this
theorem evNames (t : List S42) (ht : FewT t) : Ev (fun k => phalaroperef07_Names.f k t) (namesT [] t) := by
  exact rnames_l0 t ht.1 (fun q h => (ht.2 q h).2.1) t.length 0 [] (by omega) (by have := ht.1; simp; omega)
theorem addN_mem (l : List ByteArray) (nm y : ByteArray) : hasN (addN l nm) y = true ↔ hasN l y = true ∨ nm.toList = y.toList := by
  unfold addN
  split
  · rename_i h
    refine ⟨.inl, fun h' => ?_⟩
    rcases h' with h' | h'
    · exact h'
    · unfold hasN at h ⊢; rw [← h']; exact h
  · unfold hasN; rw [List.any_append]; simp
theorem namesQ_mem (xs : List S37) (y : ByteArray) : ∀ acc, hasN (namesQ acc xs) y = true ↔ hasN acc y = true ∨ ∃ x ∈ xs, x.f0.toList = y.toList := by
  induction xs with
  | nil => intro acc; simp [namesQ]
  | cons x xs ih =>
    intro acc
    show hasN (namesQ (addN acc x.f0) xs) y = true ↔ _
    rw [ih, addN_mem]; simp only [List.mem_cons, exists_eq_or_imp, or_assoc]
theorem namesT_mem (t : List S42) (y : ByteArray) : ∀ acc, hasN (namesT acc t) y = true ↔ hasN acc y = true ∨ ∃ q ∈ t, ∃ x ∈ q.f2, x.f0.toList = y.toList := by
  induction t with
  | nil => intro acc; simp [namesT]
  | cons q t ih =>
    intro acc
    show hasN (namesT (namesQ acc q.f2) t) y = true ↔ _
    rw [ih, namesQ_mem]; simp only [List.mem_cons, exists_eq_or_imp, or_assoc]
theorem bad_missing (s : List S30) (i : Nat) (h : i < s.length) (op : Int) (x : S37) (hne : s[i].f0.toList ≠ x.f0.toList) : badB (s.take i ++ s.drop (i + 1)) op x = badB s op x := by
  unfold badB
  rw [findV_without s x.f0 i h hne]
theorem fit_missing (t : List S42) (s : List S30) (h0 : fitV (mayP none t) t s = 0) (i : Nat) (h : i < s.length) :
    fitV (mayP none t) t (s.take i ++ s.drop (i + 1)) = if hasN (namesT [] t) s[i].f0 = true then 6 else 0 := by
  obtain ⟨g1, g2, g3⟩ := (fitV_ok _ _ _).1 h0
  have hm := mayS_sub (without_sub s i) g2
  by_cases hn : hasN (namesT [] t) s[i].f0 = true
  · rw [if_pos hn]
    rcases (namesT_mem t s[i].f0 []).1 hn with h' | ⟨q, hq, x, hx, he⟩
    · simp [hasN] at h'
    · have hno : (findV (s.take i ++ s.drop (i + 1)) x.f0).2 = false := findV_none _ _ (fun y hy hey => by
        have hp := ((mayS_iff s).1 g2).1.2
        rw [he] at hey
        rcases List.mem_append.1 hy with hy | hy
        · obtain ⟨j, hj, rfl⟩ := List.mem_iff_getElem.1 hy
          have hj2 : j < i := by simp at hj; omega
          rw [List.getElem_take] at hey
          exact (List.pairwise_iff_getElem.1 hp j i (by omega) h hj2) hey
        · obtain ⟨j, hj, rfl⟩ := List.mem_iff_getElem.1 hy
          rw [List.getElem_drop] at hey
          rw [List.length_drop] at hj
          exact (List.pairwise_iff_getElem.1 hp i (i + 1 + j) h (by omega) (by omega)) hey.symm)
      have hbad : badB (s.take i ++ s.drop (i + 1)) q.f1 x = true := by unfold badB; rw [hno]; simp
      unfold fitV
      rw [if_pos (by rw [g1, hm]; rfl), if_pos]
      exact List.any_eq_true.2 ⟨q, hq, List.any_eq_true.2 ⟨x, hx, hbad⟩⟩
  · rw [if_neg hn]
    refine (fitV_ok _ _ _).2 ⟨g1, hm, fun q hq x hx => ?_⟩
    rw [bad_missing s i h q.f1 x (fun he => hn ((namesT_mem t s[i].f0 []).2 (.inr ⟨q, hq, x, hx, he.symm⟩)))]
    exact g3 q hq x hx
def missNext (k : Nat) (t : List S42) (s : List S30) (ns : List ByteArray) (i : Nat) (e : Option Int) (b : Bool) : Option Bool :=
  if b = true then (e.bind fun t189 => (if t189 = 6 then phalaropelaw15_FitMissing.l0 k t s true ns ((i + 1 : Nat) : Int) else some false)) else (e.bind fun t190 => (if t190 = 0 then phalaropelaw15_FitMissing.l0 k t s true ns ((i + 1 : Nat) : Int) else some false))
theorem missing_step (k : Nat) (t : List S42) (s : List S30) (ns : List ByteArray) (i : Nat) (hlt : i < s.length) (hs : s.length ≤ 1000) :
    phalaropelaw15_FitMissing.l0 (k + 1) t s true ns (i : Int) = (phalaroperef07_Has.f k ns s[i].f0).bind (missNext k t s ns i (fit_Fit.f t (s.take i ++ s.drop (i + 1)))) := by
  have h1 : (i : Int) < (s.length : Int) := by omega
  have h2 : (0 : Int) ≤ (i : Int) := by omega
  have h3 : (i : Int) ≤ (s.length : Int) := by omega
  have h4 : (0 : Int) ≤ ((i + 1 : Nat) : Int) := by omega
  have h5 : ((i + 1 : Nat) : Int) ≤ (s.length : Int) := by omega
  have h6 : (s.take i).length < 2932031007402 := by rw [List.length_take]; omega
  have h7 : (s.take i).length + (s.drop (i + 1)).length < 2932031007402 := by rw [List.length_take, List.length_drop]; omega
  simp only [phalaropelaw15_FitMissing.l0, Option.bind_some, List.nil_append, List.length_nil, Nat.zero_add, if_pos h1, if_pos h2, if_pos h3, w1 i (by omega), if_pos h4, if_pos h5, Int.toNat_natCast, if_pos h6, if_pos h7, rdv_at s i hlt]
  rfl
theorem missing_l0 (t : List S42) (s : List S30) (ht : FewT t) (hs : FewS s) (hb : ∀ q ∈ t, okB q) (h0 : fitV (mayP none t) t s = 0) (hnl : (namesT [] t).length ≤ 1000000) (d : Nat) : ∀ i : Nat, i + d = s.length →
    Ev (fun k => phalaropelaw15_FitMissing.l0 k t s true (namesT [] t) (i : Int)) true := by
  have hq : ∀ q ∈ t, okQ q ∧ okB q := fun q h => ⟨ht.2 q h, hb q h⟩
  have hsl := hs.1
  induction d with
  | zero =>
    intro i hi
    refine Ev.step (fun k => ?_) (Ev.now true)
    simp only [phalaropelaw15_FitMissing.l0]
    rw [if_neg (by omega)]
  | succ d ih =>
    intro i hi
    have hlt : i < s.length := by omega
    have hfit := fit_f t (s.take i ++ s.drop (i + 1)) (by have := ht.1; omega) hq (smallV_of hs (without_sub s i).length_le (fun x hx => hs.2 x (mem_without hx)))
    rw [fit_missing t s h0 i hlt] at hfit
    refine Ev.step (fun k => missing_step k t s (namesT [] t) i hlt (by omega)) ?_
    refine Ev.bind (evHas _ _ hnl) ?_
    rw [hfit]
    cases hn : hasN (namesT [] t) s[i].f0 with
    | true => exact ih (i + 1) (by omega)
    | false => exact ih (i + 1) (by omega)
theorem namesT_len (t : List S42) (h : ∀ q ∈ t, q.f2.length ≤ 20) : ∀ acc, (namesT acc t).length ≤ acc.length + 20 * t.length := by
  induction t with
  | nil => intro acc; simp [namesT]
  | cons q t ih =>
    intro acc
    have h1 := ih (fun q' h' => h q' (List.mem_cons_of_mem _ h')) (namesQ acc q.f2)
    have h2 := namesQ_len q.f2 acc
    have h3 := h q List.mem_cons_self
    unfold namesT at h1 ⊢
    rw [List.foldl_cons, List.length_cons]; omega
theorem FewT.names {t : List S42} (h : FewT t) : (namesT [] t).length ≤ 600 := by
  have := namesT_len t (fun q hq => (h.2 q hq).2.1) []
  have := h.1
  simp at *; omega
theorem FitMissing_pure (t : List S42) (s : List S30) (hb : ∀ q ∈ t, okB q) : ∃ k, phalaropelaw15_FitMissing.f k t s = some true := by
  refine Ev.rounds ?_
  have up : ∀ b, b = true → Ev (fun k => phalaropelaw15_FitMissing.j0 k t s true b) true := fun b hb => Ev.step (fun k => by simp only [phalaropelaw15_FitMissing.j0]; rw [if_pos hb]) (Ev.now true)
  unfold phalaropelaw15_FitMissing.f
  rw [awake_f]
  simp only [Option.bind_some]
  obtain ⟨b, e, ht⟩ := rfewT_f t
  refine Ev.bind e ?_
  cases b with
  | false => simp only [Bool.false_eq_true, if_false]; exact up true rfl
  | true =>
    simp only [if_true]
    obtain ⟨b, e, hs⟩ := rfewS_f s
    refine Ev.bind e ?_
    cases b with
    | false => simp only [Bool.false_eq_true, if_false]; exact up true rfl
    | true =>
      simp only [if_true]
      have ht := ht rfl
      have hs := hs rfl
      have hl := ht.1
      have hnl := ht.names
      rw [fit_f t s (by omega) (fun q h => ⟨ht.2 q h, hb q h⟩) hs.small]
      simp only [Option.bind_some]
      by_cases h0 : fitV (mayP none t) t s = 0
      · rw [h0]
        refine Ev.step (f := fun k => (phalaroperef07_Names.f k t).bind fun n => phalaropelaw15_FitMissing.l0 k t s true n 0) (fun k => by simp [phalaropelaw15_FitMissing.j0]) ?_
        exact Ev.bind (evNames t ht) (missing_l0 t s ht hs hb h0 (by omega) s.length 0 (by omega))
      · exact up _ (bne_iff_ne.2 h0)
end Go.Proofs.Ytjhihohofhhknaa.PA
namespace Go.Proofs.Ytjhihohofhhknaa.PA
set_option linter.unusedSimpArgs false
set_option linter.unusedVariables false
open Go.RowKit Go.Proofs.YtjhihohofhhknaaW.PrintWords Go.Proofs.YtjhihohofhhknaaW.PrintLast Y
/-! ### FitNarrower -/
def narrowV (x : S30) : S30 := ⟨x.f0, x.f1, x.f2, mx (wrap64 (x.f3 - 1)) 1, x.f4⟩
theorem narrow_class {x : S30} (h : varOk x = true) : (narrowV x).f3 = max (x.f3 - 1) 1 := by
  rw [varOk_iff] at h
  show mx (wrap64 (x.f3 - 1)) 1 = _
  rw [w64 _ (by omega) (by omega)]
  unfold mx
  split <;> omega
theorem narrow_ok {x : S30} (h : varOk x = true) : varOk (narrowV x) = true := by
  have hc := narrow_class h
  rw [varOk_iff] at h ⊢
  refine ⟨h.1, h.2.1, ?_, h.2.2.2⟩
  rw [hc]; omega
theorem mayS_narrow {s : List S30} (h : mayS s = true) : mayS (s.map narrowV) = true := by
  rw [mayS_iff] at h ⊢
  refine ⟨⟨fun x hx => ?_, ?_⟩, by simpa using h.2⟩
  · obtain ⟨y, hy, rfl⟩ := List.mem_map.1 hx
    exact narrow_ok (h.1.1 y hy)
  · rw [List.pairwise_map]; exact h.1.2
theorem bad_narrow {s : List S30} (h : mayS s = true) (op : Int) (x : S37) (hb : badB s op x = false) : badB (s.map narrowV) op x = false := by
  have hm := findV_map narrowV (fun _ => rfl) s x.f0
  rw [mayS_iff] at h
  unfold badB at hb ⊢
  rw [hm.1]
  cases hf : (findV s x.f0).2 with
  | false => rw [hf] at hb; simp at hb
  | true =>
    have hv := h.1.1 _ (findV_mem s x.f0 hf).1
    have hc := narrow_class hv
    rw [varOk_iff] at hv
    rw [hm.2 hf, hc]
    have h4 : (max ((findV s x.f0).1.f3 - 1) 1 == 4) = false := beq_eq_false_iff_ne.2 (by omega)
    rw [h4]
    rw [hf] at hb
    simp only [Bool.or_eq_false_iff] at hb
    simp only [Bool.false_and, Bool.or_false]
    rw [Bool.or_eq_false_iff]
    exact ⟨rfl, hb.1.2⟩
theorem narrow_l0 (t : List S42) (s : List S30) (c : Int) (hc : 0 ≤ c ∧ c ≤ 255) (ht : t.length ≤ 1000) (hs : s.length ≤ 1000) (f1 : fit_Fit.f t (s.map narrowV) = some 0) (f2 : ∀ n, fit_Fit.f (t.take n) s = some 0) (d : Nat) : ∀ i : Nat, i + d = s.length →
    Ev (fun k => phalaropelaw15_FitNarrower.l0 k t s c true ((s.take i).map narrowV) (i : Int)) true := by
  induction d with
  | zero =>
    intro i hi
    refine Ev.step (fun k => ?_) (Ev.now true)
    simp only [phalaropelaw15_FitNarrower.l0]
    rw [List.take_of_length_le (by omega)]
    have hw : wrap64 ((t.length : Int) + 1) = (t.length : Int) + 1 := w64 _ (by omega) (by omega)
    have hm : 0 ≤ Int.tmod c ((t.length : Int) + 1) ∧ Int.tmod c ((t.length : Int) + 1) ≤ t.length := by
      rw [Int.tmod_eq_emod_of_nonneg hc.1]
      exact ⟨Int.emod_nonneg _ (by omega), by have := Int.emod_lt_of_pos c (show (0 : Int) < (t.length : Int) + 1 by omega); omega⟩
    rw [if_neg (by omega), hw, if_neg (by omega), if_pos trivial, f1, w64 c (by omega) (by omega)]
    simp only [Option.bind_some]
    rw [if_pos trivial, if_pos hm.1, if_pos hm.2, f2]
    rfl
  | succ d ih =>
    intro i hi
    have hlt : i < s.length := by omega
    refine Ev.step (fun k => ?_) (ih (i + 1) (by omega))
    simp only [phalaropelaw15_FitNarrower.l0]
    rw [if_pos (by omega), if_pos (by omega), if_pos (by simp; omega), rdv_at s i hlt, w1 i (by omega), List.take_succ_eq_append_getElem hlt, List.map_append]
    rfl
theorem FitNarrower_pure (t : List S42) (s : List S30) (c : Int) (hc : 0 ≤ c ∧ c ≤ 255) (hb : ∀ q ∈ t, okB q) : ∃ k, phalaropelaw15_FitNarrower.f k t s c = some true := by
  refine Ev.rounds ?_
  have up : ∀ b, b = true → Ev (fun k => phalaropelaw15_FitNarrower.j0 k t s c true b) true := fun b hb => Ev.step (fun k => by simp only [phalaropelaw15_FitNarrower.j0]; rw [if_pos hb]) (Ev.now true)
  unfold phalaropelaw15_FitNarrower.f
  rw [awake_f]
  simp only [Option.bind_some]
  obtain ⟨b, e, ht⟩ := rfewT_f t
  refine Ev.bind e ?_
  cases b with
  | false => simp only [Bool.false_eq_true, if_false]; exact up true rfl
  | true =>
    simp only [if_true]
    obtain ⟨b, e, hs⟩ := rfewS_f s
    refine Ev.bind e ?_
    cases b with
    | false => simp only [Bool.false_eq_true, if_false]; exact up true rfl
    | true =>
      simp only [if_true]
      have ht := ht rfl
      have hs := hs rfl
      have hq : ∀ q ∈ t, okQ q ∧ okB q := fun q h => ⟨ht.2 q h, hb q h⟩
      have hl := ht.1
      rw [fit_f t s (by omega) hq hs.small]
      simp only [Option.bind_some]
      by_cases h0 : fitV (mayP none t) t s = 0
      · rw [h0]
        refine Ev.step (f := fun k => phalaropelaw15_FitNarrower.l0 k t s c true ([] : List S30) 0) (fun k => by simp [phalaropelaw15_FitNarrower.j0]) ?_
        obtain ⟨g1, g2, g3⟩ := (fitV_ok _ _ _).1 h0
        refine narrow_l0 t s c hc (by omega) (by have := hs.1; omega) ?_ (fun n => ?_) s.length 0 (by omega)
        · rw [fit_f t (s.map narrowV) (by omega) hq (smallV_of hs (by simp) (fun x hx => by obtain ⟨y, hy, rfl⟩ := List.mem_map.1 hx; exact hs.2 y hy))]
          rw [(fitV_ok _ _ _).2 ⟨g1, mayS_narrow g2, fun q hq x hx => bad_narrow g2 _ _ (g3 q hq x hx)⟩]
        · rw [fit_f (t.take n) s (by simp; omega) (fun q h => hq q (List.mem_of_mem_take h)) hs.small]
          rw [(fitV_ok _ _ _).2 ⟨mayP_take t none n g1, g2, fun q hq => g3 q (List.mem_of_mem_take hq)⟩]
      · exact up _ (bne_iff_ne.2 h0)
end Go.Proofs.Ytjhihohofhhknaa.PA
namespace Go.Proofs.Ytjhihohofhhknaa.PA
set_option linter.unusedSimpArgs false
set_option linter.unusedVariables false
open Go.RowKit Go.Joins Go.WideShapes Go.ChangeShapes Go.Proofs.YtjhihohofhhknaaW.PrintWords X
theorem down_vars : Down Try.prog k30 (fun x => x.f0.size ≤ maxLen ∧ (Lit.int .i64 x.f1).wf = true ∧ True ∧ (Lit.int .i64 x.f3).wf = true ∧ (Lit.int .i64 x.f4).wf = true) 30 :=
  down_iso (fun p => ⟨p.1, p.2.1, p.2.2.1, p.2.2.2.1, p.2.2.2.2⟩) (fun _ => rfl) (down_struct Try.underlying30 (fdown_cons (down_string Try.underlying9) rfl (by kernel_rfl) (fdown_cons (down_int Try.underlying3) rfl (by kernel_rfl) (fdown_cons (down_bool Try.underlying4) rfl (by kernel_rfl) (fdown_cons (down_int Try.underlying3) rfl (by kernel_rfl) (fdown_one (down_int Try.underlying3) rfl (by kernel_rfl)))))) (by kernel_rfl))
theorem down_spec : Down Try.prog k37 (fun x => x.f0.size ≤ maxLen ∧ (Lit.int .i64 x.f1).wf = true ∧ True) 37 :=
  down_iso (fun p => ⟨p.1, p.2.1, p.2.2⟩) (fun _ => rfl) (down_struct Try.underlying37 (fdown_cons (down_string Try.underlying9) rfl (by kernel_rfl) (fdown_cons (down_int Try.underlying3) rfl (by kernel_rfl) (fdown_one (down_bool Try.underlying4) rfl (by kernel_rfl)))) (by kernel_rfl))
theorem down_part : Down Try.prog k42 (fun x => x.f0.size ≤ maxLen ∧ (Lit.int .u8 x.f1).wf = true ∧ ∀ y ∈ x.f2, y.f0.size ≤ maxLen ∧ (Lit.int .i64 y.f1).wf = true ∧ True) 42 :=
  down_iso (fun p => ⟨p.1, p.2.1, p.2.2⟩) (fun _ => rfl) (down_struct Try.underlying42 (fdown_cons (down_string Try.underlying9) rfl (by kernel_rfl) (fdown_cons (down_int Try.underlying5) rfl (by kernel_rfl) (fdown_one (down_slice Try.underlying40 down_spec (by kernel_rfl)) rfl (by kernel_rfl)))) (by kernel_rfl))
end Go.Proofs.Ytjhihohofhhknaa.PA
namespace Go.Proofs.Ytjhihohofhhknaa.PA
set_option linter.unusedSimpArgs false
set_option linter.unusedVariables false
open Go.RowKit Go.Joins Go.WideShapes Go.ChangeShapes Go.Proofs.YtjhihohofhhknaaW.PrintWords Go.Proofs.YtjhihohofhhknaaW.PrintLast X
theorem u8_rangeN {n : Int} (h : (Lit.int .u8 n).wf = true) : 0 ≤ n ∧ n ≤ 255 := by
  have hw : (decide (IntKind.u8.min ≤ n) && decide (n ≤ IntKind.u8.max)) = true := h
  rw [show IntKind.u8.min = 0 from by decide, show IntKind.u8.max = 255 from by decide, Bool.and_eq_true, decide_eq_true_eq, decide_eq_true_eq] at hw
  exact hw
theorem FitNarrower_walk {A0 : Option Addr} {c0 : Nat} {l0 : List S42} {A1 : Option Addr} {c1 : Nat} {l1 : List S30} (a2 : Int) (w : World) (hl0 : Kd.C k42 w A0 l0.length l0) (hc0 : l0.length ≤ c0) (hl1 : Kd.C k30 w A1 l1.length l1) (hc1 : l1.length ≤ c1)
    (ho : ∀ x ∈ l0, x.f0.size ≤ maxLen ∧ (Lit.int .u8 x.f1).wf = true ∧ ∀ y ∈ x.f2, y.f0.size ≤ maxLen ∧ (Lit.int .i64 y.f1).wf = true ∧ True) (h2 : (Lit.int .u8 a2).wf = true) :
    Calls Try.prog 3 #[.slice A0 l0.length c0, .slice A1 l1.length c1, .int .u8 a2] w fun e w' => e = .returned (.bool true) ∧ Below w.heap.size w w' := by
  obtain ⟨k, hk⟩ := FitNarrower_pure l0 l1 a2 (u8_rangeN h2) (fun q hq => u8_rangeN (ho q hq).2.1)
  exact phalaropelaw15_FitNarrower.calls k A0 c0 l0 A1 c1 l1 a2 true w hl0 hc0 hl1 hc1 hk
end Go.Proofs.Ytjhihohofhhknaa.PA
