/- The reference's values and classes (phalaroperef02, 08, 14), as printed, say what our plain words say. -/
import Derived.Test.YtaigmfkgobklbaaZu
namespace Go.Proofs.Ytaigmfkgobklbaa.PA
set_option linter.unusedSimpArgs false
set_option linter.unusedVariables false
open Go.RowKit Go.Proofs.YtaigmfkgobklbaaW.PrintWords Go.Proofs.YtaigmfkgobklbaaW.PrintLast Y
theorem digit_f (c : Int) : phalaroperef02_Digit.f c = some (isDigit c) := by
  unfold phalaroperef02_Digit.f isDigit
  by_cases h : 48 ≤ c
  · rw [if_pos h, decide_eq_true h]; rfl
  · rw [if_neg h, decide_eq_false h]; rfl
theorem alpha_f (c : Int) : phalaroperef02_Alpha.f c = some (isAlpha c) := by
  unfold phalaroperef02_Alpha.f isAlpha
  by_cases h : 65 ≤ c
  · by_cases h2 : c ≤ 90
    · rw [if_pos h, if_pos h2]; simp [h, h2]
    · by_cases h3 : 97 ≤ c
      · rw [if_pos h, if_neg h2, if_pos h3]; simp [h, h2, h3]
      · rw [if_pos h, if_neg h2, if_neg h3]; simp [h, h2, h3]
  · have h3 : ¬ 97 ≤ c := by omega
    rw [if_neg h, if_neg h3]; simp [h, h3]
theorem word_f (c : Int) : phalaroperef02_Word.f c = some (isWord c) := by
  unfold phalaroperef02_Word.f isWord
  rw [alpha_f]
  simp only [Option.bind_some]
  cases isAlpha c
  · rw [if_neg (by decide), digit_f]
    simp only [Option.bind_some]
    cases isDigit c
    · rw [if_neg (by decide)]; rfl
    · rw [if_pos rfl]; rfl
  · rw [if_pos rfl]; rfl
theorem may_of_digit {c : Int} (h : isDigit c = true) : mayC c = true ∧ 0 ≤ c ∧ c < 256 := by
  unfold isDigit at h
  rw [Bool.and_eq_true, decide_eq_true_iff, decide_eq_true_iff] at h
  refine ⟨?_, by omega, by omega⟩
  unfold mayC
  rw [Bool.and_eq_true, Bool.and_eq_true, Bool.or_eq_true, decide_eq_true_iff, decide_eq_true_iff, decide_eq_true_iff]
  omega
theorem may_of_word {c : Int} (h : isWord c = true) : mayC c = true ∧ 0 ≤ c ∧ c < 256 := by
  unfold isWord isAlpha isDigit at h
  simp only [Bool.or_eq_true, Bool.and_eq_true, decide_eq_true_eq, beq_iff_eq] at h
  refine ⟨?_, by omega, by omega⟩
  unfold mayC
  rw [Bool.and_eq_true, Bool.and_eq_true, Bool.or_eq_true, decide_eq_true_iff, decide_eq_true_iff, decide_eq_true_iff]
  omega
theorem may_pos {c : Int} (h : mayC c = true) : 0 ≤ c := by
  unfold mayC at h
  rw [Bool.and_eq_true, Bool.and_eq_true, decide_eq_true_iff] at h
  exact h.1.1
theorem refHas_f (k : Nat) (hk : 0 < k) (g c : Int) : phalaroperef14_Has.f k g c = some (hasC g c) := by
  obtain ⟨k, rfl⟩ : ∃ m, k = m + 1 := ⟨k - 1, by omega⟩
  unfold phalaroperef14_Has.f
  rw [may_f]
  simp only [Option.bind_some]
  cases hm : mayC c with
  | false =>
    rw [if_neg (by decide)]
    simp only [phalaroperef14_Has.j0]
    rw [if_pos trivial]
    unfold hasC
    congr 1
    split
    · cases hd : isDigit c with
      | false => rfl
      | true => rw [(may_of_digit hd).1] at hm; cases hm
    split
    · cases hd : isWord c with
      | false => rfl
      | true => rw [(may_of_word hd).1] at hm; cases hm
    split <;> rw [hm] <;> rfl
  | true =>
    have h0 := may_pos hm
    rw [if_pos rfl]
    unfold hasC
    simp only [phalaroperef14_Has.j0]
    by_cases h1 : g < 1
    · rw [if_pos h1, if_pos trivial, if_neg (by omega), if_neg (by omega), if_neg (by omega), hm, show (g == 4) = false from beq_eq_false_iff_ne.2 (by omega)]; rfl
    rw [if_neg h1]
    by_cases h4 : g > 4
    · rw [if_pos (decide_eq_true h4), if_neg (by omega), if_neg (by omega), if_neg (by omega), hm, show (g == 4) = false from beq_eq_false_iff_ne.2 (by omega)]; rfl
    rw [if_neg (by rw [decide_eq_true_iff]; exact h4)]
    rcases (by omega : g = 1 ∨ g = 2 ∨ g = 3 ∨ g = 4) with rfl | rfl | rfl | rfl
    · rw [if_pos rfl, if_pos rfl]
      by_cases hc : c < 256
      · rw [if_pos hc, Int.emod_eq_of_lt h0 hc, digit_f]; rfl
      · rw [if_neg hc]
        cases hd : isDigit c with
        | false => rfl
        | true => have := (may_of_digit hd).2; omega
    · simp only [Int.reduceEq, if_true, if_false, Bool.false_eq_true]
      by_cases hc : c < 256
      · rw [if_pos hc, Int.emod_eq_of_lt h0 hc, word_f]; rfl
      · rw [if_neg hc]
        cases hd : isWord c with
        | false => rfl
        | true => have := (may_of_word hd).2; omega
    · simp only [Int.reduceEq, if_true, if_false, Bool.false_eq_true]; rw [hm]; rfl
    · simp only [Int.reduceEq, if_true, if_false, Bool.false_eq_true]; rw [hm]; rfl

theorem rdOf_at (xs : List ByteArray) (k : Nat) (h : k < xs.length) : rdOf ByteArray.empty xs (k : Int) = xs[k] := by
  unfold rdOf; rw [Int.toNat_natCast, List.getD_eq_getElem?_getD, List.getElem?_eq_getElem h]; rfl
theorem rd_int (xs : List Int) (k : Nat) (h : k < xs.length) : rd xs (k : Int) = xs[k] := by
  unfold rd; rw [Int.toNat_natCast, List.getD_eq_getElem?_getD, List.getElem?_eq_getElem h]; rfl
theorem w1 (i : Nat) (h : i < 1000000000) : wrap64 ((i : Int) + 1) = ((i + 1 : Nat) : Int) := w64 _ (by omega) (by omega)
section
variable (vk : Int) (s : ByteArray) (l : List ByteArray) (p : List S44)
theorem rtexts_l1 (h3 : vk = 3) (hp : p.length ≤ 100000) (d : Nat) : ∀ (k i : Nat) (acc : List ByteArray), i + d = p.length → d < k → acc.length + 2 * d ≤ 300000 →
    phalaroperef08_Texts.l1 k acc (i : Int) vk s l p = some (acc ++ (p.drop i).flatMap (fun x => [x.f0, x.f1])) := by
  induction d with
  | zero =>
    intro k i acc hi hk ha
    obtain ⟨k, rfl⟩ : ∃ m, k = m + 1 := ⟨k - 1, by omega⟩
    simp only [phalaroperef08_Texts.l1]
    rw [if_neg (by omega), List.drop_eq_nil_of_le (by omega)]
    simp
  | succ d ih =>
    intro k i acc hi hk ha
    obtain ⟨k, rfl⟩ : ∃ m, k = m + 1 := ⟨k - 1, by omega⟩
    simp only [phalaroperef08_Texts.l1]
    rw [if_pos (by omega), if_pos h3, if_pos (by omega), rd_at p i (by omega)]
    simp only [Option.bind_some, List.length_cons, List.length_nil]
    rw [if_pos (by omega), w1 i (by omega),
      ih k (i + 1) _ (by omega) (by omega) (by rw [List.length_append]; simp; omega), List.drop_eq_getElem_cons (show i < p.length by omega), List.flatMap_cons, List.append_assoc]
theorem rtexts_l1_not (h3 : vk ≠ 3) (k i : Nat) (acc : List ByteArray) (hk : 0 < k) : phalaroperef08_Texts.l1 k acc (i : Int) vk s l p = some acc := by
  obtain ⟨k, rfl⟩ : ∃ m, k = m + 1 := ⟨k - 1, by omega⟩
  simp only [phalaroperef08_Texts.l1]
  split
  · first | rfl | rw [if_neg h3]
  · rfl
theorem rtexts_l0 (h2 : vk = 2) (hl : l.length ≤ 100000) (d : Nat) : ∀ (k i : Nat) (acc : List ByteArray), i + d = l.length → d + 3 < k → acc.length + d ≤ 300000 →
    phalaroperef08_Texts.l0 k acc (i : Int) vk s l p = some (acc ++ l.drop i) := by
  induction d with
  | zero =>
    intro k i acc hi hk ha
    obtain ⟨k, rfl⟩ : ∃ m, k = m + 2 := ⟨k - 2, by omega⟩
    simp only [phalaroperef08_Texts.l0, phalaroperef08_Texts.j2]
    rw [if_neg (by omega), List.drop_eq_nil_of_le (by omega), List.append_nil]
    exact rtexts_l1_not vk s l p (by omega) k 0 acc (by omega)
  | succ d ih =>
    intro k i acc hi hk ha
    obtain ⟨k, rfl⟩ : ∃ m, k = m + 1 := ⟨k - 1, by omega⟩
    simp only [phalaroperef08_Texts.l0]
    rw [if_pos (by omega), if_pos h2, if_pos (by omega), if_pos (by omega), rdOf_at l i (by omega), w1 i (by omega),
      ih k (i + 1) _ (by omega) (by omega) (by rw [List.length_append]; simp; omega), List.drop_eq_getElem_cons (show i < l.length by omega), List.append_assoc]
    rfl
theorem rtexts_l0_not (h2 : vk ≠ 2) (k : Nat) (acc : List ByteArray) : phalaroperef08_Texts.l0 (k + 2) acc 0 vk s l p = phalaroperef08_Texts.l1 k acc 0 vk s l p := by
  simp only [phalaroperef08_Texts.l0, phalaroperef08_Texts.j2]
  split
  · first | rfl | rw [if_neg h2]
  · rfl
theorem rtexts_f (k : Nat) (hm : modest s l p) (hk : l.length + p.length + 10 < k) : phalaroperef08_Texts.f k vk s l p = some (textsOf vk s l p) := by
  obtain ⟨_, hl, hp, _, _⟩ := hm
  obtain ⟨k, rfl⟩ : ∃ m, k = m + 3 := ⟨k - 3, by omega⟩
  unfold phalaroperef08_Texts.f textsOf
  by_cases h1 : vk = 1
  · rw [if_pos h1, if_pos h1, if_pos (by simp)]
    simp only [phalaroperef08_Texts.j0]
    rw [rtexts_l0_not vk s l p (by omega)]
    exact rtexts_l1_not vk s l p (by omega) k 0 _ (by omega)
  rw [if_neg h1, if_neg h1]
  simp only [phalaroperef08_Texts.j0]
  by_cases h2 : vk = 2
  · rw [if_pos h2]
    have := rtexts_l0 vk s l p h2 hl l.length (k + 2) 0 [] (by omega) (by omega) (by simp; omega)
    simpa using this
  rw [if_neg h2, rtexts_l0_not vk s l p h2]
  by_cases h3 : vk = 3
  · rw [if_pos h3]
    have := rtexts_l1 vk s l p h3 hp p.length k 0 [] (by omega) (by omega) (by simp; omega)
    simpa using this
  · rw [if_neg h3]
    exact rtexts_l1_not vk s l p h3 k 0 [] (by omega)
end
theorem rvalid_l0 (ts : List ByteArray) (hs : ∀ x ∈ ts, x.size ≤ 1000000) (hl : ts.length ≤ 1000000) (d : Nat) : ∀ (k i : Nat), i + d = ts.length → d + 1000030 < k →
    phalaroperef08_Valid.l0 k ts (i : Int) = some ((ts.drop i).all validS) := by
  induction d with
  | zero =>
    intro k i hi hk
    obtain ⟨k, rfl⟩ : ∃ m, k = m + 1 := ⟨k - 1, by omega⟩
    simp only [phalaroperef08_Valid.l0]
    rw [if_neg (by omega), List.drop_eq_nil_of_le (by omega)]
    rfl
  | succ d ih =>
    intro k i hi hk
    obtain ⟨k, rfl⟩ : ∃ m, k = m + 1 := ⟨k - 1, by omega⟩
    have hi' : i < ts.length := by omega
    have hx := hs _ (List.getElem_mem hi')
    simp only [phalaroperef08_Valid.l0]
    rw [if_pos (by omega), if_pos (by omega), rdOf_at ts i hi', valid_f _ hx k (by omega), List.drop_eq_getElem_cons hi', List.all_cons]
    simp only [Option.bind_some]
    cases validS ts[i] with
    | true => rw [if_pos rfl, w1 i (by omega), ih k (i + 1) (by omega) (by omega)]; rfl
    | false => rw [if_neg (by decide)]; rfl
theorem rvalid_f (k : Nat) (vk : Int) (s : ByteArray) (l : List ByteArray) (p : List S44) (hm : modest s l p) (hk : 3000000 < k) : phalaroperef08_Valid.f k vk s l p = some ((textsOf vk s l p).all validS) := by
  have ht := texts_small (vk := vk) hm
  unfold phalaroperef08_Valid.f
  rw [rtexts_f vk s l p k hm (by have := hm.2.1; have := hm.2.2.1; omega)]
  simp only [Option.bind_some]
  have := rvalid_l0 (textsOf vk s l p) ht.2 ht.1 _ k 0 (Nat.zero_add _) (by have := ht.1; omega)
  simpa using this
section
variable (ts : List ByteArray) (nm : ByteArray) (kd : Int) (nd : Bool) (cl mx : Int)
/-- Rounds enough for so many texts. -/
def fu : Nat → Nat
  | 0 => 1000050
  | d + 1 => fu d + 1000050
theorem fu_le {a b : Nat} (h : a ≤ b) : fu a ≤ fu b := by
  induction b with
  | zero => rw [Nat.le_zero.1 h]; exact Nat.le_refl _
  | succ b ih =>
    rcases Nat.lt_or_ge a (b + 1) with h1 | h1
    · have := ih (by omega); have e : fu (b + 1) = fu b + 1000050 := rfl; omega
    · rw [show a = b + 1 from by omega]; exact Nat.le_refl _
/-- A text's characters, as the reference holds them against a class and a bound. -/
def okT (x : ByteArray) : Bool := (charsOr x).all (hasC cl) && (mx == 0 || decide (((charsOr x).length : Int) ≤ mx))
theorem rin_l1 (i : Nat) (cs : List Int) (hc : cs.length ≤ 1000000) (R : Option Bool) (d : Nat) : ∀ (k j : Nat), j + d = cs.length → d + 2 < k →
    (∀ k', k' + d + 1 = k → R = if mx = 0 then phalaroperef14_In.l0 k' ts (wrap64 ((i : Int) + 1)) nm kd nd cl mx else if (cs.length : Int) > mx then some false else phalaroperef14_In.l0 k' ts (wrap64 ((i : Int) + 1)) nm kd nd cl mx) →
    phalaroperef14_In.l1 k ts (i : Int) cs (j : Int) nm kd nd cl mx = if (cs.drop j).all (hasC cl) = true then R else some false := by
  induction d with
  | zero =>
    intro k j hj hk hR
    obtain ⟨k, rfl⟩ : ∃ m, k = m + 1 := ⟨k - 1, by omega⟩
    simp only [phalaroperef14_In.l1]
    rw [if_neg (by omega), List.drop_eq_nil_of_le (by omega), List.all_nil, if_pos rfl, hR k (by omega)]
  | succ d ih =>
    intro k j hj hk hR
    obtain ⟨k, rfl⟩ : ∃ m, k = m + 1 := ⟨k - 1, by omega⟩
    have hj' : j < cs.length := by omega
    simp only [phalaroperef14_In.l1]
    rw [if_pos (by omega), if_pos (by omega), rd_int cs j hj', refHas_f k (by omega), List.drop_eq_getElem_cons hj', List.all_cons]
    simp only [Option.bind_some]
    cases hasC cl cs[j] with
    | true => rw [if_pos rfl, w1 j (by omega), ih k (j + 1) (by omega) (by omega) (fun k' hk' => hR k' (by omega)), Bool.true_and]
    | false => rw [if_neg (by decide), Bool.false_and, if_neg (by decide)]
theorem rin_l0 (hs : ∀ x ∈ ts, x.size ≤ 1000000) (hl : ts.length ≤ 1000000) (d : Nat) : ∀ (k i : Nat), i + d = ts.length → fu d < k →
    phalaroperef14_In.l0 k ts (i : Int) nm kd nd cl mx = some ((ts.drop i).all (okT cl mx)) := by
  induction d with
  | zero =>
    intro k i hi hk
    have e0 : fu 0 = 1000050 := rfl
    obtain ⟨k, rfl⟩ : ∃ m, k = m + 1 := ⟨k - 1, by omega⟩
    simp only [phalaroperef14_In.l0]
    rw [if_neg (by omega), List.drop_eq_nil_of_le (by omega)]
    rfl
  | succ d ih =>
    intro k i hi hk
    have e1 : fu (d + 1) = fu d + 1000050 := rfl
    have e0 : fu 0 ≤ fu d := fu_le (Nat.zero_le _)
    have e2 : fu 0 = 1000050 := rfl
    rw [e1] at hk
    obtain ⟨k, rfl⟩ : ∃ m, k = m + 1 := ⟨k - 1, by omega⟩
    have hi' : i < ts.length := by omega
    have hx := hs _ (List.getElem_mem hi')
    have hcl : (charsOr ts[i]).length ≤ 1000000 := by
      unfold charsOr; split
      · exact Nat.le_trans (chars_length _) hx
      · simp
    simp only [phalaroperef14_In.l0]
    rw [if_pos (by omega), if_pos (by omega), rdOf_at ts i hi', chars_f _ hx k (by omega), List.drop_eq_getElem_cons hi', List.all_cons]
    simp only [Option.bind_some]
    rw [show (0 : Int) = ((0 : Nat) : Int) from rfl, rin_l1 ts nm kd nd cl mx i (charsOr ts[i]) hcl (some ((mx == 0 || decide (((charsOr ts[i]).length : Int) ≤ mx)) && (ts.drop (i + 1)).all (okT cl mx))) (charsOr ts[i]).length k 0 (by omega) (by omega) ?_]
    · rw [List.drop_zero]
      unfold okT
      cases (charsOr ts[i]).all (hasC cl) with
      | true => rw [if_pos rfl]; rfl
      | false => rw [if_neg (by decide)]; rfl
    · intro k' hk'
      rw [w1 i (by omega), ih k' (i + 1) (by omega) (by omega)]
      by_cases hm : mx = 0
      · rw [if_pos hm, hm]; rfl
      · rw [if_neg hm, show (mx == 0) = false from beq_eq_false_iff_ne.2 hm]
        by_cases hg : ((charsOr ts[i]).length : Int) > mx
        · rw [if_pos hg, decide_eq_false (by omega)]; rfl
        · rw [if_neg hg, decide_eq_true (by omega)]; rfl
end
theorem okT_fits (cl mx : Int) (x : ByteArray) (hv : validS x = true) : okT cl mx x = X.fitsS cl mx x := by
  unfold okT X.fitsS
  rw [hv, charsOr_yes hv, Bool.true_and, Bool.and_comm]
  congr 1
  rw [List.not_any_eq_all_not]
  congr 1
  funext c
  rw [Bool.not_not]
theorem fits_valid (cl mx : Int) (x : ByteArray) (hv : validS x = false) : X.fitsS cl mx x = false := by unfold X.fitsS; rw [hv]; rfl
theorem rin_f (k : Nat) (nm : ByteArray) (kd : Int) (nd : Bool) (cl mx vk : Int) (s : ByteArray) (l : List ByteArray) (p : List S44) (hm : modest s l p) (hk : fu 1000000 + 5000000 < k) :
    phalaroperef14_In.f k nm kd nd cl mx vk s l p = some (inV kd cl mx vk s l p) := by
  have ht := texts_small (vk := vk) hm
  obtain ⟨k, rfl⟩ : ∃ m, k = m + 1 := ⟨k - 1, by omega⟩
  unfold phalaroperef14_In.f inV
  rw [rtexts_f vk s l p (k + 1) hm (by have := hm.2.1; have := hm.2.2.1; omega)]
  simp only [Option.bind_some, phalaroperef14_In.j0]
  generalize hts : textsOf vk s l p = ts at *
  by_cases h0 : ts.length = 0
  · rw [if_pos (by omega), if_pos trivial, show decide (0 < ts.length) = false from decide_eq_false (by omega), Bool.and_false, Bool.false_and]
  rw [if_neg (by omega), show decide (0 < ts.length) = true from decide_eq_true (by omega), Bool.and_true]
  by_cases hk2 : vk = kd
  · rw [if_pos hk2, show (vk == kd) = true from beq_iff_eq.2 hk2, Bool.true_and, rvalid_f (k + 1) vk s l p hm (by omega), hts]
    simp only [Option.bind_some]
    have hall : ∀ q : List ByteArray, (∀ x ∈ q, validS x = true) → q.all (okT cl mx) = !(q.any fun t => !X.fitsS cl mx t) := by
      intro q hq
      rw [List.not_any_eq_all_not]
      induction q with
      | nil => rfl
      | cons x q ih => rw [List.all_cons, List.all_cons, ih (fun y hy => hq y (List.mem_cons_of_mem _ hy)), okT_fits cl mx x (hq x List.mem_cons_self), Bool.not_not]
    cases hv : ts.all validS with
    | true =>
      have hv' : ∀ x ∈ ts, validS x = true := fun x hx => List.all_eq_true.1 hv x hx
      rw [if_neg (by decide), show (0 : Int) = ((0 : Nat) : Int) from rfl, rin_l0 ts nm kd nd cl mx ht.2 ht.1 ts.length k 0 (by omega) (by
        have := fu_le ht.1
        omega), List.drop_zero, hall ts hv']
    | false =>
      rw [if_pos (by decide)]
      congr 1
      symm
      rw [Bool.not_eq_false', List.any_eq_true]
      obtain ⟨x, hx, hxv⟩ : ∃ x ∈ ts, validS x = false := by
        rcases Classical.em (∃ x ∈ ts, validS x = false) with h | h
        · exact h
        · exfalso
          have : ts.all validS = true := List.all_eq_true.2 fun x hx => by
            cases hxv : validS x with
            | true => rfl
            | false => exact absurd ⟨x, hx, hxv⟩ h
          rw [hv] at this; cases this
      exact ⟨x, hx, by rw [fits_valid cl mx x hxv]; rfl⟩
  · rw [if_neg hk2, if_pos trivial, show (vk == kd) = false from beq_eq_false_iff_ne.2 hk2, Bool.false_and]
end Go.Proofs.Ytaigmfkgobklbaa.PA
