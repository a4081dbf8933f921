/- schema.Has and what it calls. -/
import Derived.Test.YtaigmfkgobklbaaXd
import Derived.Test.YtaigmfkgobklbaaYh
namespace Go.Proofs.Ytaigmfkgobklbaa.X
set_option linter.unusedSimpArgs false
set_option linter.unusedVariables false
open Go.RowKit Go.Proofs.YtaigmfkgobklbaaW.PrintWords Go.Proofs.Ytaigmfkgobklbaa.Y
theorem of_dec {p : Prop} [Decidable p] (h : p) : decide p = true := decide_eq_true h
theorem of_ndec {p : Prop} [Decidable p] (h : ¬ p) : decide p = false := decide_eq_false h

set_option maxHeartbeats 800000 in
theorem utfMay_any (c : Int) (w : World) : Calls Try.prog 29 #[.int .i64 c] w fun e w' => e = .returned (.bool (mayC c)) ∧ w = w' := by
  by_cases h0 : 0 ≤ c
  · by_cases h1 : c ≤ 1114111
    · by_cases h2 : c < 55296
      · have HM := Aside0.mk (show mayC c = true by simp [mayC, h0, h1, h2])
        go_enter Try.func29, Try.ntmps29
        go_wp2
        go_ret
        exact ⟨by rw [HM.out]; rfl, rfl⟩
      · by_cases h3 : 57343 < c
        · have HM := Aside0.mk (show mayC c = true by simp [mayC, h0, h1, h2, h3])
          go_enter Try.func29, Try.ntmps29
          go_wp2
          go_ret
          exact ⟨by rw [HM.out]; rfl, rfl⟩
        · have HM := Aside0.mk (show mayC c = false by simp [mayC, h0, h1, h2, h3])
          have h3' : decide (57343 < c) = false := decide_eq_false h3
          go_enter Try.func29, Try.ntmps29
          go_wp2
          go_ret
          exact ⟨by rw [HM.out]; rfl, rfl⟩
    · have HM := Aside0.mk (show mayC c = false by simp [mayC, h0, h1])
      have h1' : decide (c ≤ 1114111) = false := decide_eq_false h1
      go_enter Try.func29, Try.ntmps29
      go_wp2
      go_ret
      exact ⟨by rw [HM.out]; rfl, rfl⟩
  · have HM := Aside0.mk (show mayC c = false by simp [mayC, h0])
    have h0' : decide (0 ≤ c) = false := decide_eq_false h0
    go_enter Try.func29, Try.ntmps29
    go_wp2
    go_ret
    exact ⟨by rw [HM.out]; rfl, rfl⟩

set_option maxHeartbeats 800000 in
theorem within_yes (n a b : Int) (w : World) (h0 : a ≤ n) (h1 : n ≤ b) : Calls Try.prog 30 #[.int .i64 n, .int .i64 a, .int .i64 b] w fun e w' => e = .returned (.bool true) ∧ w = w' := by
  go_enter Try.func30, Try.ntmps30
  go_wp2
  go_ret
  exact ⟨rfl, rfl⟩
set_option maxHeartbeats 800000 in
theorem within_no (n a b : Int) (w : World) (h : ¬ (a ≤ n ∧ n ≤ b)) : Calls Try.prog 30 #[.int .i64 n, .int .i64 a, .int .i64 b] w fun e w' => e = .returned (.bool false) ∧ w = w' := by
  by_cases h0 : a ≤ n
  · have h1 : decide (n ≤ b) = false := decide_eq_false (by omega)
    go_enter Try.func30, Try.ntmps30
    go_wp2
    go_ret
    exact ⟨rfl, rfl⟩
  · have h1 : decide (a ≤ n) = false := decide_eq_false (by omega)
    go_enter Try.func30, Try.ntmps30
    go_wp2
    go_ret
    exact ⟨rfl, rfl⟩

set_option maxHeartbeats 1600000 in
theorem schemaHas_any (k c : Int) (w : World) : Calls Try.prog 11 #[.int .i64 k, .int .i64 c] w fun e w' => e = .returned (.bool (hasC k c)) ∧ Below w.heap.size w w' := by
  by_cases k1 : k = 1
  · subst k1
    have HH := Aside0.mk (show hasC 1 c = isDigit c from rfl)
    by_cases hc : 0 ≤ c ∧ c ≤ 255
    · obtain ⟨hc0, hc1⟩ := hc
      have HD := Aside0.mk (digit_has c hc0 (by omega))
      go_enter Try.func11, Try.ntmps11
      go_wp2_with fail
      refine (digit_any _).mono ?_
      rintro e w1 ⟨rfl, hb1⟩
      have HB1 := Aside0.mk hb1
      clear hb1
      go_wp2_with fail
      refine (within_yes c 0 255 _ hc0 hc1).mono ?_
      rintro e w2 ⟨rfl, rfl⟩
      go_wp2_with fail
      refine (has_any digitSet c _ hc0 (by omega)).mono ?_
      rintro e w2 ⟨rfl, hb2⟩
      have HB2 := Aside0.mk (below_step HB1.out hb2)
      clear hb2
      go_wp2_with fail
      go_ret
      exact ⟨by rw [HH.out, ← HD.out]; rfl, HB2.out⟩
    · have HN := Aside0.mk (show isDigit c = false by unfold isDigit; rw [Bool.and_eq_false_iff, decide_eq_false_iff_not, decide_eq_false_iff_not]; omega)
      go_enter Try.func11, Try.ntmps11
      go_wp2_with fail
      refine (digit_any _).mono ?_
      rintro e w1 ⟨rfl, hb1⟩
      have HB1 := Aside0.mk hb1
      clear hb1
      go_wp2_with fail
      refine (within_no c 0 255 _ hc).mono ?_
      rintro e w2 ⟨rfl, rfl⟩
      go_wp2_with fail
      go_ret
      exact ⟨by rw [HH.out, HN.out]; rfl, HB1.out⟩
  by_cases k2 : k = 2
  · subst k2
    have HH := Aside0.mk (show hasC 2 c = isWord c from rfl)
    by_cases hc : 0 ≤ c ∧ c ≤ 255
    · obtain ⟨hc0, hc1⟩ := hc
      have HD := Aside0.mk (word_has c hc0 (by omega))
      go_enter Try.func11, Try.ntmps11
      go_wp2_with fail
      refine (word_any _).mono ?_
      rintro e w1 ⟨rfl, hb1⟩
      have HB1 := Aside0.mk hb1
      clear hb1
      go_wp2_with fail
      refine (within_yes c 0 255 _ hc0 hc1).mono ?_
      rintro e w2 ⟨rfl, rfl⟩
      go_wp2_with fail
      refine (has_any wordSet c _ hc0 (by omega)).mono ?_
      rintro e w2 ⟨rfl, hb2⟩
      have HB2 := Aside0.mk (below_step HB1.out hb2)
      clear hb2
      go_wp2_with fail
      go_ret
      exact ⟨by rw [HH.out, ← HD.out]; rfl, HB2.out⟩
    · have HN := Aside0.mk (show isWord c = false by
        unfold isWord isAlpha isDigit
        rw [Bool.or_eq_false_iff, Bool.or_eq_false_iff, Bool.or_eq_false_iff, Bool.and_eq_false_iff, Bool.and_eq_false_iff, Bool.and_eq_false_iff, beq_eq_false_iff_ne]
        simp only [decide_eq_false_iff_not]
        omega)
      go_enter Try.func11, Try.ntmps11
      go_wp2_with fail
      refine (word_any _).mono ?_
      rintro e w1 ⟨rfl, hb1⟩
      have HB1 := Aside0.mk hb1
      clear hb1
      go_wp2_with fail
      refine (within_no c 0 255 _ hc).mono ?_
      rintro e w2 ⟨rfl, rfl⟩
      go_wp2_with fail
      go_ret
      exact ⟨by rw [HH.out, HN.out]; rfl, HB1.out⟩
  have e1 : (k == 1) = false := beq_eq_false_iff_ne.2 k1
  have e2 : (k == 2) = false := beq_eq_false_iff_ne.2 k2
  by_cases k3 : k = 3
  · subst k3
    have HH := Aside0.mk (show hasC 3 c = (mayC c && !(c == 37)) from rfl)
    cases hm : mayC c with
    | true =>
      have HM := Aside0.mk hm
      clear hm
      go_enter Try.func11, Try.ntmps11
      go_wp2_with fail
      refine (utfMay_any c _).mono ?_
      rintro e w1 ⟨rfl, rfl⟩
      rw [HM.out]
      go_wp2_with fail
      go_ret
      exact ⟨by rw [HH.out, HM.out]; rfl, Below.refl _ _⟩
    | false =>
      have HM := Aside0.mk hm
      clear hm
      go_enter Try.func11, Try.ntmps11
      go_wp2_with fail
      refine (utfMay_any c _).mono ?_
      rintro e w1 ⟨rfl, rfl⟩
      rw [HM.out]
      go_wp2_with fail
      go_ret
      exact ⟨by rw [HH.out, HM.out]; rfl, Below.refl _ _⟩
  · have e3 : (k == 3) = false := beq_eq_false_iff_ne.2 k3
    have HH := Aside0.mk (show hasC k c = (mayC c && k == 4) by unfold hasC; rw [if_neg k1, if_neg k2, if_neg k3])
    cases hm : mayC c with
    | true =>
      have HM := Aside0.mk hm
      clear hm
      go_enter Try.func11, Try.ntmps11
      go_wp2_with fail
      refine (utfMay_any c _).mono ?_
      rintro e w1 ⟨rfl, rfl⟩
      rw [HM.out]
      go_wp2_with fail
      go_ret
      exact ⟨by rw [HH.out, HM.out]; rfl, Below.refl _ _⟩
    | false =>
      have HM := Aside0.mk hm
      clear hm
      go_enter Try.func11, Try.ntmps11
      go_wp2_with fail
      refine (utfMay_any c _).mono ?_
      rintro e w1 ⟨rfl, rfl⟩
      rw [HM.out]
      go_wp2_with fail
      go_ret
      exact ⟨by rw [HH.out, HM.out]; rfl, Below.refl _ _⟩
end Go.Proofs.Ytaigmfkgobklbaa.X
