/- Texts of this claim, those that nothing needs left out: Zo1. -/
import Derived.Test.YtacnflelkpkbhaaMtG18
import Derived.Test.YtacnflelkpkbhaaMtG11
import Derived.Test.YtacnflelkpkbhaaMtG5
section
namespace Go.Proofs.Ytacnflelkpkbhaa.PA
set_option linter.unusedSimpArgs false
set_option linter.unusedVariables false
open Go.RowKit Go.Maps Go.Proofs.YtacnflelkpkbhaaW.PrintWords Go.Proofs.YtacnflelkpkbhaaW.PrintLast Go.Proofs.YtacnflelkpkbhaaW.PrintMore
def okF (x : S46) : Prop := x.f1.length ≤ 20 ∧ x.f2.length ≤ 20
theorem w1f (i : Nat) (h : i < 9223372036854775806) : wrap64 ((i : Int) + 1) = ((i + 1 : Nat) : Int) := by unfold wrap64; omega
theorem few_l0 (l : List S46) (d : Nat) : ∀ (k i : Nat), i + d = 61 → 2 * d + 3 < k → (∀ j (hj : j < l.length), j < i → okF l[j]) →
    ∃ b, phalaroperef16_Few.l0 k l (i : Int) = some b ∧ (b = true → l.length ≤ 60 ∧ ∀ x ∈ l, okF x) := by
  have hend : ∀ i : Nat, (∀ j (hj : j < l.length), j < i → okF l[j]) → (l.length ≤ 60 → l.length ≤ i) → (decide ((l.length : Int) ≤ 60)) = true → l.length ≤ 60 ∧ ∀ x ∈ l, okF x := by
    intro i hj hi h
    have h1 : l.length ≤ 60 := by have := of_decide_eq_true h; omega
    refine ⟨h1, fun x hx => ?_⟩
    obtain ⟨j, hjl, rfl⟩ := List.mem_iff_getElem.1 hx
    exact hj j hjl (by have := hi h1; omega)
  have hid : ∀ {α : Type} (c : Prop) [Decidable c] (x : α), (if c then x else x) = x := fun c _ x => by split <;> rfl
  induction d with
  | zero =>
    intro k i hi hk hj
    obtain ⟨k, rfl⟩ : ∃ m, k = m + 2 := ⟨k - 2, by omega⟩
    simp only [phalaroperef16_Few.l0, phalaroperef16_Few.j1]
    have hne : ¬ ((i : Int) < 61) := by omega
    rw [decide_eq_false hne]
    simp only [Bool.false_eq_true, if_false, hid]
    exact ⟨_, rfl, hend i hj (by omega)⟩
  | succ d ih =>
    intro k i hi hk hj
    obtain ⟨k, rfl⟩ : ∃ m, k = m + 2 := ⟨k - 2, by omega⟩
    simp only [phalaroperef16_Few.l0, phalaroperef16_Few.j1]
    have hlt : ((i : Int) < 61) := by omega
    rw [decide_eq_true hlt]
    by_cases hp : (i : Int) < (l.length : Int)
    · have hp' : i < l.length := by omega
      rw [if_pos hp, if_pos rfl, if_pos (by omega), if_pos hp, rdr_at l i hp']
      by_cases h1 : ((l[i].f1).length : Int) > 20
      · exact ⟨false, by rw [if_pos h1], fun h => by cases h⟩
      by_cases h2 : ((l[i].f2).length : Int) > 20
      · exact ⟨false, by rw [if_neg h1, if_pos h2], fun h => by cases h⟩
      rw [if_neg h1, if_neg h2, w1f i (by omega)]
      exact ih k (i + 1) (by omega) (by omega) (fun j hjl hji => by
        rcases Nat.lt_or_ge j i with h | h
        · exact hj j hjl h
        · obtain rfl : j = i := by omega
          exact ⟨by omega, by omega⟩)
    · rw [if_neg hp]
      simp only [Bool.false_eq_true, if_false]
      exact ⟨_, rfl, hend i hj (by omega)⟩
theorem fewR_any (l : List S46) : ∃ b : Bool, (b = true → l.length ≤ 60 ∧ ∀ x ∈ l, okF x) ∧ ∀ (W : World) (A : Option Addr) (c : Nat), Kd.C k46 W A l.length l → l.length ≤ c →
    Calls Try.prog 10 #[.slice A l.length c] W fun e W' => e = .returned (.bool b) ∧ Below W.heap.size W W' := by
  obtain ⟨b, hb, hf⟩ := few_l0 l 61 200 0 (by omega) (by omega) (fun j _ h => by omega)
  refine ⟨b, hf, fun W A c hr hc => ?_⟩
  exact (phalaroperef16_Few.calls 200 A c l b W hr hc hb).mono fun e W' ⟨h1, h2⟩ => ⟨h1, h2.below⟩
theorem few_okM {l : List S46} (h1 : ∀ x ∈ l, okF x) (h2 : ∀ x ∈ l, okRN x) : okM (l.map toN) := by
  intro n hn
  obtain ⟨x, hx, rfl⟩ := List.mem_map.1 hn
  have h := h1 x hx
  refine ⟨?_, ?_, fun e he => ?_⟩
  · have := h.1; simp only [toN, List.length_map]; omega
  · have := h.2; simp only [toN]; omega
  · obtain ⟨y, hy, rfl⟩ := List.mem_map.1 he
    have hw := ((h2 x hx).2.1 y hy).1
    simp only [Lit.wf, Bool.and_eq_true, decide_eq_true_eq] at hw
    exact hw
end Go.Proofs.Ytacnflelkpkbhaa.PA
end
