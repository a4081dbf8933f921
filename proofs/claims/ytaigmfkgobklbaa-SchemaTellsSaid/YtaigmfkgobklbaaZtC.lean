/- SchemaTells: what is small, as the reference tells it; the law. -/
import Derived.Test.YtaigmfkgobklbaaZpC
import Derived.Test.YtaigmfkgobklbaaPCx2
import Derived.Test.YtaigmfkgobklbaaPCx5
namespace Go.Proofs.Ytaigmfkgobklbaa.PC
set_option linter.unusedSimpArgs false
set_option linter.unusedVariables false
open Go.RowKit Go.Proofs.YtaigmfkgobklbaaW.PrintWords Go.Proofs.YtaigmfkgobklbaaW.PrintLast Y
/-- Few variables, of short names. -/
def FewS (l : List S23) : Prop := l.length ≤ 12 ∧ ∀ x ∈ l, x.f0.size ≤ 200
theorem rfewS_l0 (l : List S23) (d : Nat) : ∀ (k i : Nat), i + d = 13 → 2 * d + 3 < k → (∀ j (hj : j < l.length), j < i → l[j].f0.size ≤ 200) →
    ∃ b, phalaroperef14_Few.l0 k l (i : Int) = some b ∧ (b = true → FewS l) := by
  induction d with
  | zero =>
    intro k i hi hk hj
    obtain ⟨k, rfl⟩ : ∃ m, k = m + 2 := ⟨k - 2, by omega⟩
    simp only [phalaroperef14_Few.l0, phalaroperef14_Few.j1]
    rw [decide_eq_false (by omega : ¬ ((i : Int) < 13))]
    have : ∀ {α : Type} (c : Prop) [Decidable c] (x : α), (if c then x else x) = x := fun c _ x => by split <;> rfl
    simp only [Bool.false_eq_true, if_false, this]
    refine ⟨decide ((l.length : Int) ≤ 12), rfl, fun h => ?_⟩
    rw [decide_eq_true_iff] at h
    refine ⟨by omega, fun x hx => ?_⟩
    obtain ⟨j, hjl, rfl⟩ := List.mem_iff_getElem.1 hx
    exact hj j hjl (by omega)
  | succ d ih =>
    intro k i hi hk hj
    obtain ⟨k, rfl⟩ : ∃ m, k = m + 2 := ⟨k - 2, by omega⟩
    simp only [phalaroperef14_Few.l0, phalaroperef14_Few.j1]
    rw [decide_eq_true (by omega : ((i : Int) < 13))]
    by_cases hp : (i : Int) < (l.length : Int)
    · have hp' : i < l.length := by omega
      rw [if_pos hp, if_pos rfl, if_pos (by omega), if_pos hp, rdv_at l i hp']
      by_cases h1 : ((l[i].f0).size : Int) > 200
      · exact ⟨false, by rw [if_pos h1], fun h => by cases h⟩
      rw [if_neg h1, w1 i (by omega)]
      exact ih k (i + 1) (by omega) (by omega) (fun j hjl hji => by
        rcases Nat.lt_or_ge j i with h | h
        · exact hj j hjl h
        · obtain rfl : j = i := by omega
          omega)
    · rw [if_neg hp]
      simp only [Bool.false_eq_true, if_false]
      refine ⟨decide ((l.length : Int) ≤ 12), rfl, fun h => ?_⟩
      rw [decide_eq_true_iff] at h
      refine ⟨by omega, fun x hx => ?_⟩
      obtain ⟨j, hjl, rfl⟩ := List.mem_iff_getElem.1 hx
      exact hj j hjl (by omega)
theorem rfewS_f (l : List S23) (k : Nat) (hk : 40 < k) : ∃ b, phalaroperef14_Few.f k l = some b ∧ (b = true → FewS l) :=
  rfewS_l0 l 13 k 0 (by omega) (by omega) (fun j _ h => by omega)
theorem FewS.small {l : List S23} (h : FewS l) : smallV l := ⟨by have := h.1; omega, fun x hx => by have := h.2 x hx; omega⟩
theorem FewS.names {l : List S23} (h : FewS l) : ∀ x ∈ l, phalaroperef05_May.f bigK x.f0 = some (nameMay x.f0) := fun x hx => rname_f x.f0 bigK (by have := h.2 x hx; unfold bigK; omega)
theorem SchemaTells_walk {A0 : Option Addr} {c0 : Nat} {l0 : List S23} {nm : ByteArray} {ca cb : Int} (w : World) (hr0 : Kd.C k23 w A0 l0.length l0) (hc0 : l0.length ≤ c0) :
    Calls Try.prog 6 #[.slice A0 l0.length c0, .string nm, .agg #[.int .i64 ca, .int .i64 cb]] w fun e w' => e = .returned (.bool true) ∧ Below w.heap.size w w' := by
  obtain ⟨b, e, hb⟩ := rfewS_f l0 bigK (by unfold bigK; omega)
  exact tells_calls A0 c0 l0 nm ca cb w hr0 hc0 b e (fun h => ⟨(hb h).small, (hb h).names⟩) (refHas_f bigK (by unfold bigK; omega) ca cb)
end Go.Proofs.Ytaigmfkgobklbaa.PC
