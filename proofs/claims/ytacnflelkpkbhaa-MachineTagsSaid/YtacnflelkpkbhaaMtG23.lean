/- Texts of this claim, those that nothing needs left out: Zob. -/
import Derived.Test.YtacnflelkpkbhaaMtG22
section
namespace Go.Proofs.Ytacnflelkpkbhaa.PA
set_option linter.unusedSimpArgs false
set_option linter.unusedVariables false
open Go.RowKit Go.Maps Go.Proofs.YtacnflelkpkbhaaW.PrintWords Go.Proofs.YtacnflelkpkbhaaW.PrintLast Go.Proofs.YtacnflelkpkbhaaW.PrintMore
theorem own_set {W : World} {base g cap n sz : Nat} {e : TypeId} {xs : List Value} (h : W.ownsRow base e sz (.slice (some ⟨g, 0, none⟩) n cap) n xs) (k : Nat) (hk : k < n * sz) (u : Value) :
    (W.setCell ⟨g, k, none⟩ u).ownsRow base e sz (.slice (some ⟨g, 0, none⟩) n cap) n (xs.set k u) := by
  obtain ⟨h1, h2⟩ := h
  refine ⟨by rw [List.length_set]; exact h1, ?_⟩
  rcases h2 with ⟨h2, _⟩ | ⟨g', cap', cur, hv, hg, hb, hc, hm, hs, ht⟩
  · cases h2
  · injection hv with hv1 hv2 hv3
    injection hv1 with hv1
    injection hv1 with hv4
    subst hv4
    subst hv3
    refine .inr ⟨g, cap, cur.setIfInBounds k u, rfl, hg, blk_put hb k u rfl, hc, hm, by rw [Array.size_setIfInBounds]; exact hs, ?_⟩
    rw [Array.toList_setIfInBounds, ← ht, List.take_set]
theorem reps_set {α : Type} {R : α → List Value → Prop} {sz : Nat} {l : List α} {cs : List Value} (h : Reps R sz l cs) (i j : Nat) (hi : i < l.length) (hj : j < sz) (u : Value) (x : α) (hx : R l[i] ((cs.drop (i * sz)).take sz) → R x (((cs.drop (i * sz)).take sz).set j u)) :
    Reps R sz (l.set i x) (cs.set (i * sz + j) u) := by
  refine ⟨by rw [List.length_set, List.length_set]; exact h.1, fun k p hp => ?_⟩
  have hkl : k < l.length := by
    have := (List.getElem?_eq_some_iff.1 hp).1
    rwa [List.length_set] at this
  by_cases hki : k = i
  · subst hki
    rw [List.getElem?_set_self hi] at hp
    obtain rfl := Option.some.inj hp
    have e1 : ((cs.set (k * sz + j) u).drop (k * sz)).take sz = ((cs.drop (k * sz)).take sz).set j u := by
      rw [List.drop_set, if_neg (by omega), List.take_set]
      congr 1
      omega
    rw [e1]
    exact hx (h.2 k _ (List.getElem?_eq_getElem hi))
  · rw [List.getElem?_set_ne (Ne.symm hki)] at hp
    have e1 : ((cs.set (i * sz + j) u).drop (k * sz)).take sz = (cs.drop (k * sz)).take sz := by
      apply List.ext_getElem?
      intro q
      rcases Nat.lt_or_ge q sz with hq | hq
      · rw [List.getElem?_take_of_lt hq, List.getElem?_take_of_lt hq, List.getElem?_drop, List.getElem?_drop, List.getElem?_set_ne]
        intro e
        rcases Nat.lt_or_gt_of_ne hki with h1 | h1
        · have : (k + 1) * sz ≤ i * sz := Nat.mul_le_mul_right _ h1
          rw [Nat.add_mul] at this
          omega
        · have : (i + 1) * sz ≤ k * sz := Nat.mul_le_mul_right _ h1
          rw [Nat.add_mul] at this
          omega
      · rw [List.getElem?_eq_none (by rw [List.length_take]; omega), List.getElem?_eq_none (by rw [List.length_take]; omega)]
    rw [e1]
    exact h.2 k p hp
end Go.Proofs.Ytacnflelkpkbhaa.PA
end
