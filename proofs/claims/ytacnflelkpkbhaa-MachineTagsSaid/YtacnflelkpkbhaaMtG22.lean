/- Texts of this claim, those that nothing needs left out: Zoa. -/
import Derived.Test.YtacnflelkpkbhaaMtG21
section
namespace Go.Proofs.Ytacnflelkpkbhaa.PA
set_option linter.unusedSimpArgs false
set_option linter.unusedVariables false
open Go.RowKit Go.Proofs.YtacnflelkpkbhaaW.PrintWords Go.Proofs.YtacnflelkpkbhaaW.PrintLast
def tagN (tag : Int) (x : S33) : S33 := ⟨x.f0, x.f1, x.f2, tag, x.f4⟩
def tagM (tag : Int) (m : List S33) : List S33 := m.map (tagN tag) ++ [⟨4, [], [], 0, 0⟩]
theorem tag_len (tag : Int) (m : List S33) : (tagM tag m).length = m.length + 1 := by simp [tagM]
theorem tag_at (tag : Int) {m : List S33} {i : Nat} (h : i < m.length) : (tagM tag m)[i]? = some (tagN tag m[i]) := by
  unfold tagM
  rw [List.getElem?_append_left (by simpa using h), List.getElem?_map, List.getElem?_eq_getElem h]
  rfl
theorem eats_more {many many' : Int} (h : many ≤ many') {l : List S48} (he : eatsB many l = true) : eatsB many' l = true := by
  obtain ⟨h1, h2⟩ := eatsB_iff.1 he
  refine eatsB_iff.2 ⟨fun e hx => ?_, h2⟩
  have := h1 e hx
  simp only [okE, Bool.and_eq_true, decide_eq_true_eq] at this ⊢
  omega
theorem right_more {many many' at_ tag : Int} (h : many ≤ many') {x : S33} (hr : rightB many at_ x = true) : rightB many' at_ (tagN tag x) = true := by
  unfold rightB tagN at *
  dsimp only
  by_cases c1 : x.f0 = 1
  · rw [if_pos c1] at hr ⊢
    simp only [Bool.and_eq_true] at hr ⊢
    exact ⟨hr.1, eats_more h hr.2⟩
  rw [if_neg c1] at hr ⊢
  by_cases c2 : x.f0 = 2
  · rw [if_pos c2] at hr ⊢
    simp only [Bool.and_eq_true, List.all_eq_true, decide_eq_true_eq] at hr ⊢
    exact ⟨hr.1, fun t ht => by have := hr.2 t ht; omega⟩
  rw [if_neg c2] at hr ⊢
  by_cases c3 : x.f0 = 3
  · rw [if_pos c3] at hr ⊢
    simp only [Bool.and_eq_true, decide_eq_true_eq] at hr ⊢
    exact ⟨hr.1, by omega⟩
  rw [if_neg c3] at hr ⊢
  exact hr
theorem tag_may (tag : Int) {m : List S33} (hm : mayB m = true) (hl : m.length ≤ 1000) : mayB (tagM tag m) = true := by
  refine mayB_iff.2 ⟨by rw [tag_len]; omega, fun i hi => ?_⟩
  have hlen := tag_len tag m
  rcases Nat.lt_or_ge i m.length with h | h
  · have h2 : (tagM tag m)[i] = tagN tag m[i] := by
      have := tag_at tag h
      rw [List.getElem?_eq_getElem hi] at this
      exact Option.some.inj this
    rw [h2]
    exact right_more (by omega) ((mayB_iff.1 hm).2 i h)
  · have h3 : i = m.length := by omega
    subst h3
    have h2 : (tagM tag m)[m.length] = ⟨4, [], [], 0, 0⟩ := by simp [tagM]
    rw [h2]
    rfl
theorem tag_ways (tag : Int) {m : List S33} (hm : mayB m = true) (hl : m.length ≤ 1000) (s : List UInt8) : ∀ (d i p : Nat), mu m s (i, p) ≤ d → i < m.length → p ≤ s.length → waysOf (tagM tag m) s (i, p) = waysOf m s (i, p) := by
  have hm' := tag_may tag hm hl
  intro d
  induction d with
  | zero => intro i p h hi hp; have := mu_pos (m := m) (s := s) (p := (i, p)) ⟨hi, hp⟩; omega
  | succ d ih =>
    intro i p h hi hp
    have hv : validP m s (i, p) := ⟨hi, hp⟩
    have hv' : validP (tagM tag m) s (i, p) := ⟨by show i < _; rw [tag_len]; omega, hp⟩
    have hn : nexts (tagM tag m) s (i, p) = nexts m s (i, p) := by
      unfold nexts
      rw [show ((i, p) : Nat × Nat).1 = i from rfl, tag_at tag hi, List.getElem?_eq_getElem hi]
      rfl
    have he : endsB (tagM tag m) s (i, p) = endsB m s (i, p) := by
      unfold endsB
      rw [show ((i, p) : Nat × Nat).1 = i from rfl, tag_at tag hi, List.getElem?_eq_getElem hi]
      rfl
    rw [waysOf_eq hm' hv', waysOf_eq hm hv, hn, he]
    refine foldl_addW_congr _ _ fun q hq => ?_
    obtain ⟨q1, q2, _⟩ := nexts_valid hm hv hq
    exact ih q.1 q.2 (Nat.le_of_lt_succ (Nat.lt_of_lt_of_le q2 h)) q1.1 q1.2
theorem tag_accepts (tag : Int) {m : List S33} (hm : mayB m = true) (hl : m.length ≤ 1000) (s : List UInt8) : acceptsB (tagM tag m) s = acceptsB m s := by
  have h0 : 0 < m.length := by have := (mayB_iff.1 hm).1.1; omega
  rw [accepts_ways s (tag_may tag hm hl), accepts_ways s hm, tag_ways tag hm hl s _ 0 0 (Nat.le_refl _) h0 (Nat.zero_le _)]
end Go.Proofs.Ytacnflelkpkbhaa.PA
end
