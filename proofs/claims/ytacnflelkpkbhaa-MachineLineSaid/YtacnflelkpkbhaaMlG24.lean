/- Texts of this claim, those that nothing needs left out: Zo8. -/
import Derived.Test.YtacnflelkpkbhaaMlG23
section
namespace Go.Proofs.Ytacnflelkpkbhaa.PA
set_option linter.unusedSimpArgs false
set_option linter.unusedVariables false
open Go.RowKit Go.Proofs.YtacnflelkpkbhaaW.PrintWords Go.Proofs.YtacnflelkpkbhaaW.PrintLast
theorem line_at {s : List UInt8} {i : Nat} (h : i < s.length) : (lineM s)[i]? = some (eatN s i) := by
  unfold lineM
  rw [List.getElem?_append_left (by simpa using h), List.getElem?_map, List.getElem?_range h]
  rfl
theorem line_end (s : List UInt8) : (lineM s)[s.length]? = some ⟨4, [], [], 0, 0⟩ := by
  unfold lineM
  rw [List.getElem?_append_right (by simp)]
  simp
theorem line_ok (s : List UInt8) : okM (lineM s) := by
  intro n hn
  unfold lineM at hn
  rcases List.mem_append.1 hn with h | h
  · obtain ⟨i, _, rfl⟩ := List.mem_map.1 h
    have := (s.getD i 0).toNat_lt
    refine ⟨by simp [eatN], by simp [eatN], fun e he => ?_⟩
    simp only [eatN, List.mem_singleton] at he
    subst he
    dsimp only
    omega
  · simp only [List.mem_cons, List.not_mem_nil, or_false] at h
    subst h
    simp
theorem line_may (s : List UInt8) (h : s.length ≤ 1000) : mayB (lineM s) = true := by
  refine mayB_iff.2 ⟨by rw [line_len]; omega, fun i hi => ?_⟩
  have hl := line_len s
  rcases Nat.lt_or_ge i s.length with h1 | h1
  · have h2 : (lineM s)[i] = eatN s i := by
      have := line_at h1
      rw [List.getElem?_eq_getElem hi] at this
      exact Option.some.inj this
    rw [h2]
    unfold rightB eatN
    dsimp only
    rw [if_pos rfl]
    simp only [List.isEmpty_nil, decide_true, Bool.true_and, eatsB, List.all_nil, Bool.and_true, okE, Bool.and_eq_true, decide_eq_true_eq]
    omega
  · have h3 : i = s.length := by omega
    subst h3
    have h2 : (lineM s)[s.length] = ⟨4, [], [], 0, 0⟩ := by
      have := line_end s
      rw [List.getElem?_eq_getElem hi] at this
      exact Option.some.inj this
    rw [h2]
    rfl
theorem line_frees (s : List UInt8) (i : Nat) : frees (lineM s) i = [] := by
  unfold frees
  rcases Nat.lt_trichotomy i s.length with h | h | h
  · rw [line_at h]; rfl
  · subst h; rw [line_end]; rfl
  · rw [List.getElem?_eq_none (by rw [line_len]; omega)]
theorem line_reach {s : List UInt8} {i y : Nat} (h : Reach (lineM s) i y) : y = i := by
  cases h with
  | refl _ h => rfl
  | step _ t _ ht _ _ => rw [line_frees] at ht; cases ht
theorem line_state (s t : List UInt8) (h : s.length ≤ 1000) : ∀ p, p ≤ t.length → ∀ y : Nat, (y : Int) ∈ stateOf (lineM s) (t.take p) ↔ y = p ∧ p ≤ s.length ∧ s.take p = t.take p := by
  have hm := line_may s h
  have hl := line_len s
  intro p
  induction p with
  | zero =>
    intro _ y
    have hst : stateOf (lineM s) (t.take 0) = listF (addAll (lineM s) [] [0]) := rfl
    rw [hst, Stt.mem hm]
    constructor
    · rintro ⟨u, hu, _, _, hr⟩
      rw [List.mem_singleton] at hu
      subst hu
      exact ⟨line_reach hr, Nat.zero_le _, rfl⟩
    · rintro ⟨rfl, _, _⟩
      exact ⟨0, by simp, by omega, by omega, Reach.refl 0 (by omega)⟩
  | succ p ih =>
    intro hp y
    have hpl : p < t.length := by omega
    obtain ⟨_, hts⟩ := state_ok hm (t.take p)
    rw [state_snoc t p hpl, stepS_mem hm hts]
    constructor
    · rintro ⟨x, hx, e, hxt, he, hmt, hr⟩
      obtain ⟨rfl, h1, h2⟩ := (ih (by omega) x).1 hxt
      rcases Nat.lt_or_ge x s.length with h3 | h3
      · have h4 : (lineM s)[x] = eatN s x := by
          have := line_at h3
          rw [List.getElem?_eq_getElem hx] at this
          exact Option.some.inj this
        rw [h4] at he
        simp only [eatN, List.mem_singleton] at he
        subst he
        have hy := line_reach hr
        simp only [matchE, Bool.and_eq_true, decide_eq_true_eq] at hmt
        have hc : s[x] = t[x] := by
          rw [List.getD_eq_getElem?_getD, List.getElem?_eq_getElem h3] at hmt
          simp only [Option.getD_some] at hmt
          exact UInt8.toNat_inj.1 (by omega)
        refine ⟨by dsimp only at hy; omega, by omega, ?_⟩
        rw [List.take_succ_eq_append_getElem h3, List.take_succ_eq_append_getElem hpl, h2, hc]
      · have h5 : x = s.length := by omega
        have h4 : (lineM s)[x] = ⟨4, [], [], 0, 0⟩ := by
          have := line_end s
          rw [← h5, List.getElem?_eq_getElem hx] at this
          exact Option.some.inj this
        rw [h4] at he
        cases he
    · rintro ⟨rfl, h1, h2⟩
      have h3 : p < s.length := by omega
      rw [List.take_succ_eq_append_getElem h3, List.take_succ_eq_append_getElem hpl] at h2
      obtain ⟨h4, h5⟩ := List.append_inj' h2 rfl
      have hc : s[p] = t[p] := by simpa using h5
      have hx : p < (lineM s).length := by omega
      have h6 : (lineM s)[p] = eatN s p := by
        have := line_at h3
        rw [List.getElem?_eq_getElem hx] at this
        exact Option.some.inj this
      refine ⟨p, hx, ⟨((s.getD p 0).toNat : Int), ((s.getD p 0).toNat : Int), (p : Int) + 1⟩, (ih (by omega) p).2 ⟨rfl, by omega, h4⟩, by rw [h6]; simp [eatN], ?_, ?_⟩
      · simp only [matchE, Bool.and_eq_true, decide_eq_true_eq]
        rw [List.getD_eq_getElem?_getD, List.getElem?_eq_getElem h3]
        simp only [Option.getD_some]
        rw [hc]
        omega
      · have e : ((p : Int) + 1).toNat = p + 1 := by omega
        dsimp only
        rw [e]
        exact Reach.refl _ (by omega)
theorem line_accepts (s t : List UInt8) (h : s.length ≤ 1000) : acceptsB (lineM s) t = decide (s = t) := by
  have hm := line_may s h
  have hs := line_state s t h t.length (Nat.le_refl _)
  unfold acceptsB
  rw [hm, Bool.true_and, Bool.eq_iff_iff, decide_eq_true_eq, List.any_eq_true]
  rw [List.take_length] at hs
  obtain ⟨_, hts⟩ := state_ok hm t
  constructor
  · rintro ⟨u, hu, he⟩
    obtain ⟨y, rfl⟩ := Int.eq_ofNat_of_zero_le (hts u hu).1
    obtain ⟨rfl, h1, h2⟩ := (hs y).1 hu
    rcases Nat.lt_or_ge t.length s.length with h3 | h3
    · unfold isEnd at he
      rw [Int.toNat_natCast, line_at h3] at he
      cases he
    · rw [List.take_of_length_le h3] at h2
      exact h2
  · rintro rfl
    refine ⟨(s.length : Int), (hs s.length).2 ⟨rfl, Nat.le_refl _, List.take_length⟩, ?_⟩
    unfold isEnd
    rw [Int.toNat_natCast, line_end]
    rfl
theorem line_close (s : List UInt8) (h : s.length ≤ 1000) : (closeF (lineM s) [0]).length = 1 := by
  have hm := line_may s h
  have hl := line_len s
  rw [closeF_eq hm, listF_len]
  obtain ⟨o1, _, o3⟩ := addAll_nil hm [0]
  have h0 : ∀ y, y ∈ addAll (lineM s) [] [0] ↔ y = 0 := fun y => by
    rw [o3 y]
    constructor
    · rintro ⟨u, hu, _, _, hr⟩
      rw [List.mem_singleton] at hu
      subst hu
      exact line_reach hr
    · rintro rfl
      exact ⟨0, by simp, by omega, by omega, Reach.refl 0 (by omega)⟩
  have h1 := nodup_sub (M := [0]) o1.1 (fun x hx => by rw [(h0 x).1 hx]; simp)
  have h2 := List.length_pos_of_mem ((h0 0).2 rfl)
  simp only [List.length_singleton] at h1
  omega
end Go.Proofs.Ytacnflelkpkbhaa.PA
end
