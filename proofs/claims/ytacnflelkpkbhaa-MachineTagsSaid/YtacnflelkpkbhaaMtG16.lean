/- Texts of this claim, those that nothing needs left out: Zn6. -/
import Derived.Test.YtacnflelkpkbhaaMtG15
import Derived.Test.YtacnflelkpkbhaaMtG5
section
namespace Go.Proofs.Ytacnflelkpkbhaa.PA
set_option linter.unusedSimpArgs false
set_option linter.unusedVariables false
open Go.RowKit Go.Proofs.YtacnflelkpkbhaaW.PrintWords Go.Proofs.YtacnflelkpkbhaaW.PrintLast
theorem foldl_pos {f : Nat × Nat → Nat} : ∀ (l : List (Nat × Nat)) (n : Nat), 0 < l.foldl (addW f) n ↔ 0 < n ∨ ∃ q ∈ l, 0 < f q
  | [], n => by simp
  | q :: r, n => by
    rw [List.foldl_cons, foldl_pos r]
    have : 0 < addW f n q ↔ 0 < n ∨ 0 < f q := by unfold addW; omega
    rw [this]
    constructor
    · rintro ((h | h) | ⟨x, hx, h⟩)
      · exact .inl h
      · exact .inr ⟨q, List.mem_cons_self .., h⟩
      · exact .inr ⟨x, List.mem_cons_of_mem _ hx, h⟩
    · rintro (h | ⟨x, hx, h⟩)
      · exact .inl (.inl h)
      · rcases List.mem_cons.1 hx with rfl | hx
        · exact .inl (.inr h)
        · exact .inr ⟨x, hx, h⟩
theorem pos_iff {m : List S33} {s : List UInt8} (hm : mayB m = true) {p : Nat × Nat} (hp : validP m s p) : 0 < waysOf m s p ↔ endsB m s p = true ∨ ∃ q ∈ nexts m s p, 0 < waysOf m s q := by
  rw [waysOf_eq hm hp, foldl_pos]
  have : 0 < (if endsB m s p = true then 1 else 0) ↔ endsB m s p = true := by split <;> simp_all
  rw [this]
theorem kind_of {m : List S33} (hm : mayB m = true) {i : Nat} (hi : i < m.length) : (m[i].f0 = 1 ∧ m[i].f2 = []) ∨ (m[i].f0 = 2 ∧ m[i].f1 = []) ∨ (m[i].f0 = 3 ∧ m[i].f1 = [] ∧ m[i].f2 = []) ∨ (m[i].f0 = 4 ∧ m[i].f1 = [] ∧ m[i].f2 = []) := by
  have hr := (mayB_iff.1 hm).2 i hi
  generalize m[i] = x at hr ⊢
  unfold rightB at hr
  by_cases c1 : x.f0 = 1
  · rw [if_pos c1] at hr; simp only [Bool.and_eq_true, List.isEmpty_iff] at hr; exact .inl ⟨c1, hr.1.1⟩
  rw [if_neg c1] at hr
  by_cases c2 : x.f0 = 2
  · rw [if_pos c2] at hr; simp only [Bool.and_eq_true, List.isEmpty_iff] at hr; exact .inr (.inl ⟨c2, hr.1.1⟩)
  rw [if_neg c2] at hr
  by_cases c3 : x.f0 = 3
  · rw [if_pos c3] at hr; simp only [Bool.and_eq_true, List.isEmpty_iff] at hr; exact .inr (.inr (.inl ⟨c3, hr.1.1, hr.1.2⟩))
  rw [if_neg c3] at hr
  by_cases c4 : x.f0 = 4
  · rw [if_pos c4] at hr; simp only [Bool.and_eq_true, List.isEmpty_iff] at hr; exact .inr (.inr (.inr ⟨c4, hr.1.1, hr.1.2⟩))
  rw [if_neg c4] at hr
  cases hr
theorem free_next {m : List S33} (hm : mayB m = true) (s : List UInt8) (p : Nat) {i : Nat} {t : Int} (ht : t ∈ frees m i) : (t.toNat, p) ∈ nexts m s (i, p) := by
  have hi : i < m.length := by have := frees_up hm ht; omega
  have hk := kind_of hm hi
  unfold frees at ht
  unfold nexts nextsN
  rw [show ((i, p) : Nat × Nat).1 = i from rfl, List.getElem?_eq_getElem hi]
  rw [List.getElem?_eq_getElem hi] at ht
  dsimp only at ht ⊢
  generalize m[i] = x at hk ht
  rcases hk with ⟨k, h2⟩ | ⟨k, h1⟩ | ⟨k, h1, h2⟩ | ⟨k, h1, h2⟩
  · rw [h2, if_neg (by omega)] at ht; cases ht
  · rw [if_neg (by omega), List.append_nil] at ht
    rw [if_neg (by omega), if_pos k]
    exact List.mem_map.2 ⟨t, ht, rfl⟩
  · rw [h2, if_pos k, List.nil_append, List.mem_singleton] at ht
    subst ht
    rw [if_pos k]
    exact List.mem_cons_self ..
  · rw [h2, if_neg (by omega)] at ht; cases ht
theorem edge_next {m : List S33} (hm : mayB m = true) (s : List UInt8) (p : Nat) {i : Nat} (hi : i < m.length) {e : S48} (he : e ∈ m[i].f1) (hs : stepE s p e = true) : (e.f2.toNat, p + 1) ∈ nexts m s (i, p) := by
  have hk := kind_of hm hi
  unfold nexts nextsN
  rw [show ((i, p) : Nat × Nat).1 = i from rfl, List.getElem?_eq_getElem hi]
  dsimp only
  generalize m[i] = x at hk he
  rcases hk with ⟨k, h2⟩ | ⟨k, h1⟩ | ⟨k, h1, h2⟩ | ⟨k, h1, h2⟩
  · rw [if_neg (by omega), if_neg (by omega), if_pos k]
    exact List.mem_map.2 ⟨e, List.mem_filter.2 ⟨he, hs⟩, rfl⟩
  all_goals (rw [h1] at he; cases he)
theorem next_of {m : List S33} (hm : mayB m = true) {s : List UInt8} {p i : Nat} (hi : i < m.length) {q : Nat × Nat} (hq : q ∈ nexts m s (i, p)) : (∃ t ∈ frees m i, 0 ≤ t ∧ q = (t.toNat, p)) ∨ ∃ e ∈ m[i].f1, stepE s p e = true ∧ q = (e.f2.toNat, p + 1) := by
  have hk := kind_of hm hi
  have hfr : frees m i = m[i].f2 ++ (if m[i].f0 = 3 then [m[i].f4] else []) := by unfold frees; rw [List.getElem?_eq_getElem hi]
  have hup : ∀ t ∈ frees m i, 0 ≤ t := fun t ht => by have := frees_up hm ht; omega
  rw [hfr] at hup
  rw [hfr]
  unfold nexts nextsN at hq
  rw [show ((i, p) : Nat × Nat).1 = i from rfl, List.getElem?_eq_getElem hi] at hq
  dsimp only at hq
  generalize m[i] = x at hk hq hup
  rcases hk with ⟨k, h2⟩ | ⟨k, h1⟩ | ⟨k, h1, h2⟩ | ⟨k, h1, h2⟩
  · rw [if_neg (by omega), if_neg (by omega), if_pos k] at hq
    obtain ⟨e, he, rfl⟩ := List.mem_map.1 hq
    exact .inr ⟨e, (List.mem_filter.1 he).1, (List.mem_filter.1 he).2, rfl⟩
  · rw [if_neg (by omega), if_pos k] at hq
    obtain ⟨t, ht, rfl⟩ := List.mem_map.1 hq
    exact .inl ⟨t, List.mem_append_left _ ht, hup t (List.mem_append_left _ ht), rfl⟩
  · rw [if_pos k, List.mem_singleton] at hq
    have hmem : x.f4 ∈ x.f2 ++ (if x.f0 = 3 then [x.f4] else []) := by rw [if_pos k]; simp
    exact .inl ⟨x.f4, hmem, hup _ hmem, hq⟩
  · rw [if_neg (by omega), if_neg (by omega), if_neg (by omega)] at hq
    cases hq
theorem ends_iff {m : List S33} {s : List UInt8} {p i : Nat} : endsB m s (i, p) = true ↔ isEnd m (i : Int) = true ∧ p = s.length := by
  unfold endsB isEnd
  rw [show ((i, p) : Nat × Nat).1 = i from rfl, Int.toNat_natCast]
  cases m[i]? with
  | none => simp
  | some n => simp
theorem reach_pos {m : List S33} (hm : mayB m = true) {s : List UInt8} {p : Nat} (hp : p ≤ s.length) {i x : Nat} (h : Reach m i x) : 0 < waysOf m s (x, p) → 0 < waysOf m s (i, p) := by
  induction h with
  | refl i hi => exact id
  | step i t x ht h0 hr ih =>
    intro hx
    have hi : i < m.length := by have := frees_up hm ht; omega
    exact (pos_iff hm (p := (i, p)) ⟨hi, hp⟩).2 (.inr ⟨_, free_next hm s p ht, ih hx⟩)
theorem pos_reach {m : List S33} (hm : mayB m = true) {s : List UInt8} {p : Nat} (hp : p ≤ s.length) (d : Nat) : ∀ i, m.length ≤ i + d → i < m.length → 0 < waysOf m s (i, p) → ∃ x, Reach m i x ∧ ((isEnd m (x : Int) = true ∧ p = s.length) ∨ ∃ (hx : x < m.length) (e : S48), e ∈ m[x].f1 ∧ stepE s p e = true ∧ 0 < waysOf m s (e.f2.toNat, p + 1)) := by
  induction d with
  | zero => intro i h hi; omega
  | succ d ih =>
    intro i hd hi hw
    rcases (pos_iff hm (p := (i, p)) ⟨hi, hp⟩).1 hw with h | ⟨q, hq, hqw⟩
    · exact ⟨i, Reach.refl i hi, .inl (ends_iff.1 h)⟩
    · rcases next_of hm hi hq with ⟨t, ht, h0, rfl⟩ | ⟨e, he, hs, rfl⟩
      · obtain ⟨u1, u2⟩ := frees_up hm ht
        obtain ⟨x, hx, h⟩ := ih t.toNat (by omega) (by omega) hqw
        exact ⟨x, Reach.step i t x ht h0 hx, h⟩
      · exact ⟨i, Reach.refl i hi, .inr ⟨hi, e, he, hs, hqw⟩⟩
def Stt (m : List S33) (ts : List Int) : Prop := ∃ us, ts = listF (addAll m [] us)
theorem Stt.mem {m : List S33} (hm : mayB m = true) {us : List Int} {i : Nat} : (i : Int) ∈ listF (addAll m [] us) ↔ ∃ t ∈ us, 0 ≤ t ∧ t < (m.length : Int) ∧ Reach m t.toNat i := by
  obtain ⟨_, _, h⟩ := addAll_nil hm us
  rw [listF_mem, ← h i]
  exact ⟨fun ⟨j, hj, e⟩ => by obtain rfl : j = i := by omega
                              exact hj, fun hi => ⟨i, hi, rfl⟩⟩
theorem Stt.reach {m : List S33} (hm : mayB m = true) {ts : List Int} (h : Stt m ts) {i x : Nat} (hi : (i : Int) ∈ ts) (hr : Reach m i x) : (x : Int) ∈ ts := by
  obtain ⟨us, rfl⟩ := h
  obtain ⟨_, hc, _⟩ := addAll_nil hm us
  obtain ⟨j, hj, e⟩ := listF_mem.1 hi
  obtain rfl : j = i := by omega
  exact listF_mem.2 ⟨x, hc.reach hm hr (Nat.zero_le _) hj, rfl⟩
theorem stepE_match {s : List UInt8} {p : Nat} (hp : p < s.length) (e : S48) : stepE s p e = matchE ((s[p].toNat : Nat) : Int) e := by
  unfold stepE matchE
  rw [List.getElem?_eq_getElem hp]
theorem stepS_mem {m : List S33} (hm : mayB m = true) {ts : List Int} (hts : ∀ t ∈ ts, 0 ≤ t ∧ t < (m.length : Int)) {c : UInt8} {y : Nat} : (y : Int) ∈ stepS m ts c ↔ ∃ (x : Nat) (hx : x < m.length) (e : S48), (x : Int) ∈ ts ∧ e ∈ m[x].f1 ∧ matchE ((c.toNat : Nat) : Int) e = true ∧ Reach m e.f2.toNat y := by
  unfold stepS
  rw [Stt.mem hm]
  constructor
  · rintro ⟨t, ht, h0, h1, hr⟩
    obtain ⟨u, hu, htu⟩ := List.mem_flatMap.1 ht
    obtain ⟨u0, u1⟩ := hts u hu
    obtain ⟨x, rfl⟩ := Int.eq_ofNat_of_zero_le u0
    have hx : x < m.length := by omega
    unfold stepT at htu
    rw [if_pos ⟨u0, u1⟩, Int.toNat_natCast, List.getElem?_eq_getElem hx] at htu
    obtain ⟨e, he, rfl⟩ := List.mem_map.1 htu
    exact ⟨x, hx, e, hu, (List.mem_filter.1 he).1, (List.mem_filter.1 he).2, hr⟩
  · rintro ⟨x, hx, e, hxt, he, hmt, hr⟩
    obtain ⟨e0, e1⟩ := edge_leads hm hx he
    refine ⟨e.f2, List.mem_flatMap.2 ⟨(x : Int), hxt, ?_⟩, e0, e1, hr⟩
    unfold stepT
    rw [if_pos (by omega), Int.toNat_natCast, List.getElem?_eq_getElem hx]
    exact List.mem_map.2 ⟨e, List.mem_filter.2 ⟨he, hmt⟩, rfl⟩
theorem state_stt {m : List S33} (s : List UInt8) : Stt m (stateOf m s) := by
  have key : ∀ (s : List UInt8) (ts : List Int), Stt m ts → Stt m (s.foldl (stepS m) ts) := by
    intro s
    induction s with
    | nil => intro ts h; exact h
    | cons c r ih => intro ts _; exact ih _ ⟨_, rfl⟩
  exact key s _ ⟨_, rfl⟩
theorem state_snoc {m : List S33} (s : List UInt8) (p : Nat) (hp : p < s.length) : stateOf m (s.take (p + 1)) = stepS m (stateOf m (s.take p)) s[p] := by
  unfold stateOf
  rw [List.take_succ_eq_append_getElem hp, List.foldl_append]
  rfl
theorem state_pos {m : List S33} (hm : mayB m = true) (s : List UInt8) : ∀ p, p ≤ s.length → ((∃ x : Nat, (x : Int) ∈ stateOf m (s.take p) ∧ 0 < waysOf m s (x, p)) ↔ 0 < waysOf m s (0, 0)) := by
  have h0 : 0 < m.length := by have := (mayB_iff.1 hm).1.1; omega
  intro p
  induction p with
  | zero =>
    intro _
    have hst : stateOf m (s.take 0) = listF (addAll m [] [0]) := rfl
    rw [hst]
    constructor
    · rintro ⟨x, hx, hw⟩
      obtain ⟨t, ht, _, _, hr⟩ := (Stt.mem hm).1 hx
      rw [List.mem_singleton] at ht
      subst ht
      exact reach_pos hm (Nat.zero_le _) hr hw
    · intro hw
      exact ⟨0, (Stt.mem hm).2 ⟨0, by simp, by omega, by omega, Reach.refl 0 h0⟩, hw⟩
  | succ p ih =>
    intro hp
    have hpl : p < s.length := by omega
    obtain ⟨_, hts⟩ := state_ok hm (s.take p)
    rw [← ih (by omega), state_snoc s p hpl]
    constructor
    · rintro ⟨y, hy, hw⟩
      obtain ⟨x, hx, e, hxt, he, hmt, hr⟩ := (stepS_mem hm hts).1 hy
      refine ⟨x, hxt, (pos_iff hm (p := (x, p)) ⟨hx, by show p ≤ _; omega⟩).2 (.inr ⟨_, edge_next hm s p hx he (by rw [stepE_match hpl]; exact hmt), reach_pos hm hp hr hw⟩)⟩
    · rintro ⟨x, hx, hw⟩
      obtain ⟨x0, x1⟩ := hts _ hx
      obtain ⟨z, hz, h⟩ := pos_reach hm (show p ≤ s.length by omega) m.length x (by omega) (by omega) hw
      have hzs := (state_stt (s.take p)).reach hm hx hz
      rcases h with ⟨_, h⟩ | ⟨hzl, e, he, hs, hwe⟩
      · omega
      · rw [stepE_match hpl] at hs
        obtain ⟨e0, e1⟩ := edge_leads hm hzl he
        exact ⟨e.f2.toNat, (stepS_mem hm hts).2 ⟨z, hzl, e, hzs, he, hs, Reach.refl _ (by omega)⟩, hwe⟩
theorem accepts_ways {m : List S33} (s : List UInt8) (hm : mayB m = true) : acceptsB m s = decide (0 < waysOf m s (0, 0)) := by
  unfold acceptsB
  rw [hm, Bool.true_and, Bool.eq_iff_iff, decide_eq_true_eq, ← state_pos hm s s.length (Nat.le_refl _), List.take_length, List.any_eq_true]
  obtain ⟨_, hts⟩ := state_ok hm s
  constructor
  · rintro ⟨t, ht, he⟩
    obtain ⟨t0, t1⟩ := hts t ht
    obtain ⟨x, rfl⟩ := Int.eq_ofNat_of_zero_le t0
    exact ⟨x, ht, (pos_iff hm (p := (x, s.length)) ⟨by show x < _; omega, Nat.le_refl _⟩).2 (.inl (ends_iff.2 ⟨he, rfl⟩))⟩
  · rintro ⟨x, hx, hw⟩
    obtain ⟨x0, x1⟩ := hts _ hx
    obtain ⟨z, hz, h⟩ := pos_reach hm (Nat.le_refl _) m.length x (by omega) (by omega) hw
    have hzs := (state_stt s).reach hm hx hz
    rcases h with ⟨h, _⟩ | ⟨hzl, e, he, hs, hwe⟩
    · exact ⟨_, hzs, h⟩
    · unfold stepE at hs
      rw [List.getElem?_eq_none (Nat.le_refl _)] at hs
      cases hs
end Go.Proofs.Ytacnflelkpkbhaa.PA
end
