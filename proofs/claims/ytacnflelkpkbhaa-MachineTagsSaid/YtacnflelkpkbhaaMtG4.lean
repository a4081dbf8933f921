/- Texts of this claim, those that nothing needs left out: Zn1. -/
import Derived.Test.YtacnflelkpkbhaaMtG3
section
namespace Go.Proofs.Ytacnflelkpkbhaa.PA
set_option linter.unusedSimpArgs false
set_option linter.unusedVariables false
open Go.RowKit Go.Proofs.YtacnflelkpkbhaaW.PrintWords Go.Proofs.YtacnflelkpkbhaaW.PrintLast
def frees (m : List S33) (i : Nat) : List Int := match m[i]? with
  | some n => n.f2 ++ (if n.f0 = 3 then [n.f4] else [])
  | none => []
def addF (m : List S33) : Nat → List Nat → Int → List Nat
  | 0, L, _ => L
  | d + 1, L, at_ => if 0 ≤ at_ ∧ at_ < (m.length : Int) ∧ at_.toNat ∉ L then (frees m at_.toNat).foldl (addF m d) (at_.toNat :: L) else L
inductive Reach (m : List S33) : Nat → Nat → Prop
  | refl (i : Nat) (h : i < m.length) : Reach m i i
  | step (i : Nat) (t : Int) (x : Nat) (ht : t ∈ frees m i) (h0 : 0 ≤ t) (h : Reach m t.toNat x) : Reach m i x
theorem Reach.lt {m : List S33} {i x : Nat} (h : Reach m i x) : x < m.length := by
  induction h with
  | refl i h => exact h
  | step i t x ht h0 h ih => exact ih
theorem frees_up {m : List S33} (hm : mayB m = true) {i : Nat} {t : Int} (ht : t ∈ frees m i) : (i : Int) < t ∧ t < (m.length : Int) := by
  unfold frees at ht
  cases hn : m[i]? with
  | none => rw [hn] at ht; cases ht
  | some n =>
    rw [hn] at ht
    obtain ⟨hi, rfl⟩ := List.getElem?_eq_some_iff.1 hn
    have hr := (mayB_iff.1 hm).2 i hi
    dsimp only at ht
    generalize m[i] = n at hr ht
    unfold rightB at hr
    by_cases c1 : n.f0 = 1
    · rw [if_pos c1] at hr
      simp only [Bool.and_eq_true, List.isEmpty_iff] at hr
      rw [hr.1.1, if_neg (by omega)] at ht
      cases ht
    rw [if_neg c1] at hr
    by_cases c2 : n.f0 = 2
    · rw [if_pos c2] at hr
      simp only [Bool.and_eq_true, List.all_eq_true, decide_eq_true_eq] at hr
      rw [if_neg (by omega), List.append_nil] at ht
      exact hr.2 t ht
    rw [if_neg c2] at hr
    by_cases c3 : n.f0 = 3
    · rw [if_pos c3] at hr
      simp only [Bool.and_eq_true, List.isEmpty_iff, decide_eq_true_eq] at hr
      rw [hr.1.2, if_pos c3, List.nil_append, List.mem_singleton] at ht
      rw [ht]
      exact hr.2
    rw [if_neg c3] at hr ht
    by_cases c4 : n.f0 = 4
    · rw [if_pos c4] at hr
      simp only [Bool.and_eq_true, List.isEmpty_iff] at hr
      rw [hr.1.2] at ht
      cases ht
    rw [if_neg c4] at hr
    cases hr
theorem Reach.le {m : List S33} (hm : mayB m = true) {i x : Nat} (h : Reach m i x) : i ≤ x := by
  induction h with
  | refl i h => exact Nat.le_refl _
  | step i t x ht h0 h ih => have := frees_up hm ht; omega
def CL (m : List S33) (k : Nat) (L : List Nat) : Prop := ∀ y ∈ L, k ≤ y → ∀ t ∈ frees m y, t.toNat ∈ L
def okL (m : List S33) (L : List Nat) : Prop := L.Nodup ∧ ∀ i ∈ L, i < m.length
theorem CL.reach {m : List S33} (hm : mayB m = true) {k : Nat} {L : List Nat} (h : CL m k L) {i x : Nat} (hr : Reach m i x) (hk : k ≤ i) (hi : i ∈ L) : x ∈ L := by
  induction hr with
  | refl i _ => exact hi
  | step i t x ht h0 _ ih =>
    have := frees_up hm ht
    exact ih (by omega) (h i hi hk t ht)
theorem nodup_le : ∀ (n : Nat) (L : List Nat), L.Nodup → (∀ i ∈ L, i < n) → L.length ≤ n
  | 0, [], _, _ => Nat.le_refl _
  | 0, i :: r, _, h => absurd (h i (List.mem_cons_self ..)) (Nat.not_lt_zero _)
  | n + 1, L, hd, h => by
    by_cases hn : n ∈ L
    · have h1 := nodup_le n (L.erase n) (hd.erase n) (fun i hi => by
        have h2 := hd.mem_erase_iff.1 hi
        have := h i h2.2
        omega)
      have h3 := List.length_erase_of_mem hn
      have h4 := List.length_pos_of_mem hn
      omega
    · have h1 := nodup_le n L hd (fun i hi => by
        have h2 := h i hi
        rcases Nat.eq_or_lt_of_le (Nat.le_of_lt_succ h2) with h3 | h3
        · exact absurd (h3 ▸ hi) hn
        · exact h3)
      omega
theorem okL.len {m : List S33} {L : List Nat} (h : okL m L) : L.length ≤ m.length := by
  exact nodup_le m.length L h.1 h.2
theorem addF_spec {m : List S33} (hm : mayB m = true) : ∀ (d : Nat) (L : List Nat) (at_ : Int), m.length ≤ at_.toNat + d → okL m L → CL m at_.toNat L →
    okL m (addF m d L at_) ∧ CL m at_.toNat (addF m d L at_) ∧ (∀ y ∈ L, y ∈ addF m d L at_) ∧ (∀ y ∈ addF m d L at_, y ∈ L ∨ (0 ≤ at_ ∧ Reach m at_.toNat y)) ∧ (0 ≤ at_ → at_ < (m.length : Int) → at_.toNat ∈ addF m d L at_) := by
  intro d
  induction d with
  | zero =>
    intro L at_ hd ho hc
    exact ⟨ho, hc, fun y h => h, fun y h => .inl h, fun h0 h1 => by omega⟩
  | succ d ih =>
    intro L at_ hd ho hc
    unfold addF
    by_cases hg : 0 ≤ at_ ∧ at_ < (m.length : Int) ∧ at_.toNat ∉ L
    · rw [if_pos hg]
      obtain ⟨h0, h1, h2⟩ := hg
      obtain ⟨i, rfl⟩ := Int.eq_ofNat_of_zero_le h0
      rw [Int.toNat_natCast] at *
      have key : ∀ (F : List Int) (R : List Nat), (∀ t ∈ F, t ∈ frees m i) → okL m R → CL m (i + 1) R → (∀ y ∈ i :: L, y ∈ R) → (∀ y ∈ R, y ∈ L ∨ Reach m i y) →
          okL m (F.foldl (addF m d) R) ∧ CL m (i + 1) (F.foldl (addF m d) R) ∧ (∀ y ∈ R, y ∈ F.foldl (addF m d) R) ∧ (∀ y ∈ F.foldl (addF m d) R, y ∈ L ∨ Reach m i y) ∧ (∀ t ∈ F, t.toNat ∈ F.foldl (addF m d) R) := by
        intro F
        induction F with
        | nil => intro R _ a b _ e; exact ⟨a, b, fun y h => h, e, fun t h => by cases h⟩
        | cons t F ihF =>
          intro R hF a b c e
          rw [List.foldl_cons]
          obtain ⟨u1, u2⟩ := frees_up hm (hF t (List.mem_cons_self ..))
          obtain ⟨a1, a2, a3, a4, a5⟩ := ih R t (by omega) a (fun y hy hk => b y hy (by omega))
          have b1 : CL m (i + 1) (addF m d R t) := by
            intro y hy hk z hz
            rcases a4 y hy with h | ⟨_, h⟩
            · exact a3 _ (b y h hk z hz)
            · exact a2 y hy (h.le hm) z hz
          obtain ⟨r1, r2, r3, r4, r5⟩ := ihF (addF m d R t) (fun x hx => hF x (List.mem_cons_of_mem _ hx)) a1 b1 (fun y hy => a3 y (c y hy)) (fun y hy => by
            rcases a4 y hy with h | ⟨h6, h⟩
            · exact e y h
            · exact .inr (Reach.step i t y (hF t (List.mem_cons_self ..)) h6 h))
          exact ⟨r1, r2, fun y hy => r3 y (a3 y hy), r4, fun x hx => by
            rcases List.mem_cons.1 hx with rfl | hx
            · exact r3 _ (a5 (by omega) (by omega))
            · exact r5 x hx⟩
      have hin : i < m.length := by omega
      obtain ⟨r1, r2, r3, r4, r5⟩ := key (frees m i) (i :: L) (fun t h => h) ⟨List.nodup_cons.2 ⟨h2, ho.1⟩, fun y hy => by rcases List.mem_cons.1 hy with rfl | hy; exact hin; exact ho.2 y hy⟩
        (fun y hy hk z hz => by
          rcases List.mem_cons.1 hy with rfl | hy
          · omega
          · exact List.mem_cons_of_mem _ (hc y hy (by omega) z hz)) (fun y hy => hy) (fun y hy => by
          rcases List.mem_cons.1 hy with rfl | hy
          · exact .inr (Reach.refl _ hin)
          · exact .inl hy)
      refine ⟨r1, fun y hy hk z hz => ?_, fun y hy => r3 y (List.mem_cons_of_mem _ hy), fun y hy => (r4 y hy).imp id fun h => ⟨h0, h⟩, fun _ _ => r3 i (List.mem_cons_self ..)⟩
      rcases Nat.eq_or_lt_of_le hk with h | h
      · subst h; exact r5 z hz
      · exact r2 y hy h z hz
    · rw [if_neg hg]
      exact ⟨ho, hc, fun y h => h, fun y h => .inl h, fun h0 h1 => by
        by_cases h2 : at_.toNat ∈ L
        · exact h2
        · exact absurd ⟨h0, h1, h2⟩ hg⟩
def addAll (m : List S33) (L : List Nat) (at_ : List Int) : List Nat := at_.foldl (addF m m.length) L
theorem addAll_spec {m : List S33} (hm : mayB m = true) : ∀ (at_ : List Int) (L : List Nat), okL m L → CL m 0 L →
    okL m (addAll m L at_) ∧ CL m 0 (addAll m L at_) ∧ ∀ y, y ∈ addAll m L at_ ↔ y ∈ L ∨ ∃ t ∈ at_, 0 ≤ t ∧ t < (m.length : Int) ∧ Reach m t.toNat y
  | [], L, ho, hc => ⟨ho, hc, fun y => by simp [addAll]⟩
  | t :: r, L, ho, hc => by
    obtain ⟨a1, a2, a3, a4, a5⟩ := addF_spec hm m.length L t (by omega) ho (fun y hy _ => hc y hy (Nat.zero_le _))
    have b1 : CL m 0 (addF m m.length L t) := fun y hy _ z hz => by
      rcases a4 y hy with h | ⟨_, h⟩
      · exact a3 _ (hc y h (Nat.zero_le _) z hz)
      · exact a2 y hy (h.le hm) z hz
    obtain ⟨r1, r2, r3⟩ := addAll_spec hm r (addF m m.length L t) a1 b1
    refine ⟨r1, r2, fun y => ?_⟩
    have : addAll m L (t :: r) = addAll m (addF m m.length L t) r := rfl
    rw [this, r3 y]
    constructor
    · rintro (h | ⟨x, hx, h⟩)
      · rcases a4 y h with h | ⟨h0, h⟩
        · exact .inl h
        · by_cases hl : t < (m.length : Int)
          · exact .inr ⟨t, List.mem_cons_self .., h0, hl, h⟩
          · have := h.le hm
            have := h.lt
            omega
      · exact .inr ⟨x, List.mem_cons_of_mem _ hx, h⟩
    · rintro (h | ⟨x, hx, h0, h1, h⟩)
      · exact .inl (a3 y h)
      · rcases List.mem_cons.1 hx with rfl | hx
        · exact .inl (b1.reach hm h (Nat.zero_le _) (a5 h0 h1))
        · exact .inr ⟨x, hx, h0, h1, h⟩
end Go.Proofs.Ytacnflelkpkbhaa.PA
end
