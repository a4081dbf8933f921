/- Names of variables, and variables in expressions, by states: how far a text is a begin, and whether it is one. No program. -/
import Derived.Test.YthllgnephigfkaaDoorEtYn
namespace Go.Proofs.YthllgnephigfkaaDoor.Y
set_option linter.unusedSimpArgs false
set_option linter.unusedVariables false
open Go.RowKit
def bs (s : ByteArray) : List Int := s.data.toList.map fun b => (b.toNat : Int)
theorem bs_length (s : ByteArray) : (bs s).length = s.size := by unfold bs; simp
theorem bs_append (s t : ByteArray) : bs (s ++ t) = bs s ++ bs t := by unfold bs; simp
theorem bs_drop (s : ByteArray) (a : Nat) (h : a < s.size) : (bs s).drop a = bI s a :: (bs s).drop (a + 1) := by
  have hl : a < (bs s).length := by rw [bs_length]; exact h
  rw [List.drop_eq_getElem_cons hl]
  have e : ∀ (l : List Int) (h' : a < l.length), l = s.data.toList.map (fun b => (b.toNat : Int)) → l[a] = bI s a := by
    rintro l h' rfl
    rw [List.getElem_map, bI_at s a h]
    rfl
  rw [e (bs s) hl rfl]
theorem bs_out (s : ByteArray) (a : Nat) (h : s.size ≤ a) : (bs s).drop a = [] := List.drop_eq_nil_iff.2 (by rw [bs_length]; exact h)
theorem bs_inj {s t : ByteArray} (h : bs s = bs t) : s = t := by
  unfold bs at h
  have h2 : s.data.toList = t.data.toList := by
    refine List.map_inj_right ?_ |>.1 h
    intro a b hab
    exact UInt8.toNat_inj.1 (by exact_mod_cast hab)
  cases s; cases t; simp at h2; simp [h2]
theorem bs_take (s : ByteArray) (n : Nat) : bs (s.extract 0 n) = (bs s).take n := by
  unfold bs
  rw [ByteArray.data_extract, Array.toList_extract, ← List.map_take]
  simp [List.extract]
theorem bs_extract (s : ByteArray) (n : Nat) : bs (s.extract n s.size) = (bs s).drop n := by
  unfold bs
  rw [ByteArray.data_extract, Array.toList_extract, ← List.map_drop]
  simp only [List.extract]
  rw [List.take_of_length_le (by simp)]
def nS (q : Nat) (c : Int) : Nat :=
  if q = 3 then (if isHex c = true then 4 else 5) else if q = 4 then (if isHex c = true then 1 else 5) else
  if q ≤ 2 then (if isWord c = true then 1 else if c = 37 then 3 else if c = 46 ∧ q = 1 then 2 else 5) else 5
def liveL (d : Nat → Int → Nat) : Nat → List Int → Nat
  | _, [] => 0
  | q, c :: l => if d q c = 5 then 0 else liveL d (d q c) l + 1
def lastL (d : Nat → Int → Nat) : Nat → List Int → Nat → Nat → Nat
  | _, [], _, e => e
  | q, c :: l, a, e => if d q c = 5 then e else lastL d (d q c) l (a + 1) (if d q c = 1 then a + 1 else e)
def finL (d : Nat → Int → Nat) (q : Nat) (l : List Int) : Nat := l.foldl d q
theorem nS_word {q : Nat} {c : Int} (hq : q ≤ 2) (h : isWord c = true) : nS q c = 1 := by
  unfold nS; rw [if_neg (by omega), if_neg (by omega), if_pos hq, if_pos h]
theorem nS_pct {q : Nat} (hq : q ≤ 2) : nS q 37 = 3 := by
  unfold nS; rw [if_neg (by omega), if_neg (by omega), if_pos hq, if_neg (by decide), if_pos rfl]
theorem nS_point : nS 1 46 = 2 := by decide
theorem nS_no {q : Nat} {c : Int} (hq : q ≤ 2) (h : ¬ isWord c = true) (h1 : c ≠ 37) (h2 : ¬ (c = 46 ∧ q = 1)) : nS q c = 5 := by
  unfold nS; rw [if_neg (by omega), if_neg (by omega), if_pos hq, if_neg h, if_neg h1, if_neg h2]
theorem nS_h3 {c : Int} (h : isHex c = true) : nS 3 c = 4 := by unfold nS; rw [if_pos rfl, if_pos h]
theorem nS_h4 {c : Int} (h : isHex c = true) : nS 4 c = 1 := by unfold nS; rw [if_neg (by decide), if_pos rfl, if_pos h]
theorem nS_n3 {c : Int} (h : ¬ isHex c = true) : nS 3 c = 5 := by unfold nS; rw [if_pos rfl, if_neg h]
theorem nS_n4 {c : Int} (h : ¬ isHex c = true) : nS 4 c = 5 := by unfold nS; rw [if_neg (by decide), if_pos rfl, if_neg h]
theorem nS_dead (c : Int) : nS 5 c = 5 := by unfold nS; simp
theorem nS_le (q : Nat) (c : Int) : nS q c ≤ 5 := by
  unfold nS
  repeat' split
  all_goals omega
def AtS (q a e : Nat) : Prop := (q = 0 ∧ a = 0 ∧ e = 0) ∨ (q = 1 ∧ 0 < a ∧ e = a) ∨ (q = 2 ∧ 0 < a ∧ e < a)
theorem endsN_run (s : ByteArray) (f : Nat) : ∀ a e q, s.size ≤ a + f → a ≤ s.size → AtS q a e → endsN s f a e = (a + liveL nS q ((bs s).drop a), lastL nS q ((bs s).drop a) a e) := by
  induction f with
  | zero => intro a e q hf ha _; rw [bs_out s a (by omega)]; rfl
  | succ f ih =>
    intro a e q hf ha hq
    by_cases hlt : a < s.size
    · have hq2 : q ≤ 2 := by rcases hq with h | h | h <;> omega
      rw [endsN_in s f a e hlt, bs_drop s a hlt]
      by_cases hw : isWord (bI s a) = true
      · rw [if_pos hw, ih (a + 1) (a + 1) 1 (by omega) (by omega) (.inr (.inl ⟨rfl, by omega, rfl⟩))]
        simp only [liveL, lastL, nS_word hq2 hw]
        simp; omega
      rw [if_neg hw]
      by_cases hp : bI s a = 46 ∧ 0 < a ∧ a = e
      · have h1 : q = 1 := by rcases hq with h | h | h <;> omega
        subst h1
        rw [if_pos hp, ih (a + 1) e 2 (by omega) (by omega) (.inr (.inr ⟨rfl, by omega, by omega⟩)), hp.1]
        simp only [liveL, lastL, nS_point]
        simp; omega
      rw [if_neg hp]
      by_cases ht : tri s a = true
      · have hin := tri_in ht
        unfold tri at ht
        simp only [Bool.and_eq_true, decide_eq_true_eq, beq_iff_eq] at ht
        obtain ⟨⟨_, h37⟩, hx1, hx2⟩ := ht
        rw [if_pos (by unfold tri; simp only [Bool.and_eq_true, decide_eq_true_eq, beq_iff_eq]; exact ⟨⟨hin, h37⟩, hx1, hx2⟩), ih (a + 3) (a + 3) 1 (by omega) (by omega) (.inr (.inl ⟨rfl, by omega, rfl⟩))]
        rw [bs_drop s (a + 1) (by omega), bs_drop s (a + 1 + 1) (by omega), h37]
        simp only [liveL, lastL, nS_pct hq2, nS_h3 hx1, nS_h4 (show isHex (bI s (a + 1 + 1)) = true from hx2)]
        rw [show a + 1 + 1 + 1 = a + 3 from rfl]
        simp; omega
      rw [if_neg ht]
      by_cases h37 : bI s a = 37
      · rw [if_pos h37, h37]
        simp only [liveL, lastL, nS_pct hq2]
        by_cases hx : a + 1 < s.size ∧ isHex (bI s (a + 1)) = true
        · rw [if_pos hx, bs_drop s (a + 1) hx.1]
          simp only [liveL, lastL, nS_h3 hx.2]
          by_cases h2 : a + 2 < s.size
          · have hn : ¬ isHex (bI s (a + 1 + 1)) = true := fun h => ht (by unfold tri; simp only [Bool.and_eq_true, decide_eq_true_eq, beq_iff_eq]; exact ⟨⟨by omega, h37⟩, hx.2, h⟩)
            rw [bs_drop s (a + 1 + 1) h2]
            simp only [liveL, lastL, nS_n4 hn]
            simp
          · rw [bs_out s (a + 1 + 1) (by omega)]
            simp [liveL, lastL]
        · rw [if_neg hx]
          by_cases h1 : a + 1 < s.size
          · rw [bs_drop s (a + 1) h1]
            simp only [liveL, lastL, nS_n3 (fun h => hx ⟨h1, h⟩)]
            simp
          · rw [bs_out s (a + 1) (by omega)]
            simp [liveL, lastL]
      · rw [if_neg h37]
        have h5 : nS q (bI s a) = 5 := nS_no hq2 hw h37 (fun h => hp ⟨h.1, by rcases hq with h' | h' | h' <;> omega, by rcases hq with h' | h' | h' <;> omega⟩)
        simp only [liveL, lastL, h5]
        simp
    · rw [endsN_out _ _ _ _ hlt, bs_out s a (by omega)]
      rfl
theorem ends_run (s : ByteArray) : ends s = (liveL nS 0 (bs s), lastL nS 0 (bs s) 0 0) := by
  have h := endsN_run s s.size 0 0 0 (by omega) (by omega) (.inl ⟨rfl, rfl, rfl⟩)
  unfold ends
  rw [h]; simp
section
variable (d : Nat → Int → Nat) (h5 : ∀ c, d 5 c = 5)
theorem liveL_le (l : List Int) : ∀ q, liveL d q l ≤ l.length := by
  induction l with
  | nil => intro q; simp [liveL]
  | cons c l ih => intro q; unfold liveL; split <;> simp; exact ih _
theorem finL_cons (q : Nat) (c : Int) (l : List Int) : finL d q (c :: l) = finL d (d q c) l := rfl
theorem finL_append (q : Nat) (l m : List Int) : finL d q (l ++ m) = finL d (finL d q l) m := by unfold finL; rw [List.foldl_append]
include h5 in
theorem finL_dead (l : List Int) : finL d 5 l = 5 := by
  induction l with
  | nil => rfl
  | cons c l ih => rw [finL_cons, h5, ih]
include h5 in
/-- All of it is a begin, just if no state says that it is none. -/
theorem live_fin (l : List Int) : ∀ q, q ≠ 5 → (liveL d q l = l.length ↔ finL d q l ≠ 5) := by
  induction l with
  | nil => intro q hq; simp [liveL, finL, hq]
  | cons c l ih =>
    intro q hq
    rw [finL_cons]
    unfold liveL
    by_cases h : d q c = 5
    · rw [if_pos h, h, finL_dead d h5]; simp
    · rw [if_neg h, List.length_cons, Nat.add_right_cancel_iff]; exact ih _ h
theorem live_take (l : List Int) : ∀ q n, n ≤ liveL d q l → liveL d q (l.take n) = n := by
  induction l with
  | nil => intro q n h; simp [liveL] at h ⊢; exact h.symm
  | cons c l ih =>
    intro q n h
    cases n with
    | zero => rfl
    | succ n =>
      unfold liveL at h
      split at h
      · omega
      · rename_i hd
        rw [List.take_succ_cons]
        unfold liveL
        rw [if_neg hd, ih _ n (by omega)]
include h5 in
theorem live_append (l m : List Int) : ∀ q, q ≠ 5 → finL d q l ≠ 5 → liveL d q (l ++ m) = l.length + liveL d (finL d q l) m := by
  induction l with
  | nil => intro q _ _; simp [finL]
  | cons c l ih =>
    intro q hq h
    rw [finL_cons] at h
    have hd : d q c ≠ 5 := fun e => h (by rw [e, finL_dead d h5])
    rw [List.cons_append, finL_cons, show liveL d q (c :: (l ++ m)) = if d q c = 5 then 0 else liveL d (d q c) (l ++ m) + 1 from rfl, if_neg hd, ih _ hd h, List.length_cons]; omega
theorem last_spec (l : List Int) : ∀ q a e, e ≤ a → (e = lastL d q l a e ∧ ∀ n, 0 < n → n ≤ liveL d q l → finL d q (l.take n) ≠ 1) ∨
    (∃ n, 0 < n ∧ n ≤ liveL d q l ∧ lastL d q l a e = a + n ∧ finL d q (l.take n) = 1 ∧ ∀ m, n < m → m ≤ liveL d q l → finL d q (l.take m) ≠ 1) := by
  induction l with
  | nil => intro q a e _; exact .inl ⟨rfl, fun n h1 h2 => by simp [liveL] at h2; omega⟩
  | cons c l ih =>
    intro q a e hea
    unfold lastL liveL
    by_cases h : d q c = 5
    · rw [if_pos h, if_pos h]
      exact .inl ⟨rfl, fun n h1 h2 => by omega⟩
    rw [if_neg h, if_neg h]
    by_cases h1 : d q c = 1
    · rw [if_pos h1]
      rcases ih (d q c) (a + 1) (a + 1) (by omega) with ⟨e1, e2⟩ | ⟨n, n1, n2, n3, n4, n5⟩
      · refine .inr ⟨1, by omega, by omega, by rw [← e1], by simp [finL, h1], fun m m1 m2 => ?_⟩
        obtain ⟨m, rfl⟩ : ∃ k, m = k + 1 := ⟨m - 1, by omega⟩
        rw [List.take_succ_cons, finL_cons]
        exact e2 m (by omega) (by omega)
      · refine .inr ⟨n + 1, by omega, by omega, by rw [n3]; omega, by rw [List.take_succ_cons, finL_cons]; exact n4, fun m m1 m2 => ?_⟩
        obtain ⟨m, rfl⟩ : ∃ k, m = k + 1 := ⟨m - 1, by omega⟩
        rw [List.take_succ_cons, finL_cons]
        exact n5 m (by omega) (by omega)
    · rw [if_neg h1]
      rcases ih (d q c) (a + 1) e (by omega) with ⟨e1, e2⟩ | ⟨n, n1, n2, n3, n4, n5⟩
      · refine .inl ⟨e1, fun m m1 m2 => ?_⟩
        obtain ⟨m, rfl⟩ : ∃ k, m = k + 1 := ⟨m - 1, by omega⟩
        rw [List.take_succ_cons, finL_cons]
        rcases Nat.eq_zero_or_pos m with rfl | hm
        · simpa [finL] using h1
        · exact e2 m hm (by omega)
      · refine .inr ⟨n + 1, by omega, by omega, by rw [n3]; omega, by rw [List.take_succ_cons, finL_cons]; exact n4, fun m m1 m2 => ?_⟩
        obtain ⟨m, rfl⟩ : ∃ k, m = k + 1 := ⟨m - 1, by omega⟩
        rw [List.take_succ_cons, finL_cons]
        exact n5 m (by omega) (by omega)
end
theorem nameMay_iff (s : ByteArray) : nameMay s = true ↔ finL nS 0 (bs s) = 1 := by
  unfold nameMay
  rw [ends_run, Bool.and_eq_true, decide_eq_true_eq, beq_iff_eq]
  have hl := bs_length s
  have hle := liveL_le nS (bs s) 0
  dsimp only
  constructor
  · rintro ⟨h0, h⟩
    rcases last_spec nS (bs s) 0 0 0 (by omega) with ⟨e1, _⟩ | ⟨n, n1, n2, n3, n4, _⟩
    · omega
    · rw [h] at n3
      rw [List.take_of_length_le (by omega)] at n4
      exact n4
  · intro h
    have h0 : 0 < s.size := by
      rcases Nat.eq_zero_or_pos s.size with e | e
      · have : bs s = [] := List.eq_nil_of_length_eq_zero (by omega)
        rw [this] at h; simp [finL] at h
      · exact e
    refine ⟨h0, ?_⟩
    have hlive := (live_fin nS nS_dead (bs s) 0 (by decide)).2 (by rw [h]; decide)
    rcases last_spec nS (bs s) 0 0 0 (by omega) with ⟨e1, e2⟩ | ⟨n, n1, n2, n3, n4, n5⟩
    · exact absurd (by rw [List.take_of_length_le (by omega)]; exact h) (e2 (bs s).length (by omega) (by omega))
    · rcases Nat.lt_or_ge n (bs s).length with hlt | hge
      · exact absurd (by rw [List.take_of_length_le (by omega)]; exact h) (n5 (bs s).length hlt (by omega))
      · rw [n3]; omega
end Go.Proofs.YthllgnephigfkaaDoor.Y
