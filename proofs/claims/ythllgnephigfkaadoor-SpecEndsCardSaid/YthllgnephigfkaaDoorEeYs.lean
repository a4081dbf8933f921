/- Variables in expressions: what a text is, by states. No program. -/
import Derived.Test.YthllgnephigfkaaDoorEeYd
namespace Go.Proofs.YthllgnephigfkaaDoor.Y
set_option linter.unusedSimpArgs false
set_option linter.unusedVariables false
open Go.RowKit
def sS (q : Nat) (c : Int) : Nat :=
  if q = 1 then (if c = 42 then 6 else if c = 58 then 7 else nS 1 c) else if q ≤ 5 then nS q c else
  if q = 7 then (if 49 ≤ c ∧ c ≤ 57 then 8 else 5) else if q = 8 ∨ q = 9 ∨ q = 10 then (if isDigit c = true then q + 1 else 5) else 5
def accS (q : Nat) : Bool := q == 1 || q == 6 || (decide (8 ≤ q) && decide (q ≤ 11))
theorem sS_dead (c : Int) : sS 5 c = 5 := by unfold sS; rw [if_neg (by decide), if_pos (by decide), nS_dead]
theorem sS_low {q : Nat} {c : Int} (hq : q ≤ 5) (h1 : q ≠ 1) : sS q c = nS q c := by unfold sS; rw [if_neg h1, if_pos hq]
theorem sS_one {c : Int} (h1 : c ≠ 42) (h2 : c ≠ 58) : sS 1 c = nS 1 c := by unfold sS; rw [if_pos rfl, if_neg h1, if_neg h2]
theorem sS_same (l : List Int) : ∀ q, q ≤ 5 → q ≠ 1 → (∀ n, 0 < n → n ≤ liveL nS q l → finL nS q (l.take n) ≠ 1) → liveL sS q l = liveL nS q l ∧ finL sS q l = finL nS q l := by
  induction l with
  | nil => intro q _ _ _; exact ⟨rfl, rfl⟩
  | cons c l ih =>
    intro q hq h1 h
    rw [finL_cons, finL_cons, sS_low hq h1]
    unfold liveL
    rw [sS_low hq h1]
    unfold liveL at h
    by_cases h5 : nS q c = 5
    · rw [if_pos h5, if_pos h5, h5, finL_dead _ sS_dead, finL_dead _ nS_dead]
      exact ⟨rfl, rfl⟩
    · rw [if_neg h5] at h
      have hn1 : nS q c ≠ 1 := by
        have := h 1 (by omega) (by omega)
        simpa [finL] using this
      obtain ⟨e1, e2⟩ := ih (nS q c) (nS_le q c) hn1 (fun n n1 n2 => by
        have := h (n + 1) (by omega) (by omega)
        rwa [List.take_succ_cons, finL_cons] at this)
      rw [if_neg h5, if_neg h5, e1, e2]
      exact ⟨rfl, rfl⟩
theorem fin_low (l : List Int) : ∀ q, q ≤ 5 → finL nS q l ≤ 5 := by
  induction l with
  | nil => intro q h; exact h
  | cons c l ih => intro q _; rw [finL_cons]; exact ih _ (nS_le q c)
def badN (s : ByteArray) : Nat := (ends s).1
def endN (s : ByteArray) : Nat := (ends s).2
theorem endN_ways (s : ByteArray) : (endN s = 0 ∧ ∀ n, 0 < n → n ≤ liveL nS 0 (bs s) → finL nS 0 ((bs s).take n) ≠ 1) ∨
    (0 < endN s ∧ endN s ≤ badN s ∧ finL nS 0 ((bs s).take (endN s)) = 1 ∧ ∀ m, endN s < m → m ≤ badN s → finL nS 0 ((bs s).take m) ≠ 1) := by
  unfold badN endN
  rw [ends_run]
  dsimp only
  rcases last_spec nS (bs s) 0 0 0 (by omega) with ⟨e1, e2⟩ | ⟨n, n1, n2, n3, n4, n5⟩
  · exact .inl ⟨e1.symm, e2⟩
  · rw [n3, Nat.zero_add]
    exact .inr ⟨n1, n2, n4, n5⟩
theorem badN_live (s : ByteArray) : badN s = liveL nS 0 (bs s) := by unfold badN; rw [ends_run]
theorem badN_le (s : ByteArray) : badN s ≤ s.size := by rw [badN_live, ← bs_length]; exact liveL_le _ _ _
theorem endN_le (s : ByteArray) : endN s ≤ badN s := by
  rcases endN_ways s with h | h
  · omega
  · exact h.2.1
def figL (q : Nat) : List Int → Nat
  | [] => 0
  | c :: l => if sS q c = 5 then 0 else figL (sS q c) l + 1
theorem figL_live (l : List Int) : ∀ q, figL q l = liveL sS q l := by
  induction l with
  | nil => intro q; rfl
  | cons c l ih => intro q; unfold figL liveL; rw [ih]
def numL (l : List Int) : Int := l.foldl (fun a c => 10 * a + (c - 48)) 0
def behN (r : List Int) : Nat × Bool :=
  match r with
  | [] => (0, true)
  | c :: l => if c = 42 then (1, l.length == 0) else if c = 58 then (1 + figL 7 l, decide (0 < figL 7 l) && (figL 7 l == l.length)) else (0, false)
theorem behN_42 (l : List Int) : behN (42 :: l) = (1, l.length == 0) := by unfold behN; dsimp only; rw [if_pos rfl]
theorem behN_58 (l : List Int) : behN (58 :: l) = (1 + figL 7 l, decide (0 < figL 7 l) && (figL 7 l == l.length)) := by unfold behN; dsimp only; rw [if_neg (by decide), if_pos rfl]
theorem behN_no {c : Int} (l : List Int) (h1 : c ≠ 42) (h2 : c ≠ 58) : behN (c :: l) = (0, false) := by unfold behN; dsimp only; rw [if_neg h1, if_neg h2]
def behV (s : ByteArray) : Int × Bool :=
  match (bs s).drop (endN s) with
  | [] => (0, false)
  | c :: l => if c = 42 then (0, true) else if c = 58 then (numL (l.take (figL 7 l)), false) else (0, false)
def okS (s : ByteArray) : Bool := decide (0 < endN s) && (behN ((bs s).drop (endN s))).2
def takN (s : ByteArray) : Nat := if okS s = true then s.size else max (badN s) (endN s + (if endN s = 0 then 0 else (behN ((bs s).drop (endN s))).1))
theorem bs_split (s : ByteArray) : bs s = (bs s).take (endN s) ++ (bs s).drop (endN s) := (List.take_append_drop _ _).symm
theorem nS_pass {q : Nat} {c : Int} (hq : q ≤ 5) (h : nS q c ≠ 5) : c ≠ 42 ∧ c ≠ 58 := by
  refine ⟨fun e => h ?_, fun e => h ?_⟩ <;> subst e
  · rcases (by omega : q = 0 ∨ q = 1 ∨ q = 2 ∨ q = 3 ∨ q = 4 ∨ q = 5) with rfl | rfl | rfl | rfl | rfl | rfl <;> decide
  · rcases (by omega : q = 0 ∨ q = 1 ∨ q = 2 ∨ q = 3 ∨ q = 4 ∨ q = 5) with rfl | rfl | rfl | rfl | rfl | rfl <;> decide
theorem sS_pass (l : List Int) : ∀ q, q ≤ 5 → finL nS q l ≠ 5 → finL sS q l = finL nS q l := by
  induction l with
  | nil => intro q _ _; rfl
  | cons c l ih =>
    intro q hq h
    rw [finL_cons] at h
    have h5 : nS q c ≠ 5 := fun e => h (by rw [e, finL_dead _ nS_dead])
    have hc := nS_pass hq h5
    have e : sS q c = nS q c := by
      by_cases h1 : q = 1
      · subst h1; exact sS_one hc.1 hc.2
      · exact sS_low hq h1
    rw [finL_cons, finL_cons, e]
    exact ih _ (nS_le q c) h
theorem nS_42 : nS 1 42 = 5 := by decide
theorem nS_58 : nS 1 58 = 5 := by decide
theorem fin_dig (l : List Int) : ∀ q, (q = 7 ∨ q = 8 ∨ q = 9 ∨ q = 10 ∨ q = 11) → finL sS q l = 5 ∨ (7 ≤ finL sS q l ∧ finL sS q l ≤ 11 ∧ finL sS q l = q + l.length) := by
  induction l with
  | nil => intro q hq; exact .inr ⟨by show 7 ≤ q; omega, by show q ≤ 11; omega, rfl⟩
  | cons c l ih =>
    intro q hq
    rw [finL_cons]
    have hs : sS q c = 5 ∨ (sS q c = q + 1 ∧ q ≤ 10) := by
      unfold sS
      rcases hq with rfl | rfl | rfl | rfl | rfl
      · rw [if_neg (by decide), if_neg (by decide), if_pos rfl]; split
        · exact .inr ⟨rfl, by decide⟩
        · exact .inl rfl
      · rw [if_neg (by decide), if_neg (by decide), if_neg (by decide), if_pos (by decide)]; split
        · exact .inr ⟨rfl, by decide⟩
        · exact .inl rfl
      · rw [if_neg (by decide), if_neg (by decide), if_neg (by decide), if_pos (by decide)]; split
        · exact .inr ⟨rfl, by decide⟩
        · exact .inl rfl
      · rw [if_neg (by decide), if_neg (by decide), if_neg (by decide), if_pos (by decide)]; split
        · exact .inr ⟨rfl, by decide⟩
        · exact .inl rfl
      · rw [if_neg (by decide), if_neg (by decide), if_neg (by decide), if_neg (by decide)]; exact .inl rfl
    rcases hs with e | ⟨e, hle⟩
    · rw [e, finL_dead _ sS_dead]; exact .inl rfl
    · rw [e]
      rcases ih (q + 1) (by omega) with h | ⟨h1, h2, h3⟩
      · exact .inl h
      · exact .inr ⟨h1, h2, by rw [h3, List.length_cons]; omega⟩
theorem take_states (s : ByteArray) : takN s = liveL sS 0 (bs s) ∧ okS s = accS (finL sS 0 (bs s)) := by
  have hl := bs_length s
  have hbl := badN_live s
  have hble := badN_le s
  rcases endN_ways s with ⟨e0, hno⟩ | ⟨e0, e1, e2, e3⟩
  · obtain ⟨a1, a2⟩ := sS_same (bs s) 0 (by decide) (by decide) hno
    have hok : okS s = false := by unfold okS; rw [e0]; rfl
    have hf := fin_low (bs s) 0 (by decide)
    have hf1 : finL nS 0 (bs s) ≠ 1 := by
      intro h
      have hlive := (live_fin nS nS_dead (bs s) 0 (by decide)).2 (by rw [h]; decide)
      rcases Nat.eq_zero_or_pos (bs s).length with h0 | h0
      · rw [List.eq_nil_of_length_eq_zero h0] at h; exact absurd h (by decide)
      · exact hno _ h0 (by omega) (by rw [List.take_of_length_le (Nat.le_refl _)]; exact h)
    refine ⟨?_, ?_⟩
    · unfold takN
      rw [hok, if_neg (by decide), if_pos e0, e0, a1, hbl]; simp
    · rw [hok, a2]
      unfold accS
      symm
      simp only [Bool.or_eq_false_iff, Bool.and_eq_false_iff, beq_eq_false_iff_ne, decide_eq_false_iff_not]
      omega
  · -- from the name's end on
    have hsp := bs_split s
    have hname : finL sS 0 ((bs s).take (endN s)) = 1 := by
      rw [sS_pass _ 0 (by decide) (by rw [e2]; decide), e2]
    have hlen : ((bs s).take (endN s)).length = endN s := by rw [List.length_take]; omega
    have hlive : liveL sS 0 (bs s) = endN s + liveL sS 1 ((bs s).drop (endN s)) := by
      conv => lhs; rw [hsp]
      rw [live_append sS sS_dead _ _ 0 (by decide) (by rw [hname]; decide), hname, hlen]
    have hfin : finL sS 0 (bs s) = finL sS 1 ((bs s).drop (endN s)) := by
      conv => lhs; rw [hsp]
      rw [finL_append, hname]
    have hbad : badN s = endN s + liveL nS 1 ((bs s).drop (endN s)) := by
      rw [hbl]
      conv => lhs; rw [hsp]
      rw [live_append nS nS_dead _ _ 0 (by decide) (by rw [e2]; decide), e2, hlen]
    have hdl : ((bs s).drop (endN s)).length = s.size - endN s := by rw [List.length_drop, hl]
    have hno : ∀ n, 0 < n → n ≤ liveL nS 1 ((bs s).drop (endN s)) → finL nS 1 (((bs s).drop (endN s)).take n) ≠ 1 := by
      intro n n1 n2 h
      refine e3 (endN s + n) (by omega) (by omega) ?_
      have : (bs s).take (endN s + n) = (bs s).take (endN s) ++ ((bs s).drop (endN s)).take n := by rw [List.take_add]
      rw [this, finL_append, e2, h]
    have hz : (if endN s = 0 then 0 else (behN ((bs s).drop (endN s))).1) = (behN ((bs s).drop (endN s))).1 := if_neg (by omega)
    unfold takN okS
    rw [decide_eq_true e0, Bool.true_and, hz, hlive, hfin, hbad]
    generalize (bs s).drop (endN s) = r at *
    obtain ⟨n, o, hp⟩ : ∃ n o, behN r = (n, o) := ⟨_, _, rfl⟩
    rw [hp]
    dsimp only
    match r with
    | [] =>
      obtain ⟨rfl, rfl⟩ : n = 0 ∧ o = true := Prod.mk.inj (hp.symm.trans (show behN [] = (0, true) from rfl))
      refine ⟨?_, rfl⟩
      simp [liveL] at hdl ⊢
      omega
    | c :: l =>
      simp only [List.length_cons] at hdl
      by_cases h42 : c = 42
      · subst h42
        obtain ⟨rfl, rfl⟩ : n = 1 ∧ o = (l.length == 0) := Prod.mk.inj (hp.symm.trans (behN_42 l))
        have hs6 : ∀ d, sS 6 d = 5 := fun d => by unfold sS; simp
        have e6 : sS 1 42 = 6 := by decide
        have hlv : liveL sS 1 (42 :: l) = 1 := by
          unfold liveL; rw [e6, if_neg (by decide)]
          cases l with
          | nil => rfl
          | cons d l => unfold liveL; rw [hs6, if_pos rfl]
        have hln : liveL nS 1 (42 :: l) = 0 := by unfold liveL; rw [nS_42, if_pos rfl]
        rw [hlv, hln, finL_cons, e6]
        cases l with
        | nil => refine ⟨?_, by rfl⟩; simp at hdl ⊢; omega
        | cons d l =>
          rw [finL_cons, hs6, finL_dead _ sS_dead]
          refine ⟨?_, by rfl⟩
          simp
      by_cases h58 : c = 58
      · subst h58
        obtain ⟨rfl, rfl⟩ : n = 1 + figL 7 l ∧ o = (decide (0 < figL 7 l) && (figL 7 l == l.length)) := Prod.mk.inj (hp.symm.trans (behN_58 l))
        have e7 : sS 1 58 = 7 := by decide
        have hlv : liveL sS 1 (58 :: l) = 1 + figL 7 l := by
          rw [figL_live]
          conv => lhs; unfold liveL
          rw [e7, if_neg (by decide)]; omega
        have hln : liveL nS 1 (58 :: l) = 0 := by unfold liveL; rw [nS_58, if_pos rfl]
        rw [hlv, hln, finL_cons, e7]
        have hfl : figL 7 l ≤ l.length := by rw [figL_live]; exact liveL_le _ _ _
        have hfl2 := live_fin sS sS_dead l 7 (by decide)
        rw [← figL_live] at hfl2
        have hacc : (decide (0 < figL 7 l) && (figL 7 l == l.length)) = accS (finL sS 7 l) := by
          rw [Bool.eq_iff_iff]
          rcases fin_dig l 7 (.inl rfl) with h5 | ⟨h1, h2, h3⟩
          · have : figL 7 l ≠ l.length := fun e => (hfl2.1 e) h5
            rw [h5]
            simp [this, accS]
          · have h5 : finL sS 7 l ≠ 5 := by omega
            have he := hfl2.2 h5
            rw [he]
            unfold accS
            simp only [Bool.and_eq_true, Bool.or_eq_true, decide_eq_true_eq, beq_iff_eq]
            constructor
            · rintro ⟨a, _⟩; exact .inr ⟨by omega, h2⟩
            · rintro ((a | a) | ⟨a, _⟩)
              · omega
              · omega
              · exact ⟨by omega, trivial⟩
        rw [hacc]
        refine ⟨?_, rfl⟩
        split
        · rename_i ha
          rw [← hacc, Bool.and_eq_true, beq_iff_eq] at ha
          omega
        · omega
      · obtain ⟨rfl, rfl⟩ : n = 0 ∧ o = false := Prod.mk.inj (hp.symm.trans (behN_no l h42 h58))
        have hs1 : sS 1 c = nS 1 c := sS_one h42 h58
        -- behind it the state is 1 no more
        have hrest : liveL sS 1 (c :: l) = liveL nS 1 (c :: l) ∧ finL sS 1 (c :: l) = finL nS 1 (c :: l) := by
          rw [finL_cons, finL_cons, hs1]
          unfold liveL
          rw [hs1]
          by_cases h5 : nS 1 c = 5
          · rw [if_pos h5, if_pos h5, h5, finL_dead _ sS_dead, finL_dead _ nS_dead]; exact ⟨rfl, rfl⟩
          · have hlv : liveL nS 1 (c :: l) = liveL nS (nS 1 c) l + 1 := by
              conv => lhs; unfold liveL
              rw [if_neg h5]
            have hn1 : nS 1 c ≠ 1 := by
              have := hno 1 (by omega) (by omega)
              simpa [finL] using this
            obtain ⟨a1, a2⟩ := sS_same l (nS 1 c) (nS_le 1 c) hn1 (fun n n1 n2 => by
              have := hno (n + 1) (by omega) (by omega)
              rwa [List.take_succ_cons, finL_cons] at this)
            rw [if_neg h5, if_neg h5, a1, a2]; exact ⟨rfl, rfl⟩
        have hf := fin_low (c :: l) 1 (by decide)
        have hf1 : finL nS 1 (c :: l) ≠ 1 := by
          intro h
          have hlv := (live_fin nS nS_dead (c :: l) 1 (by decide)).2 (by rw [h]; decide)
          exact hno (c :: l).length (by simp) (by omega) (by rw [List.take_of_length_le (Nat.le_refl _)]; exact h)
        rw [hrest.1, hrest.2]
        refine ⟨?_, ?_⟩
        · simp
        · unfold accS
          symm
          simp only [Bool.or_eq_false_iff, Bool.and_eq_false_iff, beq_eq_false_iff_ne, decide_eq_false_iff_not]
          omega
theorem fig_state (k : Nat) (hk : k ≤ 3) (c : Int) : sS (7 + k) c = if isDigit c = true ∧ ¬ (k = 0 ∧ c = 48) then 8 + k else 5 := by
  have hd : isDigit c = true ↔ 48 ≤ c ∧ c ≤ 57 := by unfold isDigit; simp
  rcases (by omega : k = 0 ∨ k = 1 ∨ k = 2 ∨ k = 3) with rfl | rfl | rfl | rfl
  · unfold sS
    rw [if_neg (by decide), if_neg (by decide), if_pos (by decide)]
    by_cases h : 49 ≤ c ∧ c ≤ 57
    · rw [if_pos h, if_pos ⟨hd.2 (by omega), by omega⟩]
    · rw [if_neg h, if_neg (fun h' => h ⟨by have := hd.1 h'.1; omega, by have := hd.1 h'.1; omega⟩)]
  all_goals
    unfold sS
    rw [if_neg (by decide), if_neg (by decide), if_neg (by decide), if_pos (by decide)]
    by_cases h : isDigit c = true
    · rw [if_pos h, if_pos ⟨h, by omega⟩]
    · rw [if_neg h, if_neg (fun h' => h h'.1)]
theorem fig_stop (s : ByteArray) (k : Nat) (hk : k ≤ 3) (hs : k < s.size) (h : ¬ (isDigit (bI s k) = true ∧ ¬ (k = 0 ∧ bI s k = 48))) : figL (7 + k) ((bs s).drop k) = 0 := by
  rw [bs_drop s k hs, figL, fig_state k hk, if_neg h, if_pos rfl]
theorem fig_go (s : ByteArray) (k : Nat) (hk : k ≤ 3) (hs : k < s.size) (h : isDigit (bI s k) = true ∧ ¬ (k = 0 ∧ bI s k = 48)) : (k : Int) + (figL (7 + k) ((bs s).drop k) : Int) = ((k + 1 : Nat) : Int) + (figL (7 + (k + 1)) ((bs s).drop (k + 1)) : Int) := by
  rw [bs_drop s k hs, figL, fig_state k hk, if_pos h, if_neg (by omega), show 8 + k = 7 + (k + 1) from by omega]
  omega
theorem fig_end (s : ByteArray) (k : Nat) (h : k = 4 ∨ s.size ≤ k) : figL (7 + k) ((bs s).drop k) = 0 := by
  rcases h with rfl | h
  · cases hl : (bs s).drop 4 with
    | nil => rfl
    | cons c l =>
      unfold figL
      rw [if_pos (by unfold sS; simp)]
  · rw [bs_out s k h]; rfl
theorem fig_le (l : List Int) : figL 7 l ≤ l.length := by rw [figL_live]; exact liveL_le _ _ _
theorem fig_digits (l : List Int) : ∀ q, 7 ≤ q → ∀ n c, n < figL q l → l[n]? = some c → isDigit c = true := by
  induction l with
  | nil => intro q _ n c h; simp [figL] at h
  | cons d l ih =>
    intro q hq n c h hc
    unfold figL at h
    by_cases h5 : sS q d = 5
    · rw [if_pos h5] at h; omega
    rw [if_neg h5] at h
    have hd : isDigit d = true ∧ 7 ≤ sS q d := by
      unfold sS at h5 ⊢
      rw [if_neg (by omega), if_neg (by omega)] at h5 ⊢
      by_cases h7 : q = 7
      · rw [if_pos h7] at h5 ⊢
        by_cases hr : 49 ≤ d ∧ d ≤ 57
        · rw [if_pos hr]; exact ⟨by unfold isDigit; simp; omega, by omega⟩
        · rw [if_neg hr] at h5; exact absurd rfl h5
      · rw [if_neg h7] at h5 ⊢
        by_cases h8 : q = 8 ∨ q = 9 ∨ q = 10
        · rw [if_pos h8] at h5 ⊢
          by_cases hdd : isDigit d = true
          · rw [if_pos hdd]; exact ⟨hdd, by omega⟩
          · rw [if_neg hdd] at h5; exact absurd rfl h5
        · rw [if_neg h8] at h5; exact absurd rfl h5
    cases n with
    | zero => simp at hc; rw [← hc]; exact hd.1
    | succ n => exact ih _ hd.2 n c (by omega) (by simpa using hc)
theorem fig_four (l : List Int) : figL 7 l ≤ 4 := by
  have h := fin_dig (l.take (figL 7 l)) 7 (.inl rfl)
  have hl : (l.take (figL 7 l)).length = figL 7 l := by rw [List.length_take]; have := fig_le l; omega
  have hlive : liveL sS 7 (l.take (figL 7 l)) = figL 7 l := live_take sS l 7 _ (by rw [figL_live]; exact Nat.le_refl _)
  have h5 := (live_fin sS sS_dead (l.take (figL 7 l)) 7 (by decide)).1 (by rw [hlive, hl])
  rcases h with h | ⟨_, h2, h3⟩
  · exact absurd h h5
  · omega
end Go.Proofs.YthllgnephigfkaaDoor.Y
