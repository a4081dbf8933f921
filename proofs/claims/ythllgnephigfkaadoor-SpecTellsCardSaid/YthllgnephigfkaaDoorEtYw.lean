/- Variables in expressions, told there and back. No program. -/
import Derived.Test.YthllgnephigfkaaDoorEtYt
namespace Go.Proofs.YthllgnephigfkaaDoor.Y
set_option linter.unusedSimpArgs false
set_option linter.unusedVariables false
open Go.RowKit
theorem tv_e (s : ByteArray) : (takV s).2.2.2.2 = if okS s = true then 0 else 2 := by unfold takV; split <;> rfl
theorem takN_le (s : ByteArray) : takN s ≤ s.size := by rw [(take_states s).1, ← bs_length]; exact liveL_le _ _ _
theorem size_append' (a b : ByteArray) : (a ++ b).size = a.size + b.size := ByteArray.size_append
theorem name_pos {nm : ByteArray} (h : nameMay nm = true) : 0 < nm.size := by unfold nameMay at h; simp at h; exact h.1
theorem name_end (nm r : ByteArray) (h : nameMay nm = true) (hr : liveL nS 1 (bs r) = 0) : endN (nm ++ r) = nm.size := by
  have hf := (nameMay_iff nm).1 h
  have hp := name_pos h
  have hl := bs_length nm
  have hlive : badN (nm ++ r) = nm.size := by
    rw [badN_live, bs_append, live_append nS nS_dead _ _ 0 (by decide) (by rw [hf]; decide), hf, hr, hl]; rfl
  have htake : (bs (nm ++ r)).take nm.size = bs nm := by rw [bs_append, ← hl, List.take_left]
  rcases endN_ways (nm ++ r) with ⟨_, h2⟩ | ⟨_, h2, _, h4⟩
  · exact absurd (by rw [htake, hf]) (h2 nm.size hp (by rw [← badN_live, hlive]; exact Nat.le_refl _))
  · rcases Nat.lt_or_ge (endN (nm ++ r)) nm.size with hlt | hge
    · exact absurd (by rw [htake, hf]) (h4 nm.size hlt (by omega))
    · omega
theorem name_take (nm r : ByteArray) (h : nameMay nm = true) (hr : liveL nS 1 (bs r) = 0) :
    takV (nm ++ r) = if (behN (bs r)).2 = true then (nm, (match bs r with | [] => (0, false) | c :: l => if c = 42 then (0, true) else if c = 58 then (numL (l.take (figL 7 l)), false) else (0, false) : Int × Bool).1, (match bs r with | [] => (0, false) | c :: l => if c = 42 then (0, true) else if c = 58 then (numL (l.take (figL 7 l)), false) else (0, false) : Int × Bool).2, ((nm ++ r).size : Int), 0)
      else (⟨#[]⟩, 0, false, ((nm.size + (behN (bs r)).1 : Nat) : Int), 2) := by
  have he := name_end nm r h hr
  have hp := name_pos h
  have hd : (bs (nm ++ r)).drop nm.size = bs r := by rw [bs_append, ← bs_length nm, List.drop_left]
  have hx : (nm ++ r).extract 0 nm.size = nm := bs_inj (by rw [bs_take, bs_append, ← bs_length nm, List.take_left])
  have hok : okS (nm ++ r) = (behN (bs r)).2 := by unfold okS; rw [he, hd, decide_eq_true hp, Bool.true_and]
  have hlive : badN (nm ++ r) = nm.size := by
    rw [badN_live, bs_append, live_append nS nS_dead _ _ 0 (by decide) (by rw [(nameMay_iff nm).1 h]; decide), (nameMay_iff nm).1 h, hr, bs_length]; rfl
  unfold takV
  rw [hok]
  by_cases ho : (behN (bs r)).2 = true
  · rw [if_pos ho, if_pos ho, he, hx]
    unfold behV
    rw [he, hd]
    rfl
  · have hn : takN (nm ++ r) = nm.size + (behN (bs r)).1 := by
      unfold takN
      rw [hok, if_neg ho, he, hd, if_neg (by omega), hlive]; omega
    rw [if_neg ho, if_neg ho, hn]
theorem bs_lit (l : List UInt8) : bs ⟨l.toArray⟩ = l.map fun b => (b.toNat : Int) := by unfold bs; rfl
theorem take_plain (nm : ByteArray) (h : nameMay nm = true) : takV nm = (nm, 0, false, (nm.size : Int), 0) := by
  have := name_take nm ⟨#[]⟩ h rfl
  have e : nm ++ (⟨#[]⟩ : ByteArray) = nm := bs_inj (by rw [bs_append]; show bs nm ++ [] = _; simp)
  rw [e] at this
  exact this
theorem take_star (nm : ByteArray) (h : nameMay nm = true) : takV (nm ++ ⟨#[42]⟩) = (nm, 0, true, ((nm ++ (⟨#[42]⟩ : ByteArray)).size : Int), 0) := by
  have := name_take nm ⟨#[42]⟩ h (by decide)
  exact this
def digs (k : Nat) : List Int := if k < 10 then [48 + (k : Int)] else if k < 100 then [48 + ((k / 10 : Nat) : Int), 48 + ((k % 10 : Nat) : Int)] else
  if k < 1000 then [48 + ((k / 100 : Nat) : Int), 48 + ((k / 10 % 10 : Nat) : Int), 48 + ((k % 10 : Nat) : Int)] else [48 + ((k / 1000 : Nat) : Int), 48 + ((k / 100 % 10 : Nat) : Int), 48 + ((k / 10 % 10 : Nat) : Int), 48 + ((k % 10 : Nat) : Int)]
theorem u8_dig (d : Nat) (h : d < 10) : ((UInt8.ofNat (48 + d)).toNat : Int) = 48 + (d : Int) := by
  rw [UInt8.toNat_ofNat']
  have : (48 + d) % 2 ^ 8 = 48 + d := Nat.mod_eq_of_lt (by omega)
  omega
theorem dd1 (u : Nat) (h : u < 10) : Lib.decDigits u = [UInt8.ofNat (48 + u)] := by rw [Lib.decDigits, dif_pos h]
theorem dd2 (u : Nat) (h : ¬ u < 10) : Lib.decDigits u = Lib.decDigits (u / 10) ++ [UInt8.ofNat (48 + u % 10)] := by rw [Lib.decDigits, dif_neg h]
theorem itoa_digs (k : Nat) (h : k ≤ 9999) : bs ⟨(Lib.itoa (k : Int)).toArray⟩ = digs k := by
  rw [bs_lit]
  have e : Lib.itoa (k : Int) = Lib.decDigits k := by unfold Lib.itoa; rw [if_neg (by omega)]; rfl
  rw [e]
  unfold digs
  by_cases h1 : k < 10
  · rw [if_pos h1, dd1 k h1]; simp only [List.map_cons, List.map_nil]; rw [u8_dig k h1]
  rw [if_neg h1, dd2 k h1]
  by_cases h2 : k < 100
  · rw [if_pos h2, dd1 _ (by omega)]
    simp only [List.map_append, List.map_cons, List.map_nil, List.cons_append, List.nil_append]
    rw [u8_dig _ (by omega), u8_dig _ (by omega)]
  rw [if_neg h2, dd2 (k / 10) (by omega)]
  by_cases h3 : k < 1000
  · rw [if_pos h3, dd1 _ (by omega)]
    simp only [List.map_append, List.map_cons, List.map_nil, List.cons_append, List.nil_append]
    rw [u8_dig _ (by omega), u8_dig _ (by omega), u8_dig _ (by omega), show k / 10 / 10 = k / 100 from by omega]
  · rw [if_neg h3, dd2 (k / 10 / 10) (by omega), dd1 _ (by omega)]
    simp only [List.map_append, List.map_cons, List.map_nil, List.cons_append, List.nil_append]
    rw [u8_dig _ (by omega), u8_dig _ (by omega), u8_dig _ (by omega), u8_dig _ (by omega), show k / 10 / 10 / 10 = k / 1000 from by omega, show k / 10 / 10 % 10 = k / 100 % 10 from by omega]
theorem dig_is {c : Int} : isDigit c = true ↔ 48 ≤ c ∧ c ≤ 57 := by unfold isDigit; simp
theorem st7 {c : Int} (h : 49 ≤ c ∧ c ≤ 57) : sS 7 c = 8 := by have := fig_state 0 (by omega) c; rw [if_pos ⟨dig_is.2 (by omega), by omega⟩] at this; exact this
theorem stn {q : Nat} (hq : q = 8 ∨ q = 9 ∨ q = 10) {c : Int} (h : 48 ≤ c ∧ c ≤ 57) : sS q c = q + 1 := by
  have := fig_state (q - 7) (by omega) c
  rw [if_pos ⟨dig_is.2 h, by omega⟩, show 7 + (q - 7) = q from by omega] at this
  rw [this]; omega
theorem digs_all (k : Nat) (h1 : 1 ≤ k) (h : k ≤ 9999) : figL 7 (digs k) = (digs k).length ∧ numL (digs k) = (k : Int) ∧ 1 ≤ (digs k).length ∧ ((digs k).length ≤ 3 ↔ k < 1000) ∧ (digs k).length ≤ 4 := by
  unfold digs
  by_cases a1 : k < 10
  · rw [if_pos a1]
    refine ⟨?_, by simp [numL]; omega, by simp, by simp; omega, by simp⟩
    simp only [figL, st7 (show 49 ≤ 48 + (k : Int) ∧ 48 + (k : Int) ≤ 57 by omega)]; rfl
  rw [if_neg a1]
  by_cases a2 : k < 100
  · rw [if_pos a2]
    refine ⟨?_, by simp [numL]; omega, by simp, by simp; omega, by simp⟩
    simp only [figL, st7 (show 49 ≤ 48 + ((k / 10 : Nat) : Int) ∧ 48 + ((k / 10 : Nat) : Int) ≤ 57 by omega), stn (.inl rfl) (show 48 ≤ 48 + ((k % 10 : Nat) : Int) ∧ 48 + ((k % 10 : Nat) : Int) ≤ 57 by omega)]; rfl
  rw [if_neg a2]
  by_cases a3 : k < 1000
  · rw [if_pos a3]
    refine ⟨?_, by simp [numL]; omega, by simp, by simp; omega, by simp⟩
    simp only [figL, st7 (show 49 ≤ 48 + ((k / 100 : Nat) : Int) ∧ 48 + ((k / 100 : Nat) : Int) ≤ 57 by omega), stn (.inl rfl) (show 48 ≤ 48 + ((k / 10 % 10 : Nat) : Int) ∧ 48 + ((k / 10 % 10 : Nat) : Int) ≤ 57 by omega), stn (.inr (.inl rfl)) (show 48 ≤ 48 + ((k % 10 : Nat) : Int) ∧ 48 + ((k % 10 : Nat) : Int) ≤ 57 by omega)]; rfl
  · rw [if_neg a3]
    refine ⟨?_, by simp [numL]; omega, by simp, by simp; omega, by simp⟩
    simp only [figL, st7 (show 49 ≤ 48 + ((k / 1000 : Nat) : Int) ∧ 48 + ((k / 1000 : Nat) : Int) ≤ 57 by omega), stn (.inl rfl) (show 48 ≤ 48 + ((k / 100 % 10 : Nat) : Int) ∧ 48 + ((k / 100 % 10 : Nat) : Int) ≤ 57 by omega), stn (.inr (.inl rfl)) (show 48 ≤ 48 + ((k / 10 % 10 : Nat) : Int) ∧ 48 + ((k / 10 % 10 : Nat) : Int) ≤ 57 by omega), stn (.inr (.inr rfl)) (show 48 ≤ 48 + ((k % 10 : Nat) : Int) ∧ 48 + ((k % 10 : Nat) : Int) ≤ 57 by omega)]; rfl
theorem digs_back (l : List Int) (h0 : 0 < figL 7 l) (h : figL 7 l = l.length) : ∃ k : Nat, 1 ≤ k ∧ k ≤ 9999 ∧ numL l = (k : Int) ∧ digs k = l := by
  have h4 := fig_four l
  have hd := fun n c (hn : n < l.length) hc => dig_is.1 (fig_digits l 7 (by omega) n c (by omega) hc)
  have h7 : ∀ c r, l = c :: r → 49 ≤ c ∧ c ≤ 57 := fun c r e => by
    rw [e] at h0
    unfold figL at h0
    by_cases h' : 49 ≤ c ∧ c ≤ 57
    · exact h'
    · rw [show sS 7 c = 5 from by unfold sS; rw [if_neg (by decide), if_neg (by decide), if_pos rfl, if_neg h'], if_pos rfl] at h0; omega
  match l, h, h4, hd, h7 with
  | [], h, _, _, _ => simp [figL] at h0
  | [a], _, _, hd, h7 =>
    have ha := h7 a [] rfl
    refine ⟨(a - 48).toNat, by omega, by omega, by simp [numL]; omega, ?_⟩
    unfold digs
    rw [if_pos (by omega)]
    congr 1; omega
  | [a, b], _, _, hd, h7 =>
    have ha := h7 a [b] rfl
    have hb := hd 1 b (by simp) rfl
    refine ⟨(10 * (a - 48) + (b - 48)).toNat, by omega, by omega, by simp [numL]; omega, ?_⟩
    unfold digs
    rw [if_neg (by omega), if_pos (by omega)]
    congr 1
    · omega
    · congr 1; omega
  | [a, b, c], _, _, hd, h7 =>
    have ha := h7 a [b, c] rfl
    have hb := hd 1 b (by simp) rfl
    have hc := hd 2 c (by simp) rfl
    refine ⟨(100 * (a - 48) + 10 * (b - 48) + (c - 48)).toNat, by omega, by omega, by simp [numL]; omega, ?_⟩
    unfold digs
    rw [if_neg (by omega), if_neg (by omega), if_pos (by omega)]
    congr 1
    · omega
    · congr 1
      · omega
      · congr 1; omega
  | [a, b, c, d], _, _, hd, h7 =>
    have ha := h7 a [b, c, d] rfl
    have hb := hd 1 b (by simp) rfl
    have hc := hd 2 c (by simp) rfl
    have he := hd 3 d (by simp) rfl
    refine ⟨(1000 * (a - 48) + 100 * (b - 48) + 10 * (c - 48) + (d - 48)).toNat, by omega, by omega, by simp [numL]; omega, ?_⟩
    unfold digs
    rw [if_neg (by omega), if_neg (by omega), if_neg (by omega)]
    congr 1
    · omega
    · congr 1
      · omega
      · congr 1
        · omega
        · congr 1; omega
  | a :: b :: c :: d :: e :: r, h, h4, _, _ => simp at h; omega
def prefS (k : Nat) : ByteArray := ⟨#[58]⟩ ++ ⟨(Lib.itoa (k : Int)).toArray⟩
theorem bs_pref (k : Nat) (h : k ≤ 9999) : bs (prefS k) = 58 :: digs k := by
  unfold prefS
  rw [bs_append, itoa_digs k h]; rfl
theorem take_pref (nm : ByteArray) (h : nameMay nm = true) (k : Nat) (h1 : 1 ≤ k) (h2 : k ≤ 9999) : takV (nm ++ prefS k) = (nm, (k : Int), false, ((nm ++ prefS k).size : Int), 0) := by
  obtain ⟨a1, a2, a3, _, _⟩ := digs_all k h1 h2
  have hb := bs_pref k h2
  have := name_take nm (prefS k) h (by rw [hb]; unfold liveL; rw [nS_58, if_pos rfl])
  rw [hb, behN_58] at this
  rw [this, if_pos (by rw [a1]; simp; omega)]
  simp only [show ¬ ((58 : Int) = 42) from by decide, if_false, if_true]
  rw [a1, List.take_of_length_le (Nat.le_refl _), a2]
end Go.Proofs.YthllgnephigfkaaDoor.Y
