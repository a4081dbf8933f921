/- SpecTells: what the printed law comes to. -/
import Derived.Test.YthllgnephigfkaaDoorEtZpT
import Derived.Test.YthllgnephigfkaaDoorEtYw
import Derived.Test.YthllgnephigfkaaDoorEtPTx2
import Derived.Test.YthllgnephigfkaaDoorEtPTx3
import Derived.Test.YthllgnephigfkaaDoorEtPTx4
import Derived.Test.YthllgnephigfkaaDoorEtPTx5
import Derived.Test.YthllgnephigfkaaDoorEtPTx6
namespace Go.Proofs.YthllgnephigfkaaDoor.PT
set_option linter.unusedSimpArgs false
set_option linter.unusedVariables false
open Go.RowKit Go.Proofs.YthllgnephigfkaaDoorW.PrintWords Go.Proofs.YthllgnephigfkaaDoorW.PrintLast Y
theorem awakeB_f : phalaropelaw06_awake.f = some true := by decide +kernel
theorem takeB_f (s : ByteArray) (hs : s.size ≤ 1000000) : spec_Take.f s = some (takV s) := if_pos hs
def specB (nm : ByteArray) (mx : Int) (st : Bool) : Bool := nameMay nm && decide (0 ≤ mx) && decide (mx ≤ 9999) && !(st && decide (0 < mx))
theorem specBB_f (nm : ByteArray) (mx : Int) (st : Bool) (h : nm.size ≤ 1000000) : spec_May.f nm mx st = some (specB nm mx st) := by
  unfold spec_May.f specB vname_May.f
  rw [if_pos h]
  cases nameMay nm <;> by_cases h0 : 0 ≤ mx <;> by_cases h1 : mx ≤ 9999 <;> cases st <;> by_cases h2 : 0 < mx <;> simp [h0, h1, h2] <;> omega
def putS (nm : ByteArray) (mx : Int) (st : Bool) : ByteArray := if specB nm mx st = true then (if st = true then nm ++ ⟨#[42]⟩ else if 0 < mx then nm ++ prefS mx.toNat else nm) else ⟨#[]⟩
theorem itoaB_len (k : Nat) (h1 : 1 ≤ k) (h2 : k ≤ 9999) : (⟨(Lib.itoa (k : Int)).toArray⟩ : ByteArray).size ≤ 4 := by
  rw [← bs_length, itoa_digs k h2]; exact (digs_all k h1 h2).2.2.2.2
theorem putB_f (nm : ByteArray) (mx : Int) (st : Bool) (h : nm.size ≤ 1000000) : spec_Put.f nm mx st = some (putS nm mx st) := by
  unfold spec_Put.f putS
  rw [specBB_f nm mx st h]
  simp only [Option.bind_some]
  by_cases hb : specB nm mx st = true
  · rw [if_pos hb, if_pos hb]
    cases st with
    | true => rw [if_pos rfl, if_pos rfl, if_pos (by omega)]
    | false =>
      simp only [Bool.false_eq_true, if_false]
      by_cases h0 : 0 < mx
      · have hm : mx ≤ 9999 := by unfold specB at hb; simp at hb; omega
        rw [if_pos h0, if_pos h0, if_pos (by omega)]
        have hi : strconv_Itoa.f mx = some ⟨(Lib.itoa mx).toArray⟩ := by unfold strconv_Itoa.f; rw [if_pos ⟨by omega, by omega⟩]
        rw [hi]
        simp only [Option.bind_some]
        have hl := itoaB_len mx.toNat (by omega) (by omega)
        have hc : ((mx.toNat : Nat) : Int) = mx := Int.toNat_of_nonneg (by omega)
        rw [hc] at hl
        rw [if_pos (by rw [size_append']; have e : (⟨#[58]⟩ : ByteArray).size = 1 := rfl; omega)]
        congr 1
        unfold prefS
        rw [hc]
        exact bs_inj (by rw [bs_append, bs_append, bs_append, bs_append, List.append_assoc])
      · rw [if_neg h0, if_neg h0]
  · rw [if_neg hb, if_neg hb]
theorem specB_iff {nm : ByteArray} {mx : Int} {st : Bool} : specB nm mx st = true ↔ nameMay nm = true ∧ 0 ≤ mx ∧ mx ≤ 9999 ∧ (st = true → mx ≤ 0) := by
  unfold specB
  cases st <;> simp [and_assoc] <;> intros <;> omega
theorem take_put (nm : ByteArray) (mx : Int) (st : Bool) (h : specB nm mx st = true) : takV (putS nm mx st) = (nm, mx, st, ((putS nm mx st).size : Int), 0) := by
  obtain ⟨h1, h2, h3, h4⟩ := specB_iff.1 h
  unfold putS
  rw [if_pos h]
  cases st with
  | true =>
    have := h4 rfl
    obtain rfl : mx = 0 := by omega
    rw [if_pos rfl]; exact take_star nm h1
  | false =>
    simp only [Bool.false_eq_true, if_false]
    by_cases h0 : 0 < mx
    · rw [if_pos h0]
      have := take_pref nm h1 mx.toNat (by omega) (by omega)
      rw [Int.toNat_of_nonneg h2] at this
      exact this
    · rw [if_neg h0]
      obtain rfl : mx = 0 := by omega
      exact take_plain nm h1
def behR : List Int → Int × Bool | [] => (0, false) | c :: l => if c = 42 then (0, true) else if c = 58 then (numL (l.take (figL 7 l)), false) else (0, false)
theorem put_take (s : ByteArray) (h : okS s = true) : specB (s.extract 0 (endN s)) (behV s).1 (behV s).2 = true ∧ putS (s.extract 0 (endN s)) (behV s).1 (behV s).2 = s := by
  have hk := h
  unfold okS at hk
  rw [Bool.and_eq_true, decide_eq_true_iff] at hk
  have hname : nameMay (s.extract 0 (endN s)) = true := by
    rw [nameMay_iff, bs_take]
    rcases endN_ways s with h' | h'
    · omega
    · exact h'.2.2.1
  have hsp := bs_split s
  obtain ⟨r, hr⟩ : ∃ r, (bs s).drop (endN s) = r := ⟨_, rfl⟩
  rw [hr] at hk hsp
  have hbv : behV s = behR r := by unfold behV; rw [hr]; rfl
  rw [hbv]
  clear hbv hr
  match r with
  | [] =>
    simp only [behR]
    have hs : specB (s.extract 0 (endN s)) 0 false = true := specB_iff.2 ⟨hname, by omega, by omega, fun h => by cases h⟩
    refine ⟨hs, ?_⟩
    unfold putS
    rw [if_pos hs]
    simp only [Bool.false_eq_true, if_false]
    rw [if_neg (by decide)]
    exact bs_inj (by rw [bs_take]; simpa using hsp.symm)
  | c :: l =>
    simp only [behR]
    by_cases h42 : c = 42
    · subst h42
      rw [behN_42] at hk
      have hl : l = [] := List.eq_nil_of_length_eq_zero (by simpa using hk.2)
      subst hl
      simp only [if_true]
      have hs : specB (s.extract 0 (endN s)) 0 true = true := specB_iff.2 ⟨hname, by omega, by omega, fun _ => by omega⟩
      refine ⟨hs, ?_⟩
      unfold putS
      rw [if_pos hs, if_pos rfl]
      exact bs_inj (by rw [bs_append, bs_take]; exact hsp.symm)
    by_cases h58 : c = 58
    · subst h58
      rw [behN_58] at hk
      simp only [Bool.and_eq_true, decide_eq_true_eq, beq_iff_eq] at hk
      obtain ⟨_, hf0, hfl⟩ := hk
      obtain ⟨k, k1, k2, k3, k4⟩ := digs_back l hf0 hfl
      simp only [show ¬ ((58 : Int) = 42) from by decide, if_false, if_true]
      rw [hfl, List.take_of_length_le (Nat.le_refl _), k3]
      have hs : specB (s.extract 0 (endN s)) (k : Int) false = true := specB_iff.2 ⟨hname, by omega, by omega, fun h => by cases h⟩
      refine ⟨hs, ?_⟩
      unfold putS
      rw [if_pos hs]
      simp only [Bool.false_eq_true, if_false]
      rw [if_pos (by omega), Int.toNat_natCast]
      exact bs_inj (by rw [bs_append, bs_take, bs_pref k k2, k4]; exact hsp.symm)
    · rw [behN_no l h42 h58] at hk
      exact absurd hk.2 (by decide)
theorem tlB_eq (a b : ByteArray) : a.toList = b.toList ↔ a = b := by
  constructor
  · intro h
    rw [ByteArray.toList_eq, ByteArray.toList_eq] at h
    cases a; cases b; simp at h; simp [h]
  · rintro rfl; rfl
theorem one_bs (c : Int) (h : 0 ≤ c ∧ c < 256) : bs (strOfNums [c]) = [c] ∧ (strOfNums [c]).size = 1 := by
  have e : bs (strOfNums [c]) = [c] := by
    unfold strOfNums bs
    simp
    omega
  exact ⟨e, by rw [← bs_length, e]; rfl⟩
theorem rspec_f (nm : ByteArray) (mx : Int) (st : Bool) (k : Nat) (hk : nm.size + 1 < k) : phalaroperef06_May.f k nm mx st = some (specB nm mx st) := by
  unfold phalaroperef06_May.f specB
  rw [rname_f nm k hk]
  simp only [Option.bind_some]
  cases nameMay nm <;> by_cases h0 : 0 ≤ mx <;> by_cases h1 : mx ≤ 9999 <;> cases st <;> by_cases h2 : 0 < mx <;> by_cases h3 : mx = 0 <;> simp [h0, h1, h2, h3] <;> omega
theorem digs_more (n : Nat) (h1 : 10 ≤ n) (h2 : n ≤ 9999) : digs n = digs (n / 10) ++ [48 + ((n % 10 : Nat) : Int)] := by
  unfold digs
  rw [if_neg (by omega)]
  by_cases a : n < 100
  · rw [if_pos a, if_pos (by omega)]; rfl
  rw [if_neg a]
  by_cases b : n < 1000
  · rw [if_pos b, if_neg (by omega), if_pos (by omega), Nat.div_div_eq_div_mul]; rfl
  rw [if_neg b, if_neg (by omega), if_neg (by omega), if_pos (by omega), Nat.div_div_eq_div_mul, Nat.div_div_eq_div_mul]; rfl
theorem figs (d : Nat) : ∀ (n k : Nat), n < 10 ^ (d + 1) → n ≤ 9999 → d < k → ∃ r, phalaroperef06_figures.f k (n : Int) = some r ∧ bs r = digs n := by
  induction d with
  | zero =>
    intro n k h1 h2 hk
    obtain ⟨k, rfl⟩ : ∃ m, k = m + 1 := ⟨k - 1, by omega⟩
    have hn : n < 10 := by simpa using h1
    refine ⟨strOfNums [48 + (n : Int)], ?_, ?_⟩
    · simp only [phalaroperef06_figures.f]
      rw [if_pos (by omega), w64 _ (by omega) (by omega), Int.emod_eq_of_lt (by omega) (by omega)]
    · rw [(one_bs (48 + (n : Int)) ⟨by omega, by omega⟩).1]
      unfold digs; rw [if_pos hn]
  | succ d ih =>
    intro n k h1 h2 hk
    obtain ⟨k, rfl⟩ : ∃ m, k = m + 1 := ⟨k - 1, by omega⟩
    by_cases hn : n < 10
    · refine ⟨strOfNums [48 + (n : Int)], ?_, ?_⟩
      · simp only [phalaroperef06_figures.f]
        rw [if_pos (by omega), w64 _ (by omega) (by omega), Int.emod_eq_of_lt (by omega) (by omega)]
      · rw [(one_bs (48 + (n : Int)) ⟨by omega, by omega⟩).1]
        unfold digs; rw [if_pos hn]
    · have hlt : n / 10 < 10 ^ (d + 1) := by rw [Nat.div_lt_iff_lt_mul (by decide), ← Nat.pow_succ]; exact h1
      obtain ⟨r, hr, hb⟩ := ih (n / 10) k hlt (by omega) (by omega)
      have hrs : r.size ≤ 4 := by
        rw [← bs_length, hb]
        have := (digs_all (n / 10) (by omega) (by omega)).2.2.2.2
        exact this
      obtain ⟨o1, o2⟩ := one_bs (48 + ((n % 10 : Nat) : Int)) ⟨by omega, by omega⟩
      refine ⟨r ++ strOfNums [48 + ((n % 10 : Nat) : Int)], ?_, ?_⟩
      · simp only [phalaroperef06_figures.f]
        rw [if_neg (by omega), show (10 : Int) = ((10 : Nat) : Int) from rfl, tdiv64, tmod64, w64 ((n / 10 : Nat) : Int) (by omega) (by omega), hr, w64 (48 + ((n % 10 : Nat) : Int)) (by omega) (by omega), Int.emod_eq_of_lt (by omega) (by omega)]
        simp only [Option.bind_some]
        rw [if_pos (by rw [o2]; omega)]
      · rw [bs_append, hb, o1, digs_more n (by omega) h2]
theorem rput_f (nm : ByteArray) (mx : Int) (st : Bool) (h : nm.size ≤ 1000000) (k : Nat) (hk : nm.size + 10 < k) : phalaroperef06_Put.f k nm mx st = some (putS nm mx st) := by
  unfold phalaroperef06_Put.f putS
  rw [rspec_f nm mx st k (by omega)]
  simp only [Option.bind_some]
  by_cases hb : specB nm mx st = true
  · rw [if_pos hb, if_pos hb]
    cases st with
    | true => rw [if_pos rfl, if_pos rfl, if_pos (by omega)]
    | false =>
      simp only [Bool.false_eq_true, if_false]
      by_cases h0 : 0 < mx
      · have hm : mx ≤ 9999 := (specB_iff.1 hb).2.2.1
        have hc : ((mx.toNat : Nat) : Int) = mx := Int.toNat_of_nonneg (by omega)
        obtain ⟨r, hr, hrb⟩ := figs 3 mx.toNat k (by show mx.toNat < 10000; omega) (by omega) (by omega)
        rw [hc] at hr
        have hrs : r.size ≤ 4 := by
          rw [← bs_length, hrb]
          exact (digs_all mx.toNat (by omega) (by omega)).2.2.2.2
        rw [if_pos h0, if_pos h0, if_pos (by omega), hr]
        simp only [Option.bind_some]
        rw [if_pos (by rw [size_append']; have e : (⟨#[58]⟩ : ByteArray).size = 1 := rfl; omega)]
        congr 1
        exact bs_inj (by rw [bs_append, bs_append, bs_append, bs_pref _ (by omega), hrb, List.append_assoc]; rfl)
      · rw [if_neg h0, if_neg h0]
  · rw [if_neg hb, if_neg hb]
theorem fin_takeN (s : ByteArray) (m : Nat) (hm : m ≤ s.size) : finL nS 0 ((bs s).take m) ≠ 5 ↔ m ≤ badN s := by
  have hl : ((bs s).take m).length = m := by rw [List.length_take, bs_length]; omega
  rw [← live_fin nS nS_dead ((bs s).take m) 0 (by decide), hl, badN_live]
  constructor
  · intro h
    have h5 := (live_fin nS nS_dead ((bs s).take m) 0 (by decide)).1 (by rw [hl]; exact h)
    have := live_append nS nS_dead ((bs s).take m) ((bs s).drop m) 0 (by decide) h5
    rw [List.take_append_drop, hl] at this
    omega
  · intro h; exact live_take nS (bs s) 0 m h
theorem fin_takeS (s : ByteArray) (m : Nat) (hm : m ≤ s.size) : finL sS 0 ((bs s).take m) ≠ 5 ↔ m ≤ takN s := by
  have hl : ((bs s).take m).length = m := by rw [List.length_take, bs_length]; omega
  rw [← live_fin sS sS_dead ((bs s).take m) 0 (by decide), hl, (take_states s).1]
  constructor
  · intro h
    have h5 := (live_fin sS sS_dead ((bs s).take m) 0 (by decide)).1 (by rw [hl]; exact h)
    have := live_append sS sS_dead ((bs s).take m) ((bs s).drop m) 0 (by decide) h5
    rw [List.take_append_drop, hl] at this
    omega
  · intro h; exact live_take sS (bs s) 0 m h
theorem wm1T (i : Nat) (h : 0 < i) (h2 : i < 1000000000) : wrap64 ((i : Int) - 1) = ((i - 1 : Nat) : Int) := by unfold wrap64; omega
theorem rend_l0 (s : ByteArray) (hs : s.size ≤ 1000000) : ∀ n k : Nat, endN s ≤ n → n ≤ s.size → n + s.size + 10 < k → phalaroperef05_End.l0 k s (n : Int) = some (endN s : Int) := by
  intro n
  induction n with
  | zero =>
    intro k h1 h2 hk
    obtain ⟨k, rfl⟩ : ∃ m, k = m + 1 := ⟨k - 1, by omega⟩
    simp only [phalaroperef05_End.l0]
    rw [if_neg (by omega)]
    congr 1; omega
  | succ n ih =>
    intro k h1 h2 hk
    obtain ⟨k, rfl⟩ : ∃ m, k = m + 1 := ⟨k - 1, by omega⟩
    have hx : (s.extract 0 (n + 1)).size ≤ s.size := by rw [ByteArray.size_extract]; omega
    simp only [phalaroperef05_End.l0]
    rw [if_pos (by omega), if_pos (by omega), if_pos (by omega), Int.toNat_natCast, rname_f _ k (by omega)]
    simp only [Option.bind_some]
    by_cases hm : nameMay (s.extract 0 (n + 1)) = true
    · rw [if_pos hm]
      rw [nameMay_iff, bs_take] at hm
      have hb := (fin_takeN s (n + 1) h2).1 (by rw [hm]; decide)
      rcases endN_ways s with ⟨_, g⟩ | ⟨_, _, _, g⟩
      · exact absurd hm (g (n + 1) (by omega) (by rw [← badN_live]; exact hb))
      · by_cases he : endN s = n + 1
        · rw [he]
        · exact absurd hm (g (n + 1) (by omega) hb)
    · rw [if_neg hm, wm1T (n + 1) (by omega) (by omega)]
      have hne : endN s ≠ n + 1 := by
        intro he
        rcases endN_ways s with ⟨g, _⟩ | ⟨_, _, g, _⟩
        · omega
        · exact hm (by rw [nameMay_iff, bs_take, ← he]; exact g)
      exact ih k (by omega) (by omega) (by omega)
theorem rend_f (s : ByteArray) (hs : s.size ≤ 1000000) (k : Nat) (hk : 2 * s.size + 10 < k) : phalaroperef05_End.f k s = some (endN s : Int) := by
  have h1 := endN_le s
  have h2 := badN_le s
  exact rend_l0 s hs s.size k (by omega) (by omega) (by omega)
def isFin (s : ByteArray) (n : Nat) (nm : ByteArray) (v : Int) (st : Bool) : Bool := decide (0 < n) && (specB nm v st && ((putS nm v st).toList == s.toList))
theorem is_fin (k : Nat) (s r : ByteArray) (n : Nat) (nm : ByteArray) (v : Int) (st : Bool) (i : Nat) (hi : ¬ (i < r.size ∧ i < 6)) (hnm : nm.size ≤ 1000000) (hk : nm.size + 10 < k) :
    phalaroperef06_Is.l0 (k + 1) s (n : Int) r (i : Int) nm v st = some (nm, v, st, isFin s n nm v st) := by
  have e : (if (n : Int) > 0 then ((phalaroperef06_May.f k nm v st).bind fun t146 => (if t146 = true then ((phalaroperef06_Put.f k nm v st).bind fun t147 => (some (nm, v, st, (t147.toList == s.toList)))) else (some (nm, v, st, false)))) else (some (nm, v, st, false))) = some (nm, v, st, isFin s n nm v st) := by
    unfold isFin
    by_cases h0 : 0 < n
    · rw [if_pos (by omega), rspec_f nm v st k (by omega), rput_f nm v st hnm k hk, decide_eq_true h0]
      simp only [Option.bind_some]
      cases specB nm v st <;> rfl
    · rw [if_neg (by omega), decide_eq_false h0]; rfl
  simp only [phalaroperef06_Is.l0]
  by_cases h1 : i < r.size
  · rw [if_pos (by omega), if_neg (by omega)]; exact e
  · rw [if_neg (by omega)]; exact e
theorem is_go (k : Nat) (s r : ByteArray) (n : Nat) (nm : ByteArray) (v : Int) (st : Bool) (i : Nat) (h1 : i < r.size) (h2 : i < 6) :
    ∃ v', phalaroperef06_Is.l0 (k + 1) s (n : Int) r (i : Int) nm v st = phalaroperef06_Is.l0 k s (n : Int) r ((i + 1 : Nat) : Int) nm v' st ∧ (-1000000000 ≤ v → v ≤ 1000000000 → v' = 10 * v + (bI r i - 48)) := by
  have hbt : bt r (i : Int) = bI r i := bt_byteAt r i
  have hb := bI_range r i
  refine ⟨wrap64 (wrap64 (wrap64 (10 * v) + wrap64 (bt r (i : Int))) - 48), ?_, fun g1 g2 => ?_⟩
  · simp only [phalaroperef06_Is.l0]
    rw [if_pos (by omega), if_pos (by omega), if_pos (by omega), w1 i (by omega)]
  · rw [hbt, w64 (10 * v) (by omega) (by omega), w64 (bI r i) (by omega) (by omega), w64 (10 * v + bI r i) (by omega) (by omega), w64 _ (by omega) (by omega)]
    omega
theorem is_any (s r : ByteArray) (n : Nat) (nm : ByteArray) (st : Bool) (hnm : nm.size ≤ 1000000) (d : Nat) : ∀ (i : Nat) (v : Int) (k : Nat), i + d = 6 → nm.size + 20 + d < k → ∃ v', phalaroperef06_Is.l0 k s (n : Int) r (i : Int) nm v st = some (nm, v', st, isFin s n nm v' st) := by
  induction d with
  | zero =>
    intro i v k hi hk
    obtain ⟨k, rfl⟩ : ∃ m, k = m + 1 := ⟨k - 1, by omega⟩
    exact ⟨v, is_fin k s r n nm v st i (by omega) hnm (by omega)⟩
  | succ d ih =>
    intro i v k hi hk
    obtain ⟨k, rfl⟩ : ∃ m, k = m + 1 := ⟨k - 1, by omega⟩
    by_cases h : i < r.size
    · obtain ⟨v1, e1, _⟩ := is_go k s r n nm v st i h (by omega)
      obtain ⟨v2, e2⟩ := ih (i + 1) v1 k (by omega) (by omega)
      exact ⟨v2, e1.trans e2⟩
    · exact ⟨v, is_fin k s r n nm v st i (by omega) hnm (by omega)⟩
def bnd : Nat → Int | 0 => 0 | 1 => 0 | 2 => 9 | 3 => 99 | 4 => 999 | _ => 9999
theorem is_digits (s r : ByteArray) (n : Nat) (nm : ByteArray) (st : Bool) (hnm : nm.size ≤ 1000000) (l : List Int) : ∀ (i : Nat) (v : Int) (k : Nat), (bs r).drop i = l → i ≤ r.size → 1 ≤ i → i + l.length ≤ 5 → (∀ c ∈ l, 48 ≤ c ∧ c ≤ 57) → 0 ≤ v → v ≤ bnd i → nm.size + 20 + l.length < k →
    phalaroperef06_Is.l0 k s (n : Int) r (i : Int) nm v st = some (nm, l.foldl (fun a c => 10 * a + (c - 48)) v, st, isFin s n nm (l.foldl (fun a c => 10 * a + (c - 48)) v) st) := by
  induction l with
  | nil =>
    intro i v k hd hir hi1 h5 hc h0 hv hk
    obtain ⟨k, rfl⟩ : ∃ m, k = m + 1 := ⟨k - 1, by omega⟩
    have : r.size ≤ i := by
      have := congrArg List.length hd
      rw [List.length_drop, bs_length] at this
      simp at this; omega
    exact is_fin k s r n nm v st i (by omega) hnm (by simp at hk; omega)
  | cons c l ih =>
    intro i v k hd hir hi1 h5 hc h0 hv hk
    obtain ⟨k, rfl⟩ : ∃ m, k = m + 1 := ⟨k - 1, by omega⟩
    rw [List.length_cons] at h5 hk
    have hlt : i < r.size := by
      have := congrArg List.length hd
      rw [List.length_drop, bs_length, List.length_cons] at this
      omega
    rw [bs_drop r i hlt] at hd
    obtain ⟨hci, hdl⟩ := List.cons.inj hd
    have hcc := hc c List.mem_cons_self
    have hb : v ≤ 9999 ∧ 10 * v + (c - 48) ≤ bnd (i + 1) := by
      rcases (by omega : i = 1 ∨ i = 2 ∨ i = 3 ∨ i = 4) with rfl | rfl | rfl | rfl <;> simp only [bnd] at hv ⊢ <;> omega
    obtain ⟨v1, e1, hv1⟩ := is_go k s r n nm v st i hlt (by omega)
    have hv1 := hv1 (by omega) (by omega)
    rw [hci] at hv1
    rw [e1, hv1, ih (i + 1) _ k hdl (by omega) (by omega) (by omega) (fun x hx => hc x (List.mem_cons_of_mem _ hx)) (by omega) hb.2 (by omega)]
    rfl
theorem fin_put (nm : ByteArray) (v : Int) (st : Bool) (s : ByteArray) (n : Nat) (h : isFin s n nm v st = true) : takV s = (nm, v, st, (s.size : Int), 0) := by
  unfold isFin at h
  rw [Bool.and_eq_true, Bool.and_eq_true, beq_iff_eq, tlB_eq] at h
  have := take_put nm v st h.2.1
  rw [h.2.2] at this
  exact this
theorem ok_of_tv (s : ByteArray) (h : (takV s).2.2.2.2 = 0) : okS s = true := by
  rw [tv_e] at h
  cases ho : okS s with
  | true => rfl
  | false => rw [ho] at h; exact absurd h (by decide)
theorem ris_f (s : ByteArray) (hs : s.size ≤ 100000) (k : Nat) (hk : 3 * s.size + 100 < k) : ∃ nm v st, phalaroperef06_Is.f k s = some (nm, v, st, okS s) ∧ (okS s = true → takV s = (nm, v, st, (s.size : Int), 0)) := by
  have h1 := endN_le s
  have h2 := badN_le s
  obtain ⟨r, hr⟩ : ∃ r, r = s.extract (endN s) s.size := ⟨_, rfl⟩
  obtain ⟨nm, hnm⟩ : ∃ nm, nm = s.extract 0 (endN s) := ⟨_, rfl⟩
  have hns : nm.size ≤ s.size := by rw [hnm, ByteArray.size_extract]; omega
  have hbr : bs r = (bs s).drop (endN s) := by rw [hr, bs_extract]
  obtain ⟨k, rfl⟩ : ∃ m, k = m + 1 := ⟨k - 1, by omega⟩
  have e0 : phalaroperef06_Is.f (k + 1) s = phalaroperef06_Is.l0 k s (endN s : Int) r ((1 : Nat) : Int) nm 0 (decide (r.toList = ([42] : List UInt8))) := by
    unfold phalaroperef06_Is.f
    rw [rend_f s (by omega) (k + 1) (by omega)]
    simp only [Option.bind_some]
    rw [if_pos (by omega), if_pos (by omega), Int.toNat_natCast, ← hr, ← hnm]
    by_cases hst : r.toList = ([42] : List UInt8)
    · rw [if_pos hst, decide_eq_true hst]; simp only [phalaroperef06_Is.j0]; rfl
    · rw [if_neg hst, decide_eq_false hst]; simp only [phalaroperef06_Is.j0]; rfl
  -- whole: the loop tells the number
  by_cases hok : okS s = true
  · obtain ⟨p1, p2⟩ := put_take s hok
    have hk0 := hok
    unfold okS at hk0
    rw [Bool.and_eq_true, decide_eq_true_iff] at hk0
    rw [← hbr] at hk0
    have hbv : behV s = behR (bs r) := by unfold behV; rw [hbr]; rfl
    have hfin : ∀ v st, behV s = (v, st) → isFin s (endN s) nm v st = true := fun v st e => by
      rw [e, ← hnm] at p1 p2
      unfold isFin
      rw [decide_eq_true hk0.1, p1, p2]; simp
    have hst : decide (r.toList = ([42] : List UInt8)) = (bs r == [42]) := by
      rw [Bool.eq_iff_iff, decide_eq_true_iff, beq_iff_eq]
      constructor
      · intro h
        rw [ByteArray.toList_eq] at h
        unfold bs
        rw [h]; rfl
      · intro h
        have : r = ⟨#[42]⟩ := bs_inj (h.trans rfl)
        rw [this, ByteArray.toList_eq]
    have goal : ∀ v st, behV s = (v, st) → decide (r.toList = ([42] : List UInt8)) = st → phalaroperef06_Is.l0 k s (endN s : Int) r ((1 : Nat) : Int) nm 0 st = some (nm, v, st, isFin s (endN s) nm v st) → ∃ nm v st, phalaroperef06_Is.f (k + 1) s = some (nm, v, st, okS s) ∧ (okS s = true → takV s = (nm, v, st, (s.size : Int), 0)) := by
      intro v st e es el
      refine ⟨nm, v, st, ?_, fun _ => fin_put nm v st s _ (hfin v st e)⟩
      rw [e0, es, el, hfin v st e, hok]
    match hl : bs r with
    | [] =>
      have hz : r.size = 0 := by rw [← bs_length, hl]; rfl
      rw [hl] at hbv hst
      refine goal 0 false hbv (by rw [hst]; rfl) ?_
      obtain ⟨k, rfl⟩ : ∃ m, k = m + 1 := ⟨k - 1, by omega⟩
      exact is_fin k s r _ nm 0 false 1 (by omega) (by omega) (by omega)
    | c :: l =>
      rw [hl] at hbv hst hk0
      by_cases h42 : c = 42
      · subst h42
        rw [behN_42] at hk0
        have hll : l = [] := List.eq_nil_of_length_eq_zero (by simpa using hk0.2)
        subst hll
        have hz : r.size = 1 := by rw [← bs_length, hl]; rfl
        refine goal 0 true (by rw [hbv]; rfl) (by rw [hst]; rfl) ?_
        obtain ⟨k, rfl⟩ : ∃ m, k = m + 1 := ⟨k - 1, by omega⟩
        exact is_fin k s r _ nm 0 true 1 (by omega) (by omega) (by omega)
      by_cases h58 : c = 58
      · subst h58
        rw [behN_58] at hk0
        simp only [Bool.and_eq_true, decide_eq_true_eq, beq_iff_eq] at hk0
        obtain ⟨_, hf0, hfl⟩ := hk0
        have h4 := fig_four l
        have hz : r.size = l.length + 1 := by rw [← bs_length, hl]; rfl
        have hdg : ∀ x ∈ l, 48 ≤ x ∧ x ≤ 57 := fun x hx => by
          obtain ⟨j, hj, rfl⟩ := List.mem_iff_getElem.1 hx
          exact dig_is.1 (fig_digits l 7 (by omega) j _ (by omega) (List.getElem?_eq_getElem hj))
        refine goal (numL l) false (by rw [hbv]; show (if (58 : Int) = 42 then ((0 : Int), true) else if (58 : Int) = 58 then (numL (l.take (figL 7 l)), false) else (0, false)) = _; rw [if_neg (by decide), if_pos rfl, hfl, List.take_of_length_le (Nat.le_refl _)]) (by rw [hst]; simp) ?_
        exact is_digits s r _ nm false (by omega) l 1 0 k (by rw [hl]; rfl) (by omega) (by omega) (by omega) hdg (by omega) (by decide) (by omega)
      · rw [behN_no l h42 h58] at hk0
        exact absurd hk0.2 (by decide)
  · obtain ⟨v, ev⟩ := is_any s r (endN s) nm (decide (r.toList = ([42] : List UInt8))) (by omega) 5 1 0 k (by omega) (by omega)
    have hf : isFin s (endN s) nm v (decide (r.toList = ([42] : List UInt8))) = false := by
      cases h : isFin s (endN s) nm v (decide (r.toList = ([42] : List UInt8))) with
      | false => rfl
      | true => exact absurd (ok_of_tv s (by rw [fin_put nm v _ s _ h])) hok
    exact ⟨nm, v, _, by rw [e0, ev, hf, (by simpa using hok : okS s = false)], fun h => absurd h hok⟩
theorem sS_le (q : Nat) (c : Int) : sS q c ≤ 11 := by
  have := nS_le q c
  have := nS_le 1 c
  unfold sS
  repeat' split
  all_goals omega
theorem fin_leS (l : List Int) : ∀ q, q ≤ 11 → finL sS q l ≤ 11 := by
  induction l with
  | nil => intro q h; exact h
  | cons c l ih => intro q h; rw [finL_cons]; exact ih _ (sS_le q c)
theorem rbeg_f (u : ByteArray) (hs : u.size ≤ 10000) (k : Nat) (hk : 3 * u.size + 200 < k) : phalaroperef06_Begins.f k u = some (decide (finL sS 0 (bs u) ≠ 5)) := by
  have e1 : (⟨#[97]⟩ : ByteArray).size = 1 := rfl
  have e2 : (⟨#[52, 49]⟩ : ByteArray).size = 2 := rfl
  have e3 : (⟨#[49]⟩ : ByteArray).size = 1 := rfl
  obtain ⟨_, _, _, i0, _⟩ := ris_f u (by omega) k (by omega)
  obtain ⟨_, _, _, i1, _⟩ := ris_f (u ++ ⟨#[97]⟩) (by rw [size_append', e1]; omega) k (by rw [size_append', e1]; omega)
  obtain ⟨_, _, _, i2, _⟩ := ris_f (u ++ ⟨#[52, 49]⟩) (by rw [size_append', e2]; omega) k (by rw [size_append', e2]; omega)
  obtain ⟨_, _, _, i3, _⟩ := ris_f (u ++ ⟨#[49]⟩) (by rw [size_append', e3]; omega) k (by rw [size_append', e3]; omega)
  unfold phalaroperef06_Begins.f
  rw [i0, i1, i2, i3]
  simp only [Option.bind_some]
  rw [if_pos (show u.size + 1 ≤ 9223372036854775807 by omega), if_pos (show u.size + 2 ≤ 9223372036854775807 by omega)]
  rw [(take_states u).2, (take_states (u ++ ⟨#[97]⟩)).2, (take_states (u ++ ⟨#[52, 49]⟩)).2, (take_states (u ++ ⟨#[49]⟩)).2, bs_append, bs_append, bs_append, finL_append, finL_append, finL_append]
  have hq := fin_leS (bs u) 0 (by decide)
  have b1 : bs ⟨#[97]⟩ = [97] := rfl
  have b2 : bs ⟨#[52, 49]⟩ = [52, 49] := rfl
  have b3 : bs ⟨#[49]⟩ = [49] := rfl
  rw [b1, b2, b3]
  generalize finL sS 0 (bs u) = q at *
  rcases (by omega : q = 0 ∨ q = 1 ∨ q = 2 ∨ q = 3 ∨ q = 4 ∨ q = 5 ∨ q = 6 ∨ q = 7 ∨ q = 8 ∨ q = 9 ∨ q = 10 ∨ q = 11) with rfl | rfl | rfl | rfl | rfl | rfl | rfl | rfl | rfl | rfl | rfl | rfl <;> rfl
theorem rtake_l0 (s : ByteArray) (hs : s.size ≤ 10000) (d : Nat) : ∀ k n : Nat, n + d = takN s → 4 * s.size + 300 + d < k → phalaroperef06_Take.l0 k s (n : Int) = some (⟨#[]⟩, 0, false, (takN s : Int), 2) := by
  have hb := takN_le s
  induction d with
  | zero =>
    intro k n hn hk
    obtain ⟨k, rfl⟩ : ∃ m, k = m + 1 := ⟨k - 1, by omega⟩
    have hnn : n = takN s := by omega
    simp only [phalaroperef06_Take.l0]
    by_cases hlt : n < s.size
    · have hx : (s.extract 0 (n + 1)).size ≤ s.size := by rw [ByteArray.size_extract]; omega
      rw [if_pos (by omega), w1 n (by omega), if_pos (by omega), if_pos (by omega), Int.toNat_natCast, rbeg_f _ (by omega) k (by omega), bs_take]
      have hf : ¬ (finL sS 0 ((bs s).take (n + 1)) ≠ 5) := fun h => by have := (fin_takeS s (n + 1) (by omega)).1 h; omega
      rw [decide_eq_false hf, hnn]
      rfl
    · rw [if_neg (by omega), hnn]
  | succ d ih =>
    intro k n hn hk
    obtain ⟨k, rfl⟩ : ∃ m, k = m + 1 := ⟨k - 1, by omega⟩
    simp only [phalaroperef06_Take.l0]
    have hx : (s.extract 0 (n + 1)).size ≤ s.size := by rw [ByteArray.size_extract]; omega
    rw [if_pos (by omega), w1 n (by omega), if_pos (by omega), if_pos (by omega), Int.toNat_natCast, rbeg_f _ (by omega) k (by omega), bs_take, decide_eq_true ((fin_takeS s (n + 1) (by omega)).2 (by omega))]
    simp only [Option.bind_some, if_true]
    exact ih k (n + 1) (by omega) (by omega)
theorem rtake_f (s : ByteArray) (hs : s.size ≤ 10000) (k : Nat) (hk : 5 * s.size + 400 < k) : phalaroperef06_Take.f k s = some (takV s) := by
  obtain ⟨nm, v, st, e, h⟩ := ris_f s (by omega) k (by omega)
  have hle := takN_le s
  unfold phalaroperef06_Take.f
  rw [e]
  simp only [Option.bind_some]
  by_cases hok : okS s = true
  · rw [if_pos hok, h hok]
  · rw [if_neg hok, show (0 : Int) = ((0 : Nat) : Int) from rfl, rtake_l0 s hs (takN s) k 0 (by omega) (by omega)]
    unfold takV
    rw [if_neg hok]
theorem SpecTells_pure (nm : ByteArray) (mx : Int) (st : Bool) (s : ByteArray) : ∃ k, phalaropelaw06_SpecTells.f k nm mx st s = some true := by
  obtain ⟨K, hK⟩ : ∃ K, K = 10000 := ⟨_, rfl⟩
  refine ⟨K + 1, ?_⟩
  have up : ∀ b, b = true → phalaropelaw06_SpecTells.j0 (K + 1) s true b nm mx st = some true := fun b hb => by simp only [phalaropelaw06_SpecTells.j0]; rw [if_pos hb]
  unfold phalaropelaw06_SpecTells.f
  rw [awakeB_f]
  simp only [Option.bind_some]
  by_cases h1 : (nm.size : Int) > 200
  · rw [if_pos h1]; exact up true rfl
  rw [if_neg h1]
  by_cases h2 : (s.size : Int) > 200
  · rw [decide_eq_true h2]; exact up true rfl
  rw [decide_eq_false h2]
  simp only [phalaropelaw06_SpecTells.j0, Bool.false_eq_true, if_false, if_true]
  rw [takeB_f s (by omega), rtake_f s (by omega) K (by omega), specBB_f nm mx st (by omega), rspec_f nm mx st K (by omega), putB_f nm mx st (by omega), rput_f nm mx st (by omega) K (by omega)]
  simp only [Option.bind_some, beq_self_eq_true, Bool.and_self, if_true]
theorem SpecTells_walk {nm : ByteArray} {mx : Int} {st : Bool} {s : ByteArray} (w : World) (hG : X.Gl w) : Calls Tryd.prog 3 #[.agg #[.string nm, .int .i64 mx, .bool st], .string s] w fun e w' => e = .returned (.bool true) ∧ Below w.heap.size w w' := by
  obtain ⟨k, hk⟩ := SpecTells_pure nm mx st s
  exact phalaropelaw06_SpecTells.calls k nm mx st s true w hk hG
end Go.Proofs.YthllgnephigfkaaDoor.PT
