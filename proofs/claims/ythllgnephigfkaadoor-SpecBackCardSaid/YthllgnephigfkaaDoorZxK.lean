/- SpecBack: what the printed law comes to. -/
import Derived.Test.YthllgnephigfkaaDoorYw
import Derived.Test.YthllgnephigfkaaDoorPKx2
import Derived.Test.YthllgnephigfkaaDoorPKx3
namespace Go.Proofs.YthllgnephigfkaaDoor.PK
set_option linter.unusedSimpArgs false
set_option linter.unusedVariables false
open Go.RowKit Go.Proofs.YthllgnephigfkaaDoorW.PrintWords Go.Proofs.YthllgnephigfkaaDoorW.PrintLast Y
theorem awakeB_f : phalaropelaw06_awake.f = some true := by decide +kernel
theorem takeB_f (s : ByteArray) (hs : s.size ≤ 1000000) : spec_Take.f s = some (takV s) := if_pos hs
/-- May a variable stand in an expression so? -/
def specB (nm : ByteArray) (mx : Int) (st : Bool) : Bool := nameMay nm && decide (0 ≤ mx) && decide (mx ≤ 9999) && !(st && decide (0 < mx))
theorem specBB_f (nm : ByteArray) (mx : Int) (st : Bool) (h : nm.size ≤ 1000000) : spec_May.f nm mx st = some (specB nm mx st) := by
  unfold spec_May.f specB vname_May.f
  rw [if_pos h]
  cases nameMay nm <;> by_cases h0 : 0 ≤ mx <;> by_cases h1 : mx ≤ 9999 <;> cases st <;> by_cases h2 : 0 < mx <;> simp [h0, h1, h2] <;> omega
/-- What Put writes. -/
def putS (nm : ByteArray) (mx : Int) (st : Bool) : ByteArray := if specB nm mx st = true then (if st = true then nm ++ ⟨#[42]⟩ else if 0 < mx then nm ++ prefS mx.toNat else nm) else ⟨#[]⟩
theorem itoaB_len (k : Nat) (h1 : 1 ≤ k) (h2 : k ≤ 9999) : (⟨(Lib.itoa (k : Int)).toArray⟩ : ByteArray).size ≤ 4 := by
  rw [← bs_length, itoa_digs k h2]; exact (digs_all k h1 h2).2.2.2.2
theorem putB_f (nm : ByteArray) (mx : Int) (st : Bool) (h : nm.size ≤ 1000000) : spec_Put.f nm mx st = some (putS nm mx st) := by
  unfold spec_Put.f putS
  rw [specBB_f nm mx st h]
  simp only [Option.bind_some]
  by_cases hb : specB nm mx st = true
  · rw [if_pos hb, if_pos hb]
    cases st with
    | true => rw [if_pos rfl, if_pos rfl, if_pos (by omega)]
    | false =>
      simp only [Bool.false_eq_true, if_false]
      by_cases h0 : 0 < mx
      · have hm : mx ≤ 9999 := by unfold specB at hb; simp at hb; omega
        rw [if_pos h0, if_pos h0, if_pos (by omega)]
        have hi : strconv_Itoa.f mx = some ⟨(Lib.itoa mx).toArray⟩ := by unfold strconv_Itoa.f; rw [if_pos ⟨by omega, by omega⟩]
        rw [hi]
        simp only [Option.bind_some]
        have hl := itoaB_len mx.toNat (by omega) (by omega)
        have hc : ((mx.toNat : Nat) : Int) = mx := Int.toNat_of_nonneg (by omega)
        rw [hc] at hl
        rw [if_pos (by rw [size_append']; have e : (⟨#[58]⟩ : ByteArray).size = 1 := rfl; omega)]
        congr 1
        unfold prefS
        rw [hc]
        exact bs_inj (by rw [bs_append, bs_append, bs_append, bs_append, List.append_assoc])
      · rw [if_neg h0, if_neg h0]
  · rw [if_neg hb, if_neg hb]
theorem specB_iff {nm : ByteArray} {mx : Int} {st : Bool} : specB nm mx st = true ↔ nameMay nm = true ∧ 0 ≤ mx ∧ mx ≤ 9999 ∧ (st = true → mx ≤ 0) := by
  unfold specB
  cases st <;> simp [and_assoc] <;> intros <;> omega
/-- There and back. -/
theorem take_put (nm : ByteArray) (mx : Int) (st : Bool) (h : specB nm mx st = true) : takV (putS nm mx st) = (nm, mx, st, ((putS nm mx st).size : Int), 0) := by
  obtain ⟨h1, h2, h3, h4⟩ := specB_iff.1 h
  unfold putS
  rw [if_pos h]
  cases st with
  | true =>
    have := h4 rfl
    obtain rfl : mx = 0 := by omega
    rw [if_pos rfl]; exact take_star nm h1
  | false =>
    simp only [Bool.false_eq_true, if_false]
    by_cases h0 : 0 < mx
    · rw [if_pos h0]
      have := take_pref nm h1 mx.toNat (by omega) (by omega)
      rw [Int.toNat_of_nonneg h2] at this
      exact this
    · rw [if_neg h0]
      obtain rfl : mx = 0 := by omega
      exact take_plain nm h1
/-- What stands behind a name says. -/
def behR : List Int → Int × Bool | [] => (0, false) | c :: l => if c = 42 then (0, true) else if c = 58 then (numL (l.take (figL 7 l)), false) else (0, false)
/-- Back and there. -/
theorem put_take (s : ByteArray) (h : okS s = true) : specB (s.extract 0 (endN s)) (behV s).1 (behV s).2 = true ∧ putS (s.extract 0 (endN s)) (behV s).1 (behV s).2 = s := by
  have hk := h
  unfold okS at hk
  rw [Bool.and_eq_true, decide_eq_true_iff] at hk
  have hname : nameMay (s.extract 0 (endN s)) = true := by
    rw [nameMay_iff, bs_take]
    rcases endN_ways s with h' | h'
    · omega
    · exact h'.2.2.1
  have hsp := bs_split s
  obtain ⟨r, hr⟩ : ∃ r, (bs s).drop (endN s) = r := ⟨_, rfl⟩
  rw [hr] at hk hsp
  have hbv : behV s = behR r := by unfold behV; rw [hr]; rfl
  rw [hbv]
  clear hbv hr
  match r with
  | [] =>
    simp only [behR]
    have hs : specB (s.extract 0 (endN s)) 0 false = true := specB_iff.2 ⟨hname, by omega, by omega, fun h => by cases h⟩
    refine ⟨hs, ?_⟩
    unfold putS
    rw [if_pos hs]
    simp only [Bool.false_eq_true, if_false]
    rw [if_neg (by decide)]
    exact bs_inj (by rw [bs_take]; simpa using hsp.symm)
  | c :: l =>
    simp only [behR]
    by_cases h42 : c = 42
    · subst h42
      rw [behN_42] at hk
      have hl : l = [] := List.eq_nil_of_length_eq_zero (by simpa using hk.2)
      subst hl
      simp only [if_true]
      have hs : specB (s.extract 0 (endN s)) 0 true = true := specB_iff.2 ⟨hname, by omega, by omega, fun _ => by omega⟩
      refine ⟨hs, ?_⟩
      unfold putS
      rw [if_pos hs, if_pos rfl]
      exact bs_inj (by rw [bs_append, bs_take]; exact hsp.symm)
    by_cases h58 : c = 58
    · subst h58
      rw [behN_58] at hk
      simp only [Bool.and_eq_true, decide_eq_true_eq, beq_iff_eq] at hk
      obtain ⟨_, hf0, hfl⟩ := hk
      obtain ⟨k, k1, k2, k3, k4⟩ := digs_back l hf0 hfl
      simp only [show ¬ ((58 : Int) = 42) from by decide, if_false, if_true]
      rw [hfl, List.take_of_length_le (Nat.le_refl _), k3]
      have hs : specB (s.extract 0 (endN s)) (k : Int) false = true := specB_iff.2 ⟨hname, by omega, by omega, fun h => by cases h⟩
      refine ⟨hs, ?_⟩
      unfold putS
      rw [if_pos hs]
      simp only [Bool.false_eq_true, if_false]
      rw [if_pos (by omega), Int.toNat_natCast]
      exact bs_inj (by rw [bs_append, bs_take, bs_pref k k2, k4]; exact hsp.symm)
    · rw [behN_no l h42 h58] at hk
      exact absurd hk.2 (by decide)
theorem tlB_eq (a b : ByteArray) : a.toList = b.toList ↔ a = b := by
  constructor
  · intro h
    rw [ByteArray.toList_eq, ByteArray.toList_eq] at h
    cases a; cases b; simp at h; simp [h]
  · rintro rfl; rfl
theorem put_none (nm : ByteArray) (mx : Int) (st : Bool) (h : specB nm mx st = false) : ((putS nm mx st).toList == ([] : List UInt8)) = true := by
  unfold putS; rw [h, if_neg (by decide), ByteArray.toList_eq]; rfl
theorem put_size (nm : ByteArray) (mx : Int) (st : Bool) : (putS nm mx st).size ≤ nm.size + 5 := by
  have e1 : (⟨#[42]⟩ : ByteArray).size = 1 := rfl
  unfold putS
  split
  · rename_i h
    obtain ⟨_, h2, h3, _⟩ := specB_iff.1 h
    split
    · rw [size_append', e1]; omega
    split
    · rename_i h0
      have hd := digs_all mx.toNat (by omega) (by omega)
      have : (prefS mx.toNat).size = 1 + (digs mx.toNat).length := by rw [← bs_length, bs_pref _ (by omega)]; simp; omega
      rw [size_append', this]; omega
    · omega
  · show 0 ≤ _; omega
theorem SpecBack_pure (nm : ByteArray) (mx : Int) (st : Bool) (s : ByteArray) : ∃ k, phalaropelaw06_SpecBack.f k nm mx st s = some true := by
  refine ⟨3, ?_⟩
  have up : ∀ b, b = true → phalaropelaw06_SpecBack.j0 3 s true b nm mx st = some true := fun b hb => by simp only [phalaropelaw06_SpecBack.j0]; rw [if_pos hb]
  unfold phalaropelaw06_SpecBack.f
  rw [awakeB_f]
  simp only [Option.bind_some]
  by_cases h1 : (nm.size : Int) > 200
  · rw [if_pos h1]; exact up true rfl
  rw [if_neg h1]
  by_cases h2 : (s.size : Int) > 200
  · rw [decide_eq_true h2]; exact up true rfl
  rw [decide_eq_false h2]
  have hps := put_size nm mx st
  have last : ∀ k, phalaropelaw06_SpecBack.j1 (k + 1) s true (putS nm mx st) nm mx st = some true := by
    intro k
    have fin : ((some (specB nm mx st)).bind fun t => if t = true then some true else some ((putS nm mx st).toList == ([] : List UInt8))) = some true := by
      cases hb : specB nm mx st with
      | true => rfl
      | false => simp only [Option.bind_some, Bool.false_eq_true, if_false]; rw [put_none nm mx st hb]
    simp only [phalaropelaw06_SpecBack.j1]
    rw [takeB_f s (by omega)]
    simp only [Option.bind_some]
    have he := tv_e s
    have hn := tv_n s
    have hle := takN_le s
    cases ho : okS s with
    | true =>
      rw [ho, if_pos rfl] at he
      obtain ⟨p1, p2⟩ := put_take s ho
      have hv : takV s = (s.extract 0 (endN s), (behV s).1, (behV s).2, (s.size : Int), 0) := by unfold takV; rw [if_pos ho]
      rw [hv]
      have hx : (s.extract 0 (endN s)).size ≤ s.size := by rw [ByteArray.size_extract]; omega
      simp only [if_true]
      rw [specBB_f _ _ _ (by omega), p1]
      simp only [Option.bind_some, if_true]
      rw [putB_f _ _ _ (by omega), p2, specBB_f nm mx st (by omega)]
      simp only [Option.bind_some, if_true]
      exact fin
    | false =>
      have hv : takV s = (⟨#[]⟩, 0, false, (takN s : Int), 2) := by unfold takV; rw [if_neg (by rw [ho]; decide)]
      rw [hv, specBB_f nm mx st (by omega)]
      simp only [show ¬ ((2 : Int) = 0) from by decide, if_false, if_true]
      rw [if_pos (by rw [ByteArray.toList_eq]; rfl), if_pos (by omega)]
      exact fin
  simp only [phalaropelaw06_SpecBack.j0, Bool.false_eq_true, if_false]
  rw [putB_f nm mx st (by omega), specBB_f nm mx st (by omega)]
  simp only [Option.bind_some]
  cases hb : specB nm mx st with
  | false => simp only [Bool.false_eq_true, if_false]; exact last 1
  | true =>
    simp only [if_true]
    rw [takeB_f _ (by omega), take_put nm mx st hb]
    simp only [Option.bind_some, beq_self_eq_true, Bool.not_true, Bool.or_self, Bool.false_eq_true, if_false, if_true]
    exact last 1
theorem SpecBack_walk {nm : ByteArray} {mx : Int} {st : Bool} {s : ByteArray} (w : World) (hG : X.Gl w) : Calls Tryd.prog 4 #[.agg #[.string nm, .int .i64 mx, .bool st], .string s] w fun e w' => e = .returned (.bool true) ∧ Below w.heap.size w w' := by
  obtain ⟨k, hk⟩ := SpecBack_pure nm mx st s
  exact phalaropelaw06_SpecBack.calls k nm mx st s true w hk hG
end Go.Proofs.YthllgnephigfkaaDoor.PK
