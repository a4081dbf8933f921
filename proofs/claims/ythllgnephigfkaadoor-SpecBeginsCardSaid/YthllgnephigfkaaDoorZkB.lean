/- SpecBegins, SpecForms: what the printed laws come to. -/
import Derived.Test.YthllgnephigfkaaDoorZpB
import Derived.Test.YthllgnephigfkaaDoorYw
import Derived.Test.YthllgnephigfkaaDoorPBx2
import Derived.Test.YthllgnephigfkaaDoorPBx3
import Derived.Test.YthllgnephigfkaaDoorPBx4
namespace Go.Proofs.YthllgnephigfkaaDoor.PB
set_option linter.unusedSimpArgs false
set_option linter.unusedVariables false
open Go.RowKit Go.Proofs.YthllgnephigfkaaDoorW.PrintWords Go.Proofs.YthllgnephigfkaaDoorW.PrintLast Y
theorem awake06_f : phalaropelaw06_awake.f = some true := by decide +kernel
theorem take_f (s : ByteArray) (hs : s.size ≤ 1000000) : spec_Take.f s = some (takV s) := if_pos hs
/-- May a variable stand in an expression so? -/
def specB (nm : ByteArray) (mx : Int) (st : Bool) : Bool := nameMay nm && decide (0 ≤ mx) && decide (mx ≤ 9999) && !(st && decide (0 < mx))
theorem spec_f (nm : ByteArray) (mx : Int) (st : Bool) (h : nm.size ≤ 1000000) : spec_May.f nm mx st = some (specB nm mx st) := by
  unfold spec_May.f specB vname_May.f
  rw [if_pos h]
  cases nameMay nm <;> by_cases h0 : 0 ≤ mx <;> by_cases h1 : mx ≤ 9999 <;> cases st <;> by_cases h2 : 0 < mx <;> simp [h0, h1, h2] <;> omega
/-- What Put writes. -/
def putS (nm : ByteArray) (mx : Int) (st : Bool) : ByteArray := if specB nm mx st = true then (if st = true then nm ++ ⟨#[42]⟩ else if 0 < mx then nm ++ prefS mx.toNat else nm) else ⟨#[]⟩
theorem itoa_len (k : Nat) (h1 : 1 ≤ k) (h2 : k ≤ 9999) : (⟨(Lib.itoa (k : Int)).toArray⟩ : ByteArray).size ≤ 4 := by
  rw [← bs_length, itoa_digs k h2]; exact (digs_all k h1 h2).2.2.2.2
theorem put_f (nm : ByteArray) (mx : Int) (st : Bool) (h : nm.size ≤ 1000000) : spec_Put.f nm mx st = some (putS nm mx st) := by
  unfold spec_Put.f putS
  rw [spec_f nm mx st h]
  simp only [Option.bind_some]
  by_cases hb : specB nm mx st = true
  · rw [if_pos hb, if_pos hb]
    cases st with
    | true => rw [if_pos rfl, if_pos rfl, if_pos (by omega)]
    | false =>
      simp only [Bool.false_eq_true, if_false]
      by_cases h0 : 0 < mx
      · have hm : mx ≤ 9999 := by unfold specB at hb; simp at hb; omega
        rw [if_pos h0, if_pos h0, if_pos (by omega)]
        have hi : strconv_Itoa.f mx = some ⟨(Lib.itoa mx).toArray⟩ := by unfold strconv_Itoa.f; rw [if_pos ⟨by omega, by omega⟩]
        rw [hi]
        simp only [Option.bind_some]
        have hl := itoa_len mx.toNat (by omega) (by omega)
        have hc : ((mx.toNat : Nat) : Int) = mx := Int.toNat_of_nonneg (by omega)
        rw [hc] at hl
        rw [if_pos (by rw [size_append']; have e : (⟨#[58]⟩ : ByteArray).size = 1 := rfl; omega)]
        congr 1
        unfold prefS
        rw [hc]
        exact bs_inj (by rw [bs_append, bs_append, bs_append, bs_append, List.append_assoc])
      · rw [if_neg h0, if_neg h0]
  · rw [if_neg hb, if_neg hb]
theorem toList_eq_iff (a b : ByteArray) : a.toList = b.toList ↔ a = b := by
  constructor
  · intro h
    rw [ByteArray.toList_eq, ByteArray.toList_eq] at h
    cases a; cases b; simp at h; simp [h]
  · rintro rfl; rfl
theorem SpecBegins_pure (s t : ByteArray) : ∃ k, phalaropelaw06_SpecBegins.f k s t = some true := by
  refine ⟨3, ?_⟩
  have up : ∀ b, b = true → phalaropelaw06_SpecBegins.j0 3 s t true b = some true := fun b hb => by simp only [phalaropelaw06_SpecBegins.j0]; rw [if_pos hb]
  unfold phalaropelaw06_SpecBegins.f
  rw [awake06_f]
  simp only [Option.bind_some]
  by_cases h1 : (s.size : Int) > 200
  · rw [if_pos h1]; exact up true rfl
  rw [if_neg h1]
  by_cases h2 : (t.size : Int) > 200
  · rw [decide_eq_true h2]; exact up true rfl
  rw [decide_eq_false h2]
  have hle := takN_le s
  have hn := tv_n s
  have he := tv_e s
  simp only [phalaropelaw06_SpecBegins.j0, Bool.false_eq_true, if_false]
  rw [take_f s (by omega)]
  simp only [Option.bind_some]
  rw [hn, if_neg (by omega), decide_eq_false (by omega)]
  simp only [phalaropelaw06_SpecBegins.j1, Bool.false_eq_true, if_false]
  rw [if_pos (by omega), if_pos (by omega), Int.toNat_natCast, take_f _ (by rw [ByteArray.size_extract]; omega)]
  simp only [Option.bind_some]
  rw [if_pos (by omega), take_f _ (by rw [size_append']; omega)]
  simp only [Option.bind_some, if_true]
  rw [tv_n (s.extract 0 (takN s)), take_cut, if_pos rfl]
  by_cases hs : takN s = s.size
  · rw [if_pos (by omega)]
  · rw [if_neg (by omega)]
    have hok : okS s = false := by
      cases h : okS s with
      | false => rfl
      | true => exact absurd (takN_ok h) hs
    obtain ⟨a1, a2⟩ := take_more s t (by omega)
    have e2 : (takV s).2.2.2.2 = 2 := by rw [he, hok]; rfl
    have e3 : (takV (s ++ t)).2.2.2.2 = 2 := by rw [tv_e, a2]; rfl
    rw [e2, if_pos rfl, e3, if_pos rfl, tv_n, a1]
    simp
theorem size_pos_ne {a b : ByteArray} (h : a.size ≠ b.size) : (a.toList != b.toList) = true := by
  rw [bne_iff_ne]
  intro e
  rw [toList_eq_iff] at e
  exact h (by rw [e])
theorem SpecForms_pure (nm : ByteArray) (c : Int) (hc : 0 ≤ c ∧ c ≤ 65535) : ∃ k, phalaropelaw06_SpecForms.f k nm c = some true := by
  refine ⟨bigK, ?_⟩
  have up : ∀ b, b = true → phalaropelaw06_SpecForms.j0 bigK nm c true b = some true := fun b hb => by
    obtain ⟨k, hk⟩ : ∃ k, bigK = k + 1 := ⟨bigK - 1, by unfold bigK; rfl⟩
    rw [hk]; simp only [phalaropelaw06_SpecForms.j0]; rw [if_pos hb]
  unfold phalaropelaw06_SpecForms.f
  rw [awake06_f]
  simp only [Option.bind_some]
  by_cases h1 : (nm.size : Int) > 200
  · rw [if_pos h1]; exact up true rfl
  rw [if_neg h1, rname_f nm bigK (by unfold bigK; omega)]
  simp only [Option.bind_some]
  cases hm : nameMay nm with
  | false => exact up _ rfl
  | true =>
    obtain ⟨k, hk⟩ : ∃ k, bigK = k + 1 := ⟨bigK - 1, by unfold bigK; rfl⟩
    rw [hk]
    simp only [phalaropelaw06_SpecForms.j0, Bool.not_true, Bool.false_eq_true, if_false]
    have ht : Int.tmod c 9999 = ((c.toNat % 9999 : Nat) : Int) := by
      rw [Int.tmod_eq_emod_of_nonneg hc.1]; omega
    have hw : wrap64 c = c := w64 c (by omega) (by omega)
    have hlt : c.toNat % 9999 < 9999 := Nat.mod_lt _ (by decide)
    obtain ⟨j, hj⟩ : ∃ j : Nat, j = 1 + c.toNat % 9999 := ⟨_, rfl⟩
    have hwj : wrap64 (1 + ((c.toNat % 9999 : Nat) : Int)) = (j : Int) := by rw [w64 _ (by omega) (by omega)]; omega
    rw [hw, ht, hwj]
    have hp : putS nm (j : Int) false = nm ++ prefS j := by
      unfold putS specB
      rw [hm, if_pos (by simp; omega), if_neg (by decide), if_pos (by omega), Int.toNat_natCast]
    have hbp := bs_pref j (by omega)
    have hd := digs_all j (by omega) (by omega)
    have hps : (prefS j).size = 1 + (digs j).length := by rw [← bs_length, hbp]; simp; omega
    rw [take_f nm (by omega), put_f nm _ false (by omega), hp]
    simp only [Option.bind_some]
    rw [if_pos (by omega), take_f _ (by rw [size_append']; have e : (⟨#[42]⟩ : ByteArray).size = 1 := rfl; omega), take_f _ (by rw [size_append']; omega)]
    simp only [Option.bind_some]
    rw [take_plain nm hm, take_star nm hm, take_pref nm hm j (by omega) (by omega)]
    simp only [if_true, beq_self_eq_true, Bool.not_false, Bool.and_self]
    rw [size_pos_ne (by rw [size_append']; omega)]
theorem SpecBegins_walk {s t : ByteArray} (w : World) (hG : X.Gl w) : Calls Tryd.prog 6 #[.string s, .string t] w fun e w' => e = .returned (.bool true) ∧ Below w.heap.size w w' := by
  obtain ⟨k, hk⟩ := SpecBegins_pure s t
  exact phalaropelaw06_SpecBegins.calls k s t true w hk hG
theorem u16_range {n : Int} (h : (Lit.int .u16 n).wf = true) : 0 ≤ n ∧ n ≤ 65535 := by
  have hw : (decide (IntKind.u16.min ≤ n) && decide (n ≤ IntKind.u16.max)) = true := h
  rw [show IntKind.u16.min = 0 from by decide, show IntKind.u16.max = 65535 from by decide, Bool.and_eq_true, decide_eq_true_eq, decide_eq_true_eq] at hw
  exact hw
theorem SpecForms_walk {s : ByteArray} {c : Int} (w : World) (hG : X.Gl w) (hc : (Lit.int .u16 c).wf = true) : Calls Tryd.prog 8 #[.string s, .int .u16 c] w fun e w' => e = .returned (.bool true) ∧ Below w.heap.size w w' := by
  obtain ⟨k, hk⟩ := SpecForms_pure s c (u16_range hc)
  exact phalaropelaw06_SpecForms.calls k s c true w hk hG
end Go.Proofs.YthllgnephigfkaaDoor.PB
