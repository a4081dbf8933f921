/- SpecBegins, SpecForms: what the printed laws come to. -/
import Derived.Test.YthllgnephigfkaaDoorZpM
import Derived.Test.YthllgnephigfkaaDoorYw
import Derived.Test.YthllgnephigfkaaDoorPMx2
namespace Go.Proofs.YthllgnephigfkaaDoor.PM
set_option linter.unusedSimpArgs false
set_option linter.unusedVariables false
open Go.RowKit Go.Proofs.YthllgnephigfkaaDoorW.PrintWords Go.Proofs.YthllgnephigfkaaDoorW.PrintLast Y
theorem awake06_f : phalaropelaw06_awake.f = some true := by decide +kernel
theorem take_f (s : ByteArray) (hs : s.size ≤ 1000000) : spec_Take.f s = some (takV s) := if_pos hs
/-- May a variable stand in an expression so? -/
def specB (nm : ByteArray) (mx : Int) (st : Bool) : Bool := nameMay nm && decide (0 ≤ mx) && decide (mx ≤ 9999) && !(st && decide (0 < mx))
theorem spec_f (nm : ByteArray) (mx : Int) (st : Bool) (h : nm.size ≤ 1000000) : spec_May.f nm mx st = some (specB nm mx st) := by
  unfold spec_May.f specB vname_May.f
  rw [if_pos h]
  cases nameMay nm <;> by_cases h0 : 0 ≤ mx <;> by_cases h1 : mx ≤ 9999 <;> cases st <;> by_cases h2 : 0 < mx <;> simp [h0, h1, h2] <;> omega
/-- What Put writes. -/
def putS (nm : ByteArray) (mx : Int) (st : Bool) : ByteArray := if specB nm mx st = true then (if st = true then nm ++ ⟨#[42]⟩ else if 0 < mx then nm ++ prefS mx.toNat else nm) else ⟨#[]⟩
theorem itoa_len (k : Nat) (h1 : 1 ≤ k) (h2 : k ≤ 9999) : (⟨(Lib.itoa (k : Int)).toArray⟩ : ByteArray).size ≤ 4 := by
  rw [← bs_length, itoa_digs k h2]; exact (digs_all k h1 h2).2.2.2.2
theorem put_f (nm : ByteArray) (mx : Int) (st : Bool) (h : nm.size ≤ 1000000) : spec_Put.f nm mx st = some (putS nm mx st) := by
  unfold spec_Put.f putS
  rw [spec_f nm mx st h]
  simp only [Option.bind_some]
  by_cases hb : specB nm mx st = true
  · rw [if_pos hb, if_pos hb]
    cases st with
    | true => rw [if_pos rfl, if_pos rfl, if_pos (by omega)]
    | false =>
      simp only [Bool.false_eq_true, if_false]
      by_cases h0 : 0 < mx
      · have hm : mx ≤ 9999 := by unfold specB at hb; simp at hb; omega
        rw [if_pos h0, if_pos h0, if_pos (by omega)]
        have hi : strconv_Itoa.f mx = some ⟨(Lib.itoa mx).toArray⟩ := by unfold strconv_Itoa.f; rw [if_pos ⟨by omega, by omega⟩]
        rw [hi]
        simp only [Option.bind_some]
        have hl := itoa_len mx.toNat (by omega) (by omega)
        have hc : ((mx.toNat : Nat) : Int) = mx := Int.toNat_of_nonneg (by omega)
        rw [hc] at hl
        rw [if_pos (by rw [size_append']; have e : (⟨#[58]⟩ : ByteArray).size = 1 := rfl; omega)]
        congr 1
        unfold prefS
        rw [hc]
        exact bs_inj (by rw [bs_append, bs_append, bs_append, bs_append, List.append_assoc])
      · rw [if_neg h0, if_neg h0]
  · rw [if_neg hb, if_neg hb]
theorem toList_eq_iff (a b : ByteArray) : a.toList = b.toList ↔ a = b := by
  constructor
  · intro h
    rw [ByteArray.toList_eq, ByteArray.toList_eq] at h
    cases a; cases b; simp at h; simp [h]
  · rintro rfl; rfl
theorem size_pos_ne {a b : ByteArray} (h : a.size ≠ b.size) : (a.toList != b.toList) = true := by
  rw [bne_iff_ne]
  intro e
  rw [toList_eq_iff] at e
  exact h (by rw [e])
theorem u16_range {n : Int} (h : (Lit.int .u16 n).wf = true) : 0 ≤ n ∧ n ≤ 65535 := by
  have hw : (decide (IntKind.u16.min ≤ n) && decide (n ≤ IntKind.u16.max)) = true := h
  rw [show IntKind.u16.min = 0 from by decide, show IntKind.u16.max = 65535 from by decide, Bool.and_eq_true, decide_eq_true_eq, decide_eq_true_eq] at hw
  exact hw
end Go.Proofs.YthllgnephigfkaaDoor.PM
