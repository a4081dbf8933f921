/- Arguments of the api's own types, read down. -/
import Derived.Test.YtaigmfkgobklbaaXr
import Derived.Test.YtaigmfkgobklbaaPAx0
namespace Go.Proofs.Ytaigmfkgobklbaa.PA
set_option linter.unusedSimpArgs false
set_option linter.unusedVariables false
open Go.RowKit Go.Joins Go.WideShapes Go.ChangeShapes Go.Proofs.YtaigmfkgobklbaaW.PrintWords X
theorem down_pair : Down Try.prog k44 (fun x => x.f0.size ≤ maxLen ∧ x.f1.size ≤ maxLen) 44 :=
  down_iso (fun p => ⟨p.1, p.2⟩) (fun _ => rfl) (down_struct Try.underlying44 (fdown_cons (down_string Try.underlying9) rfl (by kernel_rfl) (fdown_one (down_string Try.underlying9) rfl (by kernel_rfl))) (by kernel_rfl))
def valueK : Kd (Int × ByteArray × List ByteArray × List S44) := Kd.pair (Kd.int .i64) (Kd.pair Kd.string (Kd.pair (Kd.slice 9 Kd.string) (Kd.slice 44 k44)))
theorem down_value : Down Try.prog valueK (fun x => (Lit.int .i64 x.1).wf = true ∧ x.2.1.size ≤ maxLen ∧ (∀ y ∈ x.2.2.1, y.size ≤ maxLen) ∧ ∀ y ∈ x.2.2.2, y.f0.size ≤ maxLen ∧ y.f1.size ≤ maxLen) 27 :=
  down_struct Try.underlying27 (fdown_cons (down_int Try.underlying3) rfl (by kernel_rfl) (fdown_cons (down_string Try.underlying9) rfl (by kernel_rfl) (fdown_cons (down_slice Try.underlying24 (down_string Try.underlying9) (by kernel_rfl)) rfl (by kernel_rfl) (fdown_one (down_slice Try.underlying25 down_pair (by kernel_rfl)) rfl (by kernel_rfl))))) (by kernel_rfl)
theorem arg_value {H : Type} {enc : TypeId × Value → H} {w : World} {r : Reach} {b0 base : Nat} {spare : Nat → Bool} {held : Bool} {v : Value} {x : DataW H} {p : List MemPlace} (hv : Value.okWide Try.prog w r b0 27 v) (h : DataW.Trod enc Try.prog w base spare held 27 v x p) :
    ∃ (k : Int) (s : ByteArray) (A0 : Option Addr) (l : List ByteArray) (c0 : Nat) (A1 : Option Addr) (q : List S44) (c1 : Nat), v = .agg #[.int .i64 k, .string s, .slice A0 l.length c0, .slice A1 q.length c1] ∧ (Lit.int .i64 k).wf = true ∧
      Kd.C Kd.string w A0 l.length l ∧ l.length ≤ c0 ∧ Kd.C k44 w A1 q.length q ∧ q.length ≤ c1 := by
  obtain ⟨⟨k, s, l, q⟩, cs, rfl, ⟨_, _, e, rfl, _, _, rfl, rfl, _, _, rfl, ⟨A0, c0, rfl, hl, hr⟩, ⟨A1, c1, rfl, hq, hs⟩⟩, hk, _⟩ := arg_struct Try.underlying27 down_value hv h
  refine ⟨k, s, A0, l, c0, A1, q, c1, ?_, hk, hr, hl, hs, hq⟩
  have : cs = #[.int .i64 k, .string s, .slice A0 l.length c0, .slice A1 q.length c1] := by rw [← Array.toArray_toList (xs := cs), e]; rfl
  rw [this]
def varK : Kd (ByteArray × Int × Bool × Int × Int) := Kd.pair Kd.string (Kd.pair (Kd.int .i64) (Kd.pair Kd.bool (Kd.pair (Kd.int .i64) (Kd.int .i64))))
theorem down_var : Down Try.prog varK (fun x => x.1.size ≤ maxLen ∧ (Lit.int .i64 x.2.1).wf = true ∧ True ∧ (Lit.int .i64 x.2.2.2.1).wf = true ∧ (Lit.int .i64 x.2.2.2.2).wf = true) 23 :=
  down_struct Try.underlying23 (fdown_cons (down_string Try.underlying9) rfl (by kernel_rfl) (fdown_cons (down_int Try.underlying3) rfl (by kernel_rfl) (fdown_cons (down_bool Try.underlying4) rfl (by kernel_rfl) (fdown_cons (down_int Try.underlying3) rfl (by kernel_rfl) (fdown_one (down_int Try.underlying3) rfl (by kernel_rfl)))))) (by kernel_rfl)
theorem arg_var {H : Type} {enc : TypeId × Value → H} {w : World} {r : Reach} {b0 base : Nat} {spare : Nat → Bool} {held : Bool} {v : Value} {x : DataW H} {p : List MemPlace} (hv : Value.okWide Try.prog w r b0 23 v) (h : DataW.Trod enc Try.prog w base spare held 23 v x p) :
    ∃ (nm : ByteArray) (k : Int) (b : Bool) (c m : Int), v = .agg #[.string nm, .int .i64 k, .bool b, .int .i64 c, .int .i64 m] ∧ nm.size ≤ maxLen ∧ (Lit.int .i64 k).wf = true ∧ (Lit.int .i64 c).wf = true ∧ (Lit.int .i64 m).wf = true := by
  obtain ⟨⟨nm, k, b, c, m⟩, cs, rfl, ⟨_, _, e, rfl, _, _, rfl, rfl, _, _, rfl, rfl, _, _, rfl, rfl, rfl⟩, h1, h2, _, h3, h4⟩ := arg_struct Try.underlying23 down_var hv h
  refine ⟨nm, k, b, c, m, ?_, h1, h2, h3, h4⟩
  have : cs = #[.string nm, .int .i64 k, .bool b, .int .i64 c, .int .i64 m] := by rw [← Array.toArray_toList (xs := cs), e]; rfl
  rw [this]
end Go.Proofs.Ytaigmfkgobklbaa.PA
