/- A schema's variable as an argument, read down (no print in it). -/
import Derived.Test.YtaigmfkgobklbaaXr
namespace Go.Proofs.Ytaigmfkgobklbaa.X
open Go.RowKit Go.Proofs.YtaigmfkgobklbaaW.PrintWords Go.Proofs.YtaigmfkgobklbaaW.PrintLast
def varK : Kd (ByteArray × Int × Bool × Int × Int) := Kd.pair Kd.string (Kd.pair (Kd.int .i64) (Kd.pair Kd.bool (Kd.pair (Kd.int .i64) (Kd.int .i64))))
theorem down_var : Down Try.prog varK (fun x => x.1.size ≤ maxLen ∧ (Lit.int .i64 x.2.1).wf = true ∧ True ∧ (Lit.int .i64 x.2.2.2.1).wf = true ∧ (Lit.int .i64 x.2.2.2.2).wf = true) 23 :=
  down_struct Try.underlying23 (fdown_cons (down_string Try.underlying9) rfl (by kernel_rfl) (fdown_cons (down_int Try.underlying3) rfl (by kernel_rfl) (fdown_cons (down_bool Try.underlying4) rfl (by kernel_rfl) (fdown_cons (down_int Try.underlying3) rfl (by kernel_rfl) (fdown_one (down_int Try.underlying3) rfl (by kernel_rfl)))))) (by kernel_rfl)
theorem arg_var {H : Type} {enc : TypeId × Value → H} {w : World} {r : Reach} {b0 base : Nat} {spare : Nat → Bool} {held : Bool} {v : Value} {x : DataW H} {p : List MemPlace} (hv : Value.okWide Try.prog w r b0 23 v) (h : DataW.Trod enc Try.prog w base spare held 23 v x p) :
    ∃ (nm : ByteArray) (k : Int) (b : Bool) (c m : Int), v = .agg #[.string nm, .int .i64 k, .bool b, .int .i64 c, .int .i64 m] ∧ nm.size ≤ maxLen ∧ (Lit.int .i64 k).wf = true ∧ (Lit.int .i64 c).wf = true ∧ (Lit.int .i64 m).wf = true := by
  obtain ⟨⟨nm, k, b, c, m⟩, cs, rfl, ⟨_, _, e, rfl, _, _, rfl, rfl, _, _, rfl, rfl, _, _, rfl, rfl, rfl⟩, h1, h2, _, h3, h4⟩ := arg_struct Try.underlying23 down_var hv h
  refine ⟨nm, k, b, c, m, ?_, h1, h2, h3, h4⟩
  have : cs = #[.string nm, .int .i64 k, .bool b, .int .i64 c, .int .i64 m] := by rw [← Array.toArray_toList (xs := cs), e]; rfl
  rw [this]
end Go.Proofs.Ytaigmfkgobklbaa.X
