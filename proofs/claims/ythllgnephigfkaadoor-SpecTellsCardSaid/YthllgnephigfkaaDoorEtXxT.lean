/- A spec as an argument, read down (no print in it). -/
import Derived.Test.YthllgnephigfkaaDoorEtXr
namespace Go.Proofs.YthllgnephigfkaaDoor.PT
open Go.RowKit Go.Proofs.YthllgnephigfkaaDoorW.PrintWords Go.Proofs.YthllgnephigfkaaDoorW.PrintLast X
def specK : Kd (ByteArray × Int × Bool) := Kd.pair Kd.string (Kd.pair (Kd.int .i64) Kd.bool)
theorem down_spec : Down Tryd.prog specK (fun x => x.1.size ≤ maxLen ∧ (Lit.int .i64 x.2.1).wf = true ∧ True) 23 :=
  down_struct Tryd.underlying23 (fdown_cons (down_string Tryd.underlying9) rfl (by kernel_rfl) (fdown_cons (down_int Tryd.underlying3) rfl (by kernel_rfl) (fdown_one (down_bool Tryd.underlying4) rfl (by kernel_rfl)))) (by kernel_rfl)
theorem arg_spec {H : Type} {enc : TypeId × Value → H} {w : World} {r : Reach} {b0 base : Nat} {spare : Nat → Bool} {held : Bool} {v : Value} {x : DataW H} {p : List MemPlace} (hv : Value.okWide Tryd.prog w r b0 23 v) (h : DataW.Trod enc Tryd.prog w base spare held 23 v x p) :
    ∃ (nm : ByteArray) (k : Int) (b : Bool), v = .agg #[.string nm, .int .i64 k, .bool b] ∧ nm.size ≤ maxLen ∧ (Lit.int .i64 k).wf = true := by
  obtain ⟨⟨nm, k, b⟩, cs, rfl, ⟨_, _, e, rfl, _, _, rfl, rfl, rfl⟩, h1, h2, _⟩ := arg_struct Tryd.underlying23 down_spec hv h
  refine ⟨nm, k, b, ?_, h1, h2⟩
  have : cs = #[.string nm, .int .i64 k, .bool b] := by rw [← Array.toArray_toList (xs := cs), e]; rfl
  rw [this]
end Go.Proofs.YthllgnephigfkaaDoor.PT
