/- Arguments: a list of a schema's variables; two whole numbers in an array. -/
import Derived.Test.YtaigmfkgobklbaaXw
import Derived.Test.YtaigmfkgobklbaaPCx0
import Derived.OpenShut
namespace Go.Proofs.Ytaigmfkgobklbaa.PC
set_option linter.unusedSimpArgs false
set_option linter.unusedVariables false
open Go.RowKit Go.Joins Go.WideShapes Go.ChangeShapes Go.Proofs.YtaigmfkgobklbaaW.PrintWords X
theorem down_vars : Down Try.prog k23 (fun x => x.f0.size ≤ maxLen ∧ (Lit.int .i64 x.f1).wf = true ∧ True ∧ (Lit.int .i64 x.f3).wf = true ∧ (Lit.int .i64 x.f4).wf = true) 23 :=
  down_iso (fun p => ⟨p.1, p.2.1, p.2.2.1, p.2.2.2.1, p.2.2.2.2⟩) (fun _ => rfl) X.down_var
theorem arg_two {H : Type} {enc : TypeId × Value → H} {w : World} {r : Reach} {b0 base : Nat} {spare : Nat → Bool} {held : Bool} {v : Value} {x : DataW H} {p : List MemPlace} (hv : Value.okWide Try.prog w r b0 38 v) (h : DataW.Trod enc Try.prog w base spare held 38 v x p) :
    ∃ a b : Int, v = .agg #[.int .i64 a, .int .i64 b] ∧ (Lit.int .i64 a).wf = true ∧ (Lit.int .i64 b).wf = true := by
  have hu := Try.underlying38
  obtain ⟨cs, rfl⟩ : ∃ cs, v = .agg cs := by
    unfold Value.okWide at hv
    rw [hu] at hv
    obtain ⟨cs, e, _⟩ := hv
    exact ⟨cs, e⟩
  obtain ⟨fuel, hf⟩ := h
  obtain ⟨xs, m, _, _, hl, hx, hi⟩ := DataW.trod_array hu hf
  have h1 : Try.prog.cellsOf 3 = 1 := by kernel_rfl
  have h2 : Try.prog.cellsOf 38 = 2 := by kernel_rfl
  have i0 := hi 0 (by omega)
  have i1 := hi 1 (by omega)
  rw [h1] at i0 i1
  rw [h2] at hl
  rw [List.getElem?_eq_getElem (by omega)] at i0 i1
  obtain ⟨a, ka, wa⟩ := X.down_int Try.underlying3 H enc w base spare held m _ _ i0
  obtain ⟨b, kb, wb⟩ := X.down_int Try.underlying3 H enc w base spare held m _ _ i1
  have ka : List.take 1 (List.drop (0 * 1) (Value.agg cs).cells.toList) = [.int .i64 a] := ka
  have kb : List.take 1 (List.drop (1 * 1) (Value.agg cs).cells.toList) = [.int .i64 b] := kb
  refine ⟨a, b, ?_, wa, wb⟩
  obtain ⟨l⟩ := cs
  simp only [Value.cells] at ka kb hl
  match l, hl with
  | [y, z], _ => simp at ka kb; rw [ka, kb]
end Go.Proofs.Ytaigmfkgobklbaa.PC
