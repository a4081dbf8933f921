/- SchemaBound: what the printed law comes to. -/
import Derived.Test.YtaigmfkgobklbaaZuB
import Derived.Test.YtaigmfkgobklbaaPBx13
namespace Go.Proofs.Ytaigmfkgobklbaa.PB
set_option linter.unusedSimpArgs false
set_option linter.unusedVariables false
open Go.RowKit Go.Proofs.YtaigmfkgobklbaaW.PrintWords Go.Proofs.YtaigmfkgobklbaaW.PrintLast Y
theorem in_text (nm : ByteArray) (nd : Bool) (cl m : Int) (s : ByteArray) (hs : s.size ≤ 200) : schema_In.f nm 1 nd cl m 1 s [] [] = some (X.fitsS cl m s) := by
  unfold schema_In.f
  rw [if_pos ⟨by omega, by simp, by simp, by simp, by simp⟩]
  unfold inV textsOf
  simp
theorem bound_eq (cl m : Int) (s : ByteArray) (hm : 1 ≤ m) : X.fitsS cl m s = (X.fitsS cl 0 s && decide (((charsOr s).length : Int) ≤ m)) := by
  unfold X.fitsS
  cases hv : validS s with
  | false => simp
  | true =>
    rw [charsOr_yes hv, show (m == 0) = false from beq_eq_false_iff_ne.2 (by omega)]
    simp only [Bool.true_and, Bool.false_or, beq_self_eq_true, Bool.true_or]
    rw [Bool.and_comm]
theorem SchemaBound_pure (nm : ByteArray) (kd : Int) (nd : Bool) (cl m : Int) (s : ByteArray) : ∃ k, phalaropelaw14_SchemaBound.f k nm kd nd cl m s = some true := by
  refine ⟨1001, ?_⟩
  unfold phalaropelaw14_SchemaBound.f phalaropelaw14_awake.f
  simp only [Option.bind_some]
  have j1 : phalaropelaw14_SchemaBound.j0 1001 s true true nm kd nd cl m = some true := by
    simp only [phalaropelaw14_SchemaBound.j0, if_true]
  by_cases h1 : m < 1
  · rw [if_pos h1, j1]
  by_cases h2 : m > 8
  · rw [if_neg h1, if_pos h2, j1]
  rw [if_neg h1, if_neg h2]
  by_cases h3 : (s.size : Int) > 200
  · rw [decide_eq_true h3, j1]
  rw [decide_eq_false h3]
  simp only [phalaropelaw14_SchemaBound.j0]
  rw [if_neg (by decide), chars_f s (by omega) 1000 (by omega)]
  simp only [Option.bind_some]
  rw [if_pos trivial, in_text nm nd cl m s (by omega), in_text nm nd cl 0 s (by omega)]
  simp only [Option.bind_some]
  rw [bound_eq cl m s (by omega)]
  cases hv : validS s with
  | true => cases X.fitsS cl 0 s <;> simp
  | false =>
    rw [show X.fitsS cl 0 s = false from by unfold X.fitsS; rw [hv]; rfl]
    simp
theorem SchemaBound_walk {nm : ByteArray} {kd : Int} {nd : Bool} {cl mx : Int} {s : ByteArray} (w : World) :
    Calls Try.prog 5 #[.agg #[.string nm, .int .i64 kd, .bool nd, .int .i64 cl, .int .i64 mx], .string s] w fun e w' => e = .returned (.bool true) ∧ Below w.heap.size w w' := by
  obtain ⟨K, hK⟩ := SchemaBound_pure nm kd nd cl mx s
  exact phalaropelaw14_SchemaBound.calls K nm kd nd cl mx s true w hK
end Go.Proofs.Ytaigmfkgobklbaa.PB
