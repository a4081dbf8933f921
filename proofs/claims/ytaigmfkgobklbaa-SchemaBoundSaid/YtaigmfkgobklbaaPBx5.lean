-- Printed by wip/xprint.py of this claim's authors, over the kit's print; not trusted: Lean checks it.
import Derived.Test.YtaigmfkgobklbaaPBx0
namespace Go.Proofs.Ytaigmfkgobklbaa.PB
open Go.RowKit Go.Proofs.YtaigmfkgobklbaaW.PrintWords Go.Proofs.YtaigmfkgobklbaaW.PrintLast Go.Proofs.YtaigmfkgobklbaaW.PrintMore
attribute [local go_sem] max2_int min2_int max_two min_two max_three min_three max_four min_four   -- for this text's walks alone
set_option linter.unusedVariables false
set_option linter.unusedSimpArgs false

/-! ### schema_Has: function 11 (ours) -/
def schema_Has.f (a0 : Int) (a1 : Int) : Option (Bool) := some (Y.hasC a0 a1)
set_option maxHeartbeats 8000000 in
set_option maxRecDepth 100000 in
theorem schema_Has.calls (a0 : Int) (a1 : Int) (r : Bool) (w : World) (h : schema_Has.f a0 a1 = some r) :
    Calls Try.prog 11 #[.int .i64 a0, .int .i64 a1] w fun e w' => e = .returned (.bool r) ∧ Below w.heap.size w w' := by
  obtain rfl := Option.some.inj h
  exact X.schemaHas_any a0 a1 w
end Go.Proofs.Ytaigmfkgobklbaa.PB
