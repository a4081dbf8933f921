/- schema.Has and what it calls. -/
import Derived.Test.YtbjeegkmafbejaaXd
import Derived.Test.YtbjeegkmafbejaaYh
namespace Go.Proofs.Ytbjeegkmafbejaa.X
set_option linter.unusedSimpArgs false
set_option linter.unusedVariables false
open Go.RowKit Go.Proofs.YtbjeegkmafbejaaW.PrintWords Go.Proofs.Ytbjeegkmafbejaa.Y
theorem of_dec {p : Prop} [Decidable p] (h : p) : decide p = true := decide_eq_true h
theorem of_ndec {p : Prop} [Decidable p] (h : ¬ p) : decide p = false := decide_eq_false h

end Go.Proofs.Ytbjeegkmafbejaa.X
