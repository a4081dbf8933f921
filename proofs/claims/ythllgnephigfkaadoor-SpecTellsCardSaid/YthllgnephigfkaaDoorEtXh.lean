/- schema.Has and what it calls. -/
import Derived.Test.YthllgnephigfkaaDoorEtXd
import Derived.Test.YthllgnephigfkaaDoorEtYh
namespace Go.Proofs.YthllgnephigfkaaDoor.X
set_option linter.unusedSimpArgs false
set_option linter.unusedVariables false
open Go.RowKit Go.Proofs.YthllgnephigfkaaDoorW.PrintWords Go.Proofs.YthllgnephigfkaaDoor.Y
end Go.Proofs.YthllgnephigfkaaDoor.X
