/- Texts of this claim, those that nothing needs left out: Zo3. -/
import Derived.Test.YtacnflelkpkbhaaMtG20
section
namespace Go.Proofs.Ytacnflelkpkbhaa.PA
set_option linter.unusedSimpArgs false
set_option linter.unusedVariables false
open Go.RowKit Go.Maps Go.Proofs.YtacnflelkpkbhaaW.PrintWords Go.Proofs.YtacnflelkpkbhaaW.PrintLast Go.Proofs.YtacnflelkpkbhaaW.PrintMore
end Go.Proofs.Ytacnflelkpkbhaa.PA
end
