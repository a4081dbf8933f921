/- Texts of this claim, those that nothing needs left out: Zmv. -/
import Derived.Test.YtacnflelkpkbhaaMlG3
import Derived.Test.YtacnflelkpkbhaaMlG17
import Derived.Test.YtacnflelkpkbhaaMlG5
section
namespace Go.Proofs.Ytacnflelkpkbhaa.PA
set_option linter.unusedSimpArgs false
set_option linter.unusedVariables false
open Go.RowKit Go.Maps Go.Proofs.YtacnflelkpkbhaaW.PrintWords Go.Proofs.YtacnflelkpkbhaaW.PrintLast Go.Proofs.YtacnflelkpkbhaaW.PrintMore
section
variable (many f0 f3 f4 : Int) (E : List S50) (F : List Int) (R : Bool)
end
section
variable (l : List S46) (R : Bool) (i : Nat) (hi : i < l.length) (hb : l.length ≤ 100000)
end
end Go.Proofs.Ytacnflelkpkbhaa.PA
end
