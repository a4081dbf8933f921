-- Printed by wip/xprint.py of this claim's authors, over the kit's print; not trusted: Lean checks it.
import Derived.Test.YtaigmfkgobklbaaPAx0
import Derived.Test.YtaigmfkgobklbaaPAx1
import Derived.Test.YtaigmfkgobklbaaPAx2
import Derived.Test.YtaigmfkgobklbaaPAx3
import Derived.Test.YtaigmfkgobklbaaPAx4
import Derived.Test.YtaigmfkgobklbaaPAx5
import Derived.Test.YtaigmfkgobklbaaPAx6
import Derived.Test.YtaigmfkgobklbaaPAx7
import Derived.Test.YtaigmfkgobklbaaPAx8
import Derived.Test.YtaigmfkgobklbaaPAx9
namespace Go.Proofs.Ytaigmfkgobklbaa.PA
open Go.RowKit Go.Proofs.YtaigmfkgobklbaaW.PrintWords Go.Proofs.YtaigmfkgobklbaaW.PrintLast Go.Proofs.YtaigmfkgobklbaaW.PrintMore
attribute [local go_sem] max2_int min2_int max_two min_two max_three min_three max_four min_four   -- for this text's walks alone
set_option linter.unusedVariables false
set_option linter.unusedSimpArgs false

end Go.Proofs.Ytaigmfkgobklbaa.PA
