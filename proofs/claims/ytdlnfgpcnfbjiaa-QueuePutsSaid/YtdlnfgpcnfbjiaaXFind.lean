/- Nodes found by their names; what lies behind parents. No program in sight. -/
import Derived.Test.YtdlnfgpcnfbjiaaXPure
import Derived.Test.YtdlnfgpcnfbjiaaNum
namespace Go.Proofs.Pure
open Go Go.RowKit Go.Proofs.Kit
set_option linter.unusedVariables false


end Go.Proofs.Pure
