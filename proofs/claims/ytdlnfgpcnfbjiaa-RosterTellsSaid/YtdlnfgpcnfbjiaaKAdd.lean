/- A node added: both programs add the same. No program in sight. -/
import Derived.Test.YtdlnfgpcnfbjiaaKBeh
namespace Go.Proofs.Pure
open Go Go.RowKit Go.Proofs.Kit
set_option linter.unusedVariables false


end Go.Proofs.Pure
