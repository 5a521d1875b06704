/- The document's test of an op. No program in sight. -/
import Derived.Test.YtdlnfgpcnfbjiaaWRight
namespace Go.Proofs.Pure
open Go Go.RowKit Go.Proofs.Kit
set_option linter.unusedVariables false


end Go.Proofs.Pure
