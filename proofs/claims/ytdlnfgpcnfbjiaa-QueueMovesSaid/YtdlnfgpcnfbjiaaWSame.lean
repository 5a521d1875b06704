/- Graphs that are the same: both programs compare the whole. No program in sight. -/
import Derived.Test.YtdlnfgpcnfbjiaaWBeh
namespace Go.Proofs.Pure
open Go Go.RowKit Go.Proofs.Kit
set_option linter.unusedVariables false


end Go.Proofs.Pure
