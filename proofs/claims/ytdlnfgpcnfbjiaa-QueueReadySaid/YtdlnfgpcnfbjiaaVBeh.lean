/- What lies behind what, without clocks: closed, and a member's nodes in a row. No program in sight. -/
import Derived.Test.YtdlnfgpcnfbjiaaVGreat
namespace Go.Proofs.Pure
open Go Go.RowKit Go.Proofs.Kit
set_option linter.unusedVariables false


end Go.Proofs.Pure
