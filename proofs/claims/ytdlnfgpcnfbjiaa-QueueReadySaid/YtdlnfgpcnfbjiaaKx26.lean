/- A kit of this claim's own, part 26: a slice that is cut with three indexes, and appended to: new memory. No condition. -/
import Derived.Test.YtdlnfgpcnfbjiaaKx25
import Derived.Deep.AppendSrc
import Derived.Deep.Upon
namespace Go.Proofs.Kit
open Go Go.RowKit
set_option linter.unusedSimpArgs false
set_option linter.unusedVariables false

section
variable {P : Program} {C : Ctx} {B : List OF} {E : Env} {o : Oper} {β : Type} {k : Kd β} {T e : TypeId} {x y z : Operand} {xs ys : List β} {ik ik' : IntKind}

end

end Go.Proofs.Kit
