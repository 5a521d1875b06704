/- A kit of this claim's own, part 24: strings.Builder: an object that holds its own address; a row that becomes a text. No condition. -/
import Derived.Test.YtdlnfgpcnfbjiaaKx23
import Derived.Lib.Builder
import Derived.Lib.UnsafeStr
namespace Go.Proofs.Kit
open Go Go.RowKit
set_option linter.unusedSimpArgs false
set_option linter.unusedVariables false


section
variable {P : Program} {C : Ctx} {B B' A D : List OF} {E : Env} {o : Oper} {α β : Type} {K : Kd α} {k : Kd β} {T T' T'' U u S e : TypeId} {x y : Operand} {b : Nat} {v : Value} {X : α} {p : Bool}


end

end Go.Proofs.Kit
