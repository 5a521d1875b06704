/- A kit of this claim's own, part 16: new things that a callee hands back; a text's bytes as a row that is written by index. No condition. -/
import Derived.Test.YtdlnfgpcnfbjiaaKx14
import Derived.Lib.ConvBytes
namespace Go.Proofs.Kit
open Go Go.RowKit
set_option linter.unusedSimpArgs false
set_option linter.unusedVariables false


section
variable {P : Program} {C : Ctx} {B B' A D : List OF} {E : Env} {o : Oper} {f : FuncId}

end


section
variable {P : Program} {C : Ctx} {B B' A D : List OF} {E : Env} {o : Oper} {T T' e : TypeId} {x y i : Operand} {v : Value} {xs xs' l : List Int} {ik : IntKind} {n Y : Int}

end

end Go.Proofs.Kit
