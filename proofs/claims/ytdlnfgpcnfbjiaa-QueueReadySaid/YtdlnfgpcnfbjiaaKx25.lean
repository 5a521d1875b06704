/- A kit of this claim's own, part 25: an array whose elements are rows of their own, each of which grows. No condition. -/
import Derived.Test.YtdlnfgpcnfbjiaaKx24
namespace Go.Proofs.Kit
open Go Go.RowKit
set_option linter.unusedSimpArgs false
set_option linter.unusedVariables false

section
variable {C : Ctx} {A l D : List OF} {E : Env} {a : Act} {w : World}
end

section
variable {P : Program} {C : Ctx} {B A D : List OF} {E : Env} {o : Oper} {β : Type} {k : Kd β} {T U e : TypeId} {x y : Operand} {vs us : List Value} {xss xss' : List (List β)} {xs ys : List β} {i n b : Nat} {v g : Value} {a : Act} {w : World}

/- the same, as the printer asks for them -/
end

end Go.Proofs.Kit
