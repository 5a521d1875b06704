/- A kit of this claim's own, part 13: texts, copies, fresh rows that are written by index, nil pointers. No condition. -/
import Derived.Test.YtdlnfgpcnfbjiaaKx12
import Derived.Laws.Pointers
import Derived.Lib.AppendStr
namespace Go.Proofs.Kit
open Go Go.RowKit
set_option linter.unusedSimpArgs false
set_option linter.unusedVariables false

section
variable {P : Program} {C : Ctx} {B B' A D : List OF} {E : Env} {o : Oper} {α β : Type} {K : Kd α} {k : Kd β} {T T' T'' U e : TypeId} {x y i : Operand} {b off : Nat} {X X' : α}


theorem relL_u8 {ok : Ok} {w : World} {xs : List Int} {cs : List Value} (h : relL (kint .u8) ok w xs cs) : cs = xs.map (Value.int .u8) ∧ ∀ n, n ∈ xs → 0 ≤ n ∧ n < 256 := by
  induction xs generalizing cs with
  | nil => exact ⟨h, fun _ h => by cases h⟩
  | cons n xs ih =>
    obtain ⟨c, d, rfl, ⟨rfl, h1⟩, h2⟩ := h
    obtain ⟨rfl, h3⟩ := ih h2
    refine ⟨rfl, fun m hm => ?_⟩
    rcases List.mem_cons.1 hm with rfl | hm
    · have h4 : IntKind.u8.min ≤ m ∧ m ≤ IntKind.u8.max := h1
      have e1 : IntKind.u8.min = 0 := rfl
      have e2 : IntKind.u8.max = 255 := rfl
      omega
    · exact h3 m hm





end


theorem cond_f {P : Program} {Q : Exit → Act → World → Prop} {a : Act} {w : World} {C : Ctx} {B : List OF} {E : Env} {x : Operand} {c1 c2 : Code} (s : St C B E a w) (hx : Opd E x (kbool.V false)) (h2 : c2.wp P Q a w) : (Code.cond x c1 c2).wp P Q a w :=
  cond_split s hx (fun h => by cases h) (fun _ => h2)

end Go.Proofs.Kit
