/- Several parts of this proof in one file. No condition. -/
import Derived.Test.YtdlnfgpcnfbjiaaDyFresh
import Derived.Test.YtdlnfgpcnfbjiaaKyB
import Derived.Test.YtdlnfgpcnfbjiaaDPur
namespace Go.Proofs.Pure
open Go Go.RowKit Go.Proofs.Kit
set_option linter.unusedVariables false
def zH : api_Held := (⟨(List.replicate 32 (0 : Int)), (⟨(0 : Int), (0 : Int), [], (0 : Int), [], (List.replicate 32 (0 : Int)), (List.replicate 32 (0 : Int)), [], []⟩ : api_Op), []⟩ : api_Held)
def caballaw19_QueueKeeps.t2 (k : Nat) (x5 x7 : List api_Held × Int) : Option Bool :=
  (caballaw19_alive k).bind fun x10 => (if ((x10 == true) && ((x5.2 != (0 : Int)) == false)) = true then cabalref19_Same k x5.1 x7.1 else some false).bind fun x11 => some (if x10 then (if (x5.2 != (0 : Int)) then true else x11) else false)
def caballaw19_QueueKeeps.t1 (k : Nat) (p1 : List api_Held) (p2 : api_Held) (x5 : List api_Held × Int) : Option Bool :=
  (cabalref19_Put k p1 p2).bind fun x7 => (cabalref19_Same k p1 p1).bind fun x8 => (if ((!x8) == false) = true then cabalref19_Same k (List.replicate 2 zH) (List.replicate 2 zH) else some false).bind fun x9 => if (if (!x8) then true else (!x9)) = true then some false else
    upto p2.Got.length (upto p2.Op.Parents.length (upto p1.length (caballaw19_QueueKeeps.t2 k x5 x7) k 0) k 0) k 0
def caballaw19_QueueKeeps (k : Nat) (p1 : List api_Held) (p2 : api_Held) : Option Bool :=
  (caballaw19_alive k).bind fun x1 => if (!x1) = true then (some false) else ((cabalref19_Great k p1).bind fun x2 => (if (x2 == false) = true then cabalref11_Great k p2.Op else some false).bind fun x3 => if (if (if x2 then true else x3) then true else (decide ((p2.Got.length : Int) > (20 : Int)))) = true then ((caballaw19_alive k).bind fun x4 => some x4) else (if p1.length + 2 ≤ lim then (if ([] : List (List Int)).length + p2.Got.length ≤ lim then (if ([] : List (List Int)).length + p2.Op.Parents.length ≤ lim then ((queue_Put k p1 p2).bind fun x5 => caballaw19_QueueKeeps.t1 k p1 p2 x5) else none) else none) else none))
end Go.Proofs.Pure
