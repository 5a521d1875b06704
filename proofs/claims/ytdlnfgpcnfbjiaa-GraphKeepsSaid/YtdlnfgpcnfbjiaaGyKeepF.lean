/- Several parts of this proof in one file. No condition. -/
import Derived.Test.YtdlnfgpcnfbjiaaGyFresh
import Derived.Test.YtdlnfgpcnfbjiaaKyB
import Derived.Test.YtdlnfgpcnfbjiaaGPur
namespace Go.Proofs.Pure
open Go Go.RowKit Go.Proofs.Kit
set_option linter.unusedVariables false
def zN : api_Node := (⟨(List.replicate 32 (0 : Int)), (⟨(0 : Int), (0 : Int), [], (0 : Int), [], (List.replicate 32 (0 : Int)), (List.replicate 32 (0 : Int)), [], []⟩ : api_Op), []⟩ : api_Node)
def caballaw15_GraphKeeps.t2 (k : Nat) (x5 x7 : List api_Node) : Option Bool :=
  (caballaw15_alive k).bind fun x8 => (if (x8 == true) = true then cabalref15_Same k x5 x7 else some false).bind fun x9 => (if ((if x8 then x9 else false) == true) = true then cabalref15_Same k (List.replicate 2 zN) (List.replicate 2 zN) else some false).bind fun x10 => some (if (if x8 then x9 else false) then x10 else false)
def caballaw15_GraphKeeps.t1 (k : Nat) (p1 : List api_Node) (p2 : List Int) (p3 : api_Op) (x5 : List api_Node × Int) : Option Bool :=
  (cabalref15_Add k p1 p2 p3).bind fun x7 => upto p3.Parents.length (upto p3.Who.length (upto p3.Boxes.length (upto p1.length (caballaw15_GraphKeeps.t2 k x5.1 x7.1) k 0) k 0) k 0) k 0
def caballaw15_GraphKeeps (k : Nat) (p1 : List api_Node) (p2 : List Int) (p3 : api_Op) : Option Bool :=
  (caballaw15_alive k).bind fun x1 => if (!x1) = true then (some false) else ((cabalref15_Great k p1).bind fun x2 => (if (x2 == false) = true then cabalref11_Great k p3 else some false).bind fun x3 => if (if x2 then true else x3) = true then ((caballaw15_alive k).bind fun x4 => some x4) else (if ([] : List (List Int)).length + p3.Parents.length ≤ lim then (if ([] : List Int).length + p3.Who.length ≤ lim then (if ([] : List api_Box).length + p3.Boxes.length ≤ lim then (if p1.length + 2 ≤ lim then ((graph_Add k p1 p2 p3).bind fun x5 => if (x5.2 != (0 : Int)) = true then ((caballaw15_alive k).bind fun x6 => some (if x6 then ((x5.1.length : Int) == (0 : Int)) else false)) else caballaw15_GraphKeeps.t1 k p1 p2 p3 x5) else none) else none) else none) else none))
end Go.Proofs.Pure
