/- Who is a member, by which nodes count. No program in sight. -/
import Derived.Test.YtdlnfgpcnfbjiaaYPerm
namespace Go.Proofs.Pure
open Go Go.RowKit Go.Proofs.Kit
set_option linter.unusedVariables false

def opB (p : List api_Node) (v : Int) (f : api_Op → Bool) : Bool := match p[v.toNat]? with | some x => f x.Op | none => false
/-- i lies behind k -/
def ahdB (p : List api_Node) (i k : Int) : Bool := match p[k.toNat]? with | some x => x.Past.contains i | none => false
def rmvB (p : List api_Node) (c : Int → Bool) (r who : Int) : Bool := c r && opB p r (fun o => decide (o.Kind = 3) && o.Who.contains who)
/-- r stands against node i's letting in of somebody -/
def barB (p : List api_Node) (c : Int → Bool) (o : api_Op) (i who r : Int) : Bool :=
  decide (o.Kind = 2) && rmvB p c r o.Author && !decide (r = i) && !ahdB p r i && !ahdB p i r || rmvB p c r who && !ahdB p r i
def letsB (p : List api_Node) (c : Int → Bool) (set : List Int) (i who : Int) : Bool :=
  c i && opB p i (fun o => (decide (o.Kind = 1) || decide (o.Kind = 2)) && o.Who.contains who && set.all (fun r => !barB p c o i who r))
def inB (p : List api_Node) (c : Int → Bool) (set : List Int) (who : Int) : Bool := set.any (fun i => letsB p c set i who)
def rosL (p : List api_Node) (c : Int → Bool) (set : List Int) : List Int := coll (fun who => inB p c set (who : Int)) 0 8
def cF (c : List Bool) (v : Int) : Bool := c.getD v.toNat false
def cntB (p : List api_Node) (c : Int → Bool) (x : api_Node) : Bool := decide (x.Op.Kind = 1) || (rosL p c x.Past).contains x.Op.Author
def cntL (p : List api_Node) : Nat → List Bool
  | 0 => []
  | n + 1 => cntL p n ++ [match p[n]? with | some x => cntB p (cF (cntL p n)) x | none => false]
/-- does a node count? -/
def cB (p : List api_Node) : Int → Bool := cF (cntL p p.length)

theorem cnt_len (p : List api_Node) : ∀ n, (cntL p n).length = n
  | 0 => rfl
  | n + 1 => by unfold cntL; rw [List.length_append, cnt_len p n]; rfl

end Go.Proofs.Pure
