/- A kit of this claim's own, part 27: short forms of the steps that are printed most. No condition. -/
import Derived.Test.YtdlnfgpcnfbjiaaKx26
namespace Go.Proofs.Kit
open Go Go.RowKit
set_option linter.unusedVariables false

section
variable {P : Program} {C : Ctx} {B : List OF} {E E' : Env} {a : Act} {w : World} {ops : Array Oper} {o : Oper} {rest : List Oper} {Q : Exit → Act → World → Prop} {d : Tmp} {F : Fact}
theorem q1 (h : St C B E a w) (e : (o.guard, o.dst, decide (d < C.N)) = (none, some d, true)) (ob : Ob P C B E o F) (K : ∀ a' w', St C B ((d, F) :: E) a' w' → wpList P ops Q rest a' w') : wpList P ops Q (o :: rest) a w :=
  seq_op h (congrArg (·.1) e) (congrArg (·.2.1) e) (of_decide_eq_true (congrArg (·.2.2) e)) ob K
theorem qx {γ : Type} {B' : γ → List OF} {F : γ → Fact} (h : St C B E a w) (e : (o.guard, o.dst, decide (d < C.N)) = (none, some d, true)) (ob : ObX P C B E o B' F) (K : ∀ g a' w', St C (B' g) ((d, F g) :: E) a' w' → wpList P ops Q rest a' w') : wpList P ops Q (o :: rest) a w :=
  seq_opx h (congrArg (·.1) e) (congrArg (·.2.1) e) (of_decide_eq_true (congrArg (·.2.2) e)) ob K
theorem qg {j : Nat} {want b : Bool} {t : Tmp} (h : St C B E a w) (hg : o.guard = some (j, want)) (hj : (ops[j]?).bind (·.dst) = some t) (ht : get E t = some (kbool.V b)) (e : (o.dst, decide (d < C.N)) = (some d, true))
    (ob : (b == want) = true → Ob P C B E o F) (K : ∀ a' w', St C B ((d, F.when (b == want)) :: E) a' w' → wpList P ops Q rest a' w') : wpList P ops Q (o :: rest) a w :=
  seq_opg h hg hj ht (congrArg (·.1) e) (of_decide_eq_true (congrArg (·.2) e)) ob K
theorem u (t : Nat) (h : get E t = some F) (k : Sub E' E) : Sub ((t, F) :: E') E := .cons h k
theorem av {opl : List Oper} {Fs : List Fact} {bits : List Nat} {i : Nat} (t : Nat) (h : get E t = some F) (hf : freeOf opl bits i t = true) (k : Av E opl Fs bits i E') : Av E opl Fs bits i ((t, F) :: E') := .old h hf k
theorem an {opl : List Oper} {Fs : List Fact} {bits : List Nat} {i t : Nat} (j : Nat) (h : Dst opl j = some t) (hF : Fs[j]? = some F) (hb : (bits.getD i 0).testBit j = true) (k : Av E opl Fs bits i E') : Av E opl Fs bits i ((t, F) :: E') := .new h hF hb k
theorem mv {t : Tmp} (ho : o.op = .move (.tmp t)) (h : get E t = some F) : Ob P C B E o F := ob_move ho (.tmp h)
theorem oc {opl : List Oper} {Fs : List Fact} {bits : List Nat} {skip i : Nat} {r : List Oper} (v : Av E opl Fs bits i E') (hg : o.guard = none) (hF : Fs[i]? = some F) (ob : Ob P C B E' o F) (t : OpsOkS P C B E opl Fs bits skip (i + 1) r) : OpsOkS P C B E opl Fs bits skip i (o :: r) := opsS_cons (.plain _ v hg hF ob) t
theorem wn {K X : Act → World → Prop} (hK : ∀ a w, X a w → K a w) (h : X a w) : wpList P ops (Exit.then K Q) [] a w := wpList_nil (then_normal (hK a w h))
end
end Go.Proofs.Kit
