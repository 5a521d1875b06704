/- CodeReads over its plain functions: no program in sight. -/
import Derived.Test.YtankoeffbdnffaaRCod
namespace Go.Proofs.Pure
open Go Go.RowKit Go.Proofs.Kit
set_option linter.unusedVariables false

def W0 : List Int := [48, 48, 48, 48, 48, 32, 48, 48, 48, 48, 48, 32, 48, 48, 48, 48, 48, 32, 48, 48, 48, 48, 48, 32, 48, 48, 48, 48, 48, 32, 48, 48, 48, 48, 48, 32, 48, 48, 48, 48, 48, 32, 48, 48, 48, 48, 48, 32, 48, 48, 48, 48, 48, 32, 48, 48, 48, 48, 48, 32, 48, 48, 48, 48, 48, 32, 48, 48, 48, 48, 48, 32, 48, 48, 48, 48, 48, 32, 48, 48, 48, 48, 48, 32, 48, 48, 48, 48, 48, 32, 48, 48, 48, 57, 56]
def K1 : List Int := [1, 2, 3, 0, 0, 0, 0, 0, 0, 0, 0, 0, 0, 0, 0, 0, 0, 0, 0, 0, 0, 0, 0, 0, 0, 0, 0, 0, 0, 0, 0, 0]
def W1 : List Int := [48, 48, 48, 52, 53, 32, 53, 56, 54, 55, 50, 32, 52, 55, 57, 53, 49, 32, 56, 54, 51, 53, 50, 32, 56, 55, 50, 51, 56, 32, 53, 51, 48, 53, 57, 32, 52, 53, 57, 50, 53, 32, 57, 56, 48, 56, 49, 32, 53, 57, 56, 52, 56, 32, 49, 57, 56, 55, 50, 32, 48, 56, 50, 54, 50, 32, 48, 50, 51, 53, 53, 32, 48, 51, 57, 56, 56, 32, 55, 53, 48, 54, 49, 32, 54, 55, 51, 48, 48, 32, 48, 57, 54, 54, 55]
theorem alive27a : code_Write 4000 Z32 = some W0 := by decide +kernel
theorem alive27b : code_Write 4000 K1 = some W1 := by decide +kernel
theorem alive27c : code_Read 4000 W1 = some (K1, 0) := by decide +kernel
theorem alive27d : cut? W0 88 95 = some [48, 32, 48, 48, 48, 57, 56] := by decide +kernel
theorem alive27 : caballaw27_alive 4000 = some true := by
  unfold caballaw27_alive
  rw [Option.bind_some]
  have a := alive27a
  have b := alive27b
  unfold Z32 at a
  unfold K1 at b
  rw [a, Option.bind_some, Option.bind_some, b, Option.bind_some, alive27c, Option.bind_some]
  have l : (W0.length : Int) = 95 := rfl
  rw [l, if_pos (by decide), alive27d]
  decide
theorem CodeReads (x0 : (List Int)) (g0 : Fine kstr x0) : ∃ k, caballaw27_CodeReads k x0 = some true := by
  refine ⟨4000, ?_⟩
  have hb : Byt x0 := (Fine.str g0).2
  unfold caballaw27_CodeReads
  rw [alive27]
  simp only [Option.bind_some, Bool.not_true, Bool.false_eq_true, if_false]
  by_cases c : x0.length ≤ 1000
  · rw [decide_eq_false (show ¬ (x0.length : Int) > 1000 by omega), Read_eq x0 c hb, rRead_eq x0 c hb]
    simp
  · rw [decide_eq_true (show (x0.length : Int) > 1000 by omega)]
    simp


end Go.Proofs.Pure
