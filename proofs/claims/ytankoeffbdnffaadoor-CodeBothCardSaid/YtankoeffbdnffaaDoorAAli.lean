/- The fixed vectors of the law, over its plain functions: no program in sight. -/
import Derived.Test.YtankoeffbdnffaaDoorAWri
namespace Go.Proofs.Pure
open Go Go.RowKit Go.Proofs.Kit
set_option linter.unusedVariables false
set_option linter.unusedSimpArgs false

def K1 : List Int := [1, 2, 3, 0, 0, 0, 0, 0, 0, 0, 0, 0, 0, 0, 0, 0, 0, 0, 0, 0, 0, 0, 0, 0, 0, 0, 0, 0, 0, 0, 0, 0]
theorem alive27d : (tx (cod Z32)).drop 88 = [48, 32, 48, 48, 48, 57, 56] := by decide +kernel
theorem alive27 : caballaw27_alive 4000 = some true := by
  have hz : Byt Z32 := by unfold Byt Z32; decide
  have h1 : Byt K1 := by unfold Byt K1; decide
  have a := Write_eq Z32 rfl hz
  have b := Write_eq K1 rfl h1
  have c := Read_eq (tx (cod K1)) (by rw [tx_len]; omega) (tx_byt (cod_dgt K1))
  rw [read_write K1 rfl h1] at c
  have d : cut? (tx (cod Z32)) 88 95 = some [48, 32, 48, 48, 48, 57, 56] := by
    rw [cut_ok ⟨by omega, by omega, by rw [tx_len]; omega⟩, ← alive27d]
    exact congrArg (fun l => some (List.drop 88 l)) (List.take_of_length_le (Nat.le_of_eq (tx_len _)))
  unfold caballaw27_alive
  rw [Option.bind_some]
  unfold Z32 at a d
  unfold K1 at b c
  rw [a, Option.bind_some, Option.bind_some, b, Option.bind_some, c, Option.bind_some, tx_len, if_pos (by decide), show ((95 : Nat) : Int) = 95 from rfl, d]
  rfl


end Go.Proofs.Pure
