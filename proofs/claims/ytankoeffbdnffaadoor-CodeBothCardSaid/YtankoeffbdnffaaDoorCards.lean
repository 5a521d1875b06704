/-
  DERIVED. GIVEN WITH THE SEED: THE CARDS: each row of YtankoeffbdnffaaDoorRows.lean that lists a variable, with what it lists TIED to the program's text (the seventh form; the later family's looks); each row that meets fmt, with fmt's text TOLD by the authors' own Lean function (tested against real Go, not proved from fmt's source: count such statements apart). THE CARD IS WHAT COUNTS. Prove the row's statement (the work); the ties are given (YtankoeffbdnffaaDoorTie.lean); close each card by the builder's one call (the guide's Derived/Test/ToyasCard.lean, 'card_holds'). Laid BY PROGRAM, IN A SANDBOX (cutbox-door.mjs). By AI agents, Wed Nov 11 2026. No macro, syntax, notation, axiom, sorry.
-/
import Derived.Test.YtankoeffbdnffaaDoorRows
import GoSem.ClaimSeven
namespace Go.Proofs.YtankoeffbdnffaaDoor
namespace Rows

/-- THE TIED CARD OF 'caballaw27.CodeWrites'. -/
def codeWritesCard : Claim7 := { stood := { row := codeWritesRow, standIns := [], harness := (true, "1162887bcdc65bfe39b75df03444961c512518de6711cb0b317fcecc80e53d0e"), looks := false }, kinds := [], alts := [], laidByText := true, laidKinds := [.data, .data], laidTests := true, laidLooks := .later }
def CodeWritesCardSaid : Prop := Claim7.holds Tryd.pinned (.plain (OpenSpec.ofChange codeWritesSpec)) codeWritesCard

/-- THE TIED CARD OF 'caballaw27.CodeBoth'. -/
def codeBothCard : Claim7 := { stood := { row := codeBothRow, standIns := [], harness := (true, "1162887bcdc65bfe39b75df03444961c512518de6711cb0b317fcecc80e53d0e"), looks := false }, kinds := [], alts := [], laidByText := true, laidKinds := [.data, .data], laidTests := true, laidLooks := .later }
def CodeBothCardSaid : Prop := Claim7.holds Tryd.pinned (.plain (OpenSpec.ofChange codeBothSpec)) codeBothCard

/-- THE SECOND FORM's CARD OF 'caballaw27.CodeWrites'. -/
def codeWritesUptoCard : Claim7 := { stood := { row := codeWritesUptoRow, standIns := [], harness := (true, "1162887bcdc65bfe39b75df03444961c512518de6711cb0b317fcecc80e53d0e"), looks := false }, kinds := [], alts := [], laidByText := true, laidKinds := [.data, .data], laidTests := true, laidLooks := .later }
def CodeWritesUptoCardSaid : Prop := Claim7.holds Tryd.pinned (.plain (OpenSpec.upto codeWritesSpec)) codeWritesUptoCard

/-- THE SECOND FORM's CARD OF 'caballaw27.CodeBoth'. -/
def codeBothUptoCard : Claim7 := { stood := { row := codeBothUptoRow, standIns := [], harness := (true, "1162887bcdc65bfe39b75df03444961c512518de6711cb0b317fcecc80e53d0e"), looks := false }, kinds := [], alts := [], laidByText := true, laidKinds := [.data, .data], laidTests := true, laidLooks := .later }
def CodeBothUptoCardSaid : Prop := Claim7.holds Tryd.pinned (.plain (OpenSpec.upto codeBothSpec)) codeBothUptoCard
end Rows
end Go.Proofs.YtankoeffbdnffaaDoor
