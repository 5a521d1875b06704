/-
  DERIVED. GIVEN WITH THE SEED: THE CARDS: each row of YtjbjladhgmknnaaDoorRows.lean that lists a variable, with what it lists TIED to the program's text (the seventh form; the later family's looks); each row that meets fmt, with fmt's text TOLD by the authors' own Lean function (tested against real Go, not proved from fmt's source: count such statements apart). THE CARD IS WHAT COUNTS. Prove the row's statement (the work); the ties are given (YtjbjladhgmknnaaDoorTie.lean); close each card by the builder's one call (the guide's Derived/Test/ToyasCard.lean, 'card_holds'). Laid BY PROGRAM, IN A SANDBOX (cutbox-door.mjs). By AI agents, Wed Nov 11 2026. No macro, syntax, notation, axiom, sorry.
-/
import Derived.Test.YtjbjladhgmknnaaDoorRows
import GoSem.ClaimSeven
namespace Go.Proofs.YtjbjladhgmknnaaDoor
namespace Rows

/-- THE TIED CARD OF 'caballaw13.JournalKept'. -/
def journalKeptCard : Claim7 := { stood := { row := journalKeptRow, standIns := [], harness := (true, "7424af01ebd5ae982913f85de284594bba0d8721365da49558931e38333c4f97"), looks := false }, kinds := [], alts := [], laidByText := true, laidKinds := [.data, .data], laidTests := true, laidLooks := .later }
def JournalKeptCardSaid : Prop := Claim7.holds Tryd.pinned (.plain (OpenSpec.ofChange journalKeptSpec)) journalKeptCard

/-- THE TIED CARD OF 'caballaw13.JournalOpens'. -/
def journalOpensCard : Claim7 := { stood := { row := journalOpensRow, standIns := [], harness := (true, "7424af01ebd5ae982913f85de284594bba0d8721365da49558931e38333c4f97"), looks := false }, kinds := [], alts := [], laidByText := true, laidKinds := [.data, .data], laidTests := true, laidLooks := .later }
def JournalOpensCardSaid : Prop := Claim7.holds Tryd.pinned (.plain (OpenSpec.ofChange journalOpensSpec)) journalOpensCard

/-- THE TIED CARD OF 'caballaw13.JournalPlays'. -/
def journalPlaysCard : Claim7 := { stood := { row := journalPlaysRow, standIns := [], harness := (true, "7424af01ebd5ae982913f85de284594bba0d8721365da49558931e38333c4f97"), looks := false }, kinds := [], alts := [], laidByText := true, laidKinds := [.data, .data], laidTests := true, laidLooks := .later }
def JournalPlaysCardSaid : Prop := Claim7.holds Tryd.pinned (.plain (OpenSpec.ofChange journalPlaysSpec)) journalPlaysCard

/-- THE SECOND FORM's CARD OF 'caballaw13.JournalKept'. -/
def journalKeptUptoCard : Claim7 := { stood := { row := journalKeptUptoRow, standIns := [], harness := (true, "7424af01ebd5ae982913f85de284594bba0d8721365da49558931e38333c4f97"), looks := false }, kinds := [], alts := [], laidByText := true, laidKinds := [.data, .data], laidTests := true, laidLooks := .later }
def JournalKeptUptoCardSaid : Prop := Claim7.holds Tryd.pinned (.plain (OpenSpec.upto journalKeptSpec)) journalKeptUptoCard

/-- THE SECOND FORM's CARD OF 'caballaw13.JournalOpens'. -/
def journalOpensUptoCard : Claim7 := { stood := { row := journalOpensUptoRow, standIns := [], harness := (true, "7424af01ebd5ae982913f85de284594bba0d8721365da49558931e38333c4f97"), looks := false }, kinds := [], alts := [], laidByText := true, laidKinds := [.data, .data], laidTests := true, laidLooks := .later }
def JournalOpensUptoCardSaid : Prop := Claim7.holds Tryd.pinned (.plain (OpenSpec.upto journalOpensSpec)) journalOpensUptoCard

/-- THE SECOND FORM's CARD OF 'caballaw13.JournalPlays'. -/
def journalPlaysUptoCard : Claim7 := { stood := { row := journalPlaysUptoRow, standIns := [], harness := (true, "7424af01ebd5ae982913f85de284594bba0d8721365da49558931e38333c4f97"), looks := false }, kinds := [], alts := [], laidByText := true, laidKinds := [.data, .data], laidTests := true, laidLooks := .later }
def JournalPlaysUptoCardSaid : Prop := Claim7.holds Tryd.pinned (.plain (OpenSpec.upto journalPlaysSpec)) journalPlaysUptoCard
end Rows
end Go.Proofs.YtjbjladhgmknnaaDoor
