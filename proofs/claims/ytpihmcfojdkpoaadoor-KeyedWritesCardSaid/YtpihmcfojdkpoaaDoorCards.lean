/-
  DERIVED. GIVEN WITH THE SEED: THE CARDS: each row of YtpihmcfojdkpoaaDoorRows.lean that lists a variable, with what it lists TIED to the program's text (the seventh form; the later family's looks); each row that meets fmt, with fmt's text TOLD by the authors' own Lean function (tested against real Go, not proved from fmt's source: count such statements apart). THE CARD IS WHAT COUNTS. Prove the row's statement (the work); the ties are given (YtpihmcfojdkpoaaDoorTie.lean); close each card by the builder's one call (the guide's Derived/Test/ToyasCard.lean, 'card_holds'). Laid BY PROGRAM, IN A SANDBOX (cutbox-door.mjs). By AI agents, Wed Nov 11 2026. No macro, syntax, notation, axiom, sorry.
-/
import Derived.Test.YtpihmcfojdkpoaaDoorRows
import GoSem.ClaimSeven
namespace Go.Proofs.YtpihmcfojdkpoaaDoor
namespace Rows

/-- THE TIED CARD OF 'caballaw01.DigestSums'. -/
def digestSumsCard : Claim7 := { stood := { row := digestSumsRow, standIns := [], harness := (true, "26cb2c73487ea200443bd611eeeb1cd6bc72f0970621484e1913c28a09eccbf2"), looks := false }, kinds := [], alts := [], laidByText := true, laidKinds := [.data, .data], laidTests := true, laidLooks := .later }
def DigestSumsCardSaid : Prop := Claim7.holds Tryd.pinned (.plain (OpenSpec.ofChange digestSumsSpec)) digestSumsCard

/-- THE TIED CARD OF 'caballaw01.DigestCopies'. -/
def digestCopiesCard : Claim7 := { stood := { row := digestCopiesRow, standIns := [], harness := (true, "26cb2c73487ea200443bd611eeeb1cd6bc72f0970621484e1913c28a09eccbf2"), looks := false }, kinds := [], alts := [], laidByText := true, laidKinds := [.data, .data], laidTests := true, laidLooks := .later }
def DigestCopiesCardSaid : Prop := Claim7.holds Tryd.pinned (.plain (OpenSpec.ofChange digestCopiesSpec)) digestCopiesCard

/-- THE TIED CARD OF 'caballaw01.DigestRoots'. -/
def digestRootsCard : Claim7 := { stood := { row := digestRootsRow, standIns := [], harness := (true, "26cb2c73487ea200443bd611eeeb1cd6bc72f0970621484e1913c28a09eccbf2"), looks := false }, kinds := [], alts := [], laidByText := true, laidKinds := [.data, .data], laidTests := true, laidLooks := .later }
def DigestRootsCardSaid : Prop := Claim7.holds Tryd.pinned (.plain (OpenSpec.ofChange digestRootsSpec)) digestRootsCard

/-- THE TIED CARD OF 'caballaw01.DigestWrites'. -/
def digestWritesCard : Claim7 := { stood := { row := digestWritesRow, standIns := [], harness := (true, "26cb2c73487ea200443bd611eeeb1cd6bc72f0970621484e1913c28a09eccbf2"), looks := false }, kinds := [], alts := [], laidByText := true, laidKinds := [.data, .data], laidTests := true, laidLooks := .later }
def DigestWritesCardSaid : Prop := Claim7.holds Tryd.pinned (.plain (OpenSpec.ofChange digestWritesSpec)) digestWritesCard

/-- THE TIED CARD OF 'caballaw01.DigestPieces'. -/
def digestPiecesCard : Claim7 := { stood := { row := digestPiecesRow, standIns := [], harness := (true, "26cb2c73487ea200443bd611eeeb1cd6bc72f0970621484e1913c28a09eccbf2"), looks := false }, kinds := [], alts := [], laidByText := true, laidKinds := [.data, .data], laidTests := true, laidLooks := .later }
def DigestPiecesCardSaid : Prop := Claim7.holds Tryd.pinned (.plain (OpenSpec.ofChange digestPiecesSpec)) digestPiecesCard

/-- THE TIED CARD OF 'caballaw02.KeyedLong'. -/
def keyedLongCard : Claim7 := { stood := { row := keyedLongRow, standIns := [], harness := (true, "26cb2c73487ea200443bd611eeeb1cd6bc72f0970621484e1913c28a09eccbf2"), looks := false }, kinds := [], alts := [], laidByText := true, laidKinds := [.data, .data], laidTests := true, laidLooks := .later }
def KeyedLongCardSaid : Prop := Claim7.holds Tryd.pinned (.plain (OpenSpec.ofChange keyedLongSpec)) keyedLongCard

/-- THE TIED CARD OF 'caballaw02.KeyedTags'. -/
def keyedTagsCard : Claim7 := { stood := { row := keyedTagsRow, standIns := [], harness := (true, "26cb2c73487ea200443bd611eeeb1cd6bc72f0970621484e1913c28a09eccbf2"), looks := false }, kinds := [], alts := [], laidByText := true, laidKinds := [.data, .data], laidTests := true, laidLooks := .later }
def KeyedTagsCardSaid : Prop := Claim7.holds Tryd.pinned (.plain (OpenSpec.ofChange keyedTagsSpec)) keyedTagsCard

/-- THE TIED CARD OF 'caballaw02.KeyedEqual'. -/
def keyedEqualCard : Claim7 := { stood := { row := keyedEqualRow, standIns := [], harness := (true, "26cb2c73487ea200443bd611eeeb1cd6bc72f0970621484e1913c28a09eccbf2"), looks := false }, kinds := [], alts := [], laidByText := true, laidKinds := [.data, .data], laidTests := true, laidLooks := .later }
def KeyedEqualCardSaid : Prop := Claim7.holds Tryd.pinned (.plain (OpenSpec.ofChange keyedEqualSpec)) keyedEqualCard

/-- THE TIED CARD OF 'caballaw02.KeyedWrites'. -/
def keyedWritesCard : Claim7 := { stood := { row := keyedWritesRow, standIns := [], harness := (true, "26cb2c73487ea200443bd611eeeb1cd6bc72f0970621484e1913c28a09eccbf2"), looks := false }, kinds := [], alts := [], laidByText := true, laidKinds := [.data, .data], laidTests := true, laidLooks := .later }
def KeyedWritesCardSaid : Prop := Claim7.holds Tryd.pinned (.plain (OpenSpec.ofChange keyedWritesSpec)) keyedWritesCard

/-- THE TIED CARD OF 'caballaw02.KeyedExpands'. -/
def keyedExpandsCard : Claim7 := { stood := { row := keyedExpandsRow, standIns := [], harness := (true, "26cb2c73487ea200443bd611eeeb1cd6bc72f0970621484e1913c28a09eccbf2"), looks := false }, kinds := [], alts := [], laidByText := true, laidKinds := [.data, .data], laidTests := true, laidLooks := .later }
def KeyedExpandsCardSaid : Prop := Claim7.holds Tryd.pinned (.plain (OpenSpec.ofChange keyedExpandsSpec)) keyedExpandsCard

/-- THE TIED CARD OF 'caballaw02.KeyedFront'. -/
def keyedFrontCard : Claim7 := { stood := { row := keyedFrontRow, standIns := [], harness := (true, "26cb2c73487ea200443bd611eeeb1cd6bc72f0970621484e1913c28a09eccbf2"), looks := false }, kinds := [], alts := [], laidByText := true, laidKinds := [.data, .data], laidTests := true, laidLooks := .later }
def KeyedFrontCardSaid : Prop := Claim7.holds Tryd.pinned (.plain (OpenSpec.ofChange keyedFrontSpec)) keyedFrontCard

/-- THE TIED CARD OF 'caballaw27.CodeWrites'. -/
def codeWritesCard : Claim7 := { stood := { row := codeWritesRow, standIns := [], harness := (true, "26cb2c73487ea200443bd611eeeb1cd6bc72f0970621484e1913c28a09eccbf2"), looks := false }, kinds := [], alts := [], laidByText := true, laidKinds := [.data, .data], laidTests := true, laidLooks := .later }
def CodeWritesCardSaid : Prop := Claim7.holds Tryd.pinned (.plain (OpenSpec.ofChange codeWritesSpec)) codeWritesCard

/-- THE TIED CARD OF 'caballaw27.CodeBoth'. -/
def codeBothCard : Claim7 := { stood := { row := codeBothRow, standIns := [], harness := (true, "26cb2c73487ea200443bd611eeeb1cd6bc72f0970621484e1913c28a09eccbf2"), looks := false }, kinds := [], alts := [], laidByText := true, laidKinds := [.data, .data], laidTests := true, laidLooks := .later }
def CodeBothCardSaid : Prop := Claim7.holds Tryd.pinned (.plain (OpenSpec.ofChange codeBothSpec)) codeBothCard

/-- THE SECOND FORM's CARD OF 'caballaw01.DigestSums'. -/
def digestSumsUptoCard : Claim7 := { stood := { row := digestSumsUptoRow, standIns := [], harness := (true, "26cb2c73487ea200443bd611eeeb1cd6bc72f0970621484e1913c28a09eccbf2"), looks := false }, kinds := [], alts := [], laidByText := true, laidKinds := [.data, .data], laidTests := true, laidLooks := .later }
def DigestSumsUptoCardSaid : Prop := Claim7.holds Tryd.pinned (.plain (OpenSpec.upto digestSumsSpec)) digestSumsUptoCard

/-- THE SECOND FORM's CARD OF 'caballaw01.DigestCopies'. -/
def digestCopiesUptoCard : Claim7 := { stood := { row := digestCopiesUptoRow, standIns := [], harness := (true, "26cb2c73487ea200443bd611eeeb1cd6bc72f0970621484e1913c28a09eccbf2"), looks := false }, kinds := [], alts := [], laidByText := true, laidKinds := [.data, .data], laidTests := true, laidLooks := .later }
def DigestCopiesUptoCardSaid : Prop := Claim7.holds Tryd.pinned (.plain (OpenSpec.upto digestCopiesSpec)) digestCopiesUptoCard

/-- THE SECOND FORM's CARD OF 'caballaw01.DigestRoots'. -/
def digestRootsUptoCard : Claim7 := { stood := { row := digestRootsUptoRow, standIns := [], harness := (true, "26cb2c73487ea200443bd611eeeb1cd6bc72f0970621484e1913c28a09eccbf2"), looks := false }, kinds := [], alts := [], laidByText := true, laidKinds := [.data, .data], laidTests := true, laidLooks := .later }
def DigestRootsUptoCardSaid : Prop := Claim7.holds Tryd.pinned (.plain (OpenSpec.upto digestRootsSpec)) digestRootsUptoCard

/-- THE SECOND FORM's CARD OF 'caballaw01.DigestWrites'. -/
def digestWritesUptoCard : Claim7 := { stood := { row := digestWritesUptoRow, standIns := [], harness := (true, "26cb2c73487ea200443bd611eeeb1cd6bc72f0970621484e1913c28a09eccbf2"), looks := false }, kinds := [], alts := [], laidByText := true, laidKinds := [.data, .data], laidTests := true, laidLooks := .later }
def DigestWritesUptoCardSaid : Prop := Claim7.holds Tryd.pinned (.plain (OpenSpec.upto digestWritesSpec)) digestWritesUptoCard

/-- THE SECOND FORM's CARD OF 'caballaw01.DigestPieces'. -/
def digestPiecesUptoCard : Claim7 := { stood := { row := digestPiecesUptoRow, standIns := [], harness := (true, "26cb2c73487ea200443bd611eeeb1cd6bc72f0970621484e1913c28a09eccbf2"), looks := false }, kinds := [], alts := [], laidByText := true, laidKinds := [.data, .data], laidTests := true, laidLooks := .later }
def DigestPiecesUptoCardSaid : Prop := Claim7.holds Tryd.pinned (.plain (OpenSpec.upto digestPiecesSpec)) digestPiecesUptoCard

/-- THE SECOND FORM's CARD OF 'caballaw02.KeyedLong'. -/
def keyedLongUptoCard : Claim7 := { stood := { row := keyedLongUptoRow, standIns := [], harness := (true, "26cb2c73487ea200443bd611eeeb1cd6bc72f0970621484e1913c28a09eccbf2"), looks := false }, kinds := [], alts := [], laidByText := true, laidKinds := [.data, .data], laidTests := true, laidLooks := .later }
def KeyedLongUptoCardSaid : Prop := Claim7.holds Tryd.pinned (.plain (OpenSpec.upto keyedLongSpec)) keyedLongUptoCard

/-- THE SECOND FORM's CARD OF 'caballaw02.KeyedTags'. -/
def keyedTagsUptoCard : Claim7 := { stood := { row := keyedTagsUptoRow, standIns := [], harness := (true, "26cb2c73487ea200443bd611eeeb1cd6bc72f0970621484e1913c28a09eccbf2"), looks := false }, kinds := [], alts := [], laidByText := true, laidKinds := [.data, .data], laidTests := true, laidLooks := .later }
def KeyedTagsUptoCardSaid : Prop := Claim7.holds Tryd.pinned (.plain (OpenSpec.upto keyedTagsSpec)) keyedTagsUptoCard

/-- THE SECOND FORM's CARD OF 'caballaw02.KeyedEqual'. -/
def keyedEqualUptoCard : Claim7 := { stood := { row := keyedEqualUptoRow, standIns := [], harness := (true, "26cb2c73487ea200443bd611eeeb1cd6bc72f0970621484e1913c28a09eccbf2"), looks := false }, kinds := [], alts := [], laidByText := true, laidKinds := [.data, .data], laidTests := true, laidLooks := .later }
def KeyedEqualUptoCardSaid : Prop := Claim7.holds Tryd.pinned (.plain (OpenSpec.upto keyedEqualSpec)) keyedEqualUptoCard

/-- THE SECOND FORM's CARD OF 'caballaw02.KeyedWrites'. -/
def keyedWritesUptoCard : Claim7 := { stood := { row := keyedWritesUptoRow, standIns := [], harness := (true, "26cb2c73487ea200443bd611eeeb1cd6bc72f0970621484e1913c28a09eccbf2"), looks := false }, kinds := [], alts := [], laidByText := true, laidKinds := [.data, .data], laidTests := true, laidLooks := .later }
def KeyedWritesUptoCardSaid : Prop := Claim7.holds Tryd.pinned (.plain (OpenSpec.upto keyedWritesSpec)) keyedWritesUptoCard

/-- THE SECOND FORM's CARD OF 'caballaw02.KeyedExpands'. -/
def keyedExpandsUptoCard : Claim7 := { stood := { row := keyedExpandsUptoRow, standIns := [], harness := (true, "26cb2c73487ea200443bd611eeeb1cd6bc72f0970621484e1913c28a09eccbf2"), looks := false }, kinds := [], alts := [], laidByText := true, laidKinds := [.data, .data], laidTests := true, laidLooks := .later }
def KeyedExpandsUptoCardSaid : Prop := Claim7.holds Tryd.pinned (.plain (OpenSpec.upto keyedExpandsSpec)) keyedExpandsUptoCard

/-- THE SECOND FORM's CARD OF 'caballaw02.KeyedFront'. -/
def keyedFrontUptoCard : Claim7 := { stood := { row := keyedFrontUptoRow, standIns := [], harness := (true, "26cb2c73487ea200443bd611eeeb1cd6bc72f0970621484e1913c28a09eccbf2"), looks := false }, kinds := [], alts := [], laidByText := true, laidKinds := [.data, .data], laidTests := true, laidLooks := .later }
def KeyedFrontUptoCardSaid : Prop := Claim7.holds Tryd.pinned (.plain (OpenSpec.upto keyedFrontSpec)) keyedFrontUptoCard

/-- THE SECOND FORM's CARD OF 'caballaw27.CodeWrites'. -/
def codeWritesUptoCard : Claim7 := { stood := { row := codeWritesUptoRow, standIns := [], harness := (true, "26cb2c73487ea200443bd611eeeb1cd6bc72f0970621484e1913c28a09eccbf2"), looks := false }, kinds := [], alts := [], laidByText := true, laidKinds := [.data, .data], laidTests := true, laidLooks := .later }
def CodeWritesUptoCardSaid : Prop := Claim7.holds Tryd.pinned (.plain (OpenSpec.upto codeWritesSpec)) codeWritesUptoCard

/-- THE SECOND FORM's CARD OF 'caballaw27.CodeBoth'. -/
def codeBothUptoCard : Claim7 := { stood := { row := codeBothUptoRow, standIns := [], harness := (true, "26cb2c73487ea200443bd611eeeb1cd6bc72f0970621484e1913c28a09eccbf2"), looks := false }, kinds := [], alts := [], laidByText := true, laidKinds := [.data, .data], laidTests := true, laidLooks := .later }
def CodeBothUptoCardSaid : Prop := Claim7.holds Tryd.pinned (.plain (OpenSpec.upto codeBothSpec)) codeBothUptoCard
end Rows
end Go.Proofs.YtpihmcfojdkpoaaDoor
