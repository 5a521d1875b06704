/-
  NARROWER THAN 'FOR EVERY INPUT', by the rows' own cells (each row's printed sentence says how): DigestSums: laid · DigestCopies: laid · DigestRoots: laid · DigestWrites: laid · DigestPieces: laid · KeyedLong: laid · KeyedTags: laid · KeyedEqual: laid · KeyedWrites: laid · KeyedExpands: laid · KeyedFront: laid · CodeWrites: laid · CodeBoth: laid.
  DERIVED. THE GIVEN ROWS OF THIS SEAT. 13 by the template 'for every input the law returns true; each argument reads behind the call as it read before'; 0 by the template 'total and deterministic' (their statements: YtpihmcfojdkpoaaDoorTotals.lean).
  GIVEN WITH THE SEED: the statements are not yours to turn. If you find one false, say at which input.
  Laid BY PROGRAM, IN A SANDBOX (cutbox-rows.mjs): the forced cells as the released guide's own fill.sh prints them over the translation 542fe48374aba49e… (all of the seat's roots in one cut). By AI agents, Wed Nov 11 2026. No macro, syntax, notation, axiom, sorry.
-/
import Derived.Test.YtpihmcfojdkpoaaDoorChecked
import GoSem.Claim
import GoSem.ClaimJoined
import GoSem.ClaimMapViews
import Derived.JoinedTies
import Derived.KernelRfl
namespace Go.Proofs.YtpihmcfojdkpoaaDoor
/- THE CELL 'sum', in the pinned program and in every row, IS THE sha256 OF THE DUMP (.gsa) THAT YtpihmcfojdkpoaaDoorProg.lean LOADS. Nothing in Lean hashes anything: it is a label: what it is worth is what the hold of that sum in a sandbox is worth. -/
noncomputable def Tryd.pinned : Pinned := { name := "ytpihmcfojdkpoaadoor", sum := "542fe48374aba49eacb9d4fc68ed3de99b8a0690bcb93314f850e7088c519095", checked := Tryd.checked }
namespace Rows
def none {H : Type} : Left H := { results := [], args := [] }

/- WHAT THE LISTED PACKAGE-LEVEL VARIABLES READ AS WHEN THE CALL BEGINS. Each datum BY PROGRAM (the guide's laid-datum.mjs) off the statement by which the dump's own 'gosem.cut.vars' lays the variable. In a bare row this is a premise. The card (YtpihmcfojdkpoaaDoorCards.lean) ties it to the program's text. -/
def laid_cabal_digest_rounds {H : Type} : DataW H := .agg [.lit (.int .u32 1116352408), .lit (.int .u32 1899447441), .lit (.int .u32 3049323471), .lit (.int .u32 3921009573), .lit (.int .u32 961987163), .lit (.int .u32 1508970993), .lit (.int .u32 2453635748), .lit (.int .u32 2870763221), .lit (.int .u32 3624381080), .lit (.int .u32 310598401), .lit (.int .u32 607225278), .lit (.int .u32 1426881987), .lit (.int .u32 1925078388), .lit (.int .u32 2162078206), .lit (.int .u32 2614888103), .lit (.int .u32 3248222580), .lit (.int .u32 3835390401), .lit (.int .u32 4022224774), .lit (.int .u32 264347078), .lit (.int .u32 604807628), .lit (.int .u32 770255983), .lit (.int .u32 1249150122), .lit (.int .u32 1555081692), .lit (.int .u32 1996064986), .lit (.int .u32 2554220882), .lit (.int .u32 2821834349), .lit (.int .u32 2952996808), .lit (.int .u32 3210313671), .lit (.int .u32 3336571891), .lit (.int .u32 3584528711), .lit (.int .u32 113926993), .lit (.int .u32 338241895), .lit (.int .u32 666307205), .lit (.int .u32 773529912), .lit (.int .u32 1294757372), .lit (.int .u32 1396182291), .lit (.int .u32 1695183700), .lit (.int .u32 1986661051), .lit (.int .u32 2177026350), .lit (.int .u32 2456956037), .lit (.int .u32 2730485921), .lit (.int .u32 2820302411), .lit (.int .u32 3259730800), .lit (.int .u32 3345764771), .lit (.int .u32 3516065817), .lit (.int .u32 3600352804), .lit (.int .u32 4094571909), .lit (.int .u32 275423344), .lit (.int .u32 430227734), .lit (.int .u32 506948616), .lit (.int .u32 659060556), .lit (.int .u32 883997877), .lit (.int .u32 958139571), .lit (.int .u32 1322822218), .lit (.int .u32 1537002063), .lit (.int .u32 1747873779), .lit (.int .u32 1955562222), .lit (.int .u32 2024104815), .lit (.int .u32 2227730452), .lit (.int .u32 2361852424), .lit (.int .u32 2428436474), .lit (.int .u32 2756734187), .lit (.int .u32 3204031479), .lit (.int .u32 3329325298)]
def laid_cabal_digest_first {H : Type} : DataW H := .agg [.lit (.int .u32 1779033703), .lit (.int .u32 3144134277), .lit (.int .u32 1013904242), .lit (.int .u32 2773480762), .lit (.int .u32 1359893119), .lit (.int .u32 2600822924), .lit (.int .u32 528734635), .lit (.int .u32 1541459225)]

/-- 'caballaw01.DigestSums': WHATEVER THE INPUT: true; the input reads as it did. -/
def digestSumsSpec : ChangeSpec := { name := "digestSums", fn := fun _ => fun
  | [d] => { results := [.lit (.bool true)], args := [d] }
  | _ => none }
def digestSumsRow : OpenClaim := { program := "ytpihmcfojdkpoaadoor", sum := "542fe48374aba49eacb9d4fc68ed3de99b8a0690bcb93314f850e7088c519095", func := "cabal/caballaw01.DigestSums", spec := "digestSums", named := ["cabal/digest.first", "cabal/digest.rounds"], apart := false, laid := [("cabal/digest.rounds", laid_cabal_digest_rounds), ("cabal/digest.first", laid_cabal_digest_first)] }
def DigestSumsSaid : Prop := digestSumsRow.holds Tryd.pinned (OpenSpec.ofChange digestSumsSpec)

/-- ITS FALSE NEIGHBOUR: 'it returns false'. Refute it at one input. -/
def digestSumsWrong : ChangeSpec := { name := "digestSums", fn := fun _ => fun
  | [d] => { results := [.lit (.bool false)], args := [d] }
  | _ => none }
def DigestSumsWrongFalsely : Prop := digestSumsRow.holds Tryd.pinned (OpenSpec.ofChange digestSumsWrong)

/-- 'caballaw01.DigestCopies': WHATEVER THE INPUT: true; the input reads as it did. -/
def digestCopiesSpec : ChangeSpec := { name := "digestCopies", fn := fun _ => fun
  | [d1, d2, d3] => { results := [.lit (.bool true)], args := [d1, d2, d3] }
  | _ => none }
def digestCopiesRow : OpenClaim := { program := "ytpihmcfojdkpoaadoor", sum := "542fe48374aba49eacb9d4fc68ed3de99b8a0690bcb93314f850e7088c519095", func := "cabal/caballaw01.DigestCopies", spec := "digestCopies", named := ["cabal/digest.first", "cabal/digest.rounds"], apart := false, laid := [("cabal/digest.rounds", laid_cabal_digest_rounds), ("cabal/digest.first", laid_cabal_digest_first)] }
def DigestCopiesSaid : Prop := digestCopiesRow.holds Tryd.pinned (OpenSpec.ofChange digestCopiesSpec)

/-- ITS FALSE NEIGHBOUR: 'it returns false'. Refute it at one input. -/
def digestCopiesWrong : ChangeSpec := { name := "digestCopies", fn := fun _ => fun
  | [d1, d2, d3] => { results := [.lit (.bool false)], args := [d1, d2, d3] }
  | _ => none }
def DigestCopiesWrongFalsely : Prop := digestCopiesRow.holds Tryd.pinned (OpenSpec.ofChange digestCopiesWrong)

/-- 'caballaw01.DigestRoots': WHATEVER THE INPUT: true; the input reads as it did. -/
def digestRootsSpec : ChangeSpec := { name := "digestRoots", fn := fun _ => fun
  | [d] => { results := [.lit (.bool true)], args := [d] }
  | _ => none }
def digestRootsRow : OpenClaim := { program := "ytpihmcfojdkpoaadoor", sum := "542fe48374aba49eacb9d4fc68ed3de99b8a0690bcb93314f850e7088c519095", func := "cabal/caballaw01.DigestRoots", spec := "digestRoots", named := ["cabal/digest.first", "cabal/digest.rounds"], apart := false, laid := [("cabal/digest.rounds", laid_cabal_digest_rounds), ("cabal/digest.first", laid_cabal_digest_first)] }
def DigestRootsSaid : Prop := digestRootsRow.holds Tryd.pinned (OpenSpec.ofChange digestRootsSpec)

/-- ITS FALSE NEIGHBOUR: 'it returns false'. Refute it at one input. -/
def digestRootsWrong : ChangeSpec := { name := "digestRoots", fn := fun _ => fun
  | [d] => { results := [.lit (.bool false)], args := [d] }
  | _ => none }
def DigestRootsWrongFalsely : Prop := digestRootsRow.holds Tryd.pinned (OpenSpec.ofChange digestRootsWrong)

/-- 'caballaw01.DigestWrites': WHATEVER THE INPUT: true; the input reads as it did. -/
def digestWritesSpec : ChangeSpec := { name := "digestWrites", fn := fun _ => fun
  | [d] => { results := [.lit (.bool true)], args := [d] }
  | _ => none }
def digestWritesRow : OpenClaim := { program := "ytpihmcfojdkpoaadoor", sum := "542fe48374aba49eacb9d4fc68ed3de99b8a0690bcb93314f850e7088c519095", func := "cabal/caballaw01.DigestWrites", spec := "digestWrites", named := ["cabal/digest.first", "cabal/digest.rounds"], apart := false, laid := [("cabal/digest.rounds", laid_cabal_digest_rounds), ("cabal/digest.first", laid_cabal_digest_first)] }
def DigestWritesSaid : Prop := digestWritesRow.holds Tryd.pinned (OpenSpec.ofChange digestWritesSpec)

/-- ITS FALSE NEIGHBOUR: 'it returns false'. Refute it at one input. -/
def digestWritesWrong : ChangeSpec := { name := "digestWrites", fn := fun _ => fun
  | [d] => { results := [.lit (.bool false)], args := [d] }
  | _ => none }
def DigestWritesWrongFalsely : Prop := digestWritesRow.holds Tryd.pinned (OpenSpec.ofChange digestWritesWrong)

/-- 'caballaw01.DigestPieces': WHATEVER THE INPUT: true; the input reads as it did. -/
def digestPiecesSpec : ChangeSpec := { name := "digestPieces", fn := fun _ => fun
  | [d1, d2] => { results := [.lit (.bool true)], args := [d1, d2] }
  | _ => none }
def digestPiecesRow : OpenClaim := { program := "ytpihmcfojdkpoaadoor", sum := "542fe48374aba49eacb9d4fc68ed3de99b8a0690bcb93314f850e7088c519095", func := "cabal/caballaw01.DigestPieces", spec := "digestPieces", named := ["cabal/digest.first", "cabal/digest.rounds"], apart := false, laid := [("cabal/digest.rounds", laid_cabal_digest_rounds), ("cabal/digest.first", laid_cabal_digest_first)] }
def DigestPiecesSaid : Prop := digestPiecesRow.holds Tryd.pinned (OpenSpec.ofChange digestPiecesSpec)

/-- ITS FALSE NEIGHBOUR: 'it returns false'. Refute it at one input. -/
def digestPiecesWrong : ChangeSpec := { name := "digestPieces", fn := fun _ => fun
  | [d1, d2] => { results := [.lit (.bool false)], args := [d1, d2] }
  | _ => none }
def DigestPiecesWrongFalsely : Prop := digestPiecesRow.holds Tryd.pinned (OpenSpec.ofChange digestPiecesWrong)

/-- 'caballaw02.KeyedLong': WHATEVER THE INPUT: true; the input reads as it did. -/
def keyedLongSpec : ChangeSpec := { name := "keyedLong", fn := fun _ => fun
  | [d1, d2, d3] => { results := [.lit (.bool true)], args := [d1, d2, d3] }
  | _ => none }
def keyedLongRow : OpenClaim := { program := "ytpihmcfojdkpoaadoor", sum := "542fe48374aba49eacb9d4fc68ed3de99b8a0690bcb93314f850e7088c519095", func := "cabal/caballaw02.KeyedLong", spec := "keyedLong", recurses := true, named := ["cabal/digest.first", "cabal/digest.rounds"], apart := false, laid := [("cabal/digest.rounds", laid_cabal_digest_rounds), ("cabal/digest.first", laid_cabal_digest_first)] }
def KeyedLongSaid : Prop := keyedLongRow.holds Tryd.pinned (OpenSpec.ofChange keyedLongSpec)

/-- ITS FALSE NEIGHBOUR: 'it returns false'. Refute it at one input. -/
def keyedLongWrong : ChangeSpec := { name := "keyedLong", fn := fun _ => fun
  | [d1, d2, d3] => { results := [.lit (.bool false)], args := [d1, d2, d3] }
  | _ => none }
def KeyedLongWrongFalsely : Prop := keyedLongRow.holds Tryd.pinned (OpenSpec.ofChange keyedLongWrong)

/-- 'caballaw02.KeyedTags': WHATEVER THE INPUT: true; the input reads as it did. -/
def keyedTagsSpec : ChangeSpec := { name := "keyedTags", fn := fun _ => fun
  | [d1, d2] => { results := [.lit (.bool true)], args := [d1, d2] }
  | _ => none }
def keyedTagsRow : OpenClaim := { program := "ytpihmcfojdkpoaadoor", sum := "542fe48374aba49eacb9d4fc68ed3de99b8a0690bcb93314f850e7088c519095", func := "cabal/caballaw02.KeyedTags", spec := "keyedTags", recurses := true, named := ["cabal/digest.first", "cabal/digest.rounds"], apart := false, laid := [("cabal/digest.rounds", laid_cabal_digest_rounds), ("cabal/digest.first", laid_cabal_digest_first)] }
def KeyedTagsSaid : Prop := keyedTagsRow.holds Tryd.pinned (OpenSpec.ofChange keyedTagsSpec)

/-- ITS FALSE NEIGHBOUR: 'it returns false'. Refute it at one input. -/
def keyedTagsWrong : ChangeSpec := { name := "keyedTags", fn := fun _ => fun
  | [d1, d2] => { results := [.lit (.bool false)], args := [d1, d2] }
  | _ => none }
def KeyedTagsWrongFalsely : Prop := keyedTagsRow.holds Tryd.pinned (OpenSpec.ofChange keyedTagsWrong)

/-- 'caballaw02.KeyedEqual': WHATEVER THE INPUT: true; the input reads as it did. -/
def keyedEqualSpec : ChangeSpec := { name := "keyedEqual", fn := fun _ => fun
  | [d1, d2, d3, d4] => { results := [.lit (.bool true)], args := [d1, d2, d3, d4] }
  | _ => none }
def keyedEqualRow : OpenClaim := { program := "ytpihmcfojdkpoaadoor", sum := "542fe48374aba49eacb9d4fc68ed3de99b8a0690bcb93314f850e7088c519095", func := "cabal/caballaw02.KeyedEqual", spec := "keyedEqual", recurses := true, named := ["cabal/digest.first", "cabal/digest.rounds"], apart := false, laid := [("cabal/digest.rounds", laid_cabal_digest_rounds), ("cabal/digest.first", laid_cabal_digest_first)] }
def KeyedEqualSaid : Prop := keyedEqualRow.holds Tryd.pinned (OpenSpec.ofChange keyedEqualSpec)

/-- ITS FALSE NEIGHBOUR: 'it returns false'. Refute it at one input. -/
def keyedEqualWrong : ChangeSpec := { name := "keyedEqual", fn := fun _ => fun
  | [d1, d2, d3, d4] => { results := [.lit (.bool false)], args := [d1, d2, d3, d4] }
  | _ => none }
def KeyedEqualWrongFalsely : Prop := keyedEqualRow.holds Tryd.pinned (OpenSpec.ofChange keyedEqualWrong)

/-- 'caballaw02.KeyedWrites': WHATEVER THE INPUT: true; the input reads as it did. -/
def keyedWritesSpec : ChangeSpec := { name := "keyedWrites", fn := fun _ => fun
  | [d1, d2] => { results := [.lit (.bool true)], args := [d1, d2] }
  | _ => none }
def keyedWritesRow : OpenClaim := { program := "ytpihmcfojdkpoaadoor", sum := "542fe48374aba49eacb9d4fc68ed3de99b8a0690bcb93314f850e7088c519095", func := "cabal/caballaw02.KeyedWrites", spec := "keyedWrites", recurses := true, named := ["cabal/digest.first", "cabal/digest.rounds"], apart := false, laid := [("cabal/digest.rounds", laid_cabal_digest_rounds), ("cabal/digest.first", laid_cabal_digest_first)] }
def KeyedWritesSaid : Prop := keyedWritesRow.holds Tryd.pinned (OpenSpec.ofChange keyedWritesSpec)

/-- ITS FALSE NEIGHBOUR: 'it returns false'. Refute it at one input. -/
def keyedWritesWrong : ChangeSpec := { name := "keyedWrites", fn := fun _ => fun
  | [d1, d2] => { results := [.lit (.bool false)], args := [d1, d2] }
  | _ => none }
def KeyedWritesWrongFalsely : Prop := keyedWritesRow.holds Tryd.pinned (OpenSpec.ofChange keyedWritesWrong)

/-- 'caballaw02.KeyedExpands': WHATEVER THE INPUT: true; the input reads as it did. -/
def keyedExpandsSpec : ChangeSpec := { name := "keyedExpands", fn := fun _ => fun
  | [d1, d2, d3] => { results := [.lit (.bool true)], args := [d1, d2, d3] }
  | _ => none }
def keyedExpandsRow : OpenClaim := { program := "ytpihmcfojdkpoaadoor", sum := "542fe48374aba49eacb9d4fc68ed3de99b8a0690bcb93314f850e7088c519095", func := "cabal/caballaw02.KeyedExpands", spec := "keyedExpands", recurses := true, named := ["cabal/digest.first", "cabal/digest.rounds"], apart := false, laid := [("cabal/digest.rounds", laid_cabal_digest_rounds), ("cabal/digest.first", laid_cabal_digest_first)] }
def KeyedExpandsSaid : Prop := keyedExpandsRow.holds Tryd.pinned (OpenSpec.ofChange keyedExpandsSpec)

/-- ITS FALSE NEIGHBOUR: 'it returns false'. Refute it at one input. -/
def keyedExpandsWrong : ChangeSpec := { name := "keyedExpands", fn := fun _ => fun
  | [d1, d2, d3] => { results := [.lit (.bool false)], args := [d1, d2, d3] }
  | _ => none }
def KeyedExpandsWrongFalsely : Prop := keyedExpandsRow.holds Tryd.pinned (OpenSpec.ofChange keyedExpandsWrong)

/-- 'caballaw02.KeyedFront': WHATEVER THE INPUT: true; the input reads as it did. -/
def keyedFrontSpec : ChangeSpec := { name := "keyedFront", fn := fun _ => fun
  | [d1, d2, d3, d4] => { results := [.lit (.bool true)], args := [d1, d2, d3, d4] }
  | _ => none }
def keyedFrontRow : OpenClaim := { program := "ytpihmcfojdkpoaadoor", sum := "542fe48374aba49eacb9d4fc68ed3de99b8a0690bcb93314f850e7088c519095", func := "cabal/caballaw02.KeyedFront", spec := "keyedFront", recurses := true, named := ["cabal/digest.first", "cabal/digest.rounds"], apart := false, laid := [("cabal/digest.rounds", laid_cabal_digest_rounds), ("cabal/digest.first", laid_cabal_digest_first)] }
def KeyedFrontSaid : Prop := keyedFrontRow.holds Tryd.pinned (OpenSpec.ofChange keyedFrontSpec)

/-- ITS FALSE NEIGHBOUR: 'it returns false'. Refute it at one input. -/
def keyedFrontWrong : ChangeSpec := { name := "keyedFront", fn := fun _ => fun
  | [d1, d2, d3, d4] => { results := [.lit (.bool false)], args := [d1, d2, d3, d4] }
  | _ => none }
def KeyedFrontWrongFalsely : Prop := keyedFrontRow.holds Tryd.pinned (OpenSpec.ofChange keyedFrontWrong)

/-- 'caballaw27.CodeWrites': WHATEVER THE INPUT: true; the input reads as it did. -/
def codeWritesSpec : ChangeSpec := { name := "codeWrites", fn := fun _ => fun
  | [d1, d2] => { results := [.lit (.bool true)], args := [d1, d2] }
  | _ => none }
def codeWritesRow : OpenClaim := { program := "ytpihmcfojdkpoaadoor", sum := "542fe48374aba49eacb9d4fc68ed3de99b8a0690bcb93314f850e7088c519095", func := "cabal/caballaw27.CodeWrites", spec := "codeWrites", inPlace := ["internal/abi.NoEscape", "internal/bytealg.Compare"], named := ["cabal/digest.first", "cabal/digest.rounds"], apart := false, laid := [("cabal/digest.rounds", laid_cabal_digest_rounds), ("cabal/digest.first", laid_cabal_digest_first)] }
def CodeWritesSaid : Prop := codeWritesRow.holds Tryd.pinned (OpenSpec.ofChange codeWritesSpec)

/-- ITS FALSE NEIGHBOUR: 'it returns false'. Refute it at one input. -/
def codeWritesWrong : ChangeSpec := { name := "codeWrites", fn := fun _ => fun
  | [d1, d2] => { results := [.lit (.bool false)], args := [d1, d2] }
  | _ => none }
def CodeWritesWrongFalsely : Prop := codeWritesRow.holds Tryd.pinned (OpenSpec.ofChange codeWritesWrong)

/-- 'caballaw27.CodeBoth': WHATEVER THE INPUT: true; the input reads as it did. -/
def codeBothSpec : ChangeSpec := { name := "codeBoth", fn := fun _ => fun
  | [d1, d2] => { results := [.lit (.bool true)], args := [d1, d2] }
  | _ => none }
def codeBothRow : OpenClaim := { program := "ytpihmcfojdkpoaadoor", sum := "542fe48374aba49eacb9d4fc68ed3de99b8a0690bcb93314f850e7088c519095", func := "cabal/caballaw27.CodeBoth", spec := "codeBoth", inPlace := ["internal/abi.NoEscape", "internal/bytealg.Compare"], named := ["cabal/digest.first", "cabal/digest.rounds"], apart := false, laid := [("cabal/digest.rounds", laid_cabal_digest_rounds), ("cabal/digest.first", laid_cabal_digest_first)] }
def CodeBothSaid : Prop := codeBothRow.holds Tryd.pinned (OpenSpec.ofChange codeBothSpec)

/-- ITS FALSE NEIGHBOUR: 'it returns false'. Refute it at one input. -/
def codeBothWrong : ChangeSpec := { name := "codeBoth", fn := fun _ => fun
  | [d1, d2] => { results := [.lit (.bool false)], args := [d1, d2] }
  | _ => none }
def CodeBothWrongFalsely : Prop := codeBothRow.holds Tryd.pinned (OpenSpec.ofChange codeBothWrong)

/- THE SECOND FORM. 'bulk': how many values and letters a reading holds, each counted each time it is reached (what is shared counts as often as it is met; a slice's spare places count too). A statement '..UptoSaid' is the law's where the arguments, and the package variables that the reading takes, are together of bulk at most 1048576: NARROWER than '..Said'. Prove '..Said' where nothing that the law and all that it calls make is longer than what came in: it says more and counts as full. Else prove '..UptoSaid'. A law counts once. -/
mutual
def uptoBulk {H : Type} : DataW H → Nat
  | .lit (.string bytes) => bytes.length + 1
  | .lit _ => 1
  | .nil => 1
  | .ptr d => uptoBulk d + 1
  | .slice elems spare => uptoBulkAll elems + uptoBulkAll spare + 1
  | .agg parts => uptoBulkAll parts + 1
  | .iface _ d => uptoBulk d + 1
  | .map entries => uptoBulkEntries entries + 1
  | .held _ => 1
def uptoBulkAll {H : Type} : List (DataW H) → Nat
  | [] => 0
  | d :: r => uptoBulk d + uptoBulkAll r
def uptoBulkEntries {H : Type} : List (Lit × DataW H) → Nat
  | [] => 0
  | x :: r => uptoBulkEntry x + uptoBulkEntries r
def uptoBulkEntry {H : Type} : Lit × DataW H → Nat
  | (.string bytes, d) => bytes.length + uptoBulk d + 1
  | (_, d) => uptoBulk d + 1
 end
def uptoSmall : (H : Type) → List (DataW H) → Bool := fun _ ds => decide (uptoBulkAll ds ≤ 1048576)
def OpenSpec.upto (s : _root_.Go.ChangeSpec) : _root_.Go.OpenSpec := { _root_.Go.OpenSpec.ofChange s with cond := some uptoSmall }

/-- 'caballaw01.DigestSums', WHERE WHAT IT READS IS OF BULK AT MOST 1048576: true; the input reads as it did. -/
def digestSumsUptoRow : OpenClaim := { program := "ytpihmcfojdkpoaadoor", sum := "542fe48374aba49eacb9d4fc68ed3de99b8a0690bcb93314f850e7088c519095", func := "cabal/caballaw01.DigestSums", spec := "digestSums", named := ["cabal/digest.first", "cabal/digest.rounds"], apart := false, laid := [("cabal/digest.rounds", laid_cabal_digest_rounds), ("cabal/digest.first", laid_cabal_digest_first)], narrowed := true }
def DigestSumsUptoSaid : Prop := digestSumsUptoRow.holds Tryd.pinned (OpenSpec.upto digestSumsSpec)

/-- 'caballaw01.DigestCopies', WHERE WHAT IT READS IS OF BULK AT MOST 1048576: true; the input reads as it did. -/
def digestCopiesUptoRow : OpenClaim := { program := "ytpihmcfojdkpoaadoor", sum := "542fe48374aba49eacb9d4fc68ed3de99b8a0690bcb93314f850e7088c519095", func := "cabal/caballaw01.DigestCopies", spec := "digestCopies", named := ["cabal/digest.first", "cabal/digest.rounds"], apart := false, laid := [("cabal/digest.rounds", laid_cabal_digest_rounds), ("cabal/digest.first", laid_cabal_digest_first)], narrowed := true }
def DigestCopiesUptoSaid : Prop := digestCopiesUptoRow.holds Tryd.pinned (OpenSpec.upto digestCopiesSpec)

/-- 'caballaw01.DigestRoots', WHERE WHAT IT READS IS OF BULK AT MOST 1048576: true; the input reads as it did. -/
def digestRootsUptoRow : OpenClaim := { program := "ytpihmcfojdkpoaadoor", sum := "542fe48374aba49eacb9d4fc68ed3de99b8a0690bcb93314f850e7088c519095", func := "cabal/caballaw01.DigestRoots", spec := "digestRoots", named := ["cabal/digest.first", "cabal/digest.rounds"], apart := false, laid := [("cabal/digest.rounds", laid_cabal_digest_rounds), ("cabal/digest.first", laid_cabal_digest_first)], narrowed := true }
def DigestRootsUptoSaid : Prop := digestRootsUptoRow.holds Tryd.pinned (OpenSpec.upto digestRootsSpec)

/-- 'caballaw01.DigestWrites', WHERE WHAT IT READS IS OF BULK AT MOST 1048576: true; the input reads as it did. -/
def digestWritesUptoRow : OpenClaim := { program := "ytpihmcfojdkpoaadoor", sum := "542fe48374aba49eacb9d4fc68ed3de99b8a0690bcb93314f850e7088c519095", func := "cabal/caballaw01.DigestWrites", spec := "digestWrites", named := ["cabal/digest.first", "cabal/digest.rounds"], apart := false, laid := [("cabal/digest.rounds", laid_cabal_digest_rounds), ("cabal/digest.first", laid_cabal_digest_first)], narrowed := true }
def DigestWritesUptoSaid : Prop := digestWritesUptoRow.holds Tryd.pinned (OpenSpec.upto digestWritesSpec)

/-- 'caballaw01.DigestPieces', WHERE WHAT IT READS IS OF BULK AT MOST 1048576: true; the input reads as it did. -/
def digestPiecesUptoRow : OpenClaim := { program := "ytpihmcfojdkpoaadoor", sum := "542fe48374aba49eacb9d4fc68ed3de99b8a0690bcb93314f850e7088c519095", func := "cabal/caballaw01.DigestPieces", spec := "digestPieces", named := ["cabal/digest.first", "cabal/digest.rounds"], apart := false, laid := [("cabal/digest.rounds", laid_cabal_digest_rounds), ("cabal/digest.first", laid_cabal_digest_first)], narrowed := true }
def DigestPiecesUptoSaid : Prop := digestPiecesUptoRow.holds Tryd.pinned (OpenSpec.upto digestPiecesSpec)

/-- 'caballaw02.KeyedLong', WHERE WHAT IT READS IS OF BULK AT MOST 1048576: true; the input reads as it did. -/
def keyedLongUptoRow : OpenClaim := { program := "ytpihmcfojdkpoaadoor", sum := "542fe48374aba49eacb9d4fc68ed3de99b8a0690bcb93314f850e7088c519095", func := "cabal/caballaw02.KeyedLong", spec := "keyedLong", recurses := true, named := ["cabal/digest.first", "cabal/digest.rounds"], apart := false, laid := [("cabal/digest.rounds", laid_cabal_digest_rounds), ("cabal/digest.first", laid_cabal_digest_first)], narrowed := true }
def KeyedLongUptoSaid : Prop := keyedLongUptoRow.holds Tryd.pinned (OpenSpec.upto keyedLongSpec)

/-- 'caballaw02.KeyedTags', WHERE WHAT IT READS IS OF BULK AT MOST 1048576: true; the input reads as it did. -/
def keyedTagsUptoRow : OpenClaim := { program := "ytpihmcfojdkpoaadoor", sum := "542fe48374aba49eacb9d4fc68ed3de99b8a0690bcb93314f850e7088c519095", func := "cabal/caballaw02.KeyedTags", spec := "keyedTags", recurses := true, named := ["cabal/digest.first", "cabal/digest.rounds"], apart := false, laid := [("cabal/digest.rounds", laid_cabal_digest_rounds), ("cabal/digest.first", laid_cabal_digest_first)], narrowed := true }
def KeyedTagsUptoSaid : Prop := keyedTagsUptoRow.holds Tryd.pinned (OpenSpec.upto keyedTagsSpec)

/-- 'caballaw02.KeyedEqual', WHERE WHAT IT READS IS OF BULK AT MOST 1048576: true; the input reads as it did. -/
def keyedEqualUptoRow : OpenClaim := { program := "ytpihmcfojdkpoaadoor", sum := "542fe48374aba49eacb9d4fc68ed3de99b8a0690bcb93314f850e7088c519095", func := "cabal/caballaw02.KeyedEqual", spec := "keyedEqual", recurses := true, named := ["cabal/digest.first", "cabal/digest.rounds"], apart := false, laid := [("cabal/digest.rounds", laid_cabal_digest_rounds), ("cabal/digest.first", laid_cabal_digest_first)], narrowed := true }
def KeyedEqualUptoSaid : Prop := keyedEqualUptoRow.holds Tryd.pinned (OpenSpec.upto keyedEqualSpec)

/-- 'caballaw02.KeyedWrites', WHERE WHAT IT READS IS OF BULK AT MOST 1048576: true; the input reads as it did. -/
def keyedWritesUptoRow : OpenClaim := { program := "ytpihmcfojdkpoaadoor", sum := "542fe48374aba49eacb9d4fc68ed3de99b8a0690bcb93314f850e7088c519095", func := "cabal/caballaw02.KeyedWrites", spec := "keyedWrites", recurses := true, named := ["cabal/digest.first", "cabal/digest.rounds"], apart := false, laid := [("cabal/digest.rounds", laid_cabal_digest_rounds), ("cabal/digest.first", laid_cabal_digest_first)], narrowed := true }
def KeyedWritesUptoSaid : Prop := keyedWritesUptoRow.holds Tryd.pinned (OpenSpec.upto keyedWritesSpec)

/-- 'caballaw02.KeyedExpands', WHERE WHAT IT READS IS OF BULK AT MOST 1048576: true; the input reads as it did. -/
def keyedExpandsUptoRow : OpenClaim := { program := "ytpihmcfojdkpoaadoor", sum := "542fe48374aba49eacb9d4fc68ed3de99b8a0690bcb93314f850e7088c519095", func := "cabal/caballaw02.KeyedExpands", spec := "keyedExpands", recurses := true, named := ["cabal/digest.first", "cabal/digest.rounds"], apart := false, laid := [("cabal/digest.rounds", laid_cabal_digest_rounds), ("cabal/digest.first", laid_cabal_digest_first)], narrowed := true }
def KeyedExpandsUptoSaid : Prop := keyedExpandsUptoRow.holds Tryd.pinned (OpenSpec.upto keyedExpandsSpec)

/-- 'caballaw02.KeyedFront', WHERE WHAT IT READS IS OF BULK AT MOST 1048576: true; the input reads as it did. -/
def keyedFrontUptoRow : OpenClaim := { program := "ytpihmcfojdkpoaadoor", sum := "542fe48374aba49eacb9d4fc68ed3de99b8a0690bcb93314f850e7088c519095", func := "cabal/caballaw02.KeyedFront", spec := "keyedFront", recurses := true, named := ["cabal/digest.first", "cabal/digest.rounds"], apart := false, laid := [("cabal/digest.rounds", laid_cabal_digest_rounds), ("cabal/digest.first", laid_cabal_digest_first)], narrowed := true }
def KeyedFrontUptoSaid : Prop := keyedFrontUptoRow.holds Tryd.pinned (OpenSpec.upto keyedFrontSpec)

/-- 'caballaw27.CodeWrites', WHERE WHAT IT READS IS OF BULK AT MOST 1048576: true; the input reads as it did. -/
def codeWritesUptoRow : OpenClaim := { program := "ytpihmcfojdkpoaadoor", sum := "542fe48374aba49eacb9d4fc68ed3de99b8a0690bcb93314f850e7088c519095", func := "cabal/caballaw27.CodeWrites", spec := "codeWrites", inPlace := ["internal/abi.NoEscape", "internal/bytealg.Compare"], named := ["cabal/digest.first", "cabal/digest.rounds"], apart := false, laid := [("cabal/digest.rounds", laid_cabal_digest_rounds), ("cabal/digest.first", laid_cabal_digest_first)], narrowed := true }
def CodeWritesUptoSaid : Prop := codeWritesUptoRow.holds Tryd.pinned (OpenSpec.upto codeWritesSpec)

/-- 'caballaw27.CodeBoth', WHERE WHAT IT READS IS OF BULK AT MOST 1048576: true; the input reads as it did. -/
def codeBothUptoRow : OpenClaim := { program := "ytpihmcfojdkpoaadoor", sum := "542fe48374aba49eacb9d4fc68ed3de99b8a0690bcb93314f850e7088c519095", func := "cabal/caballaw27.CodeBoth", spec := "codeBoth", inPlace := ["internal/abi.NoEscape", "internal/bytealg.Compare"], named := ["cabal/digest.first", "cabal/digest.rounds"], apart := false, laid := [("cabal/digest.rounds", laid_cabal_digest_rounds), ("cabal/digest.first", laid_cabal_digest_first)], narrowed := true }
def CodeBothUptoSaid : Prop := codeBothUptoRow.holds Tryd.pinned (OpenSpec.upto codeBothSpec)

end Rows
end Go.Proofs.YtpihmcfojdkpoaaDoor
