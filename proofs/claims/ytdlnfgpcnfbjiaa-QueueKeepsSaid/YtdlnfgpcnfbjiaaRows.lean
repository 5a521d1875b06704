/-
  No cell of these rows narrows 'for every input' (looked for: loops, veiled, ifaces, maps, wideKeys, modest, calm, conditions, laid).
  DERIVED. THE GIVEN ROWS OF THIS SEAT. 19 by the template 'for every input the law returns true; each argument reads behind the call as it read before'; 0 by the template 'total and deterministic' (their statements: YtdlnfgpcnfbjiaaTotals.lean).
  GIVEN WITH THE SEED: the statements are not yours to turn. If you find one false, say at which input.
  Laid BY PROGRAM, IN A SANDBOX (cutbox-rows.mjs): the forced cells as the released guide's own fill.sh prints them over the translation e53a682419bd34b4… (all of the seat's roots in one cut). By AI agents, Wed Nov 11 2026. No macro, syntax, notation, axiom, sorry.
-/
import Derived.Test.YtdlnfgpcnfbjiaaChecked
import GoSem.Claim
import GoSem.ClaimJoined
import GoSem.ClaimMapViews
import Derived.JoinedTies
import Derived.KernelRfl
namespace Go.Proofs.Ytdlnfgpcnfbjiaa
/- THE CELL 'sum', in the pinned program and in every row, IS THE sha256 OF THE DUMP (.gsa) THAT YtdlnfgpcnfbjiaaProg.lean LOADS. Nothing in Lean hashes anything: it is a label: what it is worth is what the hold of that sum in a sandbox is worth. -/
noncomputable def Try.pinned : Pinned := { name := "ytdlnfgpcnfbjiaa", sum := "e53a682419bd34b42d8aae072a07093bee9a4b418d1fd11fea6ec011c8efcdf0", checked := Try.checked }
namespace Rows
def none {H : Type} : Left H := { results := [], args := [] }

/-- 'caballaw26.ClockAhead': WHATEVER THE INPUT: true; the input reads as it did. -/
def clockAheadSpec : ChangeSpec := { name := "clockAhead", fn := fun _ => fun
  | [d1, d2, d3] => { results := [.lit (.bool true)], args := [d1, d2, d3] }
  | _ => none }
def clockAheadRow : OpenClaim := { program := "ytdlnfgpcnfbjiaa", sum := "e53a682419bd34b42d8aae072a07093bee9a4b418d1fd11fea6ec011c8efcdf0", func := "cabal/caballaw26.ClockAhead", spec := "clockAhead", inPlace := ["internal/bytealg.Compare"], unfollowed := true, recurses := true, apart := false }
def ClockAheadSaid : Prop := clockAheadRow.holds Try.pinned (OpenSpec.ofChange clockAheadSpec)

/-- ITS FALSE NEIGHBOUR: 'it returns false'. Refute it at one input. -/
def clockAheadWrong : ChangeSpec := { name := "clockAhead", fn := fun _ => fun
  | [d1, d2, d3] => { results := [.lit (.bool false)], args := [d1, d2, d3] }
  | _ => none }
def ClockAheadWrongFalsely : Prop := clockAheadRow.holds Try.pinned (OpenSpec.ofChange clockAheadWrong)

/-- 'caballaw26.ClockTells': WHATEVER THE INPUT: true; the input reads as it did. -/
def clockTellsSpec : ChangeSpec := { name := "clockTells", fn := fun _ => fun
  | [d1, d2] => { results := [.lit (.bool true)], args := [d1, d2] }
  | _ => none }
def clockTellsRow : OpenClaim := { program := "ytdlnfgpcnfbjiaa", sum := "e53a682419bd34b42d8aae072a07093bee9a4b418d1fd11fea6ec011c8efcdf0", func := "cabal/caballaw26.ClockTells", spec := "clockTells", inPlace := ["internal/bytealg.Compare"], unfollowed := true, recurses := true, apart := false }
def ClockTellsSaid : Prop := clockTellsRow.holds Try.pinned (OpenSpec.ofChange clockTellsSpec)

/-- ITS FALSE NEIGHBOUR: 'it returns false'. Refute it at one input. -/
def clockTellsWrong : ChangeSpec := { name := "clockTells", fn := fun _ => fun
  | [d1, d2] => { results := [.lit (.bool false)], args := [d1, d2] }
  | _ => none }
def ClockTellsWrongFalsely : Prop := clockTellsRow.holds Try.pinned (OpenSpec.ofChange clockTellsWrong)

/-- 'caballaw26.ClockDue': WHATEVER THE INPUT: true; the input reads as it did. -/
def clockDueSpec : ChangeSpec := { name := "clockDue", fn := fun _ => fun
  | [d1, d2, d3] => { results := [.lit (.bool true)], args := [d1, d2, d3] }
  | _ => none }
def clockDueRow : OpenClaim := { program := "ytdlnfgpcnfbjiaa", sum := "e53a682419bd34b42d8aae072a07093bee9a4b418d1fd11fea6ec011c8efcdf0", func := "cabal/caballaw26.ClockDue", spec := "clockDue", inPlace := ["internal/bytealg.Compare"], unfollowed := true, recurses := true, apart := false }
def ClockDueSaid : Prop := clockDueRow.holds Try.pinned (OpenSpec.ofChange clockDueSpec)

/-- ITS FALSE NEIGHBOUR: 'it returns false'. Refute it at one input. -/
def clockDueWrong : ChangeSpec := { name := "clockDue", fn := fun _ => fun
  | [d1, d2, d3] => { results := [.lit (.bool false)], args := [d1, d2, d3] }
  | _ => none }
def ClockDueWrongFalsely : Prop := clockDueRow.holds Try.pinned (OpenSpec.ofChange clockDueWrong)

/-- 'caballaw16.RosterTells': WHATEVER THE INPUT: true; the input reads as it did. -/
def rosterTellsSpec : ChangeSpec := { name := "rosterTells", fn := fun _ => fun
  | [d1, d2] => { results := [.lit (.bool true)], args := [d1, d2] }
  | _ => none }
def rosterTellsRow : OpenClaim := { program := "ytdlnfgpcnfbjiaa", sum := "e53a682419bd34b42d8aae072a07093bee9a4b418d1fd11fea6ec011c8efcdf0", func := "cabal/caballaw16.RosterTells", spec := "rosterTells", inPlace := ["internal/bytealg.Compare"], unfollowed := true, recurses := true, apart := false }
def RosterTellsSaid : Prop := rosterTellsRow.holds Try.pinned (OpenSpec.ofChange rosterTellsSpec)

/-- ITS FALSE NEIGHBOUR: 'it returns false'. Refute it at one input. -/
def rosterTellsWrong : ChangeSpec := { name := "rosterTells", fn := fun _ => fun
  | [d1, d2] => { results := [.lit (.bool false)], args := [d1, d2] }
  | _ => none }
def RosterTellsWrongFalsely : Prop := rosterTellsRow.holds Try.pinned (OpenSpec.ofChange rosterTellsWrong)

/-- 'caballaw16.RosterShuffled': WHATEVER THE INPUT: true; the input reads as it did. -/
def rosterShuffledSpec : ChangeSpec := { name := "rosterShuffled", fn := fun _ => fun
  | [d1, d2] => { results := [.lit (.bool true)], args := [d1, d2] }
  | _ => none }
def rosterShuffledRow : OpenClaim := { program := "ytdlnfgpcnfbjiaa", sum := "e53a682419bd34b42d8aae072a07093bee9a4b418d1fd11fea6ec011c8efcdf0", func := "cabal/caballaw16.RosterShuffled", spec := "rosterShuffled", inPlace := ["internal/bytealg.Compare"], unfollowed := true, recurses := true, apart := false }
def RosterShuffledSaid : Prop := rosterShuffledRow.holds Try.pinned (OpenSpec.ofChange rosterShuffledSpec)

/-- ITS FALSE NEIGHBOUR: 'it returns false'. Refute it at one input. -/
def rosterShuffledWrong : ChangeSpec := { name := "rosterShuffled", fn := fun _ => fun
  | [d1, d2] => { results := [.lit (.bool false)], args := [d1, d2] }
  | _ => none }
def RosterShuffledWrongFalsely : Prop := rosterShuffledRow.holds Try.pinned (OpenSpec.ofChange rosterShuffledWrong)

/-- 'caballaw16.RosterStill': WHATEVER THE INPUT: true; the input reads as it did. -/
def rosterStillSpec : ChangeSpec := { name := "rosterStill", fn := fun _ => fun
  | [d] => { results := [.lit (.bool true)], args := [d] }
  | _ => none }
def rosterStillRow : OpenClaim := { program := "ytdlnfgpcnfbjiaa", sum := "e53a682419bd34b42d8aae072a07093bee9a4b418d1fd11fea6ec011c8efcdf0", func := "cabal/caballaw16.RosterStill", spec := "rosterStill", inPlace := ["internal/bytealg.Compare"], unfollowed := true, recurses := true, apart := false }
def RosterStillSaid : Prop := rosterStillRow.holds Try.pinned (OpenSpec.ofChange rosterStillSpec)

/-- ITS FALSE NEIGHBOUR: 'it returns false'. Refute it at one input. -/
def rosterStillWrong : ChangeSpec := { name := "rosterStill", fn := fun _ => fun
  | [d] => { results := [.lit (.bool false)], args := [d] }
  | _ => none }
def RosterStillWrongFalsely : Prop := rosterStillRow.holds Try.pinned (OpenSpec.ofChange rosterStillWrong)

/-- 'caballaw16.RosterStrong': WHATEVER THE INPUT: true; the input reads as it did. -/
def rosterStrongSpec : ChangeSpec := { name := "rosterStrong", fn := fun _ => fun
  | [d] => { results := [.lit (.bool true)], args := [d] }
  | _ => none }
def rosterStrongRow : OpenClaim := { program := "ytdlnfgpcnfbjiaa", sum := "e53a682419bd34b42d8aae072a07093bee9a4b418d1fd11fea6ec011c8efcdf0", func := "cabal/caballaw16.RosterStrong", spec := "rosterStrong", inPlace := ["internal/bytealg.Compare"], unfollowed := true, recurses := true, apart := false }
def RosterStrongSaid : Prop := rosterStrongRow.holds Try.pinned (OpenSpec.ofChange rosterStrongSpec)

/-- ITS FALSE NEIGHBOUR: 'it returns false'. Refute it at one input. -/
def rosterStrongWrong : ChangeSpec := { name := "rosterStrong", fn := fun _ => fun
  | [d] => { results := [.lit (.bool false)], args := [d] }
  | _ => none }
def RosterStrongWrongFalsely : Prop := rosterStrongRow.holds Try.pinned (OpenSpec.ofChange rosterStrongWrong)

/-- 'caballaw16.RosterBoth': WHATEVER THE INPUT: true; the input reads as it did. -/
def rosterBothSpec : ChangeSpec := { name := "rosterBoth", fn := fun _ => fun
  | [d1, d2, d3] => { results := [.lit (.bool true)], args := [d1, d2, d3] }
  | _ => none }
def rosterBothRow : OpenClaim := { program := "ytdlnfgpcnfbjiaa", sum := "e53a682419bd34b42d8aae072a07093bee9a4b418d1fd11fea6ec011c8efcdf0", func := "cabal/caballaw16.RosterBoth", spec := "rosterBoth", inPlace := ["internal/bytealg.Compare"], unfollowed := true, recurses := true, apart := false }
def RosterBothSaid : Prop := rosterBothRow.holds Try.pinned (OpenSpec.ofChange rosterBothSpec)

/-- ITS FALSE NEIGHBOUR: 'it returns false'. Refute it at one input. -/
def rosterBothWrong : ChangeSpec := { name := "rosterBoth", fn := fun _ => fun
  | [d1, d2, d3] => { results := [.lit (.bool false)], args := [d1, d2, d3] }
  | _ => none }
def RosterBothWrongFalsely : Prop := rosterBothRow.holds Try.pinned (OpenSpec.ofChange rosterBothWrong)

/-- 'caballaw15.GraphOrder': WHATEVER THE INPUT: true; the input reads as it did. -/
def graphOrderSpec : ChangeSpec := { name := "graphOrder", fn := fun _ => fun
  | [d1, d2, d3, d4] => { results := [.lit (.bool true)], args := [d1, d2, d3, d4] }
  | _ => none }
def graphOrderRow : OpenClaim := { program := "ytdlnfgpcnfbjiaa", sum := "e53a682419bd34b42d8aae072a07093bee9a4b418d1fd11fea6ec011c8efcdf0", func := "cabal/caballaw15.GraphOrder", spec := "graphOrder", inPlace := ["internal/bytealg.Compare"], unfollowed := true, recurses := true, apart := false }
def GraphOrderSaid : Prop := graphOrderRow.holds Try.pinned (OpenSpec.ofChange graphOrderSpec)

/-- ITS FALSE NEIGHBOUR: 'it returns false'. Refute it at one input. -/
def graphOrderWrong : ChangeSpec := { name := "graphOrder", fn := fun _ => fun
  | [d1, d2, d3, d4] => { results := [.lit (.bool false)], args := [d1, d2, d3, d4] }
  | _ => none }
def GraphOrderWrongFalsely : Prop := graphOrderRow.holds Try.pinned (OpenSpec.ofChange graphOrderWrong)

/-- 'caballaw15.GraphShuffled': WHATEVER THE INPUT: true; the input reads as it did. -/
def graphShuffledSpec : ChangeSpec := { name := "graphShuffled", fn := fun _ => fun
  | [d1, d2] => { results := [.lit (.bool true)], args := [d1, d2] }
  | _ => none }
def graphShuffledRow : OpenClaim := { program := "ytdlnfgpcnfbjiaa", sum := "e53a682419bd34b42d8aae072a07093bee9a4b418d1fd11fea6ec011c8efcdf0", func := "cabal/caballaw15.GraphShuffled", spec := "graphShuffled", inPlace := ["internal/bytealg.Compare"], unfollowed := true, recurses := true, apart := false }
def GraphShuffledSaid : Prop := graphShuffledRow.holds Try.pinned (OpenSpec.ofChange graphShuffledSpec)

/-- ITS FALSE NEIGHBOUR: 'it returns false'. Refute it at one input. -/
def graphShuffledWrong : ChangeSpec := { name := "graphShuffled", fn := fun _ => fun
  | [d1, d2] => { results := [.lit (.bool false)], args := [d1, d2] }
  | _ => none }
def GraphShuffledWrongFalsely : Prop := graphShuffledRow.holds Try.pinned (OpenSpec.ofChange graphShuffledWrong)

/-- 'caballaw15.GraphKeeps': WHATEVER THE INPUT: true; the input reads as it did. -/
def graphKeepsSpec : ChangeSpec := { name := "graphKeeps", fn := fun _ => fun
  | [d1, d2, d3] => { results := [.lit (.bool true)], args := [d1, d2, d3] }
  | _ => none }
def graphKeepsRow : OpenClaim := { program := "ytdlnfgpcnfbjiaa", sum := "e53a682419bd34b42d8aae072a07093bee9a4b418d1fd11fea6ec011c8efcdf0", func := "cabal/caballaw15.GraphKeeps", spec := "graphKeeps", inPlace := ["internal/bytealg.Compare"], unfollowed := true, recurses := true, apart := false }
def GraphKeepsSaid : Prop := graphKeepsRow.holds Try.pinned (OpenSpec.ofChange graphKeepsSpec)

/-- ITS FALSE NEIGHBOUR: 'it returns false'. Refute it at one input. -/
def graphKeepsWrong : ChangeSpec := { name := "graphKeeps", fn := fun _ => fun
  | [d1, d2, d3] => { results := [.lit (.bool false)], args := [d1, d2, d3] }
  | _ => none }
def GraphKeepsWrongFalsely : Prop := graphKeepsRow.holds Try.pinned (OpenSpec.ofChange graphKeepsWrong)

/-- 'caballaw15.GraphAdds': WHATEVER THE INPUT: true; the input reads as it did. -/
def graphAddsSpec : ChangeSpec := { name := "graphAdds", fn := fun _ => fun
  | [d1, d2, d3] => { results := [.lit (.bool true)], args := [d1, d2, d3] }
  | _ => none }
def graphAddsRow : OpenClaim := { program := "ytdlnfgpcnfbjiaa", sum := "e53a682419bd34b42d8aae072a07093bee9a4b418d1fd11fea6ec011c8efcdf0", func := "cabal/caballaw15.GraphAdds", spec := "graphAdds", inPlace := ["internal/bytealg.Compare"], unfollowed := true, recurses := true, apart := false }
def GraphAddsSaid : Prop := graphAddsRow.holds Try.pinned (OpenSpec.ofChange graphAddsSpec)

/-- ITS FALSE NEIGHBOUR: 'it returns false'. Refute it at one input. -/
def graphAddsWrong : ChangeSpec := { name := "graphAdds", fn := fun _ => fun
  | [d1, d2, d3] => { results := [.lit (.bool false)], args := [d1, d2, d3] }
  | _ => none }
def GraphAddsWrongFalsely : Prop := graphAddsRow.holds Try.pinned (OpenSpec.ofChange graphAddsWrong)

/-- 'caballaw15.GraphHeads': WHATEVER THE INPUT: true; the input reads as it did. -/
def graphHeadsSpec : ChangeSpec := { name := "graphHeads", fn := fun _ => fun
  | [d] => { results := [.lit (.bool true)], args := [d] }
  | _ => none }
def graphHeadsRow : OpenClaim := { program := "ytdlnfgpcnfbjiaa", sum := "e53a682419bd34b42d8aae072a07093bee9a4b418d1fd11fea6ec011c8efcdf0", func := "cabal/caballaw15.GraphHeads", spec := "graphHeads", inPlace := ["internal/bytealg.Compare"], unfollowed := true, recurses := true, apart := false }
def GraphHeadsSaid : Prop := graphHeadsRow.holds Try.pinned (OpenSpec.ofChange graphHeadsSpec)

/-- ITS FALSE NEIGHBOUR: 'it returns false'. Refute it at one input. -/
def graphHeadsWrong : ChangeSpec := { name := "graphHeads", fn := fun _ => fun
  | [d] => { results := [.lit (.bool false)], args := [d] }
  | _ => none }
def GraphHeadsWrongFalsely : Prop := graphHeadsRow.holds Try.pinned (OpenSpec.ofChange graphHeadsWrong)

/-- 'caballaw15.GraphRights': WHATEVER THE INPUT: true; the input reads as it did. -/
def graphRightsSpec : ChangeSpec := { name := "graphRights", fn := fun _ => fun
  | [d1, d2, d3, d4, d5] => { results := [.lit (.bool true)], args := [d1, d2, d3, d4, d5] }
  | _ => none }
def graphRightsRow : OpenClaim := { program := "ytdlnfgpcnfbjiaa", sum := "e53a682419bd34b42d8aae072a07093bee9a4b418d1fd11fea6ec011c8efcdf0", func := "cabal/caballaw15.GraphRights", spec := "graphRights", inPlace := ["internal/bytealg.Compare"], unfollowed := true, recurses := true, apart := false }
def GraphRightsSaid : Prop := graphRightsRow.holds Try.pinned (OpenSpec.ofChange graphRightsSpec)

/-- ITS FALSE NEIGHBOUR: 'it returns false'. Refute it at one input. -/
def graphRightsWrong : ChangeSpec := { name := "graphRights", fn := fun _ => fun
  | [d1, d2, d3, d4, d5] => { results := [.lit (.bool false)], args := [d1, d2, d3, d4, d5] }
  | _ => none }
def GraphRightsWrongFalsely : Prop := graphRightsRow.holds Try.pinned (OpenSpec.ofChange graphRightsWrong)

/-- 'caballaw19.QueueReady': WHATEVER THE INPUT: true; the input reads as it did. -/
def queueReadySpec : ChangeSpec := { name := "queueReady", fn := fun _ => fun
  | [d1, d2] => { results := [.lit (.bool true)], args := [d1, d2] }
  | _ => none }
def queueReadyRow : OpenClaim := { program := "ytdlnfgpcnfbjiaa", sum := "e53a682419bd34b42d8aae072a07093bee9a4b418d1fd11fea6ec011c8efcdf0", func := "cabal/caballaw19.QueueReady", spec := "queueReady", inPlace := ["internal/bytealg.Compare"], unfollowed := true, recurses := true, apart := false }
def QueueReadySaid : Prop := queueReadyRow.holds Try.pinned (OpenSpec.ofChange queueReadySpec)

/-- ITS FALSE NEIGHBOUR: 'it returns false'. Refute it at one input. -/
def queueReadyWrong : ChangeSpec := { name := "queueReady", fn := fun _ => fun
  | [d1, d2] => { results := [.lit (.bool false)], args := [d1, d2] }
  | _ => none }
def QueueReadyWrongFalsely : Prop := queueReadyRow.holds Try.pinned (OpenSpec.ofChange queueReadyWrong)

/-- 'caballaw19.QueueKeeps': WHATEVER THE INPUT: true; the input reads as it did. -/
def queueKeepsSpec : ChangeSpec := { name := "queueKeeps", fn := fun _ => fun
  | [d1, d2] => { results := [.lit (.bool true)], args := [d1, d2] }
  | _ => none }
def queueKeepsRow : OpenClaim := { program := "ytdlnfgpcnfbjiaa", sum := "e53a682419bd34b42d8aae072a07093bee9a4b418d1fd11fea6ec011c8efcdf0", func := "cabal/caballaw19.QueueKeeps", spec := "queueKeeps", inPlace := ["internal/bytealg.Compare"], unfollowed := true, recurses := true, apart := false }
def QueueKeepsSaid : Prop := queueKeepsRow.holds Try.pinned (OpenSpec.ofChange queueKeepsSpec)

/-- ITS FALSE NEIGHBOUR: 'it returns false'. Refute it at one input. -/
def queueKeepsWrong : ChangeSpec := { name := "queueKeeps", fn := fun _ => fun
  | [d1, d2] => { results := [.lit (.bool false)], args := [d1, d2] }
  | _ => none }
def QueueKeepsWrongFalsely : Prop := queueKeepsRow.holds Try.pinned (OpenSpec.ofChange queueKeepsWrong)

/-- 'caballaw19.QueuePuts': WHATEVER THE INPUT: true; the input reads as it did. -/
def queuePutsSpec : ChangeSpec := { name := "queuePuts", fn := fun _ => fun
  | [d1, d2, d3, d4] => { results := [.lit (.bool true)], args := [d1, d2, d3, d4] }
  | _ => none }
def queuePutsRow : OpenClaim := { program := "ytdlnfgpcnfbjiaa", sum := "e53a682419bd34b42d8aae072a07093bee9a4b418d1fd11fea6ec011c8efcdf0", func := "cabal/caballaw19.QueuePuts", spec := "queuePuts", inPlace := ["internal/bytealg.Compare"], unfollowed := true, recurses := true, apart := false }
def QueuePutsSaid : Prop := queuePutsRow.holds Try.pinned (OpenSpec.ofChange queuePutsSpec)

/-- ITS FALSE NEIGHBOUR: 'it returns false'. Refute it at one input. -/
def queuePutsWrong : ChangeSpec := { name := "queuePuts", fn := fun _ => fun
  | [d1, d2, d3, d4] => { results := [.lit (.bool false)], args := [d1, d2, d3, d4] }
  | _ => none }
def QueuePutsWrongFalsely : Prop := queuePutsRow.holds Try.pinned (OpenSpec.ofChange queuePutsWrong)

/-- 'caballaw19.QueueMoves': WHATEVER THE INPUT: true; the input reads as it did. -/
def queueMovesSpec : ChangeSpec := { name := "queueMoves", fn := fun _ => fun
  | [d1, d2] => { results := [.lit (.bool true)], args := [d1, d2] }
  | _ => none }
def queueMovesRow : OpenClaim := { program := "ytdlnfgpcnfbjiaa", sum := "e53a682419bd34b42d8aae072a07093bee9a4b418d1fd11fea6ec011c8efcdf0", func := "cabal/caballaw19.QueueMoves", spec := "queueMoves", inPlace := ["internal/bytealg.Compare"], unfollowed := true, recurses := true, apart := false }
def QueueMovesSaid : Prop := queueMovesRow.holds Try.pinned (OpenSpec.ofChange queueMovesSpec)

/-- ITS FALSE NEIGHBOUR: 'it returns false'. Refute it at one input. -/
def queueMovesWrong : ChangeSpec := { name := "queueMoves", fn := fun _ => fun
  | [d1, d2] => { results := [.lit (.bool false)], args := [d1, d2] }
  | _ => none }
def QueueMovesWrongFalsely : Prop := queueMovesRow.holds Try.pinned (OpenSpec.ofChange queueMovesWrong)

/-- 'caballaw16.RosterAllows': WHATEVER THE INPUT: true; the input reads as it did. -/
def rosterAllowsSpec : ChangeSpec := { name := "rosterAllows", fn := fun _ => fun
  | [d1, d2] => { results := [.lit (.bool true)], args := [d1, d2] }
  | _ => none }
def rosterAllowsRow : OpenClaim := { program := "ytdlnfgpcnfbjiaa", sum := "e53a682419bd34b42d8aae072a07093bee9a4b418d1fd11fea6ec011c8efcdf0", func := "cabal/caballaw16.RosterAllows", spec := "rosterAllows", inPlace := ["internal/bytealg.Compare"], unfollowed := true, recurses := true, apart := false }
def RosterAllowsSaid : Prop := rosterAllowsRow.holds Try.pinned (OpenSpec.ofChange rosterAllowsSpec)

/-- ITS FALSE NEIGHBOUR: 'it returns false'. Refute it at one input. -/
def rosterAllowsWrong : ChangeSpec := { name := "rosterAllows", fn := fun _ => fun
  | [d1, d2] => { results := [.lit (.bool false)], args := [d1, d2] }
  | _ => none }
def RosterAllowsWrongFalsely : Prop := rosterAllowsRow.holds Try.pinned (OpenSpec.ofChange rosterAllowsWrong)

/- THE SECOND FORM. 'bulk': how many values and letters a reading holds, each counted each time it is reached (what is shared counts as often as it is met; a slice's spare places count too). A statement '..UptoSaid' is the law's where the arguments, and the package variables that the reading takes, are together of bulk at most 1048576: NARROWER than '..Said'. Prove '..Said' where nothing that the law and all that it calls make is longer than what came in: it says more and counts as full. Else prove '..UptoSaid'. A law counts once. -/
mutual
def uptoBulk {H : Type} : DataW H → Nat
  | .lit (.string bytes) => bytes.length + 1
  | .lit _ => 1
  | .nil => 1
  | .ptr d => uptoBulk d + 1
  | .slice elems spare => uptoBulkAll elems + uptoBulkAll spare + 1
  | .agg parts => uptoBulkAll parts + 1
  | .iface _ d => uptoBulk d + 1
  | .map entries => uptoBulkEntries entries + 1
  | .held _ => 1
def uptoBulkAll {H : Type} : List (DataW H) → Nat
  | [] => 0
  | d :: r => uptoBulk d + uptoBulkAll r
def uptoBulkEntries {H : Type} : List (Lit × DataW H) → Nat
  | [] => 0
  | x :: r => uptoBulkEntry x + uptoBulkEntries r
def uptoBulkEntry {H : Type} : Lit × DataW H → Nat
  | (.string bytes, d) => bytes.length + uptoBulk d + 1
  | (_, d) => uptoBulk d + 1
 end
def uptoSmall : (H : Type) → List (DataW H) → Bool := fun _ ds => decide (uptoBulkAll ds ≤ 1048576)
def OpenSpec.upto (s : _root_.Go.ChangeSpec) : _root_.Go.OpenSpec := { _root_.Go.OpenSpec.ofChange s with cond := some uptoSmall }

/-- 'caballaw26.ClockAhead', WHERE WHAT IT READS IS OF BULK AT MOST 1048576: true; the input reads as it did. -/
def clockAheadUptoRow : OpenClaim := { program := "ytdlnfgpcnfbjiaa", sum := "e53a682419bd34b42d8aae072a07093bee9a4b418d1fd11fea6ec011c8efcdf0", func := "cabal/caballaw26.ClockAhead", spec := "clockAhead", inPlace := ["internal/bytealg.Compare"], unfollowed := true, recurses := true, apart := false, narrowed := true }
def ClockAheadUptoSaid : Prop := clockAheadUptoRow.holds Try.pinned (OpenSpec.upto clockAheadSpec)

/-- 'caballaw26.ClockTells', WHERE WHAT IT READS IS OF BULK AT MOST 1048576: true; the input reads as it did. -/
def clockTellsUptoRow : OpenClaim := { program := "ytdlnfgpcnfbjiaa", sum := "e53a682419bd34b42d8aae072a07093bee9a4b418d1fd11fea6ec011c8efcdf0", func := "cabal/caballaw26.ClockTells", spec := "clockTells", inPlace := ["internal/bytealg.Compare"], unfollowed := true, recurses := true, apart := false, narrowed := true }
def ClockTellsUptoSaid : Prop := clockTellsUptoRow.holds Try.pinned (OpenSpec.upto clockTellsSpec)

/-- 'caballaw26.ClockDue', WHERE WHAT IT READS IS OF BULK AT MOST 1048576: true; the input reads as it did. -/
def clockDueUptoRow : OpenClaim := { program := "ytdlnfgpcnfbjiaa", sum := "e53a682419bd34b42d8aae072a07093bee9a4b418d1fd11fea6ec011c8efcdf0", func := "cabal/caballaw26.ClockDue", spec := "clockDue", inPlace := ["internal/bytealg.Compare"], unfollowed := true, recurses := true, apart := false, narrowed := true }
def ClockDueUptoSaid : Prop := clockDueUptoRow.holds Try.pinned (OpenSpec.upto clockDueSpec)

/-- 'caballaw16.RosterTells', WHERE WHAT IT READS IS OF BULK AT MOST 1048576: true; the input reads as it did. -/
def rosterTellsUptoRow : OpenClaim := { program := "ytdlnfgpcnfbjiaa", sum := "e53a682419bd34b42d8aae072a07093bee9a4b418d1fd11fea6ec011c8efcdf0", func := "cabal/caballaw16.RosterTells", spec := "rosterTells", inPlace := ["internal/bytealg.Compare"], unfollowed := true, recurses := true, apart := false, narrowed := true }
def RosterTellsUptoSaid : Prop := rosterTellsUptoRow.holds Try.pinned (OpenSpec.upto rosterTellsSpec)

/-- 'caballaw16.RosterShuffled', WHERE WHAT IT READS IS OF BULK AT MOST 1048576: true; the input reads as it did. -/
def rosterShuffledUptoRow : OpenClaim := { program := "ytdlnfgpcnfbjiaa", sum := "e53a682419bd34b42d8aae072a07093bee9a4b418d1fd11fea6ec011c8efcdf0", func := "cabal/caballaw16.RosterShuffled", spec := "rosterShuffled", inPlace := ["internal/bytealg.Compare"], unfollowed := true, recurses := true, apart := false, narrowed := true }
def RosterShuffledUptoSaid : Prop := rosterShuffledUptoRow.holds Try.pinned (OpenSpec.upto rosterShuffledSpec)

/-- 'caballaw16.RosterStill', WHERE WHAT IT READS IS OF BULK AT MOST 1048576: true; the input reads as it did. -/
def rosterStillUptoRow : OpenClaim := { program := "ytdlnfgpcnfbjiaa", sum := "e53a682419bd34b42d8aae072a07093bee9a4b418d1fd11fea6ec011c8efcdf0", func := "cabal/caballaw16.RosterStill", spec := "rosterStill", inPlace := ["internal/bytealg.Compare"], unfollowed := true, recurses := true, apart := false, narrowed := true }
def RosterStillUptoSaid : Prop := rosterStillUptoRow.holds Try.pinned (OpenSpec.upto rosterStillSpec)

/-- 'caballaw16.RosterStrong', WHERE WHAT IT READS IS OF BULK AT MOST 1048576: true; the input reads as it did. -/
def rosterStrongUptoRow : OpenClaim := { program := "ytdlnfgpcnfbjiaa", sum := "e53a682419bd34b42d8aae072a07093bee9a4b418d1fd11fea6ec011c8efcdf0", func := "cabal/caballaw16.RosterStrong", spec := "rosterStrong", inPlace := ["internal/bytealg.Compare"], unfollowed := true, recurses := true, apart := false, narrowed := true }
def RosterStrongUptoSaid : Prop := rosterStrongUptoRow.holds Try.pinned (OpenSpec.upto rosterStrongSpec)

/-- 'caballaw16.RosterBoth', WHERE WHAT IT READS IS OF BULK AT MOST 1048576: true; the input reads as it did. -/
def rosterBothUptoRow : OpenClaim := { program := "ytdlnfgpcnfbjiaa", sum := "e53a682419bd34b42d8aae072a07093bee9a4b418d1fd11fea6ec011c8efcdf0", func := "cabal/caballaw16.RosterBoth", spec := "rosterBoth", inPlace := ["internal/bytealg.Compare"], unfollowed := true, recurses := true, apart := false, narrowed := true }
def RosterBothUptoSaid : Prop := rosterBothUptoRow.holds Try.pinned (OpenSpec.upto rosterBothSpec)

/-- 'caballaw15.GraphOrder', WHERE WHAT IT READS IS OF BULK AT MOST 1048576: true; the input reads as it did. -/
def graphOrderUptoRow : OpenClaim := { program := "ytdlnfgpcnfbjiaa", sum := "e53a682419bd34b42d8aae072a07093bee9a4b418d1fd11fea6ec011c8efcdf0", func := "cabal/caballaw15.GraphOrder", spec := "graphOrder", inPlace := ["internal/bytealg.Compare"], unfollowed := true, recurses := true, apart := false, narrowed := true }
def GraphOrderUptoSaid : Prop := graphOrderUptoRow.holds Try.pinned (OpenSpec.upto graphOrderSpec)

/-- 'caballaw15.GraphShuffled', WHERE WHAT IT READS IS OF BULK AT MOST 1048576: true; the input reads as it did. -/
def graphShuffledUptoRow : OpenClaim := { program := "ytdlnfgpcnfbjiaa", sum := "e53a682419bd34b42d8aae072a07093bee9a4b418d1fd11fea6ec011c8efcdf0", func := "cabal/caballaw15.GraphShuffled", spec := "graphShuffled", inPlace := ["internal/bytealg.Compare"], unfollowed := true, recurses := true, apart := false, narrowed := true }
def GraphShuffledUptoSaid : Prop := graphShuffledUptoRow.holds Try.pinned (OpenSpec.upto graphShuffledSpec)

/-- 'caballaw15.GraphKeeps', WHERE WHAT IT READS IS OF BULK AT MOST 1048576: true; the input reads as it did. -/
def graphKeepsUptoRow : OpenClaim := { program := "ytdlnfgpcnfbjiaa", sum := "e53a682419bd34b42d8aae072a07093bee9a4b418d1fd11fea6ec011c8efcdf0", func := "cabal/caballaw15.GraphKeeps", spec := "graphKeeps", inPlace := ["internal/bytealg.Compare"], unfollowed := true, recurses := true, apart := false, narrowed := true }
def GraphKeepsUptoSaid : Prop := graphKeepsUptoRow.holds Try.pinned (OpenSpec.upto graphKeepsSpec)

/-- 'caballaw15.GraphAdds', WHERE WHAT IT READS IS OF BULK AT MOST 1048576: true; the input reads as it did. -/
def graphAddsUptoRow : OpenClaim := { program := "ytdlnfgpcnfbjiaa", sum := "e53a682419bd34b42d8aae072a07093bee9a4b418d1fd11fea6ec011c8efcdf0", func := "cabal/caballaw15.GraphAdds", spec := "graphAdds", inPlace := ["internal/bytealg.Compare"], unfollowed := true, recurses := true, apart := false, narrowed := true }
def GraphAddsUptoSaid : Prop := graphAddsUptoRow.holds Try.pinned (OpenSpec.upto graphAddsSpec)

/-- 'caballaw15.GraphHeads', WHERE WHAT IT READS IS OF BULK AT MOST 1048576: true; the input reads as it did. -/
def graphHeadsUptoRow : OpenClaim := { program := "ytdlnfgpcnfbjiaa", sum := "e53a682419bd34b42d8aae072a07093bee9a4b418d1fd11fea6ec011c8efcdf0", func := "cabal/caballaw15.GraphHeads", spec := "graphHeads", inPlace := ["internal/bytealg.Compare"], unfollowed := true, recurses := true, apart := false, narrowed := true }
def GraphHeadsUptoSaid : Prop := graphHeadsUptoRow.holds Try.pinned (OpenSpec.upto graphHeadsSpec)

/-- 'caballaw15.GraphRights', WHERE WHAT IT READS IS OF BULK AT MOST 1048576: true; the input reads as it did. -/
def graphRightsUptoRow : OpenClaim := { program := "ytdlnfgpcnfbjiaa", sum := "e53a682419bd34b42d8aae072a07093bee9a4b418d1fd11fea6ec011c8efcdf0", func := "cabal/caballaw15.GraphRights", spec := "graphRights", inPlace := ["internal/bytealg.Compare"], unfollowed := true, recurses := true, apart := false, narrowed := true }
def GraphRightsUptoSaid : Prop := graphRightsUptoRow.holds Try.pinned (OpenSpec.upto graphRightsSpec)

/-- 'caballaw19.QueueReady', WHERE WHAT IT READS IS OF BULK AT MOST 1048576: true; the input reads as it did. -/
def queueReadyUptoRow : OpenClaim := { program := "ytdlnfgpcnfbjiaa", sum := "e53a682419bd34b42d8aae072a07093bee9a4b418d1fd11fea6ec011c8efcdf0", func := "cabal/caballaw19.QueueReady", spec := "queueReady", inPlace := ["internal/bytealg.Compare"], unfollowed := true, recurses := true, apart := false, narrowed := true }
def QueueReadyUptoSaid : Prop := queueReadyUptoRow.holds Try.pinned (OpenSpec.upto queueReadySpec)

/-- 'caballaw19.QueueKeeps', WHERE WHAT IT READS IS OF BULK AT MOST 1048576: true; the input reads as it did. -/
def queueKeepsUptoRow : OpenClaim := { program := "ytdlnfgpcnfbjiaa", sum := "e53a682419bd34b42d8aae072a07093bee9a4b418d1fd11fea6ec011c8efcdf0", func := "cabal/caballaw19.QueueKeeps", spec := "queueKeeps", inPlace := ["internal/bytealg.Compare"], unfollowed := true, recurses := true, apart := false, narrowed := true }
def QueueKeepsUptoSaid : Prop := queueKeepsUptoRow.holds Try.pinned (OpenSpec.upto queueKeepsSpec)

/-- 'caballaw19.QueuePuts', WHERE WHAT IT READS IS OF BULK AT MOST 1048576: true; the input reads as it did. -/
def queuePutsUptoRow : OpenClaim := { program := "ytdlnfgpcnfbjiaa", sum := "e53a682419bd34b42d8aae072a07093bee9a4b418d1fd11fea6ec011c8efcdf0", func := "cabal/caballaw19.QueuePuts", spec := "queuePuts", inPlace := ["internal/bytealg.Compare"], unfollowed := true, recurses := true, apart := false, narrowed := true }
def QueuePutsUptoSaid : Prop := queuePutsUptoRow.holds Try.pinned (OpenSpec.upto queuePutsSpec)

/-- 'caballaw19.QueueMoves', WHERE WHAT IT READS IS OF BULK AT MOST 1048576: true; the input reads as it did. -/
def queueMovesUptoRow : OpenClaim := { program := "ytdlnfgpcnfbjiaa", sum := "e53a682419bd34b42d8aae072a07093bee9a4b418d1fd11fea6ec011c8efcdf0", func := "cabal/caballaw19.QueueMoves", spec := "queueMoves", inPlace := ["internal/bytealg.Compare"], unfollowed := true, recurses := true, apart := false, narrowed := true }
def QueueMovesUptoSaid : Prop := queueMovesUptoRow.holds Try.pinned (OpenSpec.upto queueMovesSpec)

/-- 'caballaw16.RosterAllows', WHERE WHAT IT READS IS OF BULK AT MOST 1048576: true; the input reads as it did. -/
def rosterAllowsUptoRow : OpenClaim := { program := "ytdlnfgpcnfbjiaa", sum := "e53a682419bd34b42d8aae072a07093bee9a4b418d1fd11fea6ec011c8efcdf0", func := "cabal/caballaw16.RosterAllows", spec := "rosterAllows", inPlace := ["internal/bytealg.Compare"], unfollowed := true, recurses := true, apart := false, narrowed := true }
def RosterAllowsUptoSaid : Prop := rosterAllowsUptoRow.holds Try.pinned (OpenSpec.upto rosterAllowsSpec)

end Rows
end Go.Proofs.Ytdlnfgpcnfbjiaa
