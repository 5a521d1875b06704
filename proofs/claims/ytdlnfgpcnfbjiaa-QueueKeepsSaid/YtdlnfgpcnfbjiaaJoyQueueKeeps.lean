/- Several parts of this proof in one file. No condition. -/
import Derived.Test.YtdlnfgpcnfbjiaaRows
import Derived.Test.YtdlnfgpcnfbjiaaKyA
namespace Go.Proofs.Ytdlnfgpcnfbjiaa
open Go.ChangeShapes Go.WideShapes Go.ChangeAt Go.RowKit Go.Proofs.Kit
set_option maxRecDepth 100000
theorem Joined.stops : (Try.prog.stops == []) = true := by kernel_rfl
theorem Joined.knobs : (Try.prog.stopKnobs == []) = true := by kernel_rfl
theorem Joined.heard : Try.prog.stopsHeard = true := by kernel_rfl
theorem Joined.enter : Try.prog.mayEnter = true := by kernel_rfl
theorem Joined.laidOut : laidOutB Try.prog = true := by kernel_rfl
theorem Joined.rowed : mapsRowed Try.prog = true := by kernel_rfl
end Go.Proofs.Ytdlnfgpcnfbjiaa
