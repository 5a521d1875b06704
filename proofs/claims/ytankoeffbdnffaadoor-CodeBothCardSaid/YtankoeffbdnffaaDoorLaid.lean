/- What the listed tables read as when a call begins, as facts for the walks; and a heap that meets the condition: the door's own. -/
import Derived.Test.YtankoeffbdnffaaDoorRows
import Derived.Test.YtankoeffbdnffaaDoorAPure
import Derived.Test.YtankoeffbdnffaaDoorKit15
import Derived.ProofKit
import Derived.LaidMore
import Derived.OpenShut
import Derived.Stop.Joined
namespace Go.Proofs.YtankoeffbdnffaaDoor
open Go Go.ChangeShapes Go.WideShapes Go.ChangeAt Go.RowKit Go.Proofs.Kit Go.Proofs.Pure
set_option linter.unusedVariables false
set_option maxRecDepth 100000

def laidOf : List (String × DataW Unit) := [("cabal/digest.rounds", Rows.laid_cabal_digest_rounds), ("cabal/digest.first", Rows.laid_cabal_digest_first)]
theorem Laid.n0 : Tryd.prog.globalNamed "cabal/digest.first" = some 1 := by kernel_rfl
theorem Laid.n1 : Tryd.prog.globalNamed "cabal/digest.rounds" = some 2 := by kernel_rfl
theorem Laid.t0 : (Tryd.prog.globals[1]?).map (·.type) = some 60 := by kernel_rfl
theorem Laid.t1 : (Tryd.prog.globals[2]?).map (·.type) = some 74 := by kernel_rfl
theorem Laid.d0 : (Rows.laid_cabal_digest_first : DataW Unit) = .agg (litsOf .u32 G_digest_first) := rfl
theorem Laid.d1 : (Rows.laid_cabal_digest_rounds : DataW Unit) = .agg (litsOf .u32 G_digest_rounds) := rfl

theorem Laid.met (os : Os) (args : Array Value) : laidMetH Tryd.prog laidOf ((World.doorLaid Tryd.prog 400 os).forCall (fun _ _ => 0) ⟨#[], args, []⟩).memory :=
  laidMetH_of_parts3 (fuel := 8) (laidMet_of_run' 8 (by kernel_rfl) (by kernel_rfl)) (by kernel_rfl) (by kernel_rfl)

theorem Laid.of {W : World} (h : laidMetH Tryd.prog laidOf W) : (ptrTo (karr 8 (kint .u32)) G_digest_first).holds (fun _ => True) W (.pointer (some ⟨1, 0, none⟩)) ∧ (ptrTo (karr 64 (kint .u32)) G_digest_rounds).holds (fun _ => True) W (.pointer (some ⟨2, 0, none⟩)) := by
  rw [MakeChecks.laidMetH_plain _ _ _ (by kernel_rfl)] at h
  obtain ⟨ps, ⟨g1, t1, cs1, f1, p1, q1, hg1, ht1, hv1, hd1, ⟨g0, t0, cs0, f0, p0, q0, hg0, ht0, hv0, hd0, _, _⟩, _⟩, _, _⟩ := h
  obtain rfl := Option.some.inj (Laid.n1.symm.trans hg1)
  obtain rfl := Option.some.inj (Laid.n0.symm.trans hg0)
  obtain rfl := Option.some.inj (Laid.t1.symm.trans ht1)
  obtain rfl := Option.some.inj (Laid.t0.symm.trans ht0)
  rw [Laid.d1] at hd1
  rw [Laid.d0] at hd0
  exact ⟨laid_table Tryd.underlying60 (by kernel_rfl) (by kernel_rfl) (by kernel_rfl) hg0 hv0 hd0, laid_table Tryd.underlying74 (by kernel_rfl) (by kernel_rfl) (by kernel_rfl) hg1 hv1 hd1⟩

end Go.Proofs.YtankoeffbdnffaaDoor
