/- DiskPlays over its plain functions: no program in sight. -/
import Derived.Test.YtlcddcamnkgeeaaDPlay
namespace Go.Proofs.Pure
open Go Go.RowKit Go.Proofs.Kit
set_option linter.unusedVariables false

theorem DiskPlays (x0 : Int) (x1 : (List caballaw12_Act)) (g0 : Fine (kint .i64) x0) (g1 : Fine (ksl k_caballaw12_Act) x1) : ∃ k, caballaw12_DiskPlays k x0 x1 = some true := by
  refine ⟨4000, ?_⟩
  have key : ∀ p, caballaw12_DiskPlays.j1 4000 x1 p = some true := fun p => by
    obtain ⟨n, hn, n1, n2, _⟩ := new_ok p
    unfold caballaw12_DiskPlays.j1
    rw [n1, n2]
    simp only [Option.bind_some]
    have := plays_l1 x1 (fun x hx => act_ok ((Fine.sl g1).2 x hx)) 80 0 4000 (newD n) (by omega) (by omega) (newD_wf hn)
    rw [show ((0 : Nat) : Int) = 0 from rfl] at this
    exact this
  unfold caballaw12_DiskPlays
  rw [alive12]
  simp only [Option.bind_some, Bool.not_true, Bool.false_eq_true, if_false, key]
  split <;> rfl

end Go.Proofs.Pure
