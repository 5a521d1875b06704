/- DiskAll over its plain functions: no program in sight. -/
import Derived.Test.YtlcddcamnkgeeaaDAll
namespace Go.Proofs.Pure
open Go Go.RowKit Go.Proofs.Kit
set_option linter.unusedVariables false

theorem DiskAll (x0 : (List caballaw12_Act)) (g0 : Fine (ksl k_caballaw12_Act) x0) : ∃ k, caballaw12_DiskAll k x0 = some true := by
  refine ⟨4000, ?_⟩
  obtain ⟨n, hn, n1, _, n3⟩ := new_ok 3
  have : n = 3 := by have := n3 (by omega) (by omega); omega
  subst this
  unfold caballaw12_DiskAll
  rw [alive12, n1]
  simp only [Option.bind_some, Bool.not_true, Bool.false_eq_true, if_false]
  have h : Live 0 (newD 3) := ⟨newD_wf hn, rfl, rfl, rfl⟩
  have t := all_l4 x0 60 0 4000 (newD 3) (newD 3) (by omega) (by omega) h h rfl
  rw [show ((0 : Nat) : Int) = 0 from rfl] at t
  exact t

end Go.Proofs.Pure
