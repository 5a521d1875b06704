/- DigestSums over its plain functions: no program in sight. -/
import Derived.Test.YtpihmcfojdkpoaaDoorDLaw
namespace Go.Proofs.Pure
open Go Go.RowKit Go.Proofs.Kit

theorem DigestSums (x0 : (List (List Int))) (g0 : Fine (ksl kstr) x0) : ∃ k, caballaw01_DigestSums k x0 = some true := by
  have hb : ∀ x ∈ x0, Bytes x := fun x hx => bytes_of (g0.sl.2 x hx)
  refine ⟨KK, ?_⟩
  unfold caballaw01_DigestSums
  rw [alive_KK, Option.bind_some, if_neg (by simp)]
  rcases great_eq KK (by decide) x0 with h | ⟨h, h1, h2⟩
  · rw [h]; rfl
  · have hf := flat_bound 1000 x0 h2
    obtain ⟨s1, s2⟩ := S_sum x0 hb (by omega) (by omega)
    have hj := join_eq KK x0 (by omega) (by show x0.length < 100000; omega) (by have : lim = 2147483648 := rfl; omega)
    rw [h]
    simp [s1, s2, hj]

end Go.Proofs.Pure
