/- KeyedExpands over its plain functions: no program in sight. -/
import Derived.Test.YtpihmcfojdkpoaaDoorEExp
namespace Go.Proofs.Pure
open Go Go.RowKit Go.Proofs.Kit

theorem KeyedExpands (x0 : (List Int)) (x1 : (List Int)) (x2 : Int) (g0 : Fine kstr x0) (g1 : Fine kstr x1) (_ : Fine (kint .i64) x2) : ∃ k, caballaw02_KeyedExpands k x0 x1 x2 = some true := by
  refine ⟨KK, ?_⟩
  unfold caballaw02_KeyedExpands
  rw [alive_KK, Option.bind_some, if_neg (by simp), Option.bind_some]
  by_cases hl : x0.length ≤ 500 ∧ x1.length ≤ 500
  · have E : ExOk x0 x1 := ⟨bytes_of g0, hl.1, bytes_of g1, hl.2⟩
    rw [if_neg (by simp; omega)]
    by_cases hn : 0 ≤ x2 ∧ x2 ≤ 8160
    · obtain ⟨n, rfl⟩ : ∃ n : Nat, x2 = n := ⟨x2.toNat, by omega⟩
      have h1 := exp_eq E n (by omega)
      have h2 := refexp_eq E n (by omega)
      rw [h1, Option.bind_some, Option.bind_some, if_neg (by simp; omega)]
      simp [h2]
    · have hc : (if decide (x2 < 0) then true else decide (x2 > 8160)) = true := by
        split
        · rfl
        · rename_i h; simp at h; simp; omega
      have h1 : keyed_Expand KK x0 x1 x2 = some ([], 1) := by
        unfold keyed_Expand; rw [Option.bind_some, if_pos hc]
      rw [h1, Option.bind_some, Option.bind_some, if_pos hc]; rfl
  · rw [if_pos (by simp; omega)]; rfl

end Go.Proofs.Pure
