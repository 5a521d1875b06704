/- ClockTells over its plain functions: no program in sight. -/
import Derived.Test.YtdlnfgpcnfbjiaaACount
namespace Go.Proofs.Pure
open Go Go.RowKit Go.Proofs.Kit
set_option linter.unusedVariables false

theorem ClockTells (x0 : (List api_Node)) (x1 : Int) (g0 : Fine (ksl k_api_Node) x0) (g1 : Fine (kint .i64) x1) : ∃ k, caballaw26_ClockTells k x0 x1 = some true := by
  refine ⟨4000, ?_⟩
  have hZ : ([0, 0, 0, 0, 0, 0, 0, 0] : List Int) = Z8 := rfl
  unfold caballaw26_ClockTells
  rw [alive26]
  simp only [Option.bind_some, Bool.not_true, Bool.false_eq_true, if_false]
  obtain ⟨b, hb, hf⟩ := great_eq x0 (fun x hx => node_keys ((Fine.sl g0).2 x hx))
  rw [hb]
  simp only [Option.bind_some]
  cases b with
  | true => simp
  | false =>
    have hf := hf rfl
    simp only [Bool.false_eq_true, if_false]
    cases hr : rightG x0 with
    | false =>
      rw [of_bad x0 hf hr, all_bad x0 hf hr, rright_eq x0 hf, hr]
      simp [hZ]
    | true =>
      rw [all_eq x0 hf hr, rright_eq x0 hf, hr, rall_eq x0 hf hr]
      by_cases c : x1 < 0 ∨ (x0.length : Int) ≤ x1
      · have e : (if decide (x1 < 0) = true then true else decide (x1 ≥ (x0.length : Int))) = true := by
          rcases c with h | h
          · rw [decide_eq_true h]; rfl
          · rw [decide_eq_true (show x1 ≥ (x0.length : Int) from h)]; simp
        rw [of_out x0 hf hr x1 c]
        simp only [Option.bind_some, e]
        simp [hZ]
      · obtain ⟨t, rfl⟩ : ∃ t : Nat, x1 = t := ⟨x1.toNat, by omega⟩
        have ht : t < x0.length := by omega
        have e : (if decide ((t : Int) < 0) = true then true else decide ((t : Int) ≥ (x0.length : Int))) = false := by
          rw [decide_eq_false (show ¬ (t : Int) < 0 by omega), decide_eq_false (show ¬ (t : Int) ≥ (x0.length : Int) by omega)]; rfl
        rw [of_eq x0 hf hr t ht, rof_eq x0 hf hr t ht]
        simp only [Option.bind_some, e]
        simp

end Go.Proofs.Pure
