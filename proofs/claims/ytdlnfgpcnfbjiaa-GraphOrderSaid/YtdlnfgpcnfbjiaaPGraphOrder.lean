/- GraphOrder over its plain functions: no program in sight. -/
import Derived.Test.YtdlnfgpcnfbjiaaOBeh
namespace Go.Proofs.Pure
open Go Go.RowKit Go.Proofs.Kit
set_option linter.unusedVariables false

theorem alive15 : caballaw15_alive 4000 = some true := by decide +kernel

theorem GraphOrder (x0 : (List api_Node)) (x1 : Int) (x2 : Int) (x3 : Int) (g0 : Fine (ksl k_api_Node) x0) (g1 : Fine (kint .i64) x1) (g2 : Fine (kint .i64) x2) (g3 : Fine (kint .i64) x3) : ∃ k, caballaw15_GraphOrder k x0 x1 x2 x3 = some true := by
  refine ⟨4000, ?_⟩
  unfold caballaw15_GraphOrder
  rw [alive15]
  simp only [Option.bind_some, Bool.not_true, Bool.false_eq_true, if_false]
  obtain ⟨b, hb, hf⟩ := great_eq x0 (fun x hx => node_keys ((Fine.sl g0).2 x hx))
  rw [hb]
  simp only [Option.bind_some]
  cases b with
  | true => simp
  | false =>
    have hf := hf rfl
    simp only [Bool.false_eq_true, if_false, ahG_eq x0 hf, apG_eq x0 hf, Option.bind_some]
    have s1 : ahG x0 x1 x1 = false := by
      rw [Bool.eq_false_iff]; intro h; have := ahG_lt h; omega
    have s2 : apG x0 x1 x1 = false := by
      rw [Bool.eq_false_iff]; intro h; exact (apG_ah h).2.2 rfl
    rw [s1, s2, apG_comm x0 x2 x1]
    cases h12 : ahG x0 x1 x2 with
    | false => simp
    | true =>
      have lt := ahG_lt h12
      have h21 : ahG x0 x2 x1 = false := by
        rw [Bool.eq_false_iff]; intro h; have := ahG_lt h; omega
      have p12 : apG x0 x1 x2 = false := by
        rw [Bool.eq_false_iff]; intro h; have := (apG_ah h).1; rw [h12] at this; cases this
      rw [h21, p12, decide_eq_false (show ¬ x1 ≥ x2 by omega)]
      cases h23 : ahG x0 x2 x3 with
      | false => simp
      | true =>
        rw [ahG_trans h12 h23]
        simp


end Go.Proofs.Pure
