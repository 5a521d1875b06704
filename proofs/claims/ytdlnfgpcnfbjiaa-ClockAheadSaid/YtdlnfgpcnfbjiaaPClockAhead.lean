/- ClockAhead over its plain functions: no program in sight. -/
import Derived.Test.YtdlnfgpcnfbjiaaABehind
namespace Go.Proofs.Pure
open Go Go.RowKit Go.Proofs.Kit
set_option linter.unusedVariables false

theorem ClockAhead (x0 : (List api_Node)) (x1 : Int) (x2 : Int) (g0 : Fine (ksl k_api_Node) x0) (g1 : Fine (kint .i64) x1) (g2 : Fine (kint .i64) x2) : ∃ k, caballaw26_ClockAhead k x0 x1 x2 = some true := by
  refine ⟨4000, ?_⟩
  unfold caballaw26_ClockAhead
  rw [alive26]
  simp only [Option.bind_some, Bool.not_true, Bool.false_eq_true, if_false]
  obtain ⟨b, hb, hf⟩ := great_eq x0 (fun x hx => node_keys ((Fine.sl g0).2 x hx))
  rw [hb]
  simp only [Option.bind_some]
  cases b with
  | true => simp
  | false =>
    have hf := hf rfl
    simp only [beq_self_eq_true, if_true, Bool.false_eq_true, if_false]
    rw [right_eq x0 hf]
    cases hr : rightG x0 with
    | false => simp
    | true =>
      simp only [Option.bind_some, Bool.not_true, Bool.false_eq_true, if_false]
      by_cases c : 0 ≤ x1 ∧ 0 ≤ x2 ∧ x1 < x0.length ∧ x2 < x0.length
      · obtain ⟨i, rfl⟩ : ∃ i : Nat, x1 = i := ⟨x1.toNat, by omega⟩
        obtain ⟨j, rfl⟩ : ∃ j : Nat, x2 = j := ⟨x2.toNat, by omega⟩
        have hi : i < x0.length := by omega
        have hj : j < x0.length := by omega
        rw [decide_eq_false (show ¬ (i : Int) < 0 by omega), decide_eq_false (show ¬ (j : Int) < 0 by omega), decide_eq_false (show ¬ (i : Int) ≥ (x0.length : Int) by omega), decide_eq_false (show ¬ (j : Int) ≥ (x0.length : Int) by omega)]
        simp only [Bool.false_eq_true, if_false, of_eq x0 hf hr i hi, of_eq x0 hf hr j hj, Option.bind_some]
        have ho : clock_Order 4000 (cntL x0 Z8 (hist x0 i)) (cntL x0 Z8 (hist x0 j)) = some (ord (clk x0 i) (clk x0 j)) := order_eq 4000 (by omega) (clk_clock hr hf i hi) (clk_clock hr hf j hj)
        rw [ho]
        simp only [Option.bind_some, beq_self_eq_true, if_true, ahead_eq x0 hf hr i j hi hj, ahead_eq x0 hf hr j i hj hi, apart_eq x0 hf hr i j hi hj]
        have eij : ((i : Int) == (j : Int)) = decide (i = j) := by
          by_cases q : i = j
          · simp [q]
          · have : ¬ (i : Int) = (j : Int) := by omega
            simp [q, this]
        rw [eij]
        by_cases q : i = j
        · subst q
          have e0 : behB x0 i i = false := by
            rw [Bool.eq_false_iff]
            intro g
            have := (beh_lt hr ((behB_iff hi).1 g)).1
            omega
          have eo : ord (clk x0 i) (clk x0 i) = 0 := by unfold ord; rw [if_pos rfl]
          rw [eo, e0]
          simp
        · have nc : ¬ clk x0 i = clk x0 j := fun e => q ((clk_eq hr i j hi hj).1 e)
          rw [decide_eq_false q]
          cases h1 : behB x0 i j with
          | true =>
            have b1 := (behB_iff hj).1 h1
            have h2 : behB x0 j i = false := by
              rw [Bool.eq_false_iff]
              intro g
              have := (beh_lt hr ((behB_iff hi).1 g)).1
              have := (beh_lt hr b1).1
              omega
            have eo : ord (clk x0 i) (clk x0 j) = -1 := by unfold ord; rw [if_neg nc, if_pos ((clk_le hr i j hi hj).2 (.inr b1))]
            rw [eo, h2]
            rfl
          | false =>
            have n1 : ¬ Beh x0 i j := fun g => by rw [(behB_iff hj).2 g] at h1; cases h1
            have n3 : ¬ le8 (clk x0 i) (clk x0 j) := fun e => by
              rcases (clk_le hr i j hi hj).1 e with g | g
              · exact q g
              · exact n1 g
            cases h2 : behB x0 j i with
            | true =>
              have b2 := (behB_iff hi).1 h2
              have eo : ord (clk x0 i) (clk x0 j) = 1 := by unfold ord; rw [if_neg nc, if_neg n3, if_pos ((clk_le hr j i hj hi).2 (.inr b2))]
              rw [eo]
              rfl
            | false =>
              have n2 : ¬ Beh x0 j i := fun g => by rw [(behB_iff hi).2 g] at h2; cases h2
              have n4 : ¬ le8 (clk x0 j) (clk x0 i) := fun e => by
                rcases (clk_le hr j i hj hi).1 e with g | g
                · exact q g.symm
                · exact n2 g
              have eo : ord (clk x0 i) (clk x0 j) = 2 := by unfold ord; rw [if_neg nc, if_neg n3, if_neg n4]
              rw [eo]
              rfl
      · rw [if_pos]
        by_cases c1 : 0 ≤ x1
        · by_cases c2 : 0 ≤ x2
          · by_cases c3 : x1 < x0.length
            · have c4 : ¬ x2 < x0.length := fun c4 => c ⟨c1, c2, c3, c4⟩
              rw [decide_eq_true (show x2 ≥ (x0.length : Int) by omega)]; simp only [ite_self]
            · rw [decide_eq_true (show x1 ≥ (x0.length : Int) by omega)]; simp only [ite_self, if_true]
          · rw [decide_eq_true (show x2 < 0 by omega)]; simp only [ite_self, if_true]
        · rw [decide_eq_true (show x1 < 0 by omega)]; simp only [if_true]

end Go.Proofs.Pure
