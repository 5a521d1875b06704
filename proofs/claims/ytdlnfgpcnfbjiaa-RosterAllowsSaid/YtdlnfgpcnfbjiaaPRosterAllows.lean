/- RosterAllows over its plain functions: no program in sight. -/
import Derived.Test.YtdlnfgpcnfbjiaaYRosT
namespace Go.Proofs.Pure
open Go Go.RowKit Go.Proofs.Kit
set_option linter.unusedVariables false

theorem alive16 : caballaw16_alive 4000 = some true := by decide +kernel
theorem to_bad (p : List api_Node) (hf : Few p) (hr : rightG p = false) (o : api_Op) (ho : OpFew o) : roster_To 4000 p o = some ([], 1) := by
  unfold roster_To
  rw [behind_eq p hf o ho, hr]
  rfl
theorem allowed_eq (p : List api_Node) (hf : Few p) (o : api_Op) (ho : OpFew o) : roster_Allowed 4000 p o = some (if rightG p = true then (bhd p o).2 else 1) := by
  unfold roster_Allowed
  rw [behind_eq p hf o ho]
  cases rightG p <;> rfl
theorem toR_code (p : List api_Node) (o : api_Op) : (toR p o).2 = (bhd p o).2 := by
  unfold toR
  split
  · rename_i h; rw [h]
  · rfl
theorem toR_len (p : List api_Node) (o : api_Op) : (toR p o).1.length ≤ 2000 := by
  unfold toR
  split
  · have := coll_len (fun n => ((bhd p o).1.contains (n : Int) || decide (o.Kind = 2) && decide (w0 o = (n : Int))) && !dropB o (n : Int)) 8 0
    exact Nat.le_trans this (by omega)
  · simp
theorem RosterAllows (x0 : (List api_Node)) (x1 : api_Op) (g0 : Fine (ksl k_api_Node) x0) (g1 : Fine k_api_Op x1) : ∃ k, caballaw16_RosterAllows k x0 x1 = some true := by
  refine ⟨4000, ?_⟩
  unfold caballaw16_RosterAllows
  rw [alive16]
  simp only [Option.bind_some, Bool.not_true, Bool.false_eq_true, if_false]
  obtain ⟨b, hb, hf⟩ := great_eq x0 (fun x hx => node_keys ((Fine.sl g0).2 x hx))
  obtain ⟨c, hc, ho⟩ := gop_eq x1
  rw [hb, hc]
  simp only [Option.bind_some]
  cases b with
  | true => simp
  | false =>
    have hf := hf rfl
    simp only [beq_self_eq_true, if_true, Option.bind_some, Bool.false_eq_true, if_false]
    cases c with
    | true => simp
    | false =>
      obtain ⟨o1, o2, o3, o4⟩ := ho rfl
      have hof : OpFew x1 := ⟨o1, o2, o3, o4, op_keys g1⟩
      simp only [Bool.false_eq_true, if_false]
      rw [allowed_eq x0 hf x1 hof, rright_eq x0 hf]
      cases hr : rightG x0 with
      | false =>
        rw [to_bad x0 hf hr x1 hof]
        rfl
      | true =>
        have hs := sameints_eq (toR x0 x1).1 (toR x0 x1).1 (toR_len x0 x1)
        rw [decide_eq_true rfl] at hs
        rw [to_eq x0 hf hr x1 hof, dto_eq x0 hf hr x1 hof]
        simp only [Option.bind_some, if_true, Bool.not_true, Bool.false_eq_true, if_false, toR_code, beq_self_eq_true, hs]


end Go.Proofs.Pure
