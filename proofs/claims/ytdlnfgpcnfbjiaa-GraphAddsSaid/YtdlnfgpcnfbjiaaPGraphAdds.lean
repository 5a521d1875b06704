/- GraphAdds over its plain functions: no program in sight. -/
import Derived.Test.YtdlnfgpcnfbjiaaJAdd
namespace Go.Proofs.Pure
open Go Go.RowKit Go.Proofs.Kit
set_option linter.unusedVariables false

theorem alive15 : caballaw15_alive 4000 = some true := by decide +kernel

theorem GraphAdds (x0 : (List api_Node)) (x1 : (List Int)) (x2 : api_Op) (g0 : Fine (ksl k_api_Node) x0) (g1 : Fine (karr 32 (kint .u8)) x1) (g2 : Fine k_api_Op x2) : ∃ k, caballaw15_GraphAdds k x0 x1 x2 = some true := by
  refine ⟨4000, ?_⟩
  unfold caballaw15_GraphAdds
  rw [alive15]
  simp only [Option.bind_some, Bool.not_true, Bool.false_eq_true, if_false]
  obtain ⟨b, hb, hf⟩ := great_eq x0 (fun x hx => node_keys ((Fine.sl g0).2 x hx))
  rw [hb]
  simp only [Option.bind_some]
  cases b with
  | true => simp
  | false =>
    have hf := hf rfl
    obtain ⟨c, hc, hc2⟩ := gop_eq x2
    simp only [beq_self_eq_true, if_true, hc, Option.bind_some, Bool.false_eq_true, if_false]
    cases c with
    | true => simp
    | false =>
      obtain ⟨q1, q2, q3, q4⟩ := hc2 rfl
      have ho : OpFew x2 := ⟨q1, q2, q3, q4, op_keys g2⟩
      simp only [Bool.false_eq_true, if_false]
      rw [rright_eq x0 hf, add_eq x0 hf x1 x2 ho, gpast_eq x0 hf x2 ho]
      cases hr : rightG x0 with
      | false => simp [addR, hr]
      | true =>
        have hlen := right_len hr
        simp only [Option.bind_some, Bool.not_true, Bool.false_eq_true, if_false, if_true]
        rw [radd_eq x0 hf hr x1 x2 ho, rpast_eq x0 (by omega) hf.short _ (by omega)]
        simp only [Option.bind_some]
        have hs : cabalref15_Same 4000 (addR x0 x1 x2).1 (addR x0 x1 x2).1 = some true := same_refl _ (addR_few x0 hf x1 x2 ho)
        cases okP x0 x2.Parents with
        | true =>
          have hl := coll_len (inP x0 x2.Parents) x0.length 0
          simp only [if_true, beq_self_eq_true, decide_true, Bool.not_true, Bool.false_eq_true, if_false, sameints_eq _ _ (show (coll (inP x0 x2.Parents) 0 x0.length).length ≤ 2000 by omega), Option.bind_some, hs]
        | false =>
          simp [sameints_eq [] [] (by simp), hs]

end Go.Proofs.Pure
