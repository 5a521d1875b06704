/- QueuePuts over its plain functions: no program in sight. -/
import Derived.Test.YtdlnfgpcnfbjiaaXQue
namespace Go.Proofs.Pure
open Go Go.RowKit Go.Proofs.Kit
set_option linter.unusedVariables false

theorem alive19 : caballaw19_alive 4000 = some true := by decide +kernel
theorem QueuePuts (x0 : (List api_Held)) (x1 : (List api_Held)) (x2 : api_Held) (x3 : Int) (g0 : Fine (ksl k_api_Held) x0) (g1 : Fine (ksl k_api_Held) x1) (g2 : Fine k_api_Held x2) (g3 : Fine (kint .i64) x3) : ∃ k, caballaw19_QueuePuts k x0 x1 x2 x3 = some true := by
  refine ⟨4000, ?_⟩
  unfold caballaw19_QueuePuts
  rw [alive19]
  simp only [Option.bind_some, Bool.not_true, Bool.false_eq_true, if_false]
  obtain ⟨b, hb, hf⟩ := qgreat_eq x0 (fun x hx => held_keys ((Fine.sl g0).2 x hx))
  obtain ⟨c, hc, _⟩ := qgreat_eq x1 (fun x hx => held_keys ((Fine.sl g1).2 x hx))
  obtain ⟨d, hd, ho⟩ := gop_eq x2.Op
  rw [hb, hc, hd]
  simp only [Option.bind_some]
  cases b with
  | true => simp
  | false =>
    have hf := hf rfl
    have hlen := hf.len
    simp only [beq_self_eq_true, if_true, Option.bind_some, Bool.false_eq_true, if_false]
    cases c with
    | true => simp
    | false =>
      simp only [beq_self_eq_true, if_true, Option.bind_some, Bool.false_eq_true, if_false]
      cases d with
      | true => simp
      | false =>
        simp only [Bool.false_eq_true, if_false]
        by_cases hg : x2.Got.length ≤ 20
        · obtain ⟨o1, o2, o3, o4⟩ := ho rfl
          have hh : HeldFew x2 := ⟨⟨o1, o2, o3, o4, held_keys g2⟩, hg⟩
          obtain ⟨p1, p2⟩ := put_few x0 hf x2 hh
          obtain ⟨w1, w2⟩ := with_few x0 hf x3
          rw [decide_eq_false (show ¬ (x2.Got.length : Int) > 20 by omega), put_eq x0 hf x2 hh, rput_eq x0 hf x2 hh, with_eq x0 hf x3, rwith_eq x0 hf x3]
          simp only [Bool.false_eq_true, if_false, Option.bind_some, beq_self_eq_true, if_true, qright_eq x0 hf, rqright_eq x0 hf, decide_true, qfind_eq x0 (show x0.length ≤ 200 by omega), rqfind_eq x0 (show x0.length ≤ 200 by omega), qsame_eq x0 x1 hf, qsame_eq x0 x0 hf, rqsame_eq x0 x1 (show x0.length ≤ 60 by omega) hf.each, rqsame_eq _ _ p1 p2, rqsame_eq _ _ w1 w2]
        · rw [decide_eq_true (show (x2.Got.length : Int) > 20 by omega)]
          simp


end Go.Proofs.Pure
