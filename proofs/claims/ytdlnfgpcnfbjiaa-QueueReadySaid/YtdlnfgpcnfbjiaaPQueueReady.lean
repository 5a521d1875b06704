/- QueueReady over its plain functions: no program in sight. -/
import Derived.Test.YtdlnfgpcnfbjiaaVRdy
namespace Go.Proofs.Pure
open Go Go.RowKit Go.Proofs.Kit
set_option linter.unusedVariables false

theorem alive19 : caballaw19_alive 4000 = some true := by decide +kernel
theorem QueueReady (x0 : (List api_Node)) (x1 : (List api_Held)) (g0 : Fine (ksl k_api_Node) x0) (g1 : Fine (ksl k_api_Held) x1) : ∃ k, caballaw19_QueueReady k x0 x1 = some true := by
  refine ⟨4000, ?_⟩
  unfold caballaw19_QueueReady
  rw [alive19]
  simp only [Option.bind_some, Bool.not_true, Bool.false_eq_true, if_false]
  obtain ⟨b, hb, hf⟩ := qgreat_eq x1 (fun x hx => held_keys ((Fine.sl g1).2 x hx))
  obtain ⟨c, hc, hg⟩ := great_eq x0 (fun x hx => node_keys ((Fine.sl g0).2 x hx))
  rw [hb, hc]
  simp only [Option.bind_some]
  cases b with
  | true => simp
  | false =>
    have hf := hf rfl
    cases c with
    | true => simp
    | false =>
      have hg := hg rfl
      simp only [beq_self_eq_true, if_true, Option.bind_some, Bool.false_eq_true, if_false]
      rw [ready_all x0 hg x1 hf, wanted_all x0 hg x1 hf, rright_eq x0 hg, rqright_eq x1 hf]
      cases hG : rightG x0 with
      | false => rfl
      | true =>
        cases hR : qright x1 with
        | false => rfl
        | true =>
          simp only [Option.bind_some, Bool.not_true, beq_self_eq_true, if_true, Bool.false_eq_true, if_false, Bool.and_self]
          rw [rready_all x0 hg x1 hf, rwanted_all x0 hg x1 hf hR, Option.bind_some]
          have e : ((wl x0 x1 x1).foldl putk []).length ≤ 2000 := by
            obtain ⟨r1, r2⟩ := qright_at hR
            have h1 := wl_len x0 x1 x1 (fun x hx => parents8 (r2 x hx))
            have fl : ∀ (w acc : KeyRow), (w.foldl putk acc).length ≤ acc.length + w.length := by
              intro w
              induction w with
              | nil => intro acc; simp
              | cons y w ihw => intro acc; rw [List.foldl_cons, List.length_cons]; have := ihw (putk acc y); have := putk_len acc y; omega
            have h2 := fl (wl x0 x1 x1) []
            rw [List.length_nil] at h2
            omega
          simp only [beq_self_eq_true, if_true, Option.bind_some, samekeys_eq _ _ e, decide_true]


end Go.Proofs.Pure
