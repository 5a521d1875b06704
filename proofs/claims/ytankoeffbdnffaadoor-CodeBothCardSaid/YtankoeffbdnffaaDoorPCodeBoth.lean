/- CodeBoth over its plain functions: no program in sight. -/
import Derived.Test.YtankoeffbdnffaaDoorABot
namespace Go.Proofs.Pure
open Go Go.RowKit Go.Proofs.Kit
set_option linter.unusedVariables false

theorem CodeBoth (x0 : (List Int)) (x1 : (List Int)) (g0 : Fine (karr 32 (kint .u8)) x0) (g1 : Fine (karr 32 (kint .u8)) x1) : ∃ k, caballaw27_CodeBoth k x0 x1 = some true := by
  refine ⟨4000, ?_⟩
  have h0 := Fine.arr g0
  have h1 := Fine.arr g1
  have b0 : Byt x0 := fun x hx => by have := Fine.int (h0.2 x hx); exact ⟨this.1, Int.lt_of_le_of_lt this.2 (by decide)⟩
  have b1 : Byt x1 := fun x hx => by have := Fine.int (h1.2 x hx); exact ⟨this.1, Int.lt_of_le_of_lt this.2 (by decide)⟩
  obtain ⟨d, d1, d2, e1, _⟩ := both_eq x0 x1 h0.1 h1.1 b0 b1
  have e2 := both_swap x0 x1 h0.1 h1.1
  rw [e1] at e2
  unfold caballaw27_CodeBoth
  rw [alive27, e1, ← e2, Option.bind_some, if_neg (by simp), Option.bind_some, Read_eq (tx (cod d)) (by rw [tx_len]; omega) (tx_byt (cod_dgt d)), read_write d d1 d2]
  simp


end Go.Proofs.Pure
