/- CodeWrites over its plain functions: no program in sight. -/
import Derived.Test.YtankoeffbdnffaaDoorABot
namespace Go.Proofs.Pure
open Go Go.RowKit Go.Proofs.Kit
set_option linter.unusedVariables false

theorem CodeWrites (x0 : (List Int)) (x1 : (List Int)) (g0 : Fine (karr 32 (kint .u8)) x0) (g1 : Fine (karr 32 (kint .u8)) x1) : ∃ k, caballaw27_CodeWrites k x0 x1 = some true := by
  refine ⟨4000, ?_⟩
  have h0 := Fine.arr g0
  have h1 := Fine.arr g1
  have b0 : Byt x0 := fun x hx => by have := Fine.int (h0.2 x hx); exact ⟨this.1, Int.lt_of_le_of_lt this.2 (by decide)⟩
  have b1 : Byt x1 := fun x hx => by have := Fine.int (h1.2 x hx); exact ⟨this.1, Int.lt_of_le_of_lt this.2 (by decide)⟩
  obtain ⟨d, _, _, e1, e2⟩ := both_eq x0 x1 h0.1 h1.1 b0 b1
  unfold caballaw27_CodeWrites
  rw [alive27, Write_eq x0 h0.1 b0, rWrite_eq x0 h0.1 b0, e1, e2]
  simp


end Go.Proofs.Pure
