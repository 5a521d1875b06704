/- WireBack over its plain functions: no program in sight. -/
import Derived.Test.YtlcddcamnkgeeaaWBack
namespace Go.Proofs.Pure
open Go Go.RowKit Go.Proofs.Kit
set_option linter.unusedVariables false

theorem WireBack (x0 : (List caballaw10_Item)) (g0 : Fine (ksl k_caballaw10_Item) x0) : ∃ k, caballaw10_WireBack k x0 = some true := by
  refine ⟨4000, ?_⟩
  unfold caballaw10_WireBack
  rw [alive_ok]
  simp only [Option.bind_some, Bool.not_true, Bool.false_eq_true, if_false]
  obtain ⟨b, hb, hf⟩ := great_eq x0
  rw [hb]
  simp only [Option.bind_some]
  cases b with
  | true => simp
  | false =>
    simp only [Bool.false_eq_true, if_false]
    have hf := hf rfl
    have hl := hf.len
    have hg : ∀ x ∈ x0, ItemOk x := fun x hx => item_ok ((Fine.sl g0).2 x hx)
    have hy : ∀ x ∈ x0, ItemByt x := fun x hx => item_byt ((Fine.sl g0).2 x hx)
    have e := back_l4 x0 hf hg x0.length 0 [] 4000 (by omega) (by omega) (by simp; omega)
    rw [show ((0 : Nat) : Int) = 0 from rfl, List.drop_zero, List.nil_append] at e
    rw [e]
    have e2 := (back_l1 x0 hf hg hy x0.length 0 4000 (by omega) (by omega)).1
    rw [show ((0 : Nat) : Int) = 0 from rfl, List.drop_zero] at e2
    simp only [caballaw10_WireBack.j1, wire_Writer_String, wire_NewReader, Option.bind_some]
    exact e2

end Go.Proofs.Pure
