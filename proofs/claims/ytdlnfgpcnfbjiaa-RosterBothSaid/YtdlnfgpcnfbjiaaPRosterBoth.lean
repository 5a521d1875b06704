/- RosterBoth over its plain functions: no program in sight. -/
import Derived.Test.YtdlnfgpcnfbjiaaUPure
import Derived.Test.YtdlnfgpcnfbjiaaNum
namespace Go.Proofs.Pure
open Go Go.RowKit Go.Proofs.Kit
set_option linter.unusedVariables false

theorem rb_mod (a : Int) (h : 0 ≤ a) : IntKind.wrap .i64 (irem a 8) = IntKind.wrap .i64 (irem (a % 8) 8) := by
  rw [rem_pos h, rem_pos (by omega)]
  congr 1
  omega
theorem rb_l1 (a b c a' b' c' : Int) (h1 : IntKind.wrap .i64 (irem a 8) = IntKind.wrap .i64 (irem a' 8)) (h2 : IntKind.wrap .i64 (irem b 8) = IntKind.wrap .i64 (irem b' 8)) (h3 : IntKind.wrap .i64 (irem c 8) = IntKind.wrap .i64 (irem c' 8)) : ∀ (n : Nat) (y : Int) (l : List Int), caballaw16_RosterBoth.l1 4000 a b c n y l = caballaw16_RosterBoth.l1 4000 a' b' c' n y l := by
  intro n
  induction n with
  | zero => intro y l; rfl
  | succ n ih =>
    intro y l
    have ef : caballaw16_RosterBoth.l1 4000 a b c n = caballaw16_RosterBoth.l1 4000 a' b' c' n := funext fun y => funext fun l => ih y l
    have ej : caballaw16_RosterBoth.j1 4000 a b c l = caballaw16_RosterBoth.j1 4000 a' b' c' l := by
      unfold caballaw16_RosterBoth.j1
      rw [h1, h2, h3]
    rw [caballaw16_RosterBoth.l1, caballaw16_RosterBoth.l1, h1, h2, ef, ej]
theorem rb_all (a b c a' b' c' : Int) (h1 : IntKind.wrap .i64 (irem a 8) = IntKind.wrap .i64 (irem a' 8)) (h2 : IntKind.wrap .i64 (irem b 8) = IntKind.wrap .i64 (irem b' 8)) (h3 : IntKind.wrap .i64 (irem c 8) = IntKind.wrap .i64 (irem c' 8)) : caballaw16_RosterBoth 4000 a b c = caballaw16_RosterBoth 4000 a' b' c' := by
  unfold caballaw16_RosterBoth
  rw [h1, h2, h3, rb_l1 a b c a' b' c' h1 h2 h3]
theorem rb_0 : ∀ y z : Fin 8, caballaw16_RosterBoth 4000 0 (y.val : Int) (z.val : Int) = some true := by decide +kernel
theorem rb_1 : ∀ y z : Fin 8, caballaw16_RosterBoth 4000 1 (y.val : Int) (z.val : Int) = some true := by decide +kernel
theorem rb_2 : ∀ y z : Fin 8, caballaw16_RosterBoth 4000 2 (y.val : Int) (z.val : Int) = some true := by decide +kernel
theorem rb_3 : ∀ y z : Fin 8, caballaw16_RosterBoth 4000 3 (y.val : Int) (z.val : Int) = some true := by decide +kernel
theorem rb_4 : ∀ y z : Fin 8, caballaw16_RosterBoth 4000 4 (y.val : Int) (z.val : Int) = some true := by decide +kernel
theorem rb_5 : ∀ y z : Fin 8, caballaw16_RosterBoth 4000 5 (y.val : Int) (z.val : Int) = some true := by decide +kernel
theorem rb_6 : ∀ y z : Fin 8, caballaw16_RosterBoth 4000 6 (y.val : Int) (z.val : Int) = some true := by decide +kernel
theorem rb_7 : ∀ y z : Fin 8, caballaw16_RosterBoth 4000 7 (y.val : Int) (z.val : Int) = some true := by decide +kernel
theorem rb_any (x y z : Fin 8) : caballaw16_RosterBoth 4000 (x.val : Int) (y.val : Int) (z.val : Int) = some true := by
  match x with
  | ⟨0, _⟩ => exact rb_0 y z
  | ⟨1, _⟩ => exact rb_1 y z
  | ⟨2, _⟩ => exact rb_2 y z
  | ⟨3, _⟩ => exact rb_3 y z
  | ⟨4, _⟩ => exact rb_4 y z
  | ⟨5, _⟩ => exact rb_5 y z
  | ⟨6, _⟩ => exact rb_6 y z
  | ⟨7, _⟩ => exact rb_7 y z
theorem RosterBoth (x0 : Int) (x1 : Int) (x2 : Int) (g0 : Fine (kint .u8) x0) (g1 : Fine (kint .u8) x1) (g2 : Fine (kint .u8) x2) : ∃ k, caballaw16_RosterBoth k x0 x1 x2 = some true := by
  refine ⟨4000, ?_⟩
  have b0 : 0 ≤ x0 ∧ x0 ≤ 255 := Fine.int g0
  have b1 : 0 ≤ x1 ∧ x1 ≤ 255 := Fine.int g1
  have b2 : 0 ≤ x2 ∧ x2 ≤ 255 := Fine.int g2
  rw [rb_all x0 x1 x2 (x0 % 8) (x1 % 8) (x2 % 8) (rb_mod x0 (by omega)) (rb_mod x1 (by omega)) (rb_mod x2 (by omega))]
  have := rb_any ⟨(x0 % 8).toNat, by omega⟩ ⟨(x1 % 8).toNat, by omega⟩ ⟨(x2 % 8).toNat, by omega⟩
  simp only [Int.toNat_of_nonneg (show 0 ≤ x0 % 8 by omega), Int.toNat_of_nonneg (show 0 ≤ x1 % 8 by omega), Int.toNat_of_nonneg (show 0 ≤ x2 % 8 by omega)] at this
  exact this


end Go.Proofs.Pure
