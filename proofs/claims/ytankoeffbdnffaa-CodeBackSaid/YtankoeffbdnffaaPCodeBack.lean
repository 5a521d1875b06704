/- CodeBack over its plain functions: no program in sight. -/
import Derived.Test.YtankoeffbdnffaaBAli
namespace Go.Proofs.Pure
open Go Go.RowKit Go.Proofs.Kit
set_option linter.unusedVariables false
set_option linter.unusedSimpArgs false

theorem CodeBack (x0 : (List Int)) (x1 : (List Int)) (g0 : Fine (karr 32 (kint .u8)) x0) (g1 : Fine kstr x1) : ∃ k, caballaw27_CodeBack k x0 x1 = some true := by
  refine ⟨4000, ?_⟩
  have h0 := Fine.arr g0
  have hb0 : Byt x0 := fun x hx => by have := Fine.int (h0.2 x hx); exact ⟨this.1, Int.lt_of_le_of_lt this.2 (by decide)⟩
  have hb1 : Byt x1 := (Fine.str g1).2
  unfold caballaw27_CodeBack
  rw [alive27, Option.bind_some, if_neg (by simp)]
  by_cases c : x1.length ≤ 1000
  · rw [if_neg (by simp; omega), Write_eq x0 h0.1 hb0, Option.bind_some, Read_eq (tx (cod x0)) (by rw [tx_len]; omega) (tx_byt (cod_dgt x0)), read_write x0 h0.1 hb0, Option.bind_some, Read_eq x1 c hb1, Option.bind_some]
    cases hr : readR x1 with
    | mk k e =>
    rw [Option.bind_some]
    have hZ : e ≠ 0 → k = Z32 := by
      intro he
      unfold readR at hr
      split at hr
      · split at hr
        · cases hq : rdK ((dgs x1 95).take 78) (List.replicate 32 0) with
          | none => rw [hq] at hr; exact (congrArg Prod.fst hr).symm
          | some q => rw [hq] at hr; exact absurd (congrArg Prod.snd hr).symm he
        · exact (congrArg Prod.fst hr).symm
      · exact (congrArg Prod.fst hr).symm
    by_cases he : e = 0
    · subst he
      obtain ⟨a, b, w⟩ := write_read x1 k hr
      have hw := Write_eq k a b
      rw [w] at hw
      simp [hw]
    · rw [hZ he]
      simp [he, Z32]
  · rw [if_pos (by simp; omega)]; rfl


end Go.Proofs.Pure
