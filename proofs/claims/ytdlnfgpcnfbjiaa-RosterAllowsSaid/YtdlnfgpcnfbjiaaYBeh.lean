/- What lies behind what, without clocks: closed, and a member's nodes in a row. No program in sight. -/
import Derived.Test.YtdlnfgpcnfbjiaaYGreat
namespace Go.Proofs.Pure
open Go Go.RowKit Go.Proofs.Kit
set_option linter.unusedVariables false

theorem rightL_of {p : List api_Node} : ∀ (m j : Nat), (∀ (i : Nat) (h : i < p.length), j ≤ i → i < j + m → fitB (p.take i) p[i] = true) → rightL p j m = true := by
  intro m
  induction m with
  | zero => intro j _; rfl
  | succ m ih =>
    intro j h
    unfold rightL
    rw [ih (j + 1) (fun i hi h1 h2 => h i hi (by omega) (by omega)), Bool.and_true]
    by_cases c : j < p.length
    · rw [List.getElem?_eq_getElem c]
      exact h j c (by omega) (by omega)
    · rw [List.getElem?_eq_none (by omega)]
theorem right_take {p : List api_Node} (hr : rightG p = true) (t : Nat) : rightG (p.take t) = true := by
  have hl := right_len hr
  have hr2 := hr
  unfold rightG at hr2
  rw [Bool.and_eq_true] at hr2
  unfold rightG
  rw [Bool.and_eq_true]
  refine ⟨decide_eq_true (by rw [List.length_take]; omega), rightL_of _ _ (fun i hi h1 h2 => ?_)⟩
  have hi2 := hi
  rw [List.length_take] at hi2
  have := rightL_at _ _ hr2.2 i (by omega) (by omega) (by omega)
  rw [List.getElem_take, List.take_take, Nat.min_eq_left (by omega)]
  exact this


end Go.Proofs.Pure
