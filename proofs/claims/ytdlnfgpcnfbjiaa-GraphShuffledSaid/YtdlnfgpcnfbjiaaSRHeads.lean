/- The document's way to a graph's heads. No program in sight. -/
import Derived.Test.YtdlnfgpcnfbjiaaSHeads
namespace Go.Proofs.Pure
open Go Go.RowKit Go.Proofs.Kit
set_option linter.unusedVariables false

theorem node_id {x : api_Node} (h : Fine k_api_Node x) : x.Id.length = 32 := by
  have h1 := Fine.iso h
  obtain ⟨h2, _⟩ := Fine.pair h1
  exact (Fine.arr h2).1
theorem samekeys_l1 (l : List (List Int)) (hn : l.length < 2000) : ∀ (m i n : Nat), i + m = l.length → m < n → cabalref08_SameKeys.l1 4000 l l n (i : Int) = some true := by
  intro m
  induction m with
  | zero =>
    intro i n hi hm
    obtain ⟨n, rfl⟩ : ∃ q, n = q + 1 := ⟨n - 1, by omega⟩
    rw [cabalref08_SameKeys.l1, if_neg (by simp; omega)]; rfl
  | succ m ih =>
    intro i n hi hm
    obtain ⟨n, rfl⟩ : ∃ q, n = q + 1 := ⟨n - 1, by omega⟩
    have hil : i < l.length := by omega
    rw [cabalref08_SameKeys.l1, if_pos (by simp; omega), at_get hil]
    simp only [Option.bind_some]
    rw [if_neg (by simp), add64 (by omega), show ((i : Int) + 1) = ((i + 1 : Nat) : Int) by omega]
    exact ih (i + 1) n (by omega) (by omega)
theorem samekeys_refl (l : List (List Int)) (hn : l.length < 2000) : cabalref08_SameKeys 4000 l l = some true := by
  unfold cabalref08_SameKeys
  rw [if_neg (by simp)]
  have := samekeys_l1 l hn l.length 0 4000 (by omega) (by omega)
  rw [show ((0 : Nat) : Int) = 0 from rfl] at this
  exact this
theorem putAll_len (l : List (List Int)) : ∀ S, (putAll S l).length = S.length + l.length := by
  induction l with
  | nil => intro S; rfl
  | cons x l ih => intro S; unfold putAll; rw [ih, insB_len, List.length_cons]; omega


end Go.Proofs.Pure
