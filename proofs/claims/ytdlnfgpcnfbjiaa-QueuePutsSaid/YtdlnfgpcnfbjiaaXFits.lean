/- Graphs that are right: the program's test and the document's are the same. No program in sight. -/
import Derived.Test.YtdlnfgpcnfbjiaaXDoc
namespace Go.Proofs.Pure
open Go Go.RowKit Go.Proofs.Kit
set_option linter.unusedVariables false

theorem equal_eq (a b : List Int) (hn : a.length ≤ 2000) : slices_Equal_int_int 4000 a b = some (decide (a = b)) := by
  have key : a.length = b.length → ∀ (m i n : Nat), i + m = a.length → m < n → slices_Equal_int_int.l1 4000 a b n (i : Int) = some (decide (a.drop i = b.drop i)) := by
    intro hl m
    induction m with
    | zero =>
      intro i n hi hm
      obtain ⟨n, rfl⟩ : ∃ q, n = q + 1 := ⟨n - 1, by omega⟩
      rw [slices_Equal_int_int.l1, if_neg (by simp; omega), List.drop_eq_nil_of_le (by omega), List.drop_eq_nil_of_le (by omega)]; rfl
    | succ m ih =>
      intro i n hi hm
      obtain ⟨n, rfl⟩ : ∃ q, n = q + 1 := ⟨n - 1, by omega⟩
      have ha : i < a.length := by omega
      have hb : i < b.length := by omega
      have hnext : iadd .i64 (i : Int) 1 = ((i + 1 : Nat) : Int) := by rw [add64 (by omega)]; omega
      rw [slices_Equal_int_int.l1, if_pos (by simp; omega), at_get ha, at_get hb, List.drop_eq_getElem_cons ha, List.drop_eq_getElem_cons hb]
      simp only [Option.bind_some, hnext]
      by_cases q : a[i] = b[i]
      · rw [if_neg (by simp [q]), ih (i + 1) n (by omega) (by omega)]
        simp only [List.cons.injEq, q, true_and]
      · rw [if_pos (by simp [q])]
        simp only [List.cons.injEq, q, false_and, decide_false]
  unfold slices_Equal_int_int
  by_cases hl : a.length = b.length
  · rw [if_neg (by simp [hl])]
    have := key hl a.length 0 4000 (by omega) (by omega)
    rw [show ((0 : Nat) : Int) = 0 from rfl, List.drop_zero, List.drop_zero] at this
    exact this
  · rw [if_pos (by simp; omega), decide_eq_false (fun e => hl (by rw [e]))]
/-- not more than is looked at -/
structure NodeFew (x : api_Node) : Prop where
  op : OpFew x.Op
  past : x.Past.length ≤ 200
structure Few (p : List api_Node) : Prop where
  len : p.length ≤ 110
  each : ∀ x ∈ p, NodeFew x
theorem Few.take {p : List api_Node} (h : Few p) (i : Nat) : Few (p.take i) := ⟨by rw [List.length_take]; have := h.len; omega, fun x hx => h.each x (List.mem_of_mem_take hx)⟩

end Go.Proofs.Pure
