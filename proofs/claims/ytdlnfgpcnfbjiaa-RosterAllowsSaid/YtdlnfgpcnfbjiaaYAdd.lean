/- A node added: both programs add the same. No program in sight. -/
import Derived.Test.YtdlnfgpcnfbjiaaYBeh
namespace Go.Proofs.Pure
open Go Go.RowKit Go.Proofs.Kit
set_option linter.unusedVariables false

theorem clone_eq (o : api_Op) (h : OpFew o) : graph_clone 4000 o = some o := by
  have hL : (1000000 : Nat) ≤ lim := by unfold lim; omega
  have h1 := h.parents
  have h2 := h.who
  have h3 := h.boxes
  unfold graph_clone slices_Clone_api_Key_api_Key slices_Clone_int_int slices_Clone_api_Box_api_Box
  rw [if_pos (by simp; omega), if_pos (by simp; omega), if_pos (by simp; omega)]
  simp
theorem cloneI_eq (l : List Int) (h : l.length ≤ 1000) : slices_Clone_int_int 4000 l = some l := by
  have hL : (1000000 : Nat) ≤ lim := by unfold lim; omega
  unfold slices_Clone_int_int
  rw [if_pos (by simp; omega)]
  simp

theorem add_l1 (p : List api_Node) (hf : Few p) (o : api_Op) (ho : OpFew o) (id : List Int) (x4 : List Int × Int) : ∀ (m i n : Nat), i + m = p.length → m < n → graph_Add.l1 4000 p o id x4 n (i : Int) (p.take i) = some (p ++ [⟨id, o, x4.1⟩], 0) := by
  have hL : (1000000 : Nat) ≤ lim := by unfold lim; omega
  have hlen := hf.len
  intro m
  induction m with
  | zero =>
    intro i n hi hm
    obtain ⟨n, rfl⟩ : ∃ q, n = q + 1 := ⟨n - 1, by omega⟩
    rw [graph_Add.l1, if_neg (by simp; omega), List.take_of_length_le (by omega), graph_Add.j1, clone_eq o ho]
    simp only [Option.bind_some]
    rw [if_pos (by simp; omega)]
  | succ m ih =>
    intro i n hi hm
    obtain ⟨n, rfl⟩ : ∃ q, n = q + 1 := ⟨n - 1, by omega⟩
    have hil : i < p.length := by omega
    have hx := hf.each _ (List.getElem_mem hil)
    have hnext : iadd .i64 (i : Int) 1 = ((i + 1 : Nat) : Int) := by rw [add64 (by omega)]; omega
    have hp := hx.past
    rw [graph_Add.l1, if_pos (by simp; omega), at_get hil]
    simp only [Option.bind_some]
    rw [clone_eq _ hx.op]
    simp only [Option.bind_some]
    rw [cloneI_eq _ (by omega)]
    simp only [Option.bind_some]
    rw [if_pos (by simp; omega), hnext]
    have e : p.take i ++ [(⟨p[i].Id, p[i].Op, p[i].Past⟩ : api_Node)] = p.take (i + 1) := by rw [List.take_add_one, List.getElem?_eq_getElem hil]; rfl
    rw [e]
    exact ih (i + 1) n (by omega) (by omega)

/-- what adding answers -/
def addR (p : List api_Node) (id : List Int) (o : api_Op) : List api_Node × Int :=
  if rightG p = false ∨ rightO o = false then ([], 1) else if 0 ≤ fnd id 0 p then ([], 13) else if p.length = 96 then ([], 8) else if okP p o.Parents = false then ([], 14) else if turnB p o (pastL p o) = false then ([], 15) else (p ++ [⟨id, o, pastL p o⟩], 0)
theorem add_eq (p : List api_Node) (hf : Few p) (id : List Int) (o : api_Op) (ho : OpFew o) : graph_Add 4000 p id o = some (addR p id o) := by
  have hlen := hf.len
  have hps := ho.parents
  unfold graph_Add addR
  rw [right_eq p hf]
  cases hr : rightG p with
  | false => rfl
  | true =>
    simp only [Option.bind_some, Bool.not_true, beq_self_eq_true, if_true, frame_eq o ho]
    cases rightO o with
    | false => rfl
    | true =>
      simp only [Bool.not_true, Bool.false_eq_true, if_false, find_eq p (by omega), Option.bind_some, or_self, reduceCtorEq]
      by_cases c1 : 0 ≤ fnd id 0 p
      · rw [if_pos (decide_eq_true c1), if_pos c1]
      · rw [if_neg (by simpa using c1), if_neg c1]
        by_cases c2 : p.length = 96
        · rw [if_pos (by simp [c2]), if_pos c2]
        · rw [if_neg (by simp; omega), if_neg c2, past_eq p (by omega) hf.short _ (by omega)]
          simp only [Option.bind_some]
          cases okP p o.Parents with
          | false => rfl
          | true =>
            have hl := coll_len (inP p o.Parents) p.length 0
            simp only [if_true, bne_self_eq_false, Bool.false_eq_true, if_false, reduceCtorEq]
            rw [turn_eq p (by omega) o _ (coll_sorted _ _ _) (by omega)]
            simp only [Option.bind_some]
            unfold pastL
            cases turnB p o (coll (inP p o.Parents) 0 p.length) with
            | false => rfl
            | true =>
              simp only [Bool.not_true, Bool.false_eq_true, if_false, reduceCtorEq]
              have := add_l1 p hf o ho id (coll (inP p o.Parents) 0 p.length, 0) p.length 0 4000 (by omega) (by omega)
              rw [show ((0 : Nat) : Int) = 0 from rfl, List.take_zero] at this
              exact this
theorem gpast_eq (p : List api_Node) (hf : Few p) (o : api_Op) (ho : OpFew o) : graph_Past 4000 p o.Parents = some (if rightG p = true then (if okP p o.Parents = true then (coll (inP p o.Parents) 0 p.length, 0) else ([], 14)) else ([], 1)) := by
  have hlen := hf.len
  have hps := ho.parents
  unfold graph_Past
  rw [right_eq p hf]
  cases rightG p with
  | false => rfl
  | true =>
    simp only [Option.bind_some, Bool.not_true, Bool.false_eq_true, if_false, if_true, past_eq p (by omega) hf.short _ (show o.Parents.length ≤ 100 by omega)]


end Go.Proofs.Pure
