/- A node added: both programs add the same. No program in sight. -/
import Derived.Test.YtdlnfgpcnfbjiaaJBeh
namespace Go.Proofs.Pure
open Go Go.RowKit Go.Proofs.Kit
set_option linter.unusedVariables false

theorem clone_eq (o : api_Op) (h : OpFew o) : graph_clone 4000 o = some o := by
  have hL : (1000000 : Nat) ≤ lim := by unfold lim; omega
  have h1 := h.parents
  have h2 := h.who
  have h3 := h.boxes
  unfold graph_clone slices_Clone_api_Key_api_Key slices_Clone_int_int slices_Clone_api_Box_api_Box
  rw [if_pos (by simp; omega), if_pos (by simp; omega), if_pos (by simp; omega)]
  simp
theorem cloneI_eq (l : List Int) (h : l.length ≤ 1000) : slices_Clone_int_int 4000 l = some l := by
  have hL : (1000000 : Nat) ≤ lim := by unfold lim; omega
  unfold slices_Clone_int_int
  rw [if_pos (by simp; omega)]
  simp

theorem add_l1 (p : List api_Node) (hf : Few p) (o : api_Op) (ho : OpFew o) (id : List Int) (x4 : List Int × Int) : ∀ (m i n : Nat), i + m = p.length → m < n → graph_Add.l1 4000 p o id x4 n (i : Int) (p.take i) = some (p ++ [⟨id, o, x4.1⟩], 0) := by
  have hL : (1000000 : Nat) ≤ lim := by unfold lim; omega
  have hlen := hf.len
  intro m
  induction m with
  | zero =>
    intro i n hi hm
    obtain ⟨n, rfl⟩ : ∃ q, n = q + 1 := ⟨n - 1, by omega⟩
    rw [graph_Add.l1, if_neg (by simp; omega), List.take_of_length_le (by omega), graph_Add.j1, clone_eq o ho]
    simp only [Option.bind_some]
    rw [if_pos (by simp; omega)]
  | succ m ih =>
    intro i n hi hm
    obtain ⟨n, rfl⟩ : ∃ q, n = q + 1 := ⟨n - 1, by omega⟩
    have hil : i < p.length := by omega
    have hx := hf.each _ (List.getElem_mem hil)
    have hnext : iadd .i64 (i : Int) 1 = ((i + 1 : Nat) : Int) := by rw [add64 (by omega)]; omega
    have hp := hx.past
    rw [graph_Add.l1, if_pos (by simp; omega), at_get hil]
    simp only [Option.bind_some]
    rw [clone_eq _ hx.op]
    simp only [Option.bind_some]
    rw [cloneI_eq _ (by omega)]
    simp only [Option.bind_some]
    rw [if_pos (by simp; omega), hnext]
    have e : p.take i ++ [(⟨p[i].Id, p[i].Op, p[i].Past⟩ : api_Node)] = p.take (i + 1) := by rw [List.take_add_one, List.getElem?_eq_getElem hil]; rfl
    rw [e]
    exact ih (i + 1) n (by omega) (by omega)

/-- what adding answers -/
def addR (p : List api_Node) (id : List Int) (o : api_Op) : List api_Node × Int :=
  if rightG p = false ∨ rightO o = false then ([], 1) else if 0 ≤ fnd id 0 p then ([], 13) else if p.length = 96 then ([], 8) else if okP p o.Parents = false then ([], 14) else if turnB p o (pastL p o) = false then ([], 15) else (p ++ [⟨id, o, pastL p o⟩], 0)
theorem add_eq (p : List api_Node) (hf : Few p) (id : List Int) (o : api_Op) (ho : OpFew o) : graph_Add 4000 p id o = some (addR p id o) := by
  have hlen := hf.len
  have hps := ho.parents
  unfold graph_Add addR
  rw [right_eq p hf]
  cases hr : rightG p with
  | false => rfl
  | true =>
    simp only [Option.bind_some, Bool.not_true, beq_self_eq_true, if_true, frame_eq o ho]
    cases rightO o with
    | false => rfl
    | true =>
      simp only [Bool.not_true, Bool.false_eq_true, if_false, find_eq p (by omega), Option.bind_some, or_self, reduceCtorEq]
      by_cases c1 : 0 ≤ fnd id 0 p
      · rw [if_pos (decide_eq_true c1), if_pos c1]
      · rw [if_neg (by simpa using c1), if_neg c1]
        by_cases c2 : p.length = 96
        · rw [if_pos (by simp [c2]), if_pos c2]
        · rw [if_neg (by simp; omega), if_neg c2, past_eq p (by omega) hf.short _ (by omega)]
          simp only [Option.bind_some]
          cases okP p o.Parents with
          | false => rfl
          | true =>
            have hl := coll_len (inP p o.Parents) p.length 0
            simp only [if_true, bne_self_eq_false, Bool.false_eq_true, if_false, reduceCtorEq]
            rw [turn_eq p (by omega) o _ (coll_sorted _ _ _) (by omega)]
            simp only [Option.bind_some]
            unfold pastL
            cases turnB p o (coll (inP p o.Parents) 0 p.length) with
            | false => rfl
            | true =>
              simp only [Bool.not_true, Bool.false_eq_true, if_false, reduceCtorEq]
              have := add_l1 p hf o ho id (coll (inP p o.Parents) 0 p.length, 0) p.length 0 4000 (by omega) (by omega)
              rw [show ((0 : Nat) : Int) = 0 from rfl, List.take_zero] at this
              exact this
theorem radd_eq (p : List api_Node) (hf : Few p) (hr : rightG p = true) (id : List Int) (o : api_Op) (ho : OpFew o) : cabalref15_Add 4000 p id o = some (addR p id o) := by
  have hL : (1000000 : Nat) ≤ lim := by unfold lim; omega
  have hlen := right_len hr
  have hps := ho.parents
  unfold cabalref15_Add addR
  rw [doc_eq o ho, hr]
  cases rightO o with
  | false => rfl
  | true =>
    simp only [Bool.not_true, Bool.false_eq_true, if_false, rfind_eq p (by omega), Option.bind_some, or_self, reduceCtorEq]
    by_cases c1 : 0 ≤ fnd id 0 p
    · rw [if_pos (decide_eq_true c1), if_pos c1]
    · rw [if_neg (by simpa using c1), if_neg c1]
      by_cases c2 : p.length = 96
      · rw [if_pos (by simp [c2]), if_pos c2]
      · rw [if_neg (by simp; omega), if_neg c2, rpast_eq p (by omega) hf.short _ (by omega)]
        simp only [Option.bind_some]
        cases okP p o.Parents with
        | false => rfl
        | true =>
          have hl := coll_len (inP p o.Parents) p.length 0
          simp only [if_true, Bool.not_true, Bool.false_eq_true, if_false, reduceCtorEq]
          rw [rturn_eq p (by omega) o _ (by omega)]
          simp only [Option.bind_some]
          unfold pastL
          cases turnB p o (coll (inP p o.Parents) 0 p.length) with
          | false => rfl
          | true =>
            simp only [Bool.not_true, Bool.false_eq_true, if_false, reduceCtorEq]
            rw [if_pos (by simp; omega), if_pos (by simp; omega)]
            simp
theorem addR_few (p : List api_Node) (hf : Few p) (id : List Int) (o : api_Op) (ho : OpFew o) : ((addR p id o).1.length ≤ 111) ∧ ∀ x ∈ (addR p id o).1, NodeFew x := by
  have hlen := hf.len
  have hl := coll_len (inP p o.Parents) p.length 0
  have none_ : (([] : List api_Node).length ≤ 111) ∧ ∀ x ∈ ([] : List api_Node), NodeFew x := ⟨by simp, fun x hx => by cases hx⟩
  unfold addR
  split
  · exact none_
  · split
    · exact none_
    · split
      · exact none_
      · split
        · exact none_
        · split
          · exact none_
          · refine ⟨by simp; omega, fun x hx => ?_⟩
            rcases List.mem_append.1 hx with h | h
            · exact hf.each x h
            · simp at h; subst h
              exact ⟨ho, by show (pastL p o).length ≤ 200; unfold pastL; omega⟩

theorem gpast_eq (p : List api_Node) (hf : Few p) (o : api_Op) (ho : OpFew o) : graph_Past 4000 p o.Parents = some (if rightG p = true then (if okP p o.Parents = true then (coll (inP p o.Parents) 0 p.length, 0) else ([], 14)) else ([], 1)) := by
  have hlen := hf.len
  have hps := ho.parents
  unfold graph_Past
  rw [right_eq p hf]
  cases rightG p with
  | false => rfl
  | true =>
    simp only [Option.bind_some, Bool.not_true, Bool.false_eq_true, if_false, if_true, past_eq p (by omega) hf.short _ (show o.Parents.length ≤ 100 by omega)]

/-! #### the same as itself -/
theorem sameop_refl (o : api_Op) (h : OpFew o) : cabalref11_SameOp 4000 o o = some true := by
  have hp := h.parents
  have hw := h.who
  have hb := h.boxes
  have k1 : ∀ (m i n : Nat), i + m = o.Boxes.length → m < n → cabalref11_SameOp.l1 4000 o o n (i : Int) = some true := by
    intro m
    induction m with
    | zero =>
      intro i n hi hm
      obtain ⟨n, rfl⟩ : ∃ q, n = q + 1 := ⟨n - 1, by omega⟩
      rw [cabalref11_SameOp.l1, if_neg (by simp; omega)]; rfl
    | succ m ih =>
      intro i n hi hm
      obtain ⟨n, rfl⟩ : ∃ q, n = q + 1 := ⟨n - 1, by omega⟩
      have hil : i < o.Boxes.length := by omega
      have hnext : iadd .i64 (i : Int) 1 = ((i + 1 : Nat) : Int) := by rw [add64 (by omega)]; omega
      rw [cabalref11_SameOp.l1, if_pos (by simp; omega), at_get hil]
      simp only [Option.bind_some, decide_true, Bool.not_true, Bool.false_eq_true, if_false, hnext]
      exact ih (i + 1) n (by omega) (by omega)
  have k2 : ∀ (m i n : Nat), i + m = o.Who.length → m < n → cabalref11_SameOp.l2 4000 o o n (i : Int) = some true := by
    intro m
    induction m with
    | zero =>
      intro i n hi hm
      obtain ⟨n, rfl⟩ : ∃ q, n = q + 1 := ⟨n - 1, by omega⟩
      rw [cabalref11_SameOp.l2, if_neg (by simp; omega), cabalref11_SameOp.j2]
      have := k1 o.Boxes.length 0 4000 (by omega) (by omega)
      rw [show ((0 : Nat) : Int) = 0 from rfl] at this
      exact this
    | succ m ih =>
      intro i n hi hm
      obtain ⟨n, rfl⟩ : ∃ q, n = q + 1 := ⟨n - 1, by omega⟩
      have hil : i < o.Who.length := by omega
      have hnext : iadd .i64 (i : Int) 1 = ((i + 1 : Nat) : Int) := by rw [add64 (by omega)]; omega
      rw [cabalref11_SameOp.l2, if_pos (by simp; omega), at_get hil]
      simp only [Option.bind_some, bne_self_eq_false, Bool.false_eq_true, if_false, hnext]
      exact ih (i + 1) n (by omega) (by omega)
  have k3 : ∀ (m i n : Nat), i + m = o.Parents.length → m < n → cabalref11_SameOp.l3 4000 o o n (i : Int) = some true := by
    intro m
    induction m with
    | zero =>
      intro i n hi hm
      obtain ⟨n, rfl⟩ : ∃ q, n = q + 1 := ⟨n - 1, by omega⟩
      rw [cabalref11_SameOp.l3, if_neg (by simp; omega), cabalref11_SameOp.j1]
      have := k2 o.Who.length 0 4000 (by omega) (by omega)
      rw [show ((0 : Nat) : Int) = 0 from rfl] at this
      exact this
    | succ m ih =>
      intro i n hi hm
      obtain ⟨n, rfl⟩ : ∃ q, n = q + 1 := ⟨n - 1, by omega⟩
      have hil : i < o.Parents.length := by omega
      have hnext : iadd .i64 (i : Int) 1 = ((i + 1 : Nat) : Int) := by rw [add64 (by omega)]; omega
      rw [cabalref11_SameOp.l3, if_pos (by simp; omega), at_get hil]
      simp only [Option.bind_some, decide_true, Bool.not_true, Bool.false_eq_true, if_false, hnext]
      exact ih (i + 1) n (by omega) (by omega)
  have t := k3 o.Parents.length 0 4000 (by omega) (by omega)
  rw [show ((0 : Nat) : Int) = 0 from rfl] at t
  unfold cabalref11_SameOp
  simp only [bne_self_eq_false, decide_true, Bool.not_true, Bool.false_eq_true, if_false, Option.bind_some]
  exact t
theorem same_l1 (k : Nat) (hS : ∀ l : List Int, l.length ≤ 2000 → cabalref15_SameInts k l l = some true) (hO : ∀ o, OpFew o → cabalref11_SameOp k o o = some true) (p : List api_Node) (hl : p.length ≤ 111) (h : ∀ x ∈ p, NodeFew x) : ∀ (m i n : Nat), i + m = p.length → m < n → cabalref15_Same.l1 k p p n (i : Int) = some true := by
  intro m
  induction m with
  | zero =>
    intro i n hi hm
    obtain ⟨n, rfl⟩ : ∃ q, n = q + 1 := ⟨n - 1, by omega⟩
    rw [cabalref15_Same.l1, if_neg (by simp; omega)]; rfl
  | succ m ih =>
    intro i n hi hm
    obtain ⟨n, rfl⟩ : ∃ q, n = q + 1 := ⟨n - 1, by omega⟩
    have hil : i < p.length := by omega
    have hx := h _ (List.getElem_mem hil)
    have hp := hx.past
    have hnext : iadd .i64 (i : Int) 1 = ((i + 1 : Nat) : Int) := by rw [add64 (by omega)]; omega
    have s1 := hS p[i].Past (by omega)
    have s2 := hO _ hx.op
    rw [cabalref15_Same.l1, if_pos (by simp; omega), at_get hil]
    simp only [Option.bind_some, decide_true, Bool.not_true, beq_self_eq_true, if_true, Bool.false_eq_true, if_false, s1, s2, hnext]
    exact ih (i + 1) n (by omega) (by omega)
theorem same_refl (p : List api_Node) (h : p.length ≤ 111 ∧ ∀ x ∈ p, NodeFew x) : cabalref15_Same 4000 p p = some true := by
  unfold cabalref15_Same
  have e : ((p.length : Int) != (p.length : Int)) = false := by simp
  rw [e]
  simp only [Bool.false_eq_true, if_false]
  have hS : ∀ l : List Int, l.length ≤ 2000 → cabalref15_SameInts 4000 l l = some true := fun l hl => (sameints_eq l l hl).trans (by rw [decide_eq_true rfl])
  have := same_l1 4000 hS sameop_refl p h.1 h.2 p.length 0 4000 (by omega) (by omega)
  rw [show ((0 : Nat) : Int) = 0 from rfl] at this
  exact this

end Go.Proofs.Pure
