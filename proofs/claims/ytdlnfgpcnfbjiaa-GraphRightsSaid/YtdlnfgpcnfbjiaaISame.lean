/- Graphs that are the same: both programs compare the whole. No program in sight. -/
import Derived.Test.YtdlnfgpcnfbjiaaIBeh
namespace Go.Proofs.Pure
open Go Go.RowKit Go.Proofs.Kit
set_option linter.unusedVariables false

theorem dec_cons {α : Type} [DecidableEq α] {a b : List α} {i : Nat} (ha : i < a.length) (hb : i < b.length) : decide (a.drop i = b.drop i) = (decide (a[i] = b[i]) && decide (a.drop (i + 1) = b.drop (i + 1))) := by
  rw [Bool.eq_iff_iff, Bool.and_eq_true, decide_eq_true_eq, decide_eq_true_eq, decide_eq_true_eq, List.drop_eq_getElem_cons ha, List.drop_eq_getElem_cons hb, List.cons.injEq]
theorem dec_len {α : Type} [DecidableEq α] {a b : List α} (h : ¬ a.length = b.length) : decide (a = b) = false := decide_eq_false (fun e => h (by rw [e]))

theorem equalK_l1 (k : Nat) (a b : List (List Int)) (hn : a.length ≤ 2000) (hl : a.length = b.length) : ∀ (m i n : Nat), i + m = a.length → m < n → slices_Equal_api_Key_api_Key.l1 k a b n (i : Int) = some (decide (a.drop i = b.drop i)) := by
  intro m
  induction m with
  | zero =>
    intro i n hi hm
    obtain ⟨n, rfl⟩ : ∃ q, n = q + 1 := ⟨n - 1, by omega⟩
    rw [slices_Equal_api_Key_api_Key.l1, if_neg (by simp; omega), List.drop_eq_nil_of_le (by omega), List.drop_eq_nil_of_le (by omega)]; rfl
  | succ m ih =>
    intro i n hi hm
    obtain ⟨n, rfl⟩ : ∃ q, n = q + 1 := ⟨n - 1, by omega⟩
    have ha : i < a.length := by omega
    have hb : i < b.length := by omega
    have hnext : iadd .i64 (i : Int) 1 = ((i + 1 : Nat) : Int) := by rw [add64 (by omega)]; omega
    rw [slices_Equal_api_Key_api_Key.l1, if_pos (by simp; omega), at_get ha, at_get hb, dec_cons ha hb]
    simp only [Option.bind_some, hnext]
    cases decide (a[i] = b[i]) with
    | true => simp only [Bool.not_true, Bool.false_eq_true, if_false, Bool.true_and]; exact ih (i + 1) n (by omega) (by omega)
    | false => rfl
theorem equalK_eq (a b : List (List Int)) (hn : a.length ≤ 2000) : slices_Equal_api_Key_api_Key 4000 a b = some (decide (a = b)) := by
  unfold slices_Equal_api_Key_api_Key
  by_cases hl : a.length = b.length
  · rw [if_neg (by simp [hl])]
    have := equalK_l1 4000 a b hn hl a.length 0 4000 (by omega) (by omega)
    rw [show ((0 : Nat) : Int) = 0 from rfl, List.drop_zero, List.drop_zero] at this
    exact this
  · rw [if_pos (by simp; omega), dec_len hl]
theorem equalB_l1 (k : Nat) (a b : List api_Box) (hn : a.length ≤ 2000) (hl : a.length = b.length) : ∀ (m i n : Nat), i + m = a.length → m < n → slices_Equal_api_Box_api_Box.l1 k a b n (i : Int) = some (decide (a.drop i = b.drop i)) := by
  intro m
  induction m with
  | zero =>
    intro i n hi hm
    obtain ⟨n, rfl⟩ : ∃ q, n = q + 1 := ⟨n - 1, by omega⟩
    rw [slices_Equal_api_Box_api_Box.l1, if_neg (by simp; omega), List.drop_eq_nil_of_le (by omega), List.drop_eq_nil_of_le (by omega)]; rfl
  | succ m ih =>
    intro i n hi hm
    obtain ⟨n, rfl⟩ : ∃ q, n = q + 1 := ⟨n - 1, by omega⟩
    have ha : i < a.length := by omega
    have hb : i < b.length := by omega
    have hnext : iadd .i64 (i : Int) 1 = ((i + 1 : Nat) : Int) := by rw [add64 (by omega)]; omega
    rw [slices_Equal_api_Box_api_Box.l1, if_pos (by simp; omega), at_get ha, at_get hb, dec_cons ha hb]
    simp only [Option.bind_some, hnext]
    cases decide (a[i] = b[i]) with
    | true => simp only [Bool.not_true, Bool.false_eq_true, if_false, Bool.true_and]; exact ih (i + 1) n (by omega) (by omega)
    | false => rfl
theorem equalB_eq (a b : List api_Box) (hn : a.length ≤ 2000) : slices_Equal_api_Box_api_Box 4000 a b = some (decide (a = b)) := by
  unfold slices_Equal_api_Box_api_Box
  by_cases hl : a.length = b.length
  · rw [if_neg (by simp [hl])]
    have := equalB_l1 4000 a b hn hl a.length 0 4000 (by omega) (by omega)
    rw [show ((0 : Nat) : Int) = 0 from rfl, List.drop_zero, List.drop_zero] at this
    exact this
  · rw [if_pos (by simp; omega), dec_len hl]

/-- an op is what its nine parts are -/
theorem dec_op (a b : api_Op) : decide (a = b) = (decide (a.Author = b.Author) && decide (a.Seq = b.Seq) && decide (a.Kind = b.Kind) && decide (a.Of = b.Of) && decide (a.Check = b.Check) && decide (a.Text = b.Text) && decide (a.Parents = b.Parents) && decide (a.Who = b.Who) && decide (a.Boxes = b.Boxes)) := by
  rw [Bool.eq_iff_iff]
  simp only [Bool.and_eq_true, decide_eq_true_eq]
  constructor
  · intro h; subst h; simp
  · rintro ⟨⟨⟨⟨⟨⟨⟨⟨h1, h2⟩, h3⟩, h4⟩, h5⟩, h6⟩, h7⟩, h8⟩, h9⟩
    cases a; cases b; simp_all
theorem beq_dec (a b : Int) : (a == b) = decide (a = b) := by by_cases q : a = b <;> simp [q]
theorem framesame_eq (a b : api_Op) (h : OpFew a) : frame_same 4000 a b = some (decide (a = b)) := by
  have h1 := h.parents
  have h2 := h.who
  have h3 := h.boxes
  have e1 := equalK_eq a.Parents b.Parents (by omega)
  have e2 := equal_eq a.Who b.Who (by omega)
  have e3 := equalB_eq a.Boxes b.Boxes (by omega)
  unfold frame_same
  rw [e1, e2, e3, dec_op, beq_dec, beq_dec, beq_dec]
  generalize decide (a.Author = b.Author) = A1
  generalize decide (a.Seq = b.Seq) = A2
  generalize decide (a.Kind = b.Kind) = A3
  generalize decide (a.Of = b.Of) = A4
  generalize decide (a.Check = b.Check) = A5
  generalize decide (a.Text = b.Text) = A6
  generalize decide (a.Parents = b.Parents) = A7
  generalize decide (a.Who = b.Who) = A8
  generalize decide (a.Boxes = b.Boxes) = A9
  revert A1 A2 A3 A4 A5 A6 A7 A8 A9
  decide
theorem dec_node (x y : api_Node) : decide (x = y) = (decide (x.Id = y.Id) && decide (x.Past = y.Past) && decide (x.Op = y.Op)) := by
  rw [Bool.eq_iff_iff]
  simp only [Bool.and_eq_true, decide_eq_true_eq]
  constructor
  · intro h; subst h; simp
  · rintro ⟨⟨h1, h2⟩, h3⟩
    cases x; cases y; simp_all
theorem same1_eq (x y : api_Node) (h : NodeFew x) : graph_Same_1 4000 x y = some (decide (x = y)) := by
  have hp := h.past
  have e1 := equal_eq x.Past y.Past (by omega)
  have e2 := framesame_eq x.Op y.Op h.op
  have e3 : slices_Equal_api_Key_api_Key 4000 [] [] = some true := (equalK_eq [] [] (by simp)).trans (by rw [decide_eq_true rfl])
  unfold graph_Same_1 frame_Same
  simp only [e1, e2, e3, beq_self_eq_true, if_true]
  rw [dec_node]
  generalize decide (x.Id = y.Id) = A1
  generalize decide (x.Past = y.Past) = A2
  generalize decide (x.Op = y.Op) = A3
  revert A1 A2 A3
  decide
theorem gsame_l1 (p q : List api_Node) (hf : Few p) (hl : p.length = q.length) : ∀ (m i n : Nat), i + m = p.length → m < n → slices_EqualFunc_api_Node_api_Node_api_Node_api_Node_graph_Same_1.l1 4000 p q n (i : Int) = some (decide (p.drop i = q.drop i)) := by
  have hlen := hf.len
  intro m
  induction m with
  | zero =>
    intro i n hi hm
    obtain ⟨n, rfl⟩ : ∃ q, n = q + 1 := ⟨n - 1, by omega⟩
    rw [slices_EqualFunc_api_Node_api_Node_api_Node_api_Node_graph_Same_1.l1, if_neg (by simp; omega), List.drop_eq_nil_of_le (by omega), List.drop_eq_nil_of_le (by omega)]; rfl
  | succ m ih =>
    intro i n hi hm
    obtain ⟨n, rfl⟩ : ∃ q, n = q + 1 := ⟨n - 1, by omega⟩
    have ha : i < p.length := by omega
    have hb : i < q.length := by omega
    have hnext : iadd .i64 (i : Int) 1 = ((i + 1 : Nat) : Int) := by rw [add64 (by omega)]; omega
    rw [slices_EqualFunc_api_Node_api_Node_api_Node_api_Node_graph_Same_1.l1, if_pos (by simp; omega), at_get ha, at_get hb, dec_cons ha hb]
    simp only [Option.bind_some, hnext]
    rw [same1_eq _ _ (hf.each _ (List.getElem_mem ha))]
    simp only [Option.bind_some]
    cases decide (p[i] = q[i]) with
    | true => simp only [Bool.not_true, Bool.false_eq_true, if_false, Bool.true_and]; exact ih (i + 1) n (by omega) (by omega)
    | false => rfl
theorem gsame_eq (p q : List api_Node) (hf : Few p) : graph_Same 4000 p q = some (decide (p = q)) := by
  have hlen := hf.len
  unfold graph_Same slices_EqualFunc_api_Node_api_Node_api_Node_api_Node_graph_Same_1
  by_cases hl : p.length = q.length
  · rw [if_neg (by simp [hl])]
    have := gsame_l1 p q hf hl p.length 0 4000 (by omega) (by omega)
    rw [show ((0 : Nat) : Int) = 0 from rfl, List.drop_zero, List.drop_zero] at this
    rw [this]; rfl
  · rw [if_pos (by simp; omega), dec_len hl]; rfl

theorem sop_l1 (k : Nat) (a b : api_Op) (hn : a.Boxes.length ≤ 30) (hl : a.Boxes.length = b.Boxes.length) : ∀ (m i n : Nat), i + m = a.Boxes.length → m < n → cabalref11_SameOp.l1 k a b n (i : Int) = some (decide (a.Boxes.drop i = b.Boxes.drop i)) := by
  intro m
  induction m with
  | zero =>
    intro i n hi hm
    obtain ⟨n, rfl⟩ : ∃ q, n = q + 1 := ⟨n - 1, by omega⟩
    rw [cabalref11_SameOp.l1, if_neg (by simp; omega), List.drop_eq_nil_of_le (by omega), List.drop_eq_nil_of_le (by omega)]; rfl
  | succ m ih =>
    intro i n hi hm
    obtain ⟨n, rfl⟩ : ∃ q, n = q + 1 := ⟨n - 1, by omega⟩
    have ha : i < a.Boxes.length := by omega
    have hb : i < b.Boxes.length := by omega
    have hnext : iadd .i64 (i : Int) 1 = ((i + 1 : Nat) : Int) := by rw [add64 (by omega)]; omega
    rw [cabalref11_SameOp.l1, if_pos (by simp; omega), at_get ha, at_get hb, dec_cons ha hb]
    simp only [Option.bind_some, hnext]
    cases decide (a.Boxes[i] = b.Boxes[i]) with
    | true => simp only [Bool.not_true, Bool.false_eq_true, if_false, Bool.true_and]; exact ih (i + 1) n (by omega) (by omega)
    | false => rfl
theorem sop_l2 (k : Nat) (a b : api_Op) (hn : a.Who.length ≤ 30) (hl : a.Who.length = b.Who.length) : ∀ (m i n : Nat), i + m = a.Who.length → m < n → cabalref11_SameOp.l2 k a b n (i : Int) = if decide (a.Who.drop i = b.Who.drop i) = true then cabalref11_SameOp.j2 k a b else some false := by
  intro m
  induction m with
  | zero =>
    intro i n hi hm
    obtain ⟨n, rfl⟩ : ∃ q, n = q + 1 := ⟨n - 1, by omega⟩
    rw [cabalref11_SameOp.l2, if_neg (by simp; omega), List.drop_eq_nil_of_le (by omega), List.drop_eq_nil_of_le (by omega)]; rfl
  | succ m ih =>
    intro i n hi hm
    obtain ⟨n, rfl⟩ : ∃ q, n = q + 1 := ⟨n - 1, by omega⟩
    have ha : i < a.Who.length := by omega
    have hb : i < b.Who.length := by omega
    have hnext : iadd .i64 (i : Int) 1 = ((i + 1 : Nat) : Int) := by rw [add64 (by omega)]; omega
    have en : (a.Who[i] != b.Who[i]) = !decide (a.Who[i] = b.Who[i]) := by by_cases q : a.Who[i] = b.Who[i] <;> simp [q]
    rw [cabalref11_SameOp.l2, if_pos (by simp; omega), at_get ha, at_get hb, dec_cons ha hb]
    simp only [Option.bind_some, hnext, en]
    cases decide (a.Who[i] = b.Who[i]) with
    | true => simp only [Bool.not_true, Bool.false_eq_true, if_false, Bool.true_and]; exact ih (i + 1) n (by omega) (by omega)
    | false => rfl
theorem sop_l3 (k : Nat) (a b : api_Op) (hn : a.Parents.length ≤ 30) (hl : a.Parents.length = b.Parents.length) : ∀ (m i n : Nat), i + m = a.Parents.length → m < n → cabalref11_SameOp.l3 k a b n (i : Int) = if decide (a.Parents.drop i = b.Parents.drop i) = true then cabalref11_SameOp.j1 k a b else some false := by
  intro m
  induction m with
  | zero =>
    intro i n hi hm
    obtain ⟨n, rfl⟩ : ∃ q, n = q + 1 := ⟨n - 1, by omega⟩
    rw [cabalref11_SameOp.l3, if_neg (by simp; omega), List.drop_eq_nil_of_le (by omega), List.drop_eq_nil_of_le (by omega)]; rfl
  | succ m ih =>
    intro i n hi hm
    obtain ⟨n, rfl⟩ : ∃ q, n = q + 1 := ⟨n - 1, by omega⟩
    have ha : i < a.Parents.length := by omega
    have hb : i < b.Parents.length := by omega
    have hnext : iadd .i64 (i : Int) 1 = ((i + 1 : Nat) : Int) := by rw [add64 (by omega)]; omega
    rw [cabalref11_SameOp.l3, if_pos (by simp; omega), at_get ha, at_get hb, dec_cons ha hb]
    simp only [Option.bind_some, hnext]
    cases decide (a.Parents[i] = b.Parents[i]) with
    | true => simp only [Bool.not_true, Bool.false_eq_true, if_false, Bool.true_and]; exact ih (i + 1) n (by omega) (by omega)
    | false => rfl
theorem bne_len {α β : Type} (a : List α) (b : List β) : ((a.length : Int) != (b.length : Int)) = !decide (a.length = b.length) := by
  by_cases q : a.length = b.length
  · simp [q]
  · have : ¬ (a.length : Int) = (b.length : Int) := by omega
    simp [q, this]
theorem sameop_eq (a b : api_Op) (h : OpFew a) : cabalref11_SameOp 4000 a b = some (decide (a = b)) := by
  have h1 := h.parents
  have h2 := h.who
  have h3 := h.boxes
  have nb : ∀ x y : Int, (x != y) = !decide (x = y) := fun x y => by by_cases q : x = y <;> simp [q]
  unfold cabalref11_SameOp
  rw [dec_op, nb, nb, nb, bne_len, bne_len, bne_len]
  by_cases l1 : a.Parents.length = b.Parents.length
  · by_cases l2 : a.Who.length = b.Who.length
    · by_cases l3 : a.Boxes.length = b.Boxes.length
      · have t3 := sop_l3 4000 a b h1 l1 a.Parents.length 0 4000 (by omega) (by omega)
        have t2 := sop_l2 4000 a b h2 l2 a.Who.length 0 4000 (by omega) (by omega)
        have t1 := sop_l1 4000 a b h3 l3 a.Boxes.length 0 4000 (by omega) (by omega)
        rw [show ((0 : Nat) : Int) = 0 from rfl, List.drop_zero, List.drop_zero] at t1 t2 t3
        have t3' : cabalref11_SameOp.l3 4000 a b 4000 0 = if decide (a.Parents = b.Parents) = true then (if decide (a.Who = b.Who) = true then some (decide (a.Boxes = b.Boxes)) else some false) else some false := by
          rw [t3, cabalref11_SameOp.j1, t2, cabalref11_SameOp.j2, t1]
        rw [t3', decide_eq_true l1, decide_eq_true l2, decide_eq_true l3]
        generalize decide (a.Author = b.Author) = A1
        generalize decide (a.Seq = b.Seq) = A2
        generalize decide (a.Kind = b.Kind) = A3
        generalize decide (a.Of = b.Of) = A4
        generalize decide (a.Check = b.Check) = A5
        generalize decide (a.Text = b.Text) = A6
        generalize decide (a.Parents = b.Parents) = A7
        generalize decide (a.Who = b.Who) = A8
        generalize decide (a.Boxes = b.Boxes) = A9
        revert A1 A2 A3 A4 A5 A6 A7 A8 A9
        decide
      · rw [decide_eq_false l3, dec_len l3]
        simp
    · rw [decide_eq_false l2, dec_len l2]
      simp
  · rw [decide_eq_false l1, dec_len l1]
    simp

theorem same_l1 (k : Nat) (hS : ∀ a b : List Int, a.length ≤ 2000 → cabalref15_SameInts k a b = some (decide (a = b))) (hO : ∀ a b, OpFew a → cabalref11_SameOp k a b = some (decide (a = b))) (p q : List api_Node) (hl : p.length ≤ 111) (h : ∀ x ∈ p, NodeFew x) (hlq : p.length = q.length) : ∀ (m i n : Nat), i + m = p.length → m < n → cabalref15_Same.l1 k p q n (i : Int) = some (decide (p.drop i = q.drop i)) := by
  intro m
  induction m with
  | zero =>
    intro i n hi hm
    obtain ⟨n, rfl⟩ : ∃ q, n = q + 1 := ⟨n - 1, by omega⟩
    rw [cabalref15_Same.l1, if_neg (by simp; omega), List.drop_eq_nil_of_le (by omega), List.drop_eq_nil_of_le (by omega)]; rfl
  | succ m ih =>
    intro i n hi hm
    obtain ⟨n, rfl⟩ : ∃ q, n = q + 1 := ⟨n - 1, by omega⟩
    have hil : i < p.length := by omega
    have hiq : i < q.length := by omega
    have hx := h _ (List.getElem_mem hil)
    have hp := hx.past
    have hnext : iadd .i64 (i : Int) 1 = ((i + 1 : Nat) : Int) := by rw [add64 (by omega)]; omega
    have s1 := hS p[i].Past q[i].Past (by omega)
    have s2 := hO _ q[i].Op hx.op
    rw [cabalref15_Same.l1, if_pos (by simp; omega), at_get hil, at_get hiq, dec_cons hil hiq, dec_node]
    simp only [Option.bind_some, hnext]
    cases decide (p[i].Id = q[i].Id) with
    | false => rfl
    | true =>
      simp only [Bool.not_true, beq_self_eq_true, if_true, Option.bind_some, s1, Bool.false_eq_true, if_false, Bool.true_and]
      cases decide (p[i].Past = q[i].Past) with
      | false => rfl
      | true =>
        simp only [Bool.not_true, beq_self_eq_true, if_true, Option.bind_some, s2, Bool.false_eq_true, if_false, Bool.true_and]
        cases decide (p[i].Op = q[i].Op) with
        | false => rfl
        | true => simp only [Bool.not_true, Bool.false_eq_true, if_false, Bool.true_and]; exact ih (i + 1) n (by omega) (by omega)
theorem rsame_eq (p q : List api_Node) (hf : Few p) : cabalref15_Same 4000 p q = some (decide (p = q)) := by
  have hlen := hf.len
  unfold cabalref15_Same
  rw [bne_len]
  by_cases hl : p.length = q.length
  · rw [decide_eq_true hl]
    simp only [Bool.not_true, Bool.false_eq_true, if_false]
    have := same_l1 4000 sameints_eq sameop_eq p q (by omega) hf.each hl p.length 0 4000 (by omega) (by omega)
    rw [show ((0 : Nat) : Int) = 0 from rfl, List.drop_zero, List.drop_zero] at this
    exact this
  · rw [decide_eq_false hl, dec_len hl]; rfl


end Go.Proofs.Pure
