/- Graphs that are the same: both programs compare the whole. No program in sight. -/
import Derived.Test.YtdlnfgpcnfbjiaaXBeh
namespace Go.Proofs.Pure
open Go Go.RowKit Go.Proofs.Kit
set_option linter.unusedVariables false

theorem dec_cons {α : Type} [DecidableEq α] {a b : List α} {i : Nat} (ha : i < a.length) (hb : i < b.length) : decide (a.drop i = b.drop i) = (decide (a[i] = b[i]) && decide (a.drop (i + 1) = b.drop (i + 1))) := by
  rw [Bool.eq_iff_iff, Bool.and_eq_true, decide_eq_true_eq, decide_eq_true_eq, decide_eq_true_eq, List.drop_eq_getElem_cons ha, List.drop_eq_getElem_cons hb, List.cons.injEq]
theorem dec_len {α : Type} [DecidableEq α] {a b : List α} (h : ¬ a.length = b.length) : decide (a = b) = false := decide_eq_false (fun e => h (by rw [e]))

theorem equalK_l1 (k : Nat) (a b : List (List Int)) (hn : a.length ≤ 2000) (hl : a.length = b.length) : ∀ (m i n : Nat), i + m = a.length → m < n → slices_Equal_api_Key_api_Key.l1 k a b n (i : Int) = some (decide (a.drop i = b.drop i)) := by
  intro m
  induction m with
  | zero =>
    intro i n hi hm
    obtain ⟨n, rfl⟩ : ∃ q, n = q + 1 := ⟨n - 1, by omega⟩
    rw [slices_Equal_api_Key_api_Key.l1, if_neg (by simp; omega), List.drop_eq_nil_of_le (by omega), List.drop_eq_nil_of_le (by omega)]; rfl
  | succ m ih =>
    intro i n hi hm
    obtain ⟨n, rfl⟩ : ∃ q, n = q + 1 := ⟨n - 1, by omega⟩
    have ha : i < a.length := by omega
    have hb : i < b.length := by omega
    have hnext : iadd .i64 (i : Int) 1 = ((i + 1 : Nat) : Int) := by rw [add64 (by omega)]; omega
    rw [slices_Equal_api_Key_api_Key.l1, if_pos (by simp; omega), at_get ha, at_get hb, dec_cons ha hb]
    simp only [Option.bind_some, hnext]
    cases decide (a[i] = b[i]) with
    | true => simp only [Bool.not_true, Bool.false_eq_true, if_false, Bool.true_and]; exact ih (i + 1) n (by omega) (by omega)
    | false => rfl
theorem equalK_eq (a b : List (List Int)) (hn : a.length ≤ 2000) : slices_Equal_api_Key_api_Key 4000 a b = some (decide (a = b)) := by
  unfold slices_Equal_api_Key_api_Key
  by_cases hl : a.length = b.length
  · rw [if_neg (by simp [hl])]
    have := equalK_l1 4000 a b hn hl a.length 0 4000 (by omega) (by omega)
    rw [show ((0 : Nat) : Int) = 0 from rfl, List.drop_zero, List.drop_zero] at this
    exact this
  · rw [if_pos (by simp; omega), dec_len hl]
theorem equalB_l1 (k : Nat) (a b : List api_Box) (hn : a.length ≤ 2000) (hl : a.length = b.length) : ∀ (m i n : Nat), i + m = a.length → m < n → slices_Equal_api_Box_api_Box.l1 k a b n (i : Int) = some (decide (a.drop i = b.drop i)) := by
  intro m
  induction m with
  | zero =>
    intro i n hi hm
    obtain ⟨n, rfl⟩ : ∃ q, n = q + 1 := ⟨n - 1, by omega⟩
    rw [slices_Equal_api_Box_api_Box.l1, if_neg (by simp; omega), List.drop_eq_nil_of_le (by omega), List.drop_eq_nil_of_le (by omega)]; rfl
  | succ m ih =>
    intro i n hi hm
    obtain ⟨n, rfl⟩ : ∃ q, n = q + 1 := ⟨n - 1, by omega⟩
    have ha : i < a.length := by omega
    have hb : i < b.length := by omega
    have hnext : iadd .i64 (i : Int) 1 = ((i + 1 : Nat) : Int) := by rw [add64 (by omega)]; omega
    rw [slices_Equal_api_Box_api_Box.l1, if_pos (by simp; omega), at_get ha, at_get hb, dec_cons ha hb]
    simp only [Option.bind_some, hnext]
    cases decide (a[i] = b[i]) with
    | true => simp only [Bool.not_true, Bool.false_eq_true, if_false, Bool.true_and]; exact ih (i + 1) n (by omega) (by omega)
    | false => rfl
theorem equalB_eq (a b : List api_Box) (hn : a.length ≤ 2000) : slices_Equal_api_Box_api_Box 4000 a b = some (decide (a = b)) := by
  unfold slices_Equal_api_Box_api_Box
  by_cases hl : a.length = b.length
  · rw [if_neg (by simp [hl])]
    have := equalB_l1 4000 a b hn hl a.length 0 4000 (by omega) (by omega)
    rw [show ((0 : Nat) : Int) = 0 from rfl, List.drop_zero, List.drop_zero] at this
    exact this
  · rw [if_pos (by simp; omega), dec_len hl]

/-- an op is what its nine parts are -/
theorem dec_op (a b : api_Op) : decide (a = b) = (decide (a.Author = b.Author) && decide (a.Seq = b.Seq) && decide (a.Kind = b.Kind) && decide (a.Of = b.Of) && decide (a.Check = b.Check) && decide (a.Text = b.Text) && decide (a.Parents = b.Parents) && decide (a.Who = b.Who) && decide (a.Boxes = b.Boxes)) := by
  rw [Bool.eq_iff_iff]
  simp only [Bool.and_eq_true, decide_eq_true_eq]
  constructor
  · intro h; subst h; simp
  · rintro ⟨⟨⟨⟨⟨⟨⟨⟨h1, h2⟩, h3⟩, h4⟩, h5⟩, h6⟩, h7⟩, h8⟩, h9⟩
    cases a; cases b; simp_all
theorem beq_dec (a b : Int) : (a == b) = decide (a = b) := by by_cases q : a = b <;> simp [q]
theorem framesame_eq (a b : api_Op) (h : OpFew a) : frame_same 4000 a b = some (decide (a = b)) := by
  have h1 := h.parents
  have h2 := h.who
  have h3 := h.boxes
  have e1 := equalK_eq a.Parents b.Parents (by omega)
  have e2 := equal_eq a.Who b.Who (by omega)
  have e3 := equalB_eq a.Boxes b.Boxes (by omega)
  unfold frame_same
  rw [e1, e2, e3, dec_op, beq_dec, beq_dec, beq_dec]
  generalize decide (a.Author = b.Author) = A1
  generalize decide (a.Seq = b.Seq) = A2
  generalize decide (a.Kind = b.Kind) = A3
  generalize decide (a.Of = b.Of) = A4
  generalize decide (a.Check = b.Check) = A5
  generalize decide (a.Text = b.Text) = A6
  generalize decide (a.Parents = b.Parents) = A7
  generalize decide (a.Who = b.Who) = A8
  generalize decide (a.Boxes = b.Boxes) = A9
  revert A1 A2 A3 A4 A5 A6 A7 A8 A9
  decide
theorem sop_l1 (k : Nat) (a b : api_Op) (hn : a.Boxes.length ≤ 30) (hl : a.Boxes.length = b.Boxes.length) : ∀ (m i n : Nat), i + m = a.Boxes.length → m < n → cabalref11_SameOp.l1 k a b n (i : Int) = some (decide (a.Boxes.drop i = b.Boxes.drop i)) := by
  intro m
  induction m with
  | zero =>
    intro i n hi hm
    obtain ⟨n, rfl⟩ : ∃ q, n = q + 1 := ⟨n - 1, by omega⟩
    rw [cabalref11_SameOp.l1, if_neg (by simp; omega), List.drop_eq_nil_of_le (by omega), List.drop_eq_nil_of_le (by omega)]; rfl
  | succ m ih =>
    intro i n hi hm
    obtain ⟨n, rfl⟩ : ∃ q, n = q + 1 := ⟨n - 1, by omega⟩
    have ha : i < a.Boxes.length := by omega
    have hb : i < b.Boxes.length := by omega
    have hnext : iadd .i64 (i : Int) 1 = ((i + 1 : Nat) : Int) := by rw [add64 (by omega)]; omega
    rw [cabalref11_SameOp.l1, if_pos (by simp; omega), at_get ha, at_get hb, dec_cons ha hb]
    simp only [Option.bind_some, hnext]
    cases decide (a.Boxes[i] = b.Boxes[i]) with
    | true => simp only [Bool.not_true, Bool.false_eq_true, if_false, Bool.true_and]; exact ih (i + 1) n (by omega) (by omega)
    | false => rfl
theorem sop_l2 (k : Nat) (a b : api_Op) (hn : a.Who.length ≤ 30) (hl : a.Who.length = b.Who.length) : ∀ (m i n : Nat), i + m = a.Who.length → m < n → cabalref11_SameOp.l2 k a b n (i : Int) = if decide (a.Who.drop i = b.Who.drop i) = true then cabalref11_SameOp.j2 k a b else some false := by
  intro m
  induction m with
  | zero =>
    intro i n hi hm
    obtain ⟨n, rfl⟩ : ∃ q, n = q + 1 := ⟨n - 1, by omega⟩
    rw [cabalref11_SameOp.l2, if_neg (by simp; omega), List.drop_eq_nil_of_le (by omega), List.drop_eq_nil_of_le (by omega)]; rfl
  | succ m ih =>
    intro i n hi hm
    obtain ⟨n, rfl⟩ : ∃ q, n = q + 1 := ⟨n - 1, by omega⟩
    have ha : i < a.Who.length := by omega
    have hb : i < b.Who.length := by omega
    have hnext : iadd .i64 (i : Int) 1 = ((i + 1 : Nat) : Int) := by rw [add64 (by omega)]; omega
    have en : (a.Who[i] != b.Who[i]) = !decide (a.Who[i] = b.Who[i]) := by by_cases q : a.Who[i] = b.Who[i] <;> simp [q]
    rw [cabalref11_SameOp.l2, if_pos (by simp; omega), at_get ha, at_get hb, dec_cons ha hb]
    simp only [Option.bind_some, hnext, en]
    cases decide (a.Who[i] = b.Who[i]) with
    | true => simp only [Bool.not_true, Bool.false_eq_true, if_false, Bool.true_and]; exact ih (i + 1) n (by omega) (by omega)
    | false => rfl
theorem sop_l3 (k : Nat) (a b : api_Op) (hn : a.Parents.length ≤ 30) (hl : a.Parents.length = b.Parents.length) : ∀ (m i n : Nat), i + m = a.Parents.length → m < n → cabalref11_SameOp.l3 k a b n (i : Int) = if decide (a.Parents.drop i = b.Parents.drop i) = true then cabalref11_SameOp.j1 k a b else some false := by
  intro m
  induction m with
  | zero =>
    intro i n hi hm
    obtain ⟨n, rfl⟩ : ∃ q, n = q + 1 := ⟨n - 1, by omega⟩
    rw [cabalref11_SameOp.l3, if_neg (by simp; omega), List.drop_eq_nil_of_le (by omega), List.drop_eq_nil_of_le (by omega)]; rfl
  | succ m ih =>
    intro i n hi hm
    obtain ⟨n, rfl⟩ : ∃ q, n = q + 1 := ⟨n - 1, by omega⟩
    have ha : i < a.Parents.length := by omega
    have hb : i < b.Parents.length := by omega
    have hnext : iadd .i64 (i : Int) 1 = ((i + 1 : Nat) : Int) := by rw [add64 (by omega)]; omega
    rw [cabalref11_SameOp.l3, if_pos (by simp; omega), at_get ha, at_get hb, dec_cons ha hb]
    simp only [Option.bind_some, hnext]
    cases decide (a.Parents[i] = b.Parents[i]) with
    | true => simp only [Bool.not_true, Bool.false_eq_true, if_false, Bool.true_and]; exact ih (i + 1) n (by omega) (by omega)
    | false => rfl
theorem bne_len {α β : Type} (a : List α) (b : List β) : ((a.length : Int) != (b.length : Int)) = !decide (a.length = b.length) := by
  by_cases q : a.length = b.length
  · simp [q]
  · have : ¬ (a.length : Int) = (b.length : Int) := by omega
    simp [q, this]
theorem sameop_eq (a b : api_Op) (h : OpFew a) : cabalref11_SameOp 4000 a b = some (decide (a = b)) := by
  have h1 := h.parents
  have h2 := h.who
  have h3 := h.boxes
  have nb : ∀ x y : Int, (x != y) = !decide (x = y) := fun x y => by by_cases q : x = y <;> simp [q]
  unfold cabalref11_SameOp
  rw [dec_op, nb, nb, nb, bne_len, bne_len, bne_len]
  by_cases l1 : a.Parents.length = b.Parents.length
  · by_cases l2 : a.Who.length = b.Who.length
    · by_cases l3 : a.Boxes.length = b.Boxes.length
      · have t3 := sop_l3 4000 a b h1 l1 a.Parents.length 0 4000 (by omega) (by omega)
        have t2 := sop_l2 4000 a b h2 l2 a.Who.length 0 4000 (by omega) (by omega)
        have t1 := sop_l1 4000 a b h3 l3 a.Boxes.length 0 4000 (by omega) (by omega)
        rw [show ((0 : Nat) : Int) = 0 from rfl, List.drop_zero, List.drop_zero] at t1 t2 t3
        have t3' : cabalref11_SameOp.l3 4000 a b 4000 0 = if decide (a.Parents = b.Parents) = true then (if decide (a.Who = b.Who) = true then some (decide (a.Boxes = b.Boxes)) else some false) else some false := by
          rw [t3, cabalref11_SameOp.j1, t2, cabalref11_SameOp.j2, t1]
        rw [t3', decide_eq_true l1, decide_eq_true l2, decide_eq_true l3]
        generalize decide (a.Author = b.Author) = A1
        generalize decide (a.Seq = b.Seq) = A2
        generalize decide (a.Kind = b.Kind) = A3
        generalize decide (a.Of = b.Of) = A4
        generalize decide (a.Check = b.Check) = A5
        generalize decide (a.Text = b.Text) = A6
        generalize decide (a.Parents = b.Parents) = A7
        generalize decide (a.Who = b.Who) = A8
        generalize decide (a.Boxes = b.Boxes) = A9
        revert A1 A2 A3 A4 A5 A6 A7 A8 A9
        decide
      · rw [decide_eq_false l3, dec_len l3]
        simp
    · rw [decide_eq_false l2, dec_len l2]
      simp
  · rw [decide_eq_false l1, dec_len l1]
    simp


end Go.Proofs.Pure
