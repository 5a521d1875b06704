/- Several parts of this proof in one file. No condition. -/
import Derived.Test.YtdlnfgpcnfbjiaaDPur
import Derived.Test.YtdlnfgpcnfbjiaaDyKeepQF
section
namespace Go.Proofs.Pure
open Go Go.RowKit Go.Proofs.Kit
set_option linter.unusedVariables false
end Go.Proofs.Pure
end
section
namespace Go.Proofs.Pure
open Go Go.RowKit Go.Proofs.Kit
set_option linter.unusedVariables false
def inc {α : Type} (lt : α → α → Bool) : List α → Bool
  | a :: b :: l => lt a b && inc lt (b :: l)
  | _ => true
theorem inc_drop {α : Type} (lt : α → α → Bool) (l : List α) (j : Nat) (h : j + 1 < l.length) : inc lt (l.drop j) = (lt l[j] l[j + 1] && inc lt (l.drop (j + 1))) := by
  rw [List.drop_eq_getElem_cons (i := j) (by omega), List.drop_eq_getElem_cons (i := j + 1) h]; rfl
theorem inc_end {α : Type} (lt : α → α → Bool) (l : List α) (j : Nat) (h : l.length ≤ j + 1) : inc lt (l.drop j) = true := by
  by_cases c : j < l.length
  · rw [List.drop_eq_getElem_cons c, List.drop_eq_nil_of_le h]; rfl
  · rw [List.drop_eq_nil_of_le (by omega)]; rfl
def ltI (a b : Int) : Bool := decide (a < b)
def ltK (a b : List Int) : Bool := decide (cmpB a b < 0)
def ltB (a b : api_Box) : Bool := decide (a.To < b.To)
def mem8 (v : Int) : Bool := decide (0 ≤ v ∧ v < 8)
structure OpFew (o : api_Op) : Prop where
  parents : o.Parents.length ≤ 30
  who : o.Who.length ≤ 30
  boxes : o.Boxes.length ≤ 30
  text : o.Text.length ≤ 600
  keys : ∀ q ∈ o.Parents, q.length = 32
theorem member_eq (v : Int) : frame_member 4000 v = some (mem8 v) := by
  unfold frame_member mem8
  by_cases h : 0 ≤ v <;> simp [h]
theorem rmember_eq (v : Int) : cabalref11_Member 4000 v = some (mem8 v) := by
  unfold cabalref11_Member mem8
  by_cases h : 0 ≤ v
  · simp [h]; omega
  · simp [h]
theorem number_eq (a b : Int) : ∃ c, frame_byNumber 4000 a b = some c ∧ decide (c ≥ 0) = !ltI a b := by
  unfold frame_byNumber ltI
  by_cases h : a < b
  · rw [if_pos (decide_eq_true h)]; exact ⟨-1, rfl, by simp [h]⟩
  · rw [if_neg (by simpa using h)]
    by_cases g : a > b
    · rw [if_pos (decide_eq_true g)]; exact ⟨1, rfl, by simp; omega⟩
    · rw [if_neg (by simpa using g)]; exact ⟨0, rfl, by simp; omega⟩
theorem cut32k {s : List Int} (h : s.length = 32) : cut? s (0 : Int) (32 : Int) = some s := by
  have := cut_pre (l := s) (n := 32) (by omega)
  rw [List.take_of_length_le (by omega)] at this; exact this
theorem bykey_eq (a b : List Int) (ha : a.length = 32) (hb : b.length = 32) : ∃ c, frame_byKey 4000 a b = some c ∧ decide (c ≥ 0) = !ltK a b := by
  refine ⟨cmpB a b, ?_, ?_⟩
  · unfold frame_byKey
    simp [cut32k ha, cut32k hb, bytes_Compare]
  · unfold ltK
    by_cases h : cmpB a b < 0
    · rw [decide_eq_true h, decide_eq_false (by omega)]; rfl
    · rw [decide_eq_false h, decide_eq_true (by omega)]; rfl
theorem keys_rising (l : List (List Int)) (hk : ∀ q ∈ l, q.length = 32) (hl : l.length ≤ 100) : frame_row_api_Key_rising 4000 ⟨l, ()⟩ = some (inc ltK l) := by
  have key : ∀ (m j n : Nat), j + 1 + m = l.length → m < n → frame_row_api_Key_rising.l1 4000 ⟨l, ()⟩ n ((j + 1 : Nat) : Int) = some (inc ltK (l.drop j)) := by
    intro m
    induction m with
    | zero =>
      intro j n hj hm
      obtain ⟨n, rfl⟩ : ∃ q, n = q + 1 := ⟨n - 1, by omega⟩
      rw [frame_row_api_Key_rising.l1, if_neg (by simp; omega), inc_end _ _ _ (by omega)]; rfl
    | succ m ih =>
      intro j n hj hm
      obtain ⟨n, rfl⟩ : ∃ q, n = q + 1 := ⟨n - 1, by omega⟩
      have h1 : j + 1 < l.length := by omega
      have e1 : isub .i64 ((j + 1 : Nat) : Int) 1 = (j : Int) := by rw [sub64 (by omega)]; omega
      have e2 : iadd .i64 ((j + 1 : Nat) : Int) 1 = ((j + 1 + 1 : Nat) : Int) := by rw [add64 (by omega)]; omega
      have a1 : at? l (j : Int) = some l[j] := at_get (by omega)
      have a2 : at? l ((j + 1 : Nat) : Int) = some l[j + 1] := at_get h1
      obtain ⟨c, c1, c2⟩ := bykey_eq l[j] l[j + 1] (hk _ (List.getElem_mem _)) (hk _ (List.getElem_mem _))
      rw [frame_row_api_Key_rising.l1, if_pos (by simp; omega), inc_drop _ _ _ h1]
      simp only [e1, a1, a2, Option.bind_some, c1, c2, e2]
      cases h : ltK l[j] l[j + 1] with
      | true => simp only [Bool.not_true, Bool.false_eq_true, if_false, Bool.true_and]; exact ih (j + 1) n (by omega) (by omega)
      | false => rfl
  unfold frame_row_api_Key_rising
  cases hz : l with
  | nil => rw [frame_row_api_Key_rising.l1, if_neg (by simp)]; rfl
  | cons a t =>
    have := key (l.length - 1) 0 4000 (by rw [hz]; simp; omega) (by omega)
    rw [show ((0 + 1 : Nat) : Int) = 1 from rfl, List.drop_zero, hz] at this
    exact this
theorem ints_rising (l : List Int) (hl : l.length ≤ 100) : frame_row_int_rising 4000 ⟨l, ()⟩ = some (inc ltI l) := by
  have key : ∀ (m j n : Nat), j + 1 + m = l.length → m < n → frame_row_int_rising.l1 4000 ⟨l, ()⟩ n ((j + 1 : Nat) : Int) = some (inc ltI (l.drop j)) := by
    intro m
    induction m with
    | zero =>
      intro j n hj hm
      obtain ⟨n, rfl⟩ : ∃ q, n = q + 1 := ⟨n - 1, by omega⟩
      rw [frame_row_int_rising.l1, if_neg (by simp; omega), inc_end _ _ _ (by omega)]; rfl
    | succ m ih =>
      intro j n hj hm
      obtain ⟨n, rfl⟩ : ∃ q, n = q + 1 := ⟨n - 1, by omega⟩
      have h1 : j + 1 < l.length := by omega
      have e1 : isub .i64 ((j + 1 : Nat) : Int) 1 = (j : Int) := by rw [sub64 (by omega)]; omega
      have e2 : iadd .i64 ((j + 1 : Nat) : Int) 1 = ((j + 1 + 1 : Nat) : Int) := by rw [add64 (by omega)]; omega
      have a1 : at? l (j : Int) = some l[j] := at_get (by omega)
      have a2 : at? l ((j + 1 : Nat) : Int) = some l[j + 1] := at_get h1
      obtain ⟨c, c1, c2⟩ := number_eq l[j] l[j + 1]
      rw [frame_row_int_rising.l1, if_pos (by simp; omega), inc_drop _ _ _ h1]
      simp only [e1, a1, a2, Option.bind_some, c1, c2, e2]
      cases h : ltI l[j] l[j + 1] with
      | true => simp only [Bool.not_true, Bool.false_eq_true, if_false, Bool.true_and]; exact ih (j + 1) n (by omega) (by omega)
      | false => rfl
  unfold frame_row_int_rising
  cases hz : l with
  | nil => rw [frame_row_int_rising.l1, if_neg (by simp)]; rfl
  | cons a t =>
    have := key (l.length - 1) 0 4000 (by rw [hz]; simp; omega) (by omega)
    rw [show ((0 + 1 : Nat) : Int) = 1 from rfl, List.drop_zero, hz] at this
    exact this
theorem boxes_rising (l : List api_Box) (hl : l.length ≤ 100) : frame_row_api_Box_rising 4000 ⟨l, ()⟩ = some (inc ltB l) := by
  have key : ∀ (m j n : Nat), j + 1 + m = l.length → m < n → frame_row_api_Box_rising.l1 4000 ⟨l, ()⟩ n ((j + 1 : Nat) : Int) = some (inc ltB (l.drop j)) := by
    intro m
    induction m with
    | zero =>
      intro j n hj hm
      obtain ⟨n, rfl⟩ : ∃ q, n = q + 1 := ⟨n - 1, by omega⟩
      rw [frame_row_api_Box_rising.l1, if_neg (by simp; omega), inc_end _ _ _ (by omega)]; rfl
    | succ m ih =>
      intro j n hj hm
      obtain ⟨n, rfl⟩ : ∃ q, n = q + 1 := ⟨n - 1, by omega⟩
      have h1 : j + 1 < l.length := by omega
      have e1 : isub .i64 ((j + 1 : Nat) : Int) 1 = (j : Int) := by rw [sub64 (by omega)]; omega
      have e2 : iadd .i64 ((j + 1 : Nat) : Int) 1 = ((j + 1 + 1 : Nat) : Int) := by rw [add64 (by omega)]; omega
      have a1 : at? l (j : Int) = some l[j] := at_get (by omega)
      have a2 : at? l ((j + 1 : Nat) : Int) = some l[j + 1] := at_get h1
      obtain ⟨c, c1, c2⟩ := number_eq l[j].To l[j + 1].To
      have c2' : decide (c ≥ 0) = !ltB l[j] l[j + 1] := c2
      rw [frame_row_api_Box_rising.l1, if_pos (by simp; omega), inc_drop _ _ _ h1]
      simp only [e1, a1, a2, Option.bind_some, frame_boxes_1, c1, c2', e2]
      cases h : ltB l[j] l[j + 1] with
      | true => simp only [Bool.not_true, Bool.false_eq_true, if_false, Bool.true_and]; exact ih (j + 1) n (by omega) (by omega)
      | false => rfl
  unfold frame_row_api_Box_rising
  cases hz : l with
  | nil => rw [frame_row_api_Box_rising.l1, if_neg (by simp)]; rfl
  | cons a t =>
    have := key (l.length - 1) 0 4000 (by rw [hz]; simp; omega) (by omega)
    rw [show ((0 + 1 : Nat) : Int) = 1 from rfl, List.drop_zero, hz] at this
    exact this
theorem whoout_eq (l : List Int) (hl : l.length ≤ 100) : slices_ContainsFunc_int_int_frame_who_1 4000 l = some (l.any (fun v => !mem8 v)) := by
  have key : ∀ (m i n : Nat), i + m = l.length → m < n → ∃ r, slices_IndexFunc_int_int_frame_who_1.l1 4000 l n (i : Int) = some r ∧ decide (r ≥ 0) = (l.drop i).any (fun v => !mem8 v) := by
    intro m
    induction m with
    | zero =>
      intro i n hi hm
      obtain ⟨n, rfl⟩ : ∃ q, n = q + 1 := ⟨n - 1, by omega⟩
      rw [slices_IndexFunc_int_int_frame_who_1.l1, if_neg (by simp; omega), List.drop_eq_nil_of_le (by omega)]; exact ⟨-1, rfl, rfl⟩
    | succ m ih =>
      intro i n hi hm
      obtain ⟨n, rfl⟩ : ∃ q, n = q + 1 := ⟨n - 1, by omega⟩
      have hil : i < l.length := by omega
      have hnext : iadd .i64 (i : Int) 1 = ((i + 1 : Nat) : Int) := by rw [add64 (by omega)]; omega
      rw [slices_IndexFunc_int_int_frame_who_1.l1, if_pos (by simp; omega), at_get hil, List.drop_eq_getElem_cons hil, List.any_cons]
      simp only [Option.bind_some, frame_who_1, member_eq, hnext]
      cases h : mem8 l[i] with
      | true => simp only [Bool.not_true, Bool.false_eq_true, if_false, Bool.false_or]; exact ih (i + 1) n (by omega) (by omega)
      | false => exact ⟨(i : Int), by simp, by simp⟩
  unfold slices_ContainsFunc_int_int_frame_who_1 slices_IndexFunc_int_int_frame_who_1
  obtain ⟨r, h1, h2⟩ := key l.length 0 4000 (by omega) (by omega)
  rw [show ((0 : Nat) : Int) = 0 from rfl] at h1
  rw [List.drop_zero] at h2
  rw [h1]
  simp only [Option.bind_some, h2]
theorem contains_eq (l : List Int) (hl : l.length ≤ 2000) (v : Int) : slices_Contains_int_int 4000 l v = some (l.contains v) := by
  have key : ∀ (m i n : Nat), i + m = l.length → m < n → ∃ r, slices_Index_int_int.l1 4000 l v n (i : Int) = some r ∧ decide (r ≥ 0) = (l.drop i).contains v := by
    intro m
    induction m with
    | zero =>
      intro i n hi hm
      obtain ⟨n, rfl⟩ : ∃ q, n = q + 1 := ⟨n - 1, by omega⟩
      rw [slices_Index_int_int.l1, if_neg (by simp; omega), List.drop_eq_nil_of_le (by omega)]; exact ⟨-1, rfl, rfl⟩
    | succ m ih =>
      intro i n hi hm
      obtain ⟨n, rfl⟩ : ∃ q, n = q + 1 := ⟨n - 1, by omega⟩
      have hil : i < l.length := by omega
      have hnext : iadd .i64 (i : Int) 1 = ((i + 1 : Nat) : Int) := by rw [add64 (by omega)]; omega
      rw [slices_Index_int_int.l1, if_pos (by simp; omega), at_get hil, List.drop_eq_getElem_cons hil, List.contains_cons]
      simp only [Option.bind_some, hnext]
      cases h : (v == l[i]) with
      | true => exact ⟨(i : Int), by simp, by simp⟩
      | false => simp only [Bool.false_eq_true, if_false, Bool.false_or]; exact ih (i + 1) n (by omega) (by omega)
  unfold slices_Contains_int_int slices_Index_int_int
  obtain ⟨r, h1, h2⟩ := key l.length 0 4000 (by omega) (by omega)
  rw [show ((0 : Nat) : Int) = 0 from rfl] at h1
  rw [List.drop_zero] at h2
  rw [h1]
  simp only [Option.bind_some, h2]
def badB (o : api_Op) (b : api_Box) : Bool := !mem8 b.To || b.To == o.Author || decide ((b.Body.length : Int) > 256)
theorem boxbad_eq (o : api_Op) (l : List api_Box) (hl : l.length ≤ 100) : slices_ContainsFunc_api_Box_api_Box_frame_boxes_2 4000 l o = some (l.any (badB o)) := by
  have one : ∀ b, frame_boxes_2 4000 b o = some (badB o b) := fun b => by
    unfold frame_boxes_2 badB
    simp only [member_eq, Option.bind_some]
    cases mem8 b.To <;> cases (b.To == o.Author) <;> rfl
  have key : ∀ (m i n : Nat), i + m = l.length → m < n → ∃ r, slices_IndexFunc_api_Box_api_Box_frame_boxes_2.l1 4000 l o n (i : Int) = some r ∧ decide (r ≥ 0) = (l.drop i).any (badB o) := by
    intro m
    induction m with
    | zero =>
      intro i n hi hm
      obtain ⟨n, rfl⟩ : ∃ q, n = q + 1 := ⟨n - 1, by omega⟩
      rw [slices_IndexFunc_api_Box_api_Box_frame_boxes_2.l1, if_neg (by simp; omega), List.drop_eq_nil_of_le (by omega)]; exact ⟨-1, rfl, rfl⟩
    | succ m ih =>
      intro i n hi hm
      obtain ⟨n, rfl⟩ : ∃ q, n = q + 1 := ⟨n - 1, by omega⟩
      have hil : i < l.length := by omega
      have hnext : iadd .i64 (i : Int) 1 = ((i + 1 : Nat) : Int) := by rw [add64 (by omega)]; omega
      rw [slices_IndexFunc_api_Box_api_Box_frame_boxes_2.l1, if_pos (by simp; omega), at_get hil, List.drop_eq_getElem_cons hil, List.any_cons]
      simp only [Option.bind_some, one, hnext]
      cases h : badB o l[i] with
      | true => exact ⟨(i : Int), by simp, by simp⟩
      | false => simp only [Bool.false_eq_true, if_false, Bool.false_or]; exact ih (i + 1) n (by omega) (by omega)
  unfold slices_ContainsFunc_api_Box_api_Box_frame_boxes_2 slices_IndexFunc_api_Box_api_Box_frame_boxes_2
  obtain ⟨r, h1, h2⟩ := key l.length 0 4000 (by omega) (by omega)
  rw [show ((0 : Nat) : Int) = 0 from rfl] at h1
  rw [List.drop_zero] at h2
  rw [h1]
  simp only [Option.bind_some, h2]
def whoR (o : api_Op) : Bool :=
  (inc ltI o.Who && !o.Who.any (fun v => !mem8 v)) && (if o.Kind = 1 then o.Who.contains o.Author else if o.Kind = 2 ∨ o.Kind = 3 then decide (o.Who.length = 1) && !o.Who.contains o.Author else decide (o.Who.length = 0))
theorem who_eq (o : api_Op) (h : OpFew o) : frame_who 4000 o = some (whoR o) := by
  have hw := h.who
  unfold frame_who whoR
  rw [ints_rising o.Who (by omega)]
  simp only [Option.bind_some]
  cases hi : inc ltI o.Who with
  | false => rfl
  | true =>
    simp only [Bool.not_true, beq_self_eq_true, if_true, whoout_eq o.Who (by omega), Option.bind_some, Bool.true_and, Bool.false_eq_true, if_false]
    cases ha : o.Who.any (fun v => !mem8 v) with
    | true => rfl
    | false =>
      simp only [Bool.false_eq_true, if_false, Bool.not_false, Bool.true_and]
      by_cases k1 : o.Kind = 1
      · rw [if_pos (by simp [k1]), contains_eq _ (by omega), if_pos k1]; rfl
      · rw [if_neg (by simp [k1]), if_neg k1]
        have one : frame_who.j1 4000 o true = some (decide (o.Who.length = 1) && !o.Who.contains o.Author) := by
          unfold frame_who.j1
          rw [if_pos rfl]
          by_cases l1 : o.Who.length = 1
          · match hl : o.Who, l1 with
            | [a], _ =>
              simp only [at?, List.length_singleton, List.contains_cons, List.contains_nil, Bool.or_false]
              by_cases q : a = o.Author
              · subst q; simp
              · have q2 : (o.Author == a) = false := by simp; exact fun e => q e.symm
                simp [q, q2]
          · have l2 : ((o.Who.length : Int) == 1) = false := by simp; omega
            simp [l2, l1]
        have none_ : frame_who.j1 4000 o false = some (decide (o.Who.length = 0)) := by
          unfold frame_who.j1
          rw [if_neg (by simp)]
          congr 1
          by_cases l0 : o.Who.length = 0
          · simp [l0]
          · simp [l0]
        by_cases k2 : o.Kind = 2
        · rw [if_pos (by simp [k2]), show (o.Kind == 2) = true by simp [k2], if_pos (.inl k2)]; exact one
        · rw [if_neg (by simp [k2])]
          by_cases k3 : o.Kind = 3
          · rw [show (o.Kind == 3) = true by simp [k3], if_pos (.inr k3)]; exact one
          · rw [show (o.Kind == 3) = false by simp [k3], if_neg (by rintro (q | q); exact k2 q; exact k3 q)]; exact none_
theorem boxes_eq (o : api_Op) (h : OpFew o) : frame_boxes 4000 o = some (decide (o.Boxes.length ≤ 8) && inc ltB o.Boxes && !o.Boxes.any (badB o)) := by
  have hb := h.boxes
  unfold frame_boxes
  by_cases l8 : o.Boxes.length ≤ 8
  · have e : decide ((o.Boxes.length : Int) ≤ 8) = true := decide_eq_true (by omega)
    rw [e, decide_eq_true l8]
    simp only [beq_self_eq_true, if_true, boxes_rising o.Boxes (by omega), Option.bind_some, Bool.true_and]
    cases inc ltB o.Boxes with
    | true => simp only [beq_self_eq_true, if_true, boxbad_eq o o.Boxes (by omega), Option.bind_some]; rfl
    | false => rfl
  · have e : decide ((o.Boxes.length : Int) ≤ 8) = false := decide_eq_false (by omega)
    rw [e, decide_eq_false l8]; rfl
end Go.Proofs.Pure
end
section
namespace Go.Proofs.Pure
open Go Go.RowKit Go.Proofs.Kit
set_option linter.unusedVariables false
def Z32 : List Int := [0, 0, 0, 0, 0, 0, 0, 0, 0, 0, 0, 0, 0, 0, 0, 0, 0, 0, 0, 0, 0, 0, 0, 0, 0, 0, 0, 0, 0, 0, 0, 0]
def boxR (o : api_Op) : Bool := decide (o.Boxes.length ≤ 8) && inc ltB o.Boxes && !o.Boxes.any (badB o)
def rightO (o : api_Op) : Bool :=
  mem8 o.Author && !(o.Seq == 0) && decide (1 ≤ o.Kind) && decide (o.Kind ≤ 7) && decide (o.Parents.length ≤ 8) && inc ltK o.Parents &&
  (decide (o.Kind = 1) == decide (o.Parents.length = 0)) && (!decide (o.Kind = 1) || o.Seq == 1) && (decide (o.Kind = 5 ∨ o.Kind = 6) == !decide (o.Of = Z32)) &&
  (decide (o.Kind = 7) == decide (o.Check = Z32)) && (decide (o.Kind = 7) == decide (0 < o.Text.length)) && decide (o.Text.length ≤ 256) && whoR o && boxR o
theorem frame_eq (o : api_Op) (h : OpFew o) : frame_Right 4000 o = some (rightO o) := by
  have hp := h.parents
  have hZ : ([0, 0, 0, 0, 0, 0, 0, 0, 0, 0, 0, 0, 0, 0, 0, 0, 0, 0, 0, 0, 0, 0, 0, 0, 0, 0, 0, 0, 0, 0, 0, 0] : List Int) = Z32 := rfl
  have hb := boxes_eq o h
  rw [show (decide (o.Boxes.length ≤ 8) && inc ltB o.Boxes && !o.Boxes.any (badB o)) = boxR o from rfl] at hb
  unfold frame_Right rightO
  simp only [hZ, member_eq, Option.bind_some, keys_rising o.Parents h.keys (by omega), who_eq o h, hb]
  generalize whoR o = W
  generalize boxR o = B
  generalize mem8 o.Author = M
  generalize inc ltK o.Parents = PR
  generalize hOF : decide (o.Of = Z32) = OF
  generalize hCK : decide (o.Check = Z32) = CK
  have eP : decide ((o.Parents.length : Int) > 8) = !decide (o.Parents.length ≤ 8) := by
    by_cases q : o.Parents.length ≤ 8
    · rw [decide_eq_true q, decide_eq_false (by omega)]; rfl
    · rw [decide_eq_false q, decide_eq_true (by omega)]; rfl
  have eP0 : ((o.Parents.length : Int) == 0) = decide (o.Parents.length = 0) := by
    by_cases q : o.Parents.length = 0
    · rw [decide_eq_true q, q]; rfl
    · rw [decide_eq_false q]; simp; exact fun e => q (by rw [e]; rfl)
  have eT : decide ((o.Text.length : Int) > 256) = !decide (o.Text.length ≤ 256) := by
    by_cases q : o.Text.length ≤ 256
    · rw [decide_eq_true q, decide_eq_false (by omega)]; rfl
    · rw [decide_eq_false q, decide_eq_true (by omega)]; rfl
  have eT0 : decide ((o.Text.length : Int) > 0) = decide (0 < o.Text.length) := by
    by_cases q : 0 < o.Text.length
    · rw [decide_eq_true q, decide_eq_true (by omega)]
    · rw [decide_eq_false q, decide_eq_false (by omega)]
  rw [eP, eP0, eT, eT0]
  generalize decide (o.Parents.length ≤ 8) = P8
  generalize decide (o.Parents.length = 0) = P0
  generalize decide (o.Text.length ≤ 256) = T8
  generalize decide (0 < o.Text.length) = T0
  generalize o.Seq = S
  generalize o.Kind = K
  cases M with
  | false => rfl
  | true =>
  by_cases hS : S = 0
  · simp [hS]
  have eS : (S == 0) = false := by simpa using hS
  rw [eS]
  by_cases k0 : K < 1
  · simp [k0]; omega
  by_cases k7 : K > 7
  · simp [k7]; omega
  rw [decide_eq_false k0, decide_eq_false k7, decide_eq_true (show 1 ≤ K by omega), decide_eq_true (show K ≤ 7 by omega)]
  cases P8 with
  | false => rfl
  | true =>
  cases PR with
  | false => rfl
  | true =>
  cases T8 with
  | false =>
    simp
  | true =>
  have hk : K = 1 ∨ K = 2 ∨ K = 3 ∨ K = 4 ∨ K = 5 ∨ K = 6 ∨ K = 7 := by omega
  have e1 : (S == 1) = decide (S = 1) := by by_cases q : S = 1 <;> simp [q]
  have e2 : (S != 1) = !decide (S = 1) := by by_cases q : S = 1 <;> simp [q]
  rw [e1, e2]
  generalize decide (S = 1) = S1
  rcases hk with rfl | rfl | rfl | rfl | rfl | rfl | rfl <;> (cases P0 <;> cases S1 <;> cases OF <;> cases CK <;> cases T0 <;> cases W <;> cases B <;> rfl)
end Go.Proofs.Pure
end
section
namespace Go.Proofs.Pure
open Go Go.RowKit Go.Proofs.Kit
set_option linter.unusedVariables false
theorem less_eq (a b : List Int) (ha : a.length = 32) (hb : b.length = 32) : cabalref11_Less 4000 a b = some (ltK a b) := by
  have key : ∀ (m i n : Nat), i + m = 32 → m < n → cabalref11_Less.l1 4000 a b n (i : Int) = some (decide (cmpB (a.drop i) (b.drop i) < 0)) := by
    intro m
    induction m with
    | zero =>
      intro i n hi hm
      obtain ⟨n, rfl⟩ : ∃ q, n = q + 1 := ⟨n - 1, by omega⟩
      rw [cabalref11_Less.l1, if_neg (by simp; omega), List.drop_eq_nil_of_le (by omega), List.drop_eq_nil_of_le (by omega)]; rfl
    | succ m ih =>
      intro i n hi hm
      obtain ⟨n, rfl⟩ : ∃ q, n = q + 1 := ⟨n - 1, by omega⟩
      have hia : i < a.length := by omega
      have hib : i < b.length := by omega
      have hnext : iadd .i64 (i : Int) 1 = ((i + 1 : Nat) : Int) := by rw [add64 (by omega)]; omega
      have hr : (0 : Int) ≤ (i : Int) ∧ (i : Int) < 32 := by omega
      rw [cabalref11_Less.l1, if_pos (by simp; omega), List.drop_eq_getElem_cons hia, List.drop_eq_getElem_cons hib]
      simp only [if_pos hr, at_get hia, at_get hib, Option.bind_some, hnext]
      unfold cmpB
      by_cases q : a[i] = b[i]
      · rw [if_neg (by simp [q]), if_pos q]
        exact ih (i + 1) n (by omega) (by omega)
      · rw [if_pos (by simp [q]), if_neg q]
        by_cases g : a[i] < b[i]
        · rw [if_pos g, decide_eq_true g]; rfl
        · rw [if_neg g, decide_eq_false g]; rfl
  unfold cabalref11_Less
  have := key 32 0 4000 (by omega) (by omega)
  rw [show ((0 : Nat) : Int) = 0 from rfl, List.drop_zero, List.drop_zero] at this
  exact this
theorem rright_l3 (o : api_Op) (h : OpFew o) : ∀ (m j n : Nat), j + 1 + m = o.Parents.length → m < n → cabalref11_Right.l3 4000 o n ((j + 1 : Nat) : Int) = if inc ltK (o.Parents.drop j) = true then cabalref11_Right.j1 4000 o else some false := by
  have hp := h.parents
  intro m
  induction m with
  | zero =>
    intro j n hj hm
    obtain ⟨n, rfl⟩ : ∃ q, n = q + 1 := ⟨n - 1, by omega⟩
    rw [cabalref11_Right.l3, if_neg (by simp; omega), inc_end _ _ _ (by omega), if_pos rfl]
  | succ m ih =>
    intro j n hj hm
    obtain ⟨n, rfl⟩ : ∃ q, n = q + 1 := ⟨n - 1, by omega⟩
    have h1 : j + 1 < o.Parents.length := by omega
    have e1 : isub .i64 ((j + 1 : Nat) : Int) 1 = (j : Int) := by rw [sub64 (by omega)]; omega
    have e2 : iadd .i64 ((j + 1 : Nat) : Int) 1 = ((j + 1 + 1 : Nat) : Int) := by rw [add64 (by omega)]; omega
    have a1 : at? o.Parents (j : Int) = some o.Parents[j] := at_get (by omega)
    have a2 : at? o.Parents ((j + 1 : Nat) : Int) = some o.Parents[j + 1] := at_get h1
    rw [cabalref11_Right.l3, if_pos (by simp; omega), inc_drop _ _ _ h1]
    simp only [e1, a1, a2, Option.bind_some, less_eq _ _ (h.keys _ (List.getElem_mem _)) (h.keys _ (List.getElem_mem _)), e2]
    cases ltK o.Parents[j] o.Parents[j + 1] with
    | true => simp only [Bool.not_true, Bool.false_eq_true, if_false, Bool.true_and]; exact ih (j + 1) n (by omega) (by omega)
    | false => rfl
theorem rright_l2 (o : api_Op) (h : OpFew o) : ∀ (m i n : Nat) (b : Bool), i + m = o.Who.length → m < n → cabalref11_Right.l2 4000 o n b (i : Int) = if ((o.Who.drop i).all mem8 && inc ltI (o.Who.drop (i - 1))) = true then cabalref11_Right.j2 4000 o (b || (o.Who.drop i).contains o.Author) else some false := by
  have hp := h.who
  intro m
  induction m with
  | zero =>
    intro i n b hi hm
    obtain ⟨n, rfl⟩ : ∃ q, n = q + 1 := ⟨n - 1, by omega⟩
    rw [cabalref11_Right.l2, if_neg (by simp; omega), inc_end _ _ _ (by omega), List.drop_eq_nil_of_le (by omega)]
    simp
  | succ m ih =>
    intro i n b hi hm
    obtain ⟨n, rfl⟩ : ∃ q, n = q + 1 := ⟨n - 1, by omega⟩
    have hil : i < o.Who.length := by omega
    have hnext : iadd .i64 (i : Int) 1 = ((i + 1 : Nat) : Int) := by rw [add64 (by omega)]; omega
    have ec : (o.Who.drop i).contains o.Author = ((o.Who[i] == o.Author) || (o.Who.drop (i + 1)).contains o.Author) := by
      rw [List.drop_eq_getElem_cons hil, List.contains_cons, Bool.beq_comm]
    have ea : (o.Who.drop i).all mem8 = (mem8 o.Who[i] && (o.Who.drop (i + 1)).all mem8) := by
      rw [List.drop_eq_getElem_cons hil, List.all_cons]
    rw [cabalref11_Right.l2, if_pos (by simp; omega)]
    simp only [at_get hil, Option.bind_some, rmember_eq]
    have fin : ∀ b' : Bool, (if (b' == false) = true then some o.Who[i] else some 0).bind (fun x16 => cabalref11_Right.l2 4000 o n (if b' = true then true else x16 == o.Author) (iadd .i64 (i : Int) 1)) = cabalref11_Right.l2 4000 o n (b' || (o.Who[i] == o.Author)) ((i + 1 : Nat) : Int) := fun b' => by
      rw [hnext]; cases b' <;> rfl
    rw [ea, ec]
    cases hm8 : mem8 o.Who[i] with
    | false => rfl
    | true =>
      cases i with
      | zero =>
        have d0 : decide (((0 : Nat) : Int) > 0) = false := rfl
        rw [d0]
        simp only [Bool.not_true, beq_self_eq_true, Bool.false_eq_true, Bool.and_false, if_false, Option.bind_some, Bool.true_and, (by decide : (false == true) = false)]
        refine (fin b).trans ?_
        rw [ih 1 n _ (by omega) (by omega), Bool.or_assoc]
      | succ i =>
        have d1 : decide (((i + 1 : Nat) : Int) > 0) = true := decide_eq_true (by omega)
        have e1 : isub .i64 ((i + 1 : Nat) : Int) 1 = (i : Int) := by rw [sub64 (by omega)]; omega
        have a1 : at? o.Who (i : Int) = some o.Who[i] := at_get (by omega)
        have ei : inc ltI (o.Who.drop (i + 1 - 1)) = (ltI o.Who[i] o.Who[i + 1] && inc ltI (o.Who.drop (i + 1))) := inc_drop _ _ _ hil
        rw [d1, ei]
        simp only [Bool.not_true, beq_self_eq_true, Bool.and_self, if_true, e1, a1, Option.bind_some, Bool.false_eq_true, if_false, Bool.true_and]
        have el : decide (o.Who[i] ≥ o.Who[i + 1]) = !ltI o.Who[i] o.Who[i + 1] := by
          unfold ltI
          by_cases q : o.Who[i] < o.Who[i + 1]
          · rw [decide_eq_true q, decide_eq_false (by omega)]; rfl
          · rw [decide_eq_false q, decide_eq_true (by omega)]; rfl
        rw [el]
        cases ltI o.Who[i] o.Who[i + 1] with
        | false => simp
        | true =>
          simp only [Bool.not_true, Bool.false_eq_true, if_false, Bool.true_and]
          refine (fin b).trans ?_
          rw [ih (i + 1 + 1) n _ (by omega) (by omega), Bool.or_assoc]
          rfl
theorem rright_l1 (o : api_Op) (h : OpFew o) (y : Bool) : ∀ (m i n : Nat), i + m = o.Boxes.length → m < n → cabalref11_Right.l1 4000 o y n (i : Int) = if (!(o.Boxes.drop i).any (badB o) && inc ltB (o.Boxes.drop (i - 1))) = true then cabalref11_Right.j3 4000 o y else some false := by
  have hp := h.boxes
  intro m
  induction m with
  | zero =>
    intro i n hi hm
    obtain ⟨n, rfl⟩ : ∃ q, n = q + 1 := ⟨n - 1, by omega⟩
    rw [cabalref11_Right.l1, if_neg (by simp; omega), inc_end _ _ _ (by omega), List.drop_eq_nil_of_le (by omega)]
    simp
  | succ m ih =>
    intro i n hi hm
    obtain ⟨n, rfl⟩ : ∃ q, n = q + 1 := ⟨n - 1, by omega⟩
    have hil : i < o.Boxes.length := by omega
    have hnext : iadd .i64 (i : Int) 1 = ((i + 1 : Nat) : Int) := by rw [add64 (by omega)]; omega
    have ea : (o.Boxes.drop i).any (badB o) = (badB o o.Boxes[i] || (o.Boxes.drop (i + 1)).any (badB o)) := by
      rw [List.drop_eq_getElem_cons hil, List.any_cons]
    have eb : (if (if (!mem8 o.Boxes[i].To) = true then true else (o.Boxes[i].To == o.Author)) = true then true else decide ((o.Boxes[i].Body.length : Int) > 256)) = badB o o.Boxes[i] := by
      unfold badB
      cases mem8 o.Boxes[i].To <;> cases (o.Boxes[i].To == o.Author) <;> rfl
    rw [cabalref11_Right.l1, if_pos (by simp; omega)]
    simp only [at_get hil, Option.bind_some, rmember_eq, eb, ea, hnext]
    cases badB o o.Boxes[i] with
    | true =>
      simp
    | false =>
      cases i with
      | zero =>
        have d0 : decide (((0 : Nat) : Int) > 0) = false := rfl
        rw [d0]
        simp only [beq_self_eq_true, Bool.and_false, Bool.false_eq_true, if_false, Option.bind_some, Bool.false_or, (by decide : (false == true) = false)]
        exact ih 1 n (by omega) (by omega)
      | succ i =>
        have d1 : decide (((i + 1 : Nat) : Int) > 0) = true := decide_eq_true (by omega)
        have e1 : isub .i64 ((i + 1 : Nat) : Int) 1 = (i : Int) := by rw [sub64 (by omega)]; omega
        have a1 : at? o.Boxes (i : Int) = some o.Boxes[i] := at_get (by omega)
        have ei : inc ltB (o.Boxes.drop (i + 1 - 1)) = (ltB o.Boxes[i] o.Boxes[i + 1] && inc ltB (o.Boxes.drop (i + 1))) := inc_drop _ _ _ hil
        rw [d1, ei]
        simp only [beq_self_eq_true, Bool.and_self, if_true, e1, a1, Option.bind_some, Bool.false_eq_true, if_false, Bool.false_or]
        have el : decide (o.Boxes[i].To ≥ o.Boxes[i + 1].To) = !ltB o.Boxes[i] o.Boxes[i + 1] := by
          unfold ltB
          by_cases q : o.Boxes[i].To < o.Boxes[i + 1].To
          · rw [decide_eq_true q, decide_eq_false (by omega)]; rfl
          · rw [decide_eq_false q, decide_eq_true (by omega)]; rfl
        rw [el]
        cases ltB o.Boxes[i] o.Boxes[i + 1] with
        | false => simp
        | true =>
          simp only [Bool.not_true, Bool.false_eq_true, if_false, Bool.true_and]
          exact ih (i + 1 + 1) n (by omega) (by omega)
def kindR (o : api_Op) (y : Bool) : Bool :=
  if decide (o.Kind = 1) && (!y || !decide (o.Parents.length = 0) || !(o.Seq == 1)) || !decide (o.Kind = 1) && decide (o.Parents.length = 0) then false
  else if decide (o.Kind = 2 ∨ o.Kind = 3) && (y || !decide (o.Who.length = 1)) || decide (3 < o.Kind) && !decide (o.Who.length = 0) then false
  else if decide (o.Kind = 5 ∨ o.Kind = 6) == decide (o.Of = Z32) then false
  else if o.Kind = 7 then decide (o.Check = Z32) && decide (0 < o.Text.length) else !decide (o.Check = Z32) && !decide (0 < o.Text.length)
theorem kind_eq (o : api_Op) (y : Bool) : cabalref11_kind 4000 o y = some (kindR o y) := by
  have hZ : ([0, 0, 0, 0, 0, 0, 0, 0, 0, 0, 0, 0, 0, 0, 0, 0, 0, 0, 0, 0, 0, 0, 0, 0, 0, 0, 0, 0, 0, 0, 0, 0] : List Int) = Z32 := rfl
  have eP0 : ((o.Parents.length : Int) == 0) = decide (o.Parents.length = 0) := by
    by_cases q : o.Parents.length = 0
    · rw [decide_eq_true q, q]; rfl
    · rw [decide_eq_false q]; simp; exact fun e => q (by rw [e]; rfl)
  have eP1 : decide ((o.Parents.length : Int) > 0) = !decide (o.Parents.length = 0) := by
    by_cases q : o.Parents.length = 0
    · rw [decide_eq_true q, decide_eq_false (by omega)]; rfl
    · rw [decide_eq_false q, decide_eq_true (by omega)]; rfl
  have eW0 : decide ((o.Who.length : Int) > 0) = !decide (o.Who.length = 0) := by
    by_cases q : o.Who.length = 0
    · rw [decide_eq_true q, decide_eq_false (by omega)]; rfl
    · rw [decide_eq_false q, decide_eq_true (by omega)]; rfl
  have eW1 : ((o.Who.length : Int) != 1) = !decide (o.Who.length = 1) := by
    by_cases q : o.Who.length = 1
    · rw [decide_eq_true q, q]; rfl
    · rw [decide_eq_false q]; simp; omega
  have eT0 : decide ((o.Text.length : Int) > 0) = decide (0 < o.Text.length) := by
    by_cases q : 0 < o.Text.length
    · rw [decide_eq_true q, decide_eq_true (by omega)]
    · rw [decide_eq_false q, decide_eq_false (by omega)]
  have eT1 : ((o.Text.length : Int) == 0) = !decide (0 < o.Text.length) := by
    by_cases q : 0 < o.Text.length
    · rw [decide_eq_true q]; simp; exact List.ne_nil_of_length_pos q
    · rw [decide_eq_false q, show o.Text.length = 0 by omega]; rfl
  unfold cabalref11_kind kindR
  simp only [hZ, Option.bind_some]
  rw [eP0, eP1, eW0, eW1, eT0, eT1]
  have e1 : (o.Seq == 1) = decide (o.Seq = 1) := by by_cases q : o.Seq = 1 <;> simp [q]
  have e2 : (o.Seq != 1) = !decide (o.Seq = 1) := by by_cases q : o.Seq = 1 <;> simp [q]
  rw [e1, e2]
  generalize decide (o.Of = Z32) = OF
  generalize decide (o.Check = Z32) = CK
  generalize decide (o.Parents.length = 0) = P0
  generalize decide (o.Who.length = 0) = W0
  generalize decide (o.Who.length = 1) = W1
  generalize decide (0 < o.Text.length) = T0
  generalize decide (o.Seq = 1) = S1
  generalize o.Kind = K
  by_cases k1 : K = 1
  · subst k1; revert y P0 S1 OF CK T0 W0 W1; decide
  by_cases k2 : K = 2
  · subst k2; revert y P0 S1 OF CK T0 W0 W1; decide
  by_cases k3 : K = 3
  · subst k3; revert y P0 S1 OF CK T0 W0 W1; decide
  by_cases k5 : K = 5
  · subst k5; revert y P0 S1 OF CK T0 W0 W1; decide
  by_cases k6 : K = 6
  · subst k6; revert y P0 S1 OF CK T0 W0 W1; decide
  by_cases k7 : K = 7
  · subst k7; revert y P0 S1 OF CK T0 W0 W1; decide
  have b1 : (K == 1) = false := by simpa using k1
  have b2 : (K == 2) = false := by simpa using k2
  have b3 : (K == 3) = false := by simpa using k3
  have b5 : (K == 5) = false := by simpa using k5
  have b6 : (K == 6) = false := by simpa using k6
  have b7 : (K == 7) = false := by simpa using k7
  have n1 : (K != 1) = true := by simpa using k1
  have c23 : decide (K = 2 ∨ K = 3) = false := decide_eq_false (by omega)
  have c56 : decide (K = 5 ∨ K = 6) = false := decide_eq_false (by omega)
  rw [b1, b2, b3, b5, b6, b7, n1, c23, c56, decide_eq_false k1, if_neg k7, show decide (K > 3) = decide (3 < K) from rfl]
  generalize decide (3 < K) = K3
  revert y P0 S1 OF CK T0 W0 W1 K3
  decide
theorem doc_eq (o : api_Op) (h : OpFew o) : cabalref11_Right 4000 o = some (rightO o) := by
  have hp := h.parents
  have hw := h.who
  have hb := h.boxes
  have t3 : cabalref11_Right.l3 4000 o 4000 1 = if inc ltK o.Parents = true then cabalref11_Right.j1 4000 o else some false := by
    by_cases q : o.Parents.length = 0
    · have q2 := List.eq_nil_of_length_eq_zero q
      rw [cabalref11_Right.l3, if_neg (by rw [q2]; simp), q2]; rfl
    · have := rright_l3 o h (o.Parents.length - 1) 0 4000 (by omega) (by omega)
      rw [show ((0 + 1 : Nat) : Int) = 1 from rfl, List.drop_zero] at this
      exact this
  have t2 : cabalref11_Right.j1 4000 o = if (o.Who.all mem8 && inc ltI o.Who) = true then cabalref11_Right.j2 4000 o (o.Who.contains o.Author) else some false := by
    have := rright_l2 o h o.Who.length 0 4000 false (by omega) (by omega)
    rw [show ((0 : Nat) : Int) = 0 from rfl, Nat.zero_sub, List.drop_zero, Bool.false_or] at this
    rw [cabalref11_Right.j1, this]
  have t1 : cabalref11_Right.j2 4000 o (o.Who.contains o.Author) = if (!o.Boxes.any (badB o) && inc ltB o.Boxes) = true then some (kindR o (o.Who.contains o.Author)) else some false := by
    have := rright_l1 o h (o.Who.contains o.Author) o.Boxes.length 0 4000 (by omega) (by omega)
    rw [show ((0 : Nat) : Int) = 0 from rfl, Nat.zero_sub, List.drop_zero] at this
    rw [cabalref11_Right.j2, this, cabalref11_Right.j3, kind_eq]; rfl
  unfold cabalref11_Right rightO
  simp only [rmember_eq, Option.bind_some, t3, t2, t1]
  have eP : decide ((o.Parents.length : Int) > 8) = !decide (o.Parents.length ≤ 8) := by
    by_cases q : o.Parents.length ≤ 8
    · rw [decide_eq_true q, decide_eq_false (by omega)]; rfl
    · rw [decide_eq_false q, decide_eq_true (by omega)]; rfl
  have eB : decide ((o.Boxes.length : Int) > 8) = !decide (o.Boxes.length ≤ 8) := by
    by_cases q : o.Boxes.length ≤ 8
    · rw [decide_eq_true q, decide_eq_false (by omega)]; rfl
    · rw [decide_eq_false q, decide_eq_true (by omega)]; rfl
  have eT : decide ((o.Text.length : Int) > 256) = !decide (o.Text.length ≤ 256) := by
    by_cases q : o.Text.length ≤ 256
    · rw [decide_eq_true q, decide_eq_false (by omega)]; rfl
    · rw [decide_eq_false q, decide_eq_true (by omega)]; rfl
  have eA : o.Who.all mem8 = !o.Who.any (fun v => !mem8 v) := by
    rw [List.all_eq_not_any_not]
  rw [eP, eB, eT, eA]
  unfold kindR whoR boxR
  have e1 : (o.Seq == 1) = decide (o.Seq = 1) := by by_cases q : o.Seq = 1 <;> simp [q]
  rw [e1]
  generalize mem8 o.Author = M
  generalize inc ltK o.Parents = PR
  generalize inc ltI o.Who = WR
  generalize o.Who.any (fun v => !mem8 v) = WA
  generalize o.Who.contains o.Author = WC
  generalize inc ltB o.Boxes = BR
  generalize o.Boxes.any (badB o) = BA
  generalize decide (o.Boxes.length ≤ 8) = B8
  generalize decide (o.Parents.length ≤ 8) = P8
  generalize decide (o.Text.length ≤ 256) = T8
  generalize decide (o.Of = Z32) = OF
  generalize decide (o.Check = Z32) = CK
  generalize decide (o.Parents.length = 0) = P0
  generalize decide (o.Who.length = 0) = W0
  generalize decide (o.Who.length = 1) = W1
  generalize decide (0 < o.Text.length) = T0
  generalize decide (o.Seq = 1) = S1
  generalize o.Seq = S
  generalize o.Kind = K
  cases M with
  | false => rfl
  | true =>
  by_cases hS : S = 0
  · simp [hS]
  have eS : (S == 0) = false := by simpa using hS
  rw [eS]
  by_cases k0 : K < 1
  · simp [k0]; omega
  by_cases k7 : K > 7
  · simp [k7]; omega
  rw [decide_eq_false k0, decide_eq_false k7, decide_eq_true (show 1 ≤ K by omega), decide_eq_true (show K ≤ 7 by omega)]
  cases P8 with
  | false => rfl
  | true =>
  cases B8 with
  | false => simp
  | true =>
  cases T8 with
  | false => simp
  | true =>
  cases PR with
  | false => rfl
  | true =>
  cases WR with
  | false => simp
  | true =>
  cases WA with
  | true => simp
  | false =>
  cases BA with
  | true => simp
  | false =>
  cases BR with
  | false => simp
  | true =>
  have hk : K = 1 ∨ K = 2 ∨ K = 3 ∨ K = 4 ∨ K = 5 ∨ K = 6 ∨ K = 7 := by omega
  rcases hk with rfl | rfl | rfl | rfl | rfl | rfl | rfl <;> (revert P0 S1 OF CK T0 W0 W1 WC; decide)
end Go.Proofs.Pure
end
section
namespace Go.Proofs.Pure
open Go Go.RowKit Go.Proofs.Kit
set_option linter.unusedVariables false
structure NodeFew (x : api_Node) : Prop where
  op : OpFew x.Op
  past : x.Past.length ≤ 200
structure Few (p : List api_Node) : Prop where
  len : p.length ≤ 110
  each : ∀ x ∈ p, NodeFew x
theorem Few.take {p : List api_Node} (h : Few p) (i : Nat) : Few (p.take i) := ⟨by rw [List.length_take]; have := h.len; omega, fun x hx => h.each x (List.mem_of_mem_take hx)⟩
end Go.Proofs.Pure
end
section
namespace Go.Proofs.Pure
open Go Go.RowKit Go.Proofs.Kit
set_option linter.unusedVariables false
theorem gop_l1 (o : api_Op) (h : o.Boxes.length ≤ 30) : ∀ (m i n : Nat), i + m = o.Boxes.length → m < n → ∃ b, cabalref11_Great.l1 4000 o n (i : Int) = some b := by
  intro m
  induction m with
  | zero =>
    intro i n hi hm
    obtain ⟨n, rfl⟩ : ∃ q, n = q + 1 := ⟨n - 1, by omega⟩
    rw [cabalref11_Great.l1, if_neg (by simp; omega)]; exact ⟨_, rfl⟩
  | succ m ih =>
    intro i n hi hm
    obtain ⟨n, rfl⟩ : ∃ q, n = q + 1 := ⟨n - 1, by omega⟩
    have hil : i < o.Boxes.length := by omega
    have hnext : iadd .i64 (i : Int) 1 = ((i + 1 : Nat) : Int) := by rw [add64 (by omega)]; omega
    rw [cabalref11_Great.l1, if_pos (by simp; omega), at_get hil]
    simp only [Option.bind_some, hnext]
    split
    · exact ⟨_, rfl⟩
    · exact ih (i + 1) n (by omega) (by omega)
theorem gop_eq (o : api_Op) : ∃ b, cabalref11_Great 4000 o = some b ∧ (b = false → o.Parents.length ≤ 30 ∧ o.Who.length ≤ 30 ∧ o.Boxes.length ≤ 30 ∧ o.Text.length ≤ 600) := by
  unfold cabalref11_Great
  simp only [Option.bind_some]
  by_cases c : o.Parents.length ≤ 30 ∧ o.Who.length ≤ 30 ∧ o.Boxes.length ≤ 30 ∧ o.Text.length ≤ 600
  · obtain ⟨b, hb⟩ := gop_l1 o c.2.2.1 o.Boxes.length 0 4000 (by omega) (by omega)
    rw [show ((0 : Nat) : Int) = 0 from rfl] at hb
    rw [decide_eq_false (show ¬ (o.Parents.length : Int) > 30 by omega), decide_eq_false (show ¬ (o.Who.length : Int) > 30 by omega), decide_eq_false (show ¬ (o.Boxes.length : Int) > 30 by omega), decide_eq_false (show ¬ (o.Text.length : Int) > 600 by omega)]
    simp only [Bool.false_eq_true, if_false]
    exact ⟨b, hb, fun _ => c⟩
  · refine ⟨true, ?_, fun h => by cases h⟩
    rw [if_pos]
    by_cases p1 : o.Parents.length ≤ 30
    · by_cases p2 : o.Who.length ≤ 30
      · by_cases p3 : o.Boxes.length ≤ 30
        · have p4 : ¬ o.Text.length ≤ 600 := fun p4 => c ⟨p1, p2, p3, p4⟩
          have : decide ((o.Text.length : Int) > 600) = true := decide_eq_true (by omega)
          simp only [this, ite_self]
        · have : decide ((o.Boxes.length : Int) > 30) = true := decide_eq_true (by omega)
          rw [this]; simp
      · have : decide ((o.Who.length : Int) > 30) = true := decide_eq_true (by omega)
        rw [this]; simp
    · have : decide ((o.Parents.length : Int) > 30) = true := decide_eq_true (by omega)
      rw [this]; simp
theorem op_keys {o : api_Op} (h : Fine k_api_Op o) : ∀ q ∈ o.Parents, q.length = 32 := by
  have h1 := Fine.iso h
  obtain ⟨_, h2⟩ := Fine.pair h1
  obtain ⟨_, h3⟩ := Fine.pair h2
  obtain ⟨h4, _⟩ := Fine.pair h3
  exact fun q hq => (Fine.arr ((Fine.sl h4).2 q hq)).1
end Go.Proofs.Pure
end
section
namespace Go.Proofs.Pure
open Go Go.RowKit Go.Proofs.Kit
set_option linter.unusedVariables false
end Go.Proofs.Pure
end
section
namespace Go.Proofs.Pure
open Go Go.RowKit Go.Proofs.Kit
set_option linter.unusedVariables false
end Go.Proofs.Pure
end
section
namespace Go.Proofs.Pure
open Go Go.RowKit Go.Proofs.Kit
set_option linter.unusedVariables false
theorem dec_cons {α : Type} [DecidableEq α] {a b : List α} {i : Nat} (ha : i < a.length) (hb : i < b.length) : decide (a.drop i = b.drop i) = (decide (a[i] = b[i]) && decide (a.drop (i + 1) = b.drop (i + 1))) := by
  rw [Bool.eq_iff_iff, Bool.and_eq_true, decide_eq_true_eq, decide_eq_true_eq, decide_eq_true_eq, List.drop_eq_getElem_cons ha, List.drop_eq_getElem_cons hb, List.cons.injEq]
theorem dec_len {α : Type} [DecidableEq α] {a b : List α} (h : ¬ a.length = b.length) : decide (a = b) = false := decide_eq_false (fun e => h (by rw [e]))
theorem dec_op (a b : api_Op) : decide (a = b) = (decide (a.Author = b.Author) && decide (a.Seq = b.Seq) && decide (a.Kind = b.Kind) && decide (a.Of = b.Of) && decide (a.Check = b.Check) && decide (a.Text = b.Text) && decide (a.Parents = b.Parents) && decide (a.Who = b.Who) && decide (a.Boxes = b.Boxes)) := by
  rw [Bool.eq_iff_iff]
  simp only [Bool.and_eq_true, decide_eq_true_eq]
  constructor
  · intro h; subst h; simp
  · rintro ⟨⟨⟨⟨⟨⟨⟨⟨h1, h2⟩, h3⟩, h4⟩, h5⟩, h6⟩, h7⟩, h8⟩, h9⟩
    cases a; cases b; simp_all
theorem sop_l1 (k : Nat) (a b : api_Op) (hn : a.Boxes.length ≤ 30) (hl : a.Boxes.length = b.Boxes.length) : ∀ (m i n : Nat), i + m = a.Boxes.length → m < n → cabalref11_SameOp.l1 k a b n (i : Int) = some (decide (a.Boxes.drop i = b.Boxes.drop i)) := by
  intro m
  induction m with
  | zero =>
    intro i n hi hm
    obtain ⟨n, rfl⟩ : ∃ q, n = q + 1 := ⟨n - 1, by omega⟩
    rw [cabalref11_SameOp.l1, if_neg (by simp; omega), List.drop_eq_nil_of_le (by omega), List.drop_eq_nil_of_le (by omega)]; rfl
  | succ m ih =>
    intro i n hi hm
    obtain ⟨n, rfl⟩ : ∃ q, n = q + 1 := ⟨n - 1, by omega⟩
    have ha : i < a.Boxes.length := by omega
    have hb : i < b.Boxes.length := by omega
    have hnext : iadd .i64 (i : Int) 1 = ((i + 1 : Nat) : Int) := by rw [add64 (by omega)]; omega
    rw [cabalref11_SameOp.l1, if_pos (by simp; omega), at_get ha, at_get hb, dec_cons ha hb]
    simp only [Option.bind_some, hnext]
    cases decide (a.Boxes[i] = b.Boxes[i]) with
    | true => simp only [Bool.not_true, Bool.false_eq_true, if_false, Bool.true_and]; exact ih (i + 1) n (by omega) (by omega)
    | false => rfl
theorem sop_l2 (k : Nat) (a b : api_Op) (hn : a.Who.length ≤ 30) (hl : a.Who.length = b.Who.length) : ∀ (m i n : Nat), i + m = a.Who.length → m < n → cabalref11_SameOp.l2 k a b n (i : Int) = if decide (a.Who.drop i = b.Who.drop i) = true then cabalref11_SameOp.j2 k a b else some false := by
  intro m
  induction m with
  | zero =>
    intro i n hi hm
    obtain ⟨n, rfl⟩ : ∃ q, n = q + 1 := ⟨n - 1, by omega⟩
    rw [cabalref11_SameOp.l2, if_neg (by simp; omega), List.drop_eq_nil_of_le (by omega), List.drop_eq_nil_of_le (by omega)]; rfl
  | succ m ih =>
    intro i n hi hm
    obtain ⟨n, rfl⟩ : ∃ q, n = q + 1 := ⟨n - 1, by omega⟩
    have ha : i < a.Who.length := by omega
    have hb : i < b.Who.length := by omega
    have hnext : iadd .i64 (i : Int) 1 = ((i + 1 : Nat) : Int) := by rw [add64 (by omega)]; omega
    have en : (a.Who[i] != b.Who[i]) = !decide (a.Who[i] = b.Who[i]) := by by_cases q : a.Who[i] = b.Who[i] <;> simp [q]
    rw [cabalref11_SameOp.l2, if_pos (by simp; omega), at_get ha, at_get hb, dec_cons ha hb]
    simp only [Option.bind_some, hnext, en]
    cases decide (a.Who[i] = b.Who[i]) with
    | true => simp only [Bool.not_true, Bool.false_eq_true, if_false, Bool.true_and]; exact ih (i + 1) n (by omega) (by omega)
    | false => rfl
theorem sop_l3 (k : Nat) (a b : api_Op) (hn : a.Parents.length ≤ 30) (hl : a.Parents.length = b.Parents.length) : ∀ (m i n : Nat), i + m = a.Parents.length → m < n → cabalref11_SameOp.l3 k a b n (i : Int) = if decide (a.Parents.drop i = b.Parents.drop i) = true then cabalref11_SameOp.j1 k a b else some false := by
  intro m
  induction m with
  | zero =>
    intro i n hi hm
    obtain ⟨n, rfl⟩ : ∃ q, n = q + 1 := ⟨n - 1, by omega⟩
    rw [cabalref11_SameOp.l3, if_neg (by simp; omega), List.drop_eq_nil_of_le (by omega), List.drop_eq_nil_of_le (by omega)]; rfl
  | succ m ih =>
    intro i n hi hm
    obtain ⟨n, rfl⟩ : ∃ q, n = q + 1 := ⟨n - 1, by omega⟩
    have ha : i < a.Parents.length := by omega
    have hb : i < b.Parents.length := by omega
    have hnext : iadd .i64 (i : Int) 1 = ((i + 1 : Nat) : Int) := by rw [add64 (by omega)]; omega
    rw [cabalref11_SameOp.l3, if_pos (by simp; omega), at_get ha, at_get hb, dec_cons ha hb]
    simp only [Option.bind_some, hnext]
    cases decide (a.Parents[i] = b.Parents[i]) with
    | true => simp only [Bool.not_true, Bool.false_eq_true, if_false, Bool.true_and]; exact ih (i + 1) n (by omega) (by omega)
    | false => rfl
theorem bne_len {α β : Type} (a : List α) (b : List β) : ((a.length : Int) != (b.length : Int)) = !decide (a.length = b.length) := by
  by_cases q : a.length = b.length
  · simp [q]
  · have : ¬ (a.length : Int) = (b.length : Int) := by omega
    simp [q, this]
theorem sameop_eq (a b : api_Op) (h : OpFew a) : cabalref11_SameOp 4000 a b = some (decide (a = b)) := by
  have h1 := h.parents
  have h2 := h.who
  have h3 := h.boxes
  have nb : ∀ x y : Int, (x != y) = !decide (x = y) := fun x y => by by_cases q : x = y <;> simp [q]
  unfold cabalref11_SameOp
  rw [dec_op, nb, nb, nb, bne_len, bne_len, bne_len]
  by_cases l1 : a.Parents.length = b.Parents.length
  · by_cases l2 : a.Who.length = b.Who.length
    · by_cases l3 : a.Boxes.length = b.Boxes.length
      · have t3 := sop_l3 4000 a b h1 l1 a.Parents.length 0 4000 (by omega) (by omega)
        have t2 := sop_l2 4000 a b h2 l2 a.Who.length 0 4000 (by omega) (by omega)
        have t1 := sop_l1 4000 a b h3 l3 a.Boxes.length 0 4000 (by omega) (by omega)
        rw [show ((0 : Nat) : Int) = 0 from rfl, List.drop_zero, List.drop_zero] at t1 t2 t3
        have t3' : cabalref11_SameOp.l3 4000 a b 4000 0 = if decide (a.Parents = b.Parents) = true then (if decide (a.Who = b.Who) = true then some (decide (a.Boxes = b.Boxes)) else some false) else some false := by
          rw [t3, cabalref11_SameOp.j1, t2, cabalref11_SameOp.j2, t1]
        rw [t3', decide_eq_true l1, decide_eq_true l2, decide_eq_true l3]
        generalize decide (a.Author = b.Author) = A1
        generalize decide (a.Seq = b.Seq) = A2
        generalize decide (a.Kind = b.Kind) = A3
        generalize decide (a.Of = b.Of) = A4
        generalize decide (a.Check = b.Check) = A5
        generalize decide (a.Text = b.Text) = A6
        generalize decide (a.Parents = b.Parents) = A7
        generalize decide (a.Who = b.Who) = A8
        generalize decide (a.Boxes = b.Boxes) = A9
        revert A1 A2 A3 A4 A5 A6 A7 A8 A9
        decide
      · rw [decide_eq_false l3, dec_len l3]
        simp
    · rw [decide_eq_false l2, dec_len l2]
      simp
  · rw [decide_eq_false l1, dec_len l1]
    simp
end Go.Proofs.Pure
end
section
namespace Go.Proofs.Pure
open Go Go.RowKit Go.Proofs.Kit
set_option linter.unusedVariables false
def hfnd (id : List Int) : Nat → List api_Held → Int
  | _, [] => -1
  | i, x :: l => if x.Id = id then (i : Int) else hfnd id (i + 1) l
theorem h_hit (id : List Int) (l : List api_Held) : ∀ i : Nat, (hfnd id i l = -1 ∧ ∀ x ∈ l, x.Id ≠ id) ∨ ∃ j, ∃ h : j < l.length, hfnd id i l = ((i + j : Nat) : Int) ∧ l[j].Id = id ∧ ∀ t (ht : t < l.length), t < j → l[t].Id ≠ id := by
  induction l with
  | nil => intro i; exact .inl ⟨rfl, fun x hx => by cases hx⟩
  | cons x l ih =>
    intro i
    unfold hfnd
    by_cases h : x.Id = id
    · rw [if_pos h]; exact .inr ⟨0, by simp, by simp, h, fun t _ ht => by omega⟩
    · rw [if_neg h]
      rcases ih (i + 1) with ⟨h1, h2⟩ | ⟨j, h1, h2, h3, h4⟩
      · refine .inl ⟨h1, fun y hy => ?_⟩
        rcases List.mem_cons.1 hy with e | e
        · rw [e]; exact h
        · exact h2 y e
      · refine .inr ⟨j + 1, by simp; omega, by rw [h2]; omega, h3, fun t ht hj => ?_⟩
        cases t with
        | zero => exact h
        | succ t => exact h4 t (by simpa using ht) (by omega)
theorem qfind_eq (q : List api_Held) (hq : q.length ≤ 200) (id : List Int) : queue_Find 4000 q id = some (hfnd id 0 q) := by
  have key : ∀ (m i n : Nat), i + m = q.length → m < n → slices_IndexFunc_api_Held_api_Held_queue_Find_1.l1 4000 q id n (i : Int) = some (hfnd id i (q.drop i)) := by
    intro m
    induction m with
    | zero =>
      intro i n hi hm
      obtain ⟨n, rfl⟩ : ∃ q, n = q + 1 := ⟨n - 1, by omega⟩
      rw [slices_IndexFunc_api_Held_api_Held_queue_Find_1.l1, if_neg (by simp; omega), List.drop_eq_nil_of_le (by omega)]; rfl
    | succ m ih =>
      intro i n hi hm
      obtain ⟨n, rfl⟩ : ∃ q, n = q + 1 := ⟨n - 1, by omega⟩
      have hil : i < q.length := by omega
      have hnext : iadd .i64 (i : Int) 1 = ((i + 1 : Nat) : Int) := by rw [add64 (by omega)]; omega
      rw [slices_IndexFunc_api_Held_api_Held_queue_Find_1.l1, if_pos (by simp; omega), at_get hil, List.drop_eq_getElem_cons hil]
      simp only [Option.bind_some, queue_Find_1, hnext]
      unfold hfnd
      by_cases h : q[i].Id = id
      · rw [if_pos (decide_eq_true h), if_pos h]
      · rw [if_neg (by simpa using h), if_neg h]
        exact ih (i + 1) n (by omega) (by omega)
  unfold queue_Find slices_IndexFunc_api_Held_api_Held_queue_Find_1
  have := key q.length 0 4000 (by omega) (by omega)
  rw [show ((0 : Nat) : Int) = 0 from rfl, List.drop_zero] at this
  rw [this]; rfl
theorem rqfind_eq (q : List api_Held) (hq : q.length ≤ 200) (id : List Int) : cabalref19_Find 4000 q id = some (hfnd id 0 q) := by
  have key : ∀ (m i n : Nat), i + m = q.length → m < n → cabalref19_Find.l1 4000 q id n (i : Int) = some (hfnd id i (q.drop i)) := by
    intro m
    induction m with
    | zero =>
      intro i n hi hm
      obtain ⟨n, rfl⟩ : ∃ q, n = q + 1 := ⟨n - 1, by omega⟩
      rw [cabalref19_Find.l1, if_neg (by simp; omega), List.drop_eq_nil_of_le (by omega)]; rfl
    | succ m ih =>
      intro i n hi hm
      obtain ⟨n, rfl⟩ : ∃ q, n = q + 1 := ⟨n - 1, by omega⟩
      have hil : i < q.length := by omega
      have hnext : iadd .i64 (i : Int) 1 = ((i + 1 : Nat) : Int) := by rw [add64 (by omega)]; omega
      rw [cabalref19_Find.l1, if_pos (by simp; omega), at_get hil, List.drop_eq_getElem_cons hil]
      simp only [Option.bind_some, hnext]
      unfold hfnd
      by_cases h : q[i].Id = id
      · rw [if_pos (decide_eq_true h), if_pos h]
      · rw [if_neg (by simpa using h), if_neg h]
        exact ih (i + 1) n (by omega) (by omega)
  unfold cabalref19_Find
  have := key q.length 0 4000 (by omega) (by omega)
  rw [show ((0 : Nat) : Int) = 0 from rfl, List.drop_zero] at this
  exact this
structure HeldFew (x : api_Held) : Prop where
  op : OpFew x.Op
  got : x.Got.length ≤ 20
structure QFew (q : List api_Held) : Prop where
  len : q.length ≤ 40
  each : ∀ x ∈ q, HeldFew x
def qrL (q : List api_Held) : Nat → Nat → Bool
  | _, 0 => true
  | i, m + 1 => (match q[i]? with | some x => decide (hfnd x.Id 0 (q.take i) < 0) && rightO x.Op | none => true) && qrL q (i + 1) m
def qright (q : List api_Held) : Bool := decide (q.length ≤ 24) && qrL q 0 q.length
theorem qright_eq (q : List api_Held) (hf : QFew q) : queue_Right 4000 q = some (qright q) := by
  have hlen := hf.len
  have key : ∀ (m i n : Nat), i + m = q.length → m < n → queue_Right.l1 4000 q n (i : Int) = some (qrL q i m) := by
    intro m
    induction m with
    | zero =>
      intro i n hi hm
      obtain ⟨n, rfl⟩ : ∃ q, n = q + 1 := ⟨n - 1, by omega⟩
      rw [queue_Right.l1, if_neg (by simp; omega)]; rfl
    | succ m ih =>
      intro i n hi hm
      obtain ⟨n, rfl⟩ : ∃ q, n = q + 1 := ⟨n - 1, by omega⟩
      have hil : i < q.length := by omega
      have hnext : iadd .i64 (i : Int) 1 = ((i + 1 : Nat) : Int) := by rw [add64 (by omega)]; omega
      have hx := hf.each _ (List.getElem_mem hil)
      rw [queue_Right.l1, if_pos (by simp; omega), at_get hil]
      simp only [Option.bind_some, cut_pre (Nat.le_of_lt hil), hnext]
      rw [qfind_eq _ (by rw [List.length_take]; omega)]
      unfold qrL
      rw [List.getElem?_eq_getElem hil]
      simp only [Option.bind_some, frame_eq _ hx.op]
      have ef : decide (hfnd q[i].Id 0 (q.take i) ≥ 0) = !decide (hfnd q[i].Id 0 (q.take i) < 0) := by
        by_cases c : hfnd q[i].Id 0 (q.take i) < 0
        · rw [decide_eq_true c, decide_eq_false (by omega)]; rfl
        · rw [decide_eq_false c, decide_eq_true (by omega)]; rfl
      rw [ef]
      cases decide (hfnd q[i].Id 0 (q.take i) < 0) with
      | false => rfl
      | true =>
        simp only [Bool.not_true, beq_self_eq_true, if_true, Option.bind_some, Bool.false_eq_true, if_false, Bool.true_and]
        cases rightO q[i].Op with
        | false => rfl
        | true => simp only [Bool.not_true, Bool.false_eq_true, if_false, Bool.true_and]; exact ih (i + 1) n (by omega) (by omega)
  unfold queue_Right qright
  by_cases c : q.length ≤ 24
  · rw [if_neg (by simp; omega), decide_eq_true c, Bool.true_and]
    have := key q.length 0 4000 (by omega) (by omega)
    rw [show ((0 : Nat) : Int) = 0 from rfl] at this
    exact this
  · rw [if_pos (by simp; omega), decide_eq_false c]; rfl
theorem h_first (q : List api_Held) (i : Nat) (h : i < q.length) : (hfnd q[i].Id 0 q != (i : Int)) = !decide (hfnd q[i].Id 0 (q.take i) < 0) := by
  have htl : (q.take i).length = i := by rw [List.length_take]; omega
  rcases h_hit q[i].Id q 0 with ⟨_, e⟩ | ⟨j, hj, e1, e2, e3⟩
  · exact absurd rfl (e _ (List.getElem_mem h))
  · have hji : j ≤ i := by
      apply Classical.byContradiction
      intro hn
      exact e3 i h (by omega) rfl
    rcases h_hit q[i].Id (q.take i) 0 with ⟨f1, f2⟩ | ⟨t, ht, f1, f2, _⟩
    · have : j = i := by
        apply Classical.byContradiction
        intro hn
        exact f2 q[j] (List.mem_iff_getElem.2 ⟨j, by omega, by rw [List.getElem_take]⟩) e2
      rw [f1, e1, this]; simp
    · rw [List.getElem_take] at f2
      have : j ≠ i := by
        intro hn
        exact e3 t (by omega) (by omega) f2
      rw [f1, e1, decide_eq_false (by omega)]
      simp; omega
theorem rqright_eq (q : List api_Held) (hf : QFew q) : cabalref19_Right 4000 q = some (qright q) := by
  have hlen := hf.len
  have key : ∀ (m i n : Nat), i + m = q.length → m < n → cabalref19_Right.l1 4000 q n (i : Int) = some (decide (q.length ≤ 24) && qrL q i m) := by
    intro m
    induction m with
    | zero =>
      intro i n hi hm
      obtain ⟨n, rfl⟩ : ∃ q, n = q + 1 := ⟨n - 1, by omega⟩
      rw [cabalref19_Right.l1, if_neg (by simp; omega), cabalref19_Right.j1]
      unfold qrL
      rw [Bool.and_true]
      congr 1
      exact decide_eq_decide.2 (by omega)
    | succ m ih =>
      intro i n hi hm
      obtain ⟨n, rfl⟩ : ∃ q, n = q + 1 := ⟨n - 1, by omega⟩
      have hil : i < q.length := by omega
      have hnext : iadd .i64 (i : Int) 1 = ((i + 1 : Nat) : Int) := by rw [add64 (by omega)]; omega
      have hx := hf.each _ (List.getElem_mem hil)
      rw [cabalref19_Right.l1, if_pos (by simp; omega), at_get hil]
      simp only [Option.bind_some, doc_eq _ hx.op, hnext]
      have e : qrL q i (m + 1) = (decide (hfnd q[i].Id 0 (q.take i) < 0) && rightO q[i].Op && qrL q (i + 1) m) := by
        conv => lhs; rw [qrL, List.getElem?_eq_getElem hil]
      rw [e]
      cases rightO q[i].Op with
      | false => simp
      | true =>
        simp only [Bool.not_true, beq_self_eq_true, if_true, Option.bind_some, Bool.false_eq_true, if_false, rqfind_eq q (by omega), h_first q i hil, Bool.and_true]
        cases decide (hfnd q[i].Id 0 (q.take i) < 0) with
        | false => simp
        | true => simp only [Bool.not_true, Bool.false_eq_true, if_false, Bool.true_and]; exact ih (i + 1) n (by omega) (by omega)
  have := key q.length 0 4000 (by omega) (by omega)
  rw [show ((0 : Nat) : Int) = 0 from rfl] at this
  exact this
theorem cloneK_eq (l : List (List Int)) (h : l.length ≤ 1000) : slices_Clone_api_Key_api_Key 4000 l = some l := by
  have hL : (1000000 : Nat) ≤ lim := by unfold lim; omega
  unfold slices_Clone_api_Key_api_Key
  rw [if_pos (by simp; omega)]; simp
theorem cloneI2_eq (l : List Int) (h : l.length ≤ 1000) : slices_Clone_int_int 4000 l = some l := by
  have hL : (1000000 : Nat) ≤ lim := by unfold lim; omega
  unfold slices_Clone_int_int
  rw [if_pos (by simp; omega)]; simp
theorem cloneB_eq (l : List api_Box) (h : l.length ≤ 1000) : slices_Clone_api_Box_api_Box 4000 l = some l := by
  have hL : (1000000 : Nat) ≤ lim := by unfold lim; omega
  unfold slices_Clone_api_Box_api_Box
  rw [if_pos (by simp; omega)]; simp
theorem qclone_eq (x : api_Held) (h : HeldFew x) : queue_clone 4000 x = some x := by
  have h1 := h.op.parents
  have h2 := h.op.who
  have h3 := h.op.boxes
  have h4 := h.got
  unfold queue_clone
  rw [cloneK_eq _ (by omega), cloneI2_eq _ (by omega), cloneB_eq _ (by omega), cloneK_eq _ (by omega)]
  rfl
theorem copied_all (q : List api_Held) (hf : QFew q) : queue_copied 4000 q (-1) = some q := by
  have hL : (1000000 : Nat) ≤ lim := by unfold lim; omega
  have hlen := hf.len
  have key : ∀ (m i n : Nat), i + m = q.length → m < n → queue_copied.l1 4000 q (-1) n (i : Int) (q.take i) = some q := by
    intro m
    induction m with
    | zero =>
      intro i n hi hm
      obtain ⟨n, rfl⟩ : ∃ q, n = q + 1 := ⟨n - 1, by omega⟩
      rw [queue_copied.l1, if_neg (by simp; omega), queue_copied.j1, List.take_of_length_le (by omega)]
    | succ m ih =>
      intro i n hi hm
      obtain ⟨n, rfl⟩ : ∃ q, n = q + 1 := ⟨n - 1, by omega⟩
      have hil : i < q.length := by omega
      have hnext : iadd .i64 (i : Int) 1 = ((i + 1 : Nat) : Int) := by rw [add64 (by omega)]; omega
      rw [queue_copied.l1, if_pos (by simp; omega), at_get hil]
      simp only [Option.bind_some]
      rw [if_pos (by simp <;> omega), qclone_eq _ (hf.each _ (List.getElem_mem hil))]
      simp only [Option.bind_some, queue_copied.j2, hnext]
      rw [if_pos (by simp; omega)]
      have e : q.take i ++ [q[i]] = q.take (i + 1) := by rw [List.take_add_one, List.getElem?_eq_getElem hil]; rfl
      rw [e]
      exact ih (i + 1) n (by omega) (by omega)
  have := key q.length 0 4000 (by omega) (by omega)
  rw [show ((0 : Nat) : Int) = 0 from rfl] at this
  exact this
def putR (q : List api_Held) (h : api_Held) : List api_Held × Int :=
  if qright q = false ∨ rightO h.Op = false then ([], 1) else if 0 ≤ hfnd h.Id 0 q then ([], 13) else if q.length = 24 then ([], 8) else (q ++ [h], 0)
theorem put_eq (q : List api_Held) (hf : QFew q) (h : api_Held) (hh : HeldFew h) : queue_Put 4000 q h = some (putR q h) := by
  have hL : (1000000 : Nat) ≤ lim := by unfold lim; omega
  have hlen := hf.len
  unfold queue_Put putR
  rw [qright_eq q hf]
  cases qright q with
  | false => rfl
  | true =>
    simp only [Option.bind_some, Bool.not_true, beq_self_eq_true, if_true, frame_eq _ hh.op]
    cases rightO h.Op with
    | false => rfl
    | true =>
      simp only [Bool.not_true, Bool.false_eq_true, if_false, qfind_eq q (show q.length ≤ 200 by omega), Option.bind_some, or_self, reduceCtorEq]
      by_cases c1 : 0 ≤ hfnd h.Id 0 q
      · rw [if_pos (decide_eq_true c1), if_pos c1]
      · rw [if_neg (by simpa using c1), if_neg c1]
        by_cases c2 : q.length = 24
        · rw [if_pos (by simp [c2]), if_pos c2]
        · rw [if_neg (by simp; omega), if_neg c2, copied_all q hf, qclone_eq h hh]
          simp only [Option.bind_some]
          rw [if_pos (by simp; omega)]
theorem rput_eq (q : List api_Held) (hf : QFew q) (h : api_Held) (hh : HeldFew h) : cabalref19_Put 4000 q h = some (putR q h) := by
  have hL : (1000000 : Nat) ≤ lim := by unfold lim; omega
  have hlen := hf.len
  unfold cabalref19_Put putR
  rw [rqright_eq q hf]
  cases qright q with
  | false => rfl
  | true =>
    simp only [Option.bind_some, Bool.not_true, beq_self_eq_true, if_true, doc_eq _ hh.op]
    cases rightO h.Op with
    | false => rfl
    | true =>
      simp only [Bool.not_true, Bool.false_eq_true, if_false, rqfind_eq q (show q.length ≤ 200 by omega), Option.bind_some, or_self, reduceCtorEq]
      by_cases c1 : 0 ≤ hfnd h.Id 0 q
      · rw [if_pos (decide_eq_true c1), if_pos c1]
      · rw [if_neg (by simpa using c1), if_neg c1]
        by_cases c2 : q.length = 24
        · rw [if_pos (by simp [c2]), if_pos c2]
        · rw [if_neg (by simp; omega), if_neg c2, if_pos (by simp; omega), if_pos (by simp; omega)]
          simp
theorem dec_held (x y : api_Held) : decide (x = y) = (decide (x.Id = y.Id) && decide (x.Got = y.Got) && decide (x.Op = y.Op)) := by
  rw [Bool.eq_iff_iff]
  simp only [Bool.and_eq_true, decide_eq_true_eq]
  constructor
  · intro h; subst h; simp
  · rintro ⟨⟨h1, h2⟩, h3⟩
    cases x; cases y; simp_all
theorem samekeys_eq (a b : List (List Int)) (hn : a.length ≤ 2000) : cabalref08_SameKeys 4000 a b = some (decide (a = b)) := by
  have key : a.length = b.length → ∀ (m i n : Nat), i + m = a.length → m < n → cabalref08_SameKeys.l1 4000 a b n (i : Int) = some (decide (a.drop i = b.drop i)) := by
    intro hl m
    induction m with
    | zero =>
      intro i n hi hm
      obtain ⟨n, rfl⟩ : ∃ q, n = q + 1 := ⟨n - 1, by omega⟩
      rw [cabalref08_SameKeys.l1, if_neg (by simp; omega), List.drop_eq_nil_of_le (by omega), List.drop_eq_nil_of_le (by omega)]; rfl
    | succ m ih =>
      intro i n hi hm
      obtain ⟨n, rfl⟩ : ∃ q, n = q + 1 := ⟨n - 1, by omega⟩
      have ha : i < a.length := by omega
      have hb : i < b.length := by omega
      have hnext : iadd .i64 (i : Int) 1 = ((i + 1 : Nat) : Int) := by rw [add64 (by omega)]; omega
      rw [cabalref08_SameKeys.l1, if_pos (by simp; omega), at_get ha, at_get hb, dec_cons ha hb]
      simp only [Option.bind_some, hnext]
      cases decide (a[i] = b[i]) with
      | true => simp only [Bool.not_true, Bool.false_eq_true, if_false, Bool.true_and]; exact ih (i + 1) n (by omega) (by omega)
      | false => rfl
  unfold cabalref08_SameKeys
  by_cases hl : a.length = b.length
  · rw [if_neg (by simp [hl])]
    have := key hl a.length 0 4000 (by omega) (by omega)
    rw [show ((0 : Nat) : Int) = 0 from rfl, List.drop_zero, List.drop_zero] at this
    exact this
  · rw [if_pos (by simp; omega), dec_len hl]
theorem rqsame_eq (p q : List api_Held) (hl40 : p.length ≤ 60) (hf : ∀ x ∈ p, HeldFew x) : cabalref19_Same 4000 p q = some (decide (p = q)) := by
  have key : p.length = q.length → ∀ (m i n : Nat), i + m = p.length → m < n → cabalref19_Same.l1 4000 p q n (i : Int) = some (decide (p.drop i = q.drop i)) := by
    intro hl m
    induction m with
    | zero =>
      intro i n hi hm
      obtain ⟨n, rfl⟩ : ∃ q, n = q + 1 := ⟨n - 1, by omega⟩
      rw [cabalref19_Same.l1, if_neg (by simp; omega), List.drop_eq_nil_of_le (by omega), List.drop_eq_nil_of_le (by omega)]; rfl
    | succ m ih =>
      intro i n hi hm
      obtain ⟨n, rfl⟩ : ∃ q, n = q + 1 := ⟨n - 1, by omega⟩
      have ha : i < p.length := by omega
      have hb : i < q.length := by omega
      have hx := hf _ (List.getElem_mem ha)
      have hg := hx.got
      have hnext : iadd .i64 (i : Int) 1 = ((i + 1 : Nat) : Int) := by rw [add64 (by omega)]; omega
      rw [cabalref19_Same.l1, if_pos (by simp; omega), at_get ha, at_get hb, dec_cons ha hb, dec_held]
      simp only [Option.bind_some, hnext]
      cases decide (p[i].Id = q[i].Id) with
      | false => simp
      | true =>
        simp only [Bool.not_true, beq_self_eq_true, if_true, Option.bind_some, Bool.false_eq_true, if_false, sameop_eq _ _ hx.op, Bool.true_and]
        cases decide (p[i].Op = q[i].Op) with
        | false => simp
        | true =>
          simp only [Bool.not_true, beq_self_eq_true, if_true, Option.bind_some, Bool.false_eq_true, if_false, samekeys_eq _ _ (show p[i].Got.length ≤ 2000 by omega), Bool.and_true]
          cases decide (p[i].Got = q[i].Got) with
          | false => simp
          | true => simp only [Bool.not_true, Bool.false_eq_true, if_false, Bool.true_and]; exact ih (i + 1) n (by omega) (by omega)
  unfold cabalref19_Same
  by_cases hl : p.length = q.length
  · rw [if_neg (by simp [hl])]
    have := key hl p.length 0 4000 (by omega) (by omega)
    rw [show ((0 : Nat) : Int) = 0 from rfl, List.drop_zero, List.drop_zero] at this
    exact this
  · rw [if_pos (by simp; omega), dec_len hl]
theorem held_keys {x : api_Held} (h : Fine k_api_Held x) : ∀ q ∈ x.Op.Parents, q.length = 32 := by
  have h1 := Fine.iso h
  obtain ⟨_, h2⟩ := Fine.pair h1
  obtain ⟨h3, _⟩ := Fine.pair h2
  exact op_keys h3
theorem qgreat_eq (q : List api_Held) (hk : ∀ x ∈ q, ∀ z ∈ x.Op.Parents, z.length = 32) : ∃ b, cabalref19_Great 4000 q = some b ∧ (b = false → QFew q) := by
  have key : q.length ≤ 40 → ∀ (m i n : Nat), i + m = q.length → m < n → ∃ b, cabalref19_Great.l1 4000 q n (i : Int) = some b ∧ (b = false → ∀ x ∈ q.drop i, HeldFew x) := by
    intro hp m
    induction m with
    | zero =>
      intro i n hi hm
      obtain ⟨n, rfl⟩ : ∃ q, n = q + 1 := ⟨n - 1, by omega⟩
      rw [cabalref19_Great.l1, if_neg (by simp; omega), List.drop_eq_nil_of_le (by omega)]; exact ⟨_, rfl, fun _ x hx => by cases hx⟩
    | succ m ih =>
      intro i n hi hm
      obtain ⟨n, rfl⟩ : ∃ q, n = q + 1 := ⟨n - 1, by omega⟩
      have hil : i < q.length := by omega
      have hnext : iadd .i64 (i : Int) 1 = ((i + 1 : Nat) : Int) := by rw [add64 (by omega)]; omega
      have hd : q.drop i = q[i] :: q.drop (i + 1) := List.drop_eq_getElem_cons hil
      obtain ⟨b, hb, hb2⟩ := gop_eq q[i].Op
      rw [cabalref19_Great.l1, if_pos (by simp; omega), at_get hil]
      simp only [Option.bind_some, hb, hnext]
      cases b with
      | true => exact ⟨true, rfl, fun h => by cases h⟩
      | false =>
        simp only [beq_self_eq_true, if_true, Option.bind_some, Bool.false_eq_true, if_false]
        by_cases c : q[i].Got.length ≤ 20
        · rw [if_neg (by simp; omega)]
          obtain ⟨b, h1, h2⟩ := ih (i + 1) n (by omega) (by omega)
          refine ⟨b, h1, fun h x hx => ?_⟩
          rw [hd] at hx
          rcases List.mem_cons.1 hx with rfl | hx
          · obtain ⟨q1, q2, q3, q4⟩ := hb2 rfl
            exact ⟨⟨q1, q2, q3, q4, hk _ (List.getElem_mem hil)⟩, c⟩
          · exact h2 h x hx
        · rw [if_pos (by simp; omega)]
          exact ⟨true, rfl, fun h => by cases h⟩
  unfold cabalref19_Great
  by_cases c : q.length ≤ 40
  · rw [if_neg (by simp; omega)]
    obtain ⟨b, h1, h2⟩ := key c q.length 0 4000 (by omega) (by omega)
    rw [show ((0 : Nat) : Int) = 0 from rfl] at h1
    rw [List.drop_zero] at h2
    exact ⟨b, h1, fun h => ⟨c, h2 h⟩⟩
  · rw [if_pos (by simp; omega)]
    exact ⟨true, rfl, fun h => by cases h⟩
theorem put_few (q : List api_Held) (hf : QFew q) (h : api_Held) (hh : HeldFew h) : (putR q h).1.length ≤ 60 ∧ ∀ x ∈ (putR q h).1, HeldFew x := by
  have hlen := hf.len
  have none_ : ([] : List api_Held).length ≤ 60 ∧ ∀ x ∈ ([] : List api_Held), HeldFew x := ⟨by simp, fun x hx => by cases hx⟩
  unfold putR
  split
  · exact none_
  · split
    · exact none_
    · split
      · exact none_
      · refine ⟨by simp; omega, fun x hx => ?_⟩
        rcases List.mem_append.1 hx with g | g
        · exact hf.each x g
        · simp at g; rw [g]; exact hh
end Go.Proofs.Pure
end
section
namespace Go.Proofs.Pure
open Go Go.RowKit Go.Proofs.Kit
set_option linter.unusedVariables false
theorem alive19 : caballaw19_alive 4000 = some true := by decide +kernel
theorem zH_few : (List.replicate 2 zH).length ≤ 60 ∧ ∀ x ∈ List.replicate 2 zH, HeldFew x := by
  refine ⟨by rw [List.length_replicate]; omega, fun x hx => ?_⟩
  rw [List.eq_of_mem_replicate hx]
  exact ⟨⟨by show 0 ≤ 30; omega, by show 0 ≤ 30; omega, by show 0 ≤ 30; omega, by show 0 ≤ 600; omega, fun q hq => by cases hq⟩, by show 0 ≤ 20; omega⟩
theorem QueueKeeps (x0 : (List api_Held)) (x1 : api_Held) (g0 : Fine (ksl k_api_Held) x0) (g1 : Fine k_api_Held x1) : ∃ k, caballaw19_QueueKeeps k x0 x1 = some true := by
  have hL : lim = 2147483648 := rfl
  refine ⟨4000, ?_⟩
  unfold caballaw19_QueueKeeps
  rw [alive19]
  simp only [Option.bind_some, Bool.not_true, Bool.false_eq_true, if_false]
  obtain ⟨b, hb, hf⟩ := qgreat_eq x0 (fun x hx => held_keys ((Fine.sl g0).2 x hx))
  obtain ⟨d, hd, ho⟩ := gop_eq x1.Op
  rw [hb, hd]
  simp only [Option.bind_some]
  cases b with
  | true => simp
  | false =>
    have hf := hf rfl
    have hlen := hf.len
    simp only [beq_self_eq_true, if_true, Option.bind_some, Bool.false_eq_true, if_false]
    cases d with
    | true => simp
    | false =>
      simp only [Bool.false_eq_true, if_false]
      by_cases hg : x1.Got.length ≤ 20
      · obtain ⟨o1, o2, o3, o4⟩ := ho rfl
        have hh : HeldFew x1 := ⟨⟨o1, o2, o3, o4, held_keys g1⟩, hg⟩
        obtain ⟨p1, p2⟩ := put_few x0 hf x1 hh
        have l60 : x0.length ≤ 60 := by omega
        rw [decide_eq_false (show ¬ (x1.Got.length : Int) > 20 by omega), if_neg (show ¬ (false = true) by decide)]
        rw [if_pos (show x0.length + 2 ≤ lim by rw [hL]; omega), if_pos (show ([] : List (List Int)).length + x1.Got.length ≤ lim by rw [hL, List.length_nil]; omega), if_pos (show ([] : List (List Int)).length + x1.Op.Parents.length ≤ lim by rw [hL, List.length_nil]; omega)]
        rw [put_eq x0 hf x1 hh, Option.bind_some]
        unfold caballaw19_QueueKeeps.t1
        rw [rput_eq x0 hf x1 hh, Option.bind_some, rqsame_eq x0 x0 l60 hf.each, Option.bind_some, rqsame_eq _ _ zH_few.1 zH_few.2]
        simp only [decide_true, Bool.not_true, beq_self_eq_true, if_true, Option.bind_some, Bool.false_eq_true, if_false]
        rw [upto_eq _ _ x1.Got.length 4000 0 (by omega) (by omega), upto_eq _ _ x1.Op.Parents.length 4000 0 (by omega) (by omega), upto_eq _ _ x0.length 4000 0 (by omega) (by omega)]
        unfold caballaw19_QueueKeeps.t2
        rw [alive19, Option.bind_some, rqsame_eq _ _ p1 p2]
        simp only [decide_true]
        by_cases he : ((putR x0 x1).2 != (0 : Int)) = true
        · simp [he]
        · simp [he]
      · rw [decide_eq_true (show (x1.Got.length : Int) > 20 by omega)]
        simp
end Go.Proofs.Pure
end
