/- Ops that are right: the program's test and the document's are the same. No program in sight. -/
import Derived.Test.YtdlnfgpcnfbjiaaVFind
namespace Go.Proofs.Pure
open Go Go.RowKit Go.Proofs.Kit
set_option linter.unusedVariables false

/-- each before the next -/
def inc {α : Type} (lt : α → α → Bool) : List α → Bool
  | a :: b :: l => lt a b && inc lt (b :: l)
  | _ => true
theorem inc_drop {α : Type} (lt : α → α → Bool) (l : List α) (j : Nat) (h : j + 1 < l.length) : inc lt (l.drop j) = (lt l[j] l[j + 1] && inc lt (l.drop (j + 1))) := by
  rw [List.drop_eq_getElem_cons (i := j) (by omega), List.drop_eq_getElem_cons (i := j + 1) h]; rfl
theorem inc_end {α : Type} (lt : α → α → Bool) (l : List α) (j : Nat) (h : l.length ≤ j + 1) : inc lt (l.drop j) = true := by
  by_cases c : j < l.length
  · rw [List.drop_eq_getElem_cons c, List.drop_eq_nil_of_le h]; rfl
  · rw [List.drop_eq_nil_of_le (by omega)]; rfl

def ltI (a b : Int) : Bool := decide (a < b)
def ltK (a b : List Int) : Bool := decide (cmpB a b < 0)
def ltB (a b : api_Box) : Bool := decide (a.To < b.To)
def mem8 (v : Int) : Bool := decide (0 ≤ v ∧ v < 8)

/-- not more than is looked at; keys and names have their lengths -/
structure OpFew (o : api_Op) : Prop where
  parents : o.Parents.length ≤ 30
  who : o.Who.length ≤ 30
  boxes : o.Boxes.length ≤ 30
  text : o.Text.length ≤ 600
  keys : ∀ q ∈ o.Parents, q.length = 32

theorem member_eq (v : Int) : frame_member 4000 v = some (mem8 v) := by
  unfold frame_member mem8
  by_cases h : 0 ≤ v <;> simp [h]
theorem rmember_eq (v : Int) : cabalref11_Member 4000 v = some (mem8 v) := by
  unfold cabalref11_Member mem8
  by_cases h : 0 ≤ v
  · simp [h]; omega
  · simp [h]
theorem number_eq (a b : Int) : ∃ c, frame_byNumber 4000 a b = some c ∧ decide (c ≥ 0) = !ltI a b := by
  unfold frame_byNumber ltI
  by_cases h : a < b
  · rw [if_pos (decide_eq_true h)]; exact ⟨-1, rfl, by simp [h]⟩
  · rw [if_neg (by simpa using h)]
    by_cases g : a > b
    · rw [if_pos (decide_eq_true g)]; exact ⟨1, rfl, by simp; omega⟩
    · rw [if_neg (by simpa using g)]; exact ⟨0, rfl, by simp; omega⟩
theorem cut32k {s : List Int} (h : s.length = 32) : cut? s (0 : Int) (32 : Int) = some s := by
  have := cut_pre (l := s) (n := 32) (by omega)
  rw [List.take_of_length_le (by omega)] at this; exact this
theorem bykey_eq (a b : List Int) (ha : a.length = 32) (hb : b.length = 32) : ∃ c, frame_byKey 4000 a b = some c ∧ decide (c ≥ 0) = !ltK a b := by
  refine ⟨cmpB a b, ?_, ?_⟩
  · unfold frame_byKey
    simp [cut32k ha, cut32k hb, bytes_Compare]
  · unfold ltK
    by_cases h : cmpB a b < 0
    · rw [decide_eq_true h, decide_eq_false (by omega)]; rfl
    · rw [decide_eq_false h, decide_eq_true (by omega)]; rfl

theorem keys_rising (l : List (List Int)) (hk : ∀ q ∈ l, q.length = 32) (hl : l.length ≤ 100) : frame_row_api_Key_rising 4000 ⟨l, ()⟩ = some (inc ltK l) := by
  have key : ∀ (m j n : Nat), j + 1 + m = l.length → m < n → frame_row_api_Key_rising.l1 4000 ⟨l, ()⟩ n ((j + 1 : Nat) : Int) = some (inc ltK (l.drop j)) := by
    intro m
    induction m with
    | zero =>
      intro j n hj hm
      obtain ⟨n, rfl⟩ : ∃ q, n = q + 1 := ⟨n - 1, by omega⟩
      rw [frame_row_api_Key_rising.l1, if_neg (by simp; omega), inc_end _ _ _ (by omega)]; rfl
    | succ m ih =>
      intro j n hj hm
      obtain ⟨n, rfl⟩ : ∃ q, n = q + 1 := ⟨n - 1, by omega⟩
      have h1 : j + 1 < l.length := by omega
      have e1 : isub .i64 ((j + 1 : Nat) : Int) 1 = (j : Int) := by rw [sub64 (by omega)]; omega
      have e2 : iadd .i64 ((j + 1 : Nat) : Int) 1 = ((j + 1 + 1 : Nat) : Int) := by rw [add64 (by omega)]; omega
      have a1 : at? l (j : Int) = some l[j] := at_get (by omega)
      have a2 : at? l ((j + 1 : Nat) : Int) = some l[j + 1] := at_get h1
      obtain ⟨c, c1, c2⟩ := bykey_eq l[j] l[j + 1] (hk _ (List.getElem_mem _)) (hk _ (List.getElem_mem _))
      rw [frame_row_api_Key_rising.l1, if_pos (by simp; omega), inc_drop _ _ _ h1]
      simp only [e1, a1, a2, Option.bind_some, c1, c2, e2]
      cases h : ltK l[j] l[j + 1] with
      | true => simp only [Bool.not_true, Bool.false_eq_true, if_false, Bool.true_and]; exact ih (j + 1) n (by omega) (by omega)
      | false => rfl
  unfold frame_row_api_Key_rising
  cases hz : l with
  | nil => rw [frame_row_api_Key_rising.l1, if_neg (by simp)]; rfl
  | cons a t =>
    have := key (l.length - 1) 0 4000 (by rw [hz]; simp; omega) (by omega)
    rw [show ((0 + 1 : Nat) : Int) = 1 from rfl, List.drop_zero, hz] at this
    exact this
theorem ints_rising (l : List Int) (hl : l.length ≤ 100) : frame_row_int_rising 4000 ⟨l, ()⟩ = some (inc ltI l) := by
  have key : ∀ (m j n : Nat), j + 1 + m = l.length → m < n → frame_row_int_rising.l1 4000 ⟨l, ()⟩ n ((j + 1 : Nat) : Int) = some (inc ltI (l.drop j)) := by
    intro m
    induction m with
    | zero =>
      intro j n hj hm
      obtain ⟨n, rfl⟩ : ∃ q, n = q + 1 := ⟨n - 1, by omega⟩
      rw [frame_row_int_rising.l1, if_neg (by simp; omega), inc_end _ _ _ (by omega)]; rfl
    | succ m ih =>
      intro j n hj hm
      obtain ⟨n, rfl⟩ : ∃ q, n = q + 1 := ⟨n - 1, by omega⟩
      have h1 : j + 1 < l.length := by omega
      have e1 : isub .i64 ((j + 1 : Nat) : Int) 1 = (j : Int) := by rw [sub64 (by omega)]; omega
      have e2 : iadd .i64 ((j + 1 : Nat) : Int) 1 = ((j + 1 + 1 : Nat) : Int) := by rw [add64 (by omega)]; omega
      have a1 : at? l (j : Int) = some l[j] := at_get (by omega)
      have a2 : at? l ((j + 1 : Nat) : Int) = some l[j + 1] := at_get h1
      obtain ⟨c, c1, c2⟩ := number_eq l[j] l[j + 1]
      rw [frame_row_int_rising.l1, if_pos (by simp; omega), inc_drop _ _ _ h1]
      simp only [e1, a1, a2, Option.bind_some, c1, c2, e2]
      cases h : ltI l[j] l[j + 1] with
      | true => simp only [Bool.not_true, Bool.false_eq_true, if_false, Bool.true_and]; exact ih (j + 1) n (by omega) (by omega)
      | false => rfl
  unfold frame_row_int_rising
  cases hz : l with
  | nil => rw [frame_row_int_rising.l1, if_neg (by simp)]; rfl
  | cons a t =>
    have := key (l.length - 1) 0 4000 (by rw [hz]; simp; omega) (by omega)
    rw [show ((0 + 1 : Nat) : Int) = 1 from rfl, List.drop_zero, hz] at this
    exact this
theorem boxes_rising (l : List api_Box) (hl : l.length ≤ 100) : frame_row_api_Box_rising 4000 ⟨l, ()⟩ = some (inc ltB l) := by
  have key : ∀ (m j n : Nat), j + 1 + m = l.length → m < n → frame_row_api_Box_rising.l1 4000 ⟨l, ()⟩ n ((j + 1 : Nat) : Int) = some (inc ltB (l.drop j)) := by
    intro m
    induction m with
    | zero =>
      intro j n hj hm
      obtain ⟨n, rfl⟩ : ∃ q, n = q + 1 := ⟨n - 1, by omega⟩
      rw [frame_row_api_Box_rising.l1, if_neg (by simp; omega), inc_end _ _ _ (by omega)]; rfl
    | succ m ih =>
      intro j n hj hm
      obtain ⟨n, rfl⟩ : ∃ q, n = q + 1 := ⟨n - 1, by omega⟩
      have h1 : j + 1 < l.length := by omega
      have e1 : isub .i64 ((j + 1 : Nat) : Int) 1 = (j : Int) := by rw [sub64 (by omega)]; omega
      have e2 : iadd .i64 ((j + 1 : Nat) : Int) 1 = ((j + 1 + 1 : Nat) : Int) := by rw [add64 (by omega)]; omega
      have a1 : at? l (j : Int) = some l[j] := at_get (by omega)
      have a2 : at? l ((j + 1 : Nat) : Int) = some l[j + 1] := at_get h1
      obtain ⟨c, c1, c2⟩ := number_eq l[j].To l[j + 1].To
      have c2' : decide (c ≥ 0) = !ltB l[j] l[j + 1] := c2
      rw [frame_row_api_Box_rising.l1, if_pos (by simp; omega), inc_drop _ _ _ h1]
      simp only [e1, a1, a2, Option.bind_some, frame_boxes_1, c1, c2', e2]
      cases h : ltB l[j] l[j + 1] with
      | true => simp only [Bool.not_true, Bool.false_eq_true, if_false, Bool.true_and]; exact ih (j + 1) n (by omega) (by omega)
      | false => rfl
  unfold frame_row_api_Box_rising
  cases hz : l with
  | nil => rw [frame_row_api_Box_rising.l1, if_neg (by simp)]; rfl
  | cons a t =>
    have := key (l.length - 1) 0 4000 (by rw [hz]; simp; omega) (by omega)
    rw [show ((0 + 1 : Nat) : Int) = 1 from rfl, List.drop_zero, hz] at this
    exact this

theorem whoout_eq (l : List Int) (hl : l.length ≤ 100) : slices_ContainsFunc_int_int_frame_who_1 4000 l = some (l.any (fun v => !mem8 v)) := by
  have key : ∀ (m i n : Nat), i + m = l.length → m < n → ∃ r, slices_IndexFunc_int_int_frame_who_1.l1 4000 l n (i : Int) = some r ∧ decide (r ≥ 0) = (l.drop i).any (fun v => !mem8 v) := by
    intro m
    induction m with
    | zero =>
      intro i n hi hm
      obtain ⟨n, rfl⟩ : ∃ q, n = q + 1 := ⟨n - 1, by omega⟩
      rw [slices_IndexFunc_int_int_frame_who_1.l1, if_neg (by simp; omega), List.drop_eq_nil_of_le (by omega)]; exact ⟨-1, rfl, rfl⟩
    | succ m ih =>
      intro i n hi hm
      obtain ⟨n, rfl⟩ : ∃ q, n = q + 1 := ⟨n - 1, by omega⟩
      have hil : i < l.length := by omega
      have hnext : iadd .i64 (i : Int) 1 = ((i + 1 : Nat) : Int) := by rw [add64 (by omega)]; omega
      rw [slices_IndexFunc_int_int_frame_who_1.l1, if_pos (by simp; omega), at_get hil, List.drop_eq_getElem_cons hil, List.any_cons]
      simp only [Option.bind_some, frame_who_1, member_eq, hnext]
      cases h : mem8 l[i] with
      | true => simp only [Bool.not_true, Bool.false_eq_true, if_false, Bool.false_or]; exact ih (i + 1) n (by omega) (by omega)
      | false => exact ⟨(i : Int), by simp, by simp⟩
  unfold slices_ContainsFunc_int_int_frame_who_1 slices_IndexFunc_int_int_frame_who_1
  obtain ⟨r, h1, h2⟩ := key l.length 0 4000 (by omega) (by omega)
  rw [show ((0 : Nat) : Int) = 0 from rfl] at h1
  rw [List.drop_zero] at h2
  rw [h1]
  simp only [Option.bind_some, h2]
theorem contains_eq (l : List Int) (hl : l.length ≤ 2000) (v : Int) : slices_Contains_int_int 4000 l v = some (l.contains v) := by
  have key : ∀ (m i n : Nat), i + m = l.length → m < n → ∃ r, slices_Index_int_int.l1 4000 l v n (i : Int) = some r ∧ decide (r ≥ 0) = (l.drop i).contains v := by
    intro m
    induction m with
    | zero =>
      intro i n hi hm
      obtain ⟨n, rfl⟩ : ∃ q, n = q + 1 := ⟨n - 1, by omega⟩
      rw [slices_Index_int_int.l1, if_neg (by simp; omega), List.drop_eq_nil_of_le (by omega)]; exact ⟨-1, rfl, rfl⟩
    | succ m ih =>
      intro i n hi hm
      obtain ⟨n, rfl⟩ : ∃ q, n = q + 1 := ⟨n - 1, by omega⟩
      have hil : i < l.length := by omega
      have hnext : iadd .i64 (i : Int) 1 = ((i + 1 : Nat) : Int) := by rw [add64 (by omega)]; omega
      rw [slices_Index_int_int.l1, if_pos (by simp; omega), at_get hil, List.drop_eq_getElem_cons hil, List.contains_cons]
      simp only [Option.bind_some, hnext]
      cases h : (v == l[i]) with
      | true => exact ⟨(i : Int), by simp, by simp⟩
      | false => simp only [Bool.false_eq_true, if_false, Bool.false_or]; exact ih (i + 1) n (by omega) (by omega)
  unfold slices_Contains_int_int slices_Index_int_int
  obtain ⟨r, h1, h2⟩ := key l.length 0 4000 (by omega) (by omega)
  rw [show ((0 : Nat) : Int) = 0 from rfl] at h1
  rw [List.drop_zero] at h2
  rw [h1]
  simp only [Option.bind_some, h2]
def badB (o : api_Op) (b : api_Box) : Bool := !mem8 b.To || b.To == o.Author || decide ((b.Body.length : Int) > 256)
theorem boxbad_eq (o : api_Op) (l : List api_Box) (hl : l.length ≤ 100) : slices_ContainsFunc_api_Box_api_Box_frame_boxes_2 4000 l o = some (l.any (badB o)) := by
  have one : ∀ b, frame_boxes_2 4000 b o = some (badB o b) := fun b => by
    unfold frame_boxes_2 badB
    simp only [member_eq, Option.bind_some]
    cases mem8 b.To <;> cases (b.To == o.Author) <;> rfl
  have key : ∀ (m i n : Nat), i + m = l.length → m < n → ∃ r, slices_IndexFunc_api_Box_api_Box_frame_boxes_2.l1 4000 l o n (i : Int) = some r ∧ decide (r ≥ 0) = (l.drop i).any (badB o) := by
    intro m
    induction m with
    | zero =>
      intro i n hi hm
      obtain ⟨n, rfl⟩ : ∃ q, n = q + 1 := ⟨n - 1, by omega⟩
      rw [slices_IndexFunc_api_Box_api_Box_frame_boxes_2.l1, if_neg (by simp; omega), List.drop_eq_nil_of_le (by omega)]; exact ⟨-1, rfl, rfl⟩
    | succ m ih =>
      intro i n hi hm
      obtain ⟨n, rfl⟩ : ∃ q, n = q + 1 := ⟨n - 1, by omega⟩
      have hil : i < l.length := by omega
      have hnext : iadd .i64 (i : Int) 1 = ((i + 1 : Nat) : Int) := by rw [add64 (by omega)]; omega
      rw [slices_IndexFunc_api_Box_api_Box_frame_boxes_2.l1, if_pos (by simp; omega), at_get hil, List.drop_eq_getElem_cons hil, List.any_cons]
      simp only [Option.bind_some, one, hnext]
      cases h : badB o l[i] with
      | true => exact ⟨(i : Int), by simp, by simp⟩
      | false => simp only [Bool.false_eq_true, if_false, Bool.false_or]; exact ih (i + 1) n (by omega) (by omega)
  unfold slices_ContainsFunc_api_Box_api_Box_frame_boxes_2 slices_IndexFunc_api_Box_api_Box_frame_boxes_2
  obtain ⟨r, h1, h2⟩ := key l.length 0 4000 (by omega) (by omega)
  rw [show ((0 : Nat) : Int) = 0 from rfl] at h1
  rw [List.drop_zero] at h2
  rw [h1]
  simp only [Option.bind_some, h2]

/-- who is named -/
def whoR (o : api_Op) : Bool :=
  (inc ltI o.Who && !o.Who.any (fun v => !mem8 v)) && (if o.Kind = 1 then o.Who.contains o.Author else if o.Kind = 2 ∨ o.Kind = 3 then decide (o.Who.length = 1) && !o.Who.contains o.Author else decide (o.Who.length = 0))
theorem who_eq (o : api_Op) (h : OpFew o) : frame_who 4000 o = some (whoR o) := by
  have hw := h.who
  unfold frame_who whoR
  rw [ints_rising o.Who (by omega)]
  simp only [Option.bind_some]
  cases hi : inc ltI o.Who with
  | false => rfl
  | true =>
    simp only [Bool.not_true, beq_self_eq_true, if_true, whoout_eq o.Who (by omega), Option.bind_some, Bool.true_and, Bool.false_eq_true, if_false]
    cases ha : o.Who.any (fun v => !mem8 v) with
    | true => rfl
    | false =>
      simp only [Bool.false_eq_true, if_false, Bool.not_false, Bool.true_and]
      by_cases k1 : o.Kind = 1
      · rw [if_pos (by simp [k1]), contains_eq _ (by omega), if_pos k1]; rfl
      · rw [if_neg (by simp [k1]), if_neg k1]
        have one : frame_who.j1 4000 o true = some (decide (o.Who.length = 1) && !o.Who.contains o.Author) := by
          unfold frame_who.j1
          rw [if_pos rfl]
          by_cases l1 : o.Who.length = 1
          · match hl : o.Who, l1 with
            | [a], _ =>
              simp only [at?, List.length_singleton, List.contains_cons, List.contains_nil, Bool.or_false]
              by_cases q : a = o.Author
              · subst q; simp
              · have q2 : (o.Author == a) = false := by simp; exact fun e => q e.symm
                simp [q, q2]
          · have l2 : ((o.Who.length : Int) == 1) = false := by simp; omega
            simp [l2, l1]
        have none_ : frame_who.j1 4000 o false = some (decide (o.Who.length = 0)) := by
          unfold frame_who.j1
          rw [if_neg (by simp)]
          congr 1
          by_cases l0 : o.Who.length = 0
          · simp [l0]
          · simp [l0]
        by_cases k2 : o.Kind = 2
        · rw [if_pos (by simp [k2]), show (o.Kind == 2) = true by simp [k2], if_pos (.inl k2)]; exact one
        · rw [if_neg (by simp [k2])]
          by_cases k3 : o.Kind = 3
          · rw [show (o.Kind == 3) = true by simp [k3], if_pos (.inr k3)]; exact one
          · rw [show (o.Kind == 3) = false by simp [k3], if_neg (by rintro (q | q); exact k2 q; exact k3 q)]; exact none_
theorem boxes_eq (o : api_Op) (h : OpFew o) : frame_boxes 4000 o = some (decide (o.Boxes.length ≤ 8) && inc ltB o.Boxes && !o.Boxes.any (badB o)) := by
  have hb := h.boxes
  unfold frame_boxes
  by_cases l8 : o.Boxes.length ≤ 8
  · have e : decide ((o.Boxes.length : Int) ≤ 8) = true := decide_eq_true (by omega)
    rw [e, decide_eq_true l8]
    simp only [beq_self_eq_true, if_true, boxes_rising o.Boxes (by omega), Option.bind_some, Bool.true_and]
    cases inc ltB o.Boxes with
    | true => simp only [beq_self_eq_true, if_true, boxbad_eq o o.Boxes (by omega), Option.bind_some]; rfl
    | false => rfl
  · have e : decide ((o.Boxes.length : Int) ≤ 8) = false := decide_eq_false (by omega)
    rw [e, decide_eq_false l8]; rfl


end Go.Proofs.Pure
