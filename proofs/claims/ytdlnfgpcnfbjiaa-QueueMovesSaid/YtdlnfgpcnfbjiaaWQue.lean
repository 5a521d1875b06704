/- Queues: both programs find, allow, put in, take out and compare the same. No program in sight. -/
import Derived.Test.YtdlnfgpcnfbjiaaWSame
namespace Go.Proofs.Pure
open Go Go.RowKit Go.Proofs.Kit
set_option linter.unusedVariables false

/-- where a name is, or -1 -/
def hfnd (id : List Int) : Nat → List api_Held → Int
  | _, [] => -1
  | i, x :: l => if x.Id = id then (i : Int) else hfnd id (i + 1) l
theorem h_hit (id : List Int) (l : List api_Held) : ∀ i : Nat, (hfnd id i l = -1 ∧ ∀ x ∈ l, x.Id ≠ id) ∨ ∃ j, ∃ h : j < l.length, hfnd id i l = ((i + j : Nat) : Int) ∧ l[j].Id = id ∧ ∀ t (ht : t < l.length), t < j → l[t].Id ≠ id := by
  induction l with
  | nil => intro i; exact .inl ⟨rfl, fun x hx => by cases hx⟩
  | cons x l ih =>
    intro i
    unfold hfnd
    by_cases h : x.Id = id
    · rw [if_pos h]; exact .inr ⟨0, by simp, by simp, h, fun t _ ht => by omega⟩
    · rw [if_neg h]
      rcases ih (i + 1) with ⟨h1, h2⟩ | ⟨j, h1, h2, h3, h4⟩
      · refine .inl ⟨h1, fun y hy => ?_⟩
        rcases List.mem_cons.1 hy with e | e
        · rw [e]; exact h
        · exact h2 y e
      · refine .inr ⟨j + 1, by simp; omega, by rw [h2]; omega, h3, fun t ht hj => ?_⟩
        cases t with
        | zero => exact h
        | succ t => exact h4 t (by simpa using ht) (by omega)
theorem qfind_eq (q : List api_Held) (hq : q.length ≤ 200) (id : List Int) : queue_Find 4000 q id = some (hfnd id 0 q) := by
  have key : ∀ (m i n : Nat), i + m = q.length → m < n → slices_IndexFunc_api_Held_api_Held_queue_Find_1.l1 4000 q id n (i : Int) = some (hfnd id i (q.drop i)) := by
    intro m
    induction m with
    | zero =>
      intro i n hi hm
      obtain ⟨n, rfl⟩ : ∃ q, n = q + 1 := ⟨n - 1, by omega⟩
      rw [slices_IndexFunc_api_Held_api_Held_queue_Find_1.l1, if_neg (by simp; omega), List.drop_eq_nil_of_le (by omega)]; rfl
    | succ m ih =>
      intro i n hi hm
      obtain ⟨n, rfl⟩ : ∃ q, n = q + 1 := ⟨n - 1, by omega⟩
      have hil : i < q.length := by omega
      have hnext : iadd .i64 (i : Int) 1 = ((i + 1 : Nat) : Int) := by rw [add64 (by omega)]; omega
      rw [slices_IndexFunc_api_Held_api_Held_queue_Find_1.l1, if_pos (by simp; omega), at_get hil, List.drop_eq_getElem_cons hil]
      simp only [Option.bind_some, queue_Find_1, hnext]
      unfold hfnd
      by_cases h : q[i].Id = id
      · rw [if_pos (decide_eq_true h), if_pos h]
      · rw [if_neg (by simpa using h), if_neg h]
        exact ih (i + 1) n (by omega) (by omega)
  unfold queue_Find slices_IndexFunc_api_Held_api_Held_queue_Find_1
  have := key q.length 0 4000 (by omega) (by omega)
  rw [show ((0 : Nat) : Int) = 0 from rfl, List.drop_zero] at this
  rw [this]; rfl
structure HeldFew (x : api_Held) : Prop where
  op : OpFew x.Op
  got : x.Got.length ≤ 20
structure QFew (q : List api_Held) : Prop where
  len : q.length ≤ 40
  each : ∀ x ∈ q, HeldFew x
def qrL (q : List api_Held) : Nat → Nat → Bool
  | _, 0 => true
  | i, m + 1 => (match q[i]? with | some x => decide (hfnd x.Id 0 (q.take i) < 0) && rightO x.Op | none => true) && qrL q (i + 1) m
def qright (q : List api_Held) : Bool := decide (q.length ≤ 24) && qrL q 0 q.length
theorem qright_eq (q : List api_Held) (hf : QFew q) : queue_Right 4000 q = some (qright q) := by
  have hlen := hf.len
  have key : ∀ (m i n : Nat), i + m = q.length → m < n → queue_Right.l1 4000 q n (i : Int) = some (qrL q i m) := by
    intro m
    induction m with
    | zero =>
      intro i n hi hm
      obtain ⟨n, rfl⟩ : ∃ q, n = q + 1 := ⟨n - 1, by omega⟩
      rw [queue_Right.l1, if_neg (by simp; omega)]; rfl
    | succ m ih =>
      intro i n hi hm
      obtain ⟨n, rfl⟩ : ∃ q, n = q + 1 := ⟨n - 1, by omega⟩
      have hil : i < q.length := by omega
      have hnext : iadd .i64 (i : Int) 1 = ((i + 1 : Nat) : Int) := by rw [add64 (by omega)]; omega
      have hx := hf.each _ (List.getElem_mem hil)
      rw [queue_Right.l1, if_pos (by simp; omega), at_get hil]
      simp only [Option.bind_some, cut_pre (Nat.le_of_lt hil), hnext]
      rw [qfind_eq _ (by rw [List.length_take]; omega)]
      unfold qrL
      rw [List.getElem?_eq_getElem hil]
      simp only [Option.bind_some, frame_eq _ hx.op]
      have ef : decide (hfnd q[i].Id 0 (q.take i) ≥ 0) = !decide (hfnd q[i].Id 0 (q.take i) < 0) := by
        by_cases c : hfnd q[i].Id 0 (q.take i) < 0
        · rw [decide_eq_true c, decide_eq_false (by omega)]; rfl
        · rw [decide_eq_false c, decide_eq_true (by omega)]; rfl
      rw [ef]
      cases decide (hfnd q[i].Id 0 (q.take i) < 0) with
      | false => rfl
      | true =>
        simp only [Bool.not_true, beq_self_eq_true, if_true, Option.bind_some, Bool.false_eq_true, if_false, Bool.true_and]
        cases rightO q[i].Op with
        | false => rfl
        | true => simp only [Bool.not_true, Bool.false_eq_true, if_false, Bool.true_and]; exact ih (i + 1) n (by omega) (by omega)
  unfold queue_Right qright
  by_cases c : q.length ≤ 24
  · rw [if_neg (by simp; omega), decide_eq_true c, Bool.true_and]
    have := key q.length 0 4000 (by omega) (by omega)
    rw [show ((0 : Nat) : Int) = 0 from rfl] at this
    exact this
  · rw [if_pos (by simp; omega), decide_eq_false c]; rfl
theorem cloneK_eq (l : List (List Int)) (h : l.length ≤ 1000) : slices_Clone_api_Key_api_Key 4000 l = some l := by
  have hL : (1000000 : Nat) ≤ lim := by unfold lim; omega
  unfold slices_Clone_api_Key_api_Key
  rw [if_pos (by simp; omega)]; simp
theorem cloneI2_eq (l : List Int) (h : l.length ≤ 1000) : slices_Clone_int_int 4000 l = some l := by
  have hL : (1000000 : Nat) ≤ lim := by unfold lim; omega
  unfold slices_Clone_int_int
  rw [if_pos (by simp; omega)]; simp
theorem cloneB_eq (l : List api_Box) (h : l.length ≤ 1000) : slices_Clone_api_Box_api_Box 4000 l = some l := by
  have hL : (1000000 : Nat) ≤ lim := by unfold lim; omega
  unfold slices_Clone_api_Box_api_Box
  rw [if_pos (by simp; omega)]; simp
theorem qclone_eq (x : api_Held) (h : HeldFew x) : queue_clone 4000 x = some x := by
  have h1 := h.op.parents
  have h2 := h.op.who
  have h3 := h.op.boxes
  have h4 := h.got
  unfold queue_clone
  rw [cloneK_eq _ (by omega), cloneI2_eq _ (by omega), cloneB_eq _ (by omega), cloneK_eq _ (by omega)]
  rfl
theorem copied_all (q : List api_Held) (hf : QFew q) : queue_copied 4000 q (-1) = some q := by
  have hL : (1000000 : Nat) ≤ lim := by unfold lim; omega
  have hlen := hf.len
  have key : ∀ (m i n : Nat), i + m = q.length → m < n → queue_copied.l1 4000 q (-1) n (i : Int) (q.take i) = some q := by
    intro m
    induction m with
    | zero =>
      intro i n hi hm
      obtain ⟨n, rfl⟩ : ∃ q, n = q + 1 := ⟨n - 1, by omega⟩
      rw [queue_copied.l1, if_neg (by simp; omega), queue_copied.j1, List.take_of_length_le (by omega)]
    | succ m ih =>
      intro i n hi hm
      obtain ⟨n, rfl⟩ : ∃ q, n = q + 1 := ⟨n - 1, by omega⟩
      have hil : i < q.length := by omega
      have hnext : iadd .i64 (i : Int) 1 = ((i + 1 : Nat) : Int) := by rw [add64 (by omega)]; omega
      rw [queue_copied.l1, if_pos (by simp; omega), at_get hil]
      simp only [Option.bind_some]
      rw [if_pos (by simp <;> omega), qclone_eq _ (hf.each _ (List.getElem_mem hil))]
      simp only [Option.bind_some, queue_copied.j2, hnext]
      rw [if_pos (by simp; omega)]
      have e : q.take i ++ [q[i]] = q.take (i + 1) := by rw [List.take_add_one, List.getElem?_eq_getElem hil]; rfl
      rw [e]
      exact ih (i + 1) n (by omega) (by omega)
  have := key q.length 0 4000 (by omega) (by omega)
  rw [show ((0 : Nat) : Int) = 0 from rfl] at this
  exact this
theorem erase_snoc {α : Type} (l : List α) (x : α) (a : Nat) : (l ++ [x]).eraseIdx a = if a = l.length then l else l.eraseIdx a ++ (if a < l.length then [x] else [x]) := by
  rcases Nat.lt_trichotomy a l.length with h | h | h
  · rw [if_neg (by omega), if_pos h, List.eraseIdx_append_of_lt_length h]
  · rw [if_pos h, h, List.eraseIdx_append_of_length_le (Nat.le_refl _), Nat.sub_self]; simp
  · rw [if_neg (by omega), if_neg (by omega), List.eraseIdx_of_length_le (l := l) (by omega), List.eraseIdx_of_length_le (by simp; omega)]
theorem copied_but (q : List api_Held) (hf : QFew q) (a : Nat) : queue_copied 4000 q (a : Int) = some (q.eraseIdx a) := by
  have hL : (1000000 : Nat) ≤ lim := by unfold lim; omega
  have hlen := hf.len
  have key : ∀ (m i n : Nat), i + m = q.length → m < n → queue_copied.l1 4000 q (a : Int) n (i : Int) ((q.take i).eraseIdx a) = some (q.eraseIdx a) := by
    intro m
    induction m with
    | zero =>
      intro i n hi hm
      obtain ⟨n, rfl⟩ : ∃ q, n = q + 1 := ⟨n - 1, by omega⟩
      rw [queue_copied.l1, if_neg (by simp; omega), queue_copied.j1, List.take_of_length_le (by omega)]
    | succ m ih =>
      intro i n hi hm
      obtain ⟨n, rfl⟩ : ∃ q, n = q + 1 := ⟨n - 1, by omega⟩
      have hil : i < q.length := by omega
      have htl : (q.take i).length = i := by rw [List.length_take]; omega
      have hnext : iadd .i64 (i : Int) 1 = ((i + 1 : Nat) : Int) := by rw [add64 (by omega)]; omega
      have hel : ((q.take i).eraseIdx a).length ≤ i := by have := List.length_eraseIdx_le (q.take i) a; omega
      have e : q.take (i + 1) = q.take i ++ [q[i]] := by rw [List.take_add_one, List.getElem?_eq_getElem hil]; rfl
      have g := ih (i + 1) n (by omega) (by omega)
      rw [e, erase_snoc, htl] at g
      rw [queue_copied.l1, if_pos (by simp; omega), at_get hil]
      simp only [Option.bind_some, queue_copied.j2, hnext]
      by_cases c : a = i
      · rw [if_pos c] at g
        rw [if_neg (by simp [c])]
        rw [List.eraseIdx_of_length_le (by omega)]
        exact g
      · rw [if_neg c, ite_self] at g
        rw [if_pos (by simp; omega), qclone_eq _ (hf.each _ (List.getElem_mem hil))]
        simp only [Option.bind_some]
        rw [if_pos (by simp; omega)]
        exact g
  have := key q.length 0 4000 (by omega) (by omega)
  rw [show ((0 : Nat) : Int) = 0 from rfl, List.take_zero, List.eraseIdx_nil] at this
  exact this
def putR (q : List api_Held) (h : api_Held) : List api_Held × Int :=
  if qright q = false ∨ rightO h.Op = false then ([], 1) else if 0 ≤ hfnd h.Id 0 q then ([], 13) else if q.length = 24 then ([], 8) else (q ++ [h], 0)
theorem put_eq (q : List api_Held) (hf : QFew q) (h : api_Held) (hh : HeldFew h) : queue_Put 4000 q h = some (putR q h) := by
  have hL : (1000000 : Nat) ≤ lim := by unfold lim; omega
  have hlen := hf.len
  unfold queue_Put putR
  rw [qright_eq q hf]
  cases qright q with
  | false => rfl
  | true =>
    simp only [Option.bind_some, Bool.not_true, beq_self_eq_true, if_true, frame_eq _ hh.op]
    cases rightO h.Op with
    | false => rfl
    | true =>
      simp only [Bool.not_true, Bool.false_eq_true, if_false, qfind_eq q (show q.length ≤ 200 by omega), Option.bind_some, or_self, reduceCtorEq]
      by_cases c1 : 0 ≤ hfnd h.Id 0 q
      · rw [if_pos (decide_eq_true c1), if_pos c1]
      · rw [if_neg (by simpa using c1), if_neg c1]
        by_cases c2 : q.length = 24
        · rw [if_pos (by simp [c2]), if_pos c2]
        · rw [if_neg (by simp; omega), if_neg c2, copied_all q hf, qclone_eq h hh]
          simp only [Option.bind_some]
          rw [if_pos (by simp; omega)]
def withR (q : List api_Held) (a : Int) : List api_Held × Int :=
  if qright q = false then ([], 1) else if a < 0 ∨ (q.length : Int) ≤ a then ([], 22) else (q.eraseIdx a.toNat, 0)
theorem out_cond (q : List api_Held) (a : Int) : (if decide (a < 0) = true then true else decide (a ≥ (q.length : Int))) = decide (a < 0 ∨ (q.length : Int) ≤ a) := by
  by_cases c : a < 0
  · rw [if_pos (decide_eq_true c), decide_eq_true (show a < 0 ∨ (q.length : Int) ≤ a from .inl c)]
  · rw [if_neg (by simpa using c)]
    exact decide_eq_decide.2 (by omega)
theorem with_eq (q : List api_Held) (hf : QFew q) (a : Int) : queue_Without 4000 q a = some (withR q a) := by
  unfold queue_Without withR
  rw [qright_eq q hf]
  cases qright q with
  | false => rfl
  | true =>
    simp only [Option.bind_some, Bool.not_true, Bool.false_eq_true, if_false, reduceCtorEq, out_cond]
    by_cases c : a < 0 ∨ (q.length : Int) ≤ a
    · rw [if_pos (decide_eq_true c), if_pos c]
    · rw [if_neg (by simpa using c), if_neg c]
      obtain ⟨b, rfl⟩ : ∃ b : Nat, a = b := ⟨a.toNat, by omega⟩
      rw [copied_but q hf b, Int.toNat_natCast]
      rfl

end Go.Proofs.Pure
