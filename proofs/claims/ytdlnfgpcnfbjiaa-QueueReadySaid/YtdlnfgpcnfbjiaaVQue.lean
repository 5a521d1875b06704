/- Queues: both programs find, allow, put in, take out and compare the same. No program in sight. -/
import Derived.Test.YtdlnfgpcnfbjiaaVSame
namespace Go.Proofs.Pure
open Go Go.RowKit Go.Proofs.Kit
set_option linter.unusedVariables false

/-- where a name is, or -1 -/
def hfnd (id : List Int) : Nat → List api_Held → Int
  | _, [] => -1
  | i, x :: l => if x.Id = id then (i : Int) else hfnd id (i + 1) l
theorem h_hit (id : List Int) (l : List api_Held) : ∀ i : Nat, (hfnd id i l = -1 ∧ ∀ x ∈ l, x.Id ≠ id) ∨ ∃ j, ∃ h : j < l.length, hfnd id i l = ((i + j : Nat) : Int) ∧ l[j].Id = id ∧ ∀ t (ht : t < l.length), t < j → l[t].Id ≠ id := by
  induction l with
  | nil => intro i; exact .inl ⟨rfl, fun x hx => by cases hx⟩
  | cons x l ih =>
    intro i
    unfold hfnd
    by_cases h : x.Id = id
    · rw [if_pos h]; exact .inr ⟨0, by simp, by simp, h, fun t _ ht => by omega⟩
    · rw [if_neg h]
      rcases ih (i + 1) with ⟨h1, h2⟩ | ⟨j, h1, h2, h3, h4⟩
      · refine .inl ⟨h1, fun y hy => ?_⟩
        rcases List.mem_cons.1 hy with e | e
        · rw [e]; exact h
        · exact h2 y e
      · refine .inr ⟨j + 1, by simp; omega, by rw [h2]; omega, h3, fun t ht hj => ?_⟩
        cases t with
        | zero => exact h
        | succ t => exact h4 t (by simpa using ht) (by omega)
theorem qfind_eq (q : List api_Held) (hq : q.length ≤ 200) (id : List Int) : queue_Find 4000 q id = some (hfnd id 0 q) := by
  have key : ∀ (m i n : Nat), i + m = q.length → m < n → slices_IndexFunc_api_Held_api_Held_queue_Find_1.l1 4000 q id n (i : Int) = some (hfnd id i (q.drop i)) := by
    intro m
    induction m with
    | zero =>
      intro i n hi hm
      obtain ⟨n, rfl⟩ : ∃ q, n = q + 1 := ⟨n - 1, by omega⟩
      rw [slices_IndexFunc_api_Held_api_Held_queue_Find_1.l1, if_neg (by simp; omega), List.drop_eq_nil_of_le (by omega)]; rfl
    | succ m ih =>
      intro i n hi hm
      obtain ⟨n, rfl⟩ : ∃ q, n = q + 1 := ⟨n - 1, by omega⟩
      have hil : i < q.length := by omega
      have hnext : iadd .i64 (i : Int) 1 = ((i + 1 : Nat) : Int) := by rw [add64 (by omega)]; omega
      rw [slices_IndexFunc_api_Held_api_Held_queue_Find_1.l1, if_pos (by simp; omega), at_get hil, List.drop_eq_getElem_cons hil]
      simp only [Option.bind_some, queue_Find_1, hnext]
      unfold hfnd
      by_cases h : q[i].Id = id
      · rw [if_pos (decide_eq_true h), if_pos h]
      · rw [if_neg (by simpa using h), if_neg h]
        exact ih (i + 1) n (by omega) (by omega)
  unfold queue_Find slices_IndexFunc_api_Held_api_Held_queue_Find_1
  have := key q.length 0 4000 (by omega) (by omega)
  rw [show ((0 : Nat) : Int) = 0 from rfl, List.drop_zero] at this
  rw [this]; rfl
theorem rqfind_eq (q : List api_Held) (hq : q.length ≤ 200) (id : List Int) : cabalref19_Find 4000 q id = some (hfnd id 0 q) := by
  have key : ∀ (m i n : Nat), i + m = q.length → m < n → cabalref19_Find.l1 4000 q id n (i : Int) = some (hfnd id i (q.drop i)) := by
    intro m
    induction m with
    | zero =>
      intro i n hi hm
      obtain ⟨n, rfl⟩ : ∃ q, n = q + 1 := ⟨n - 1, by omega⟩
      rw [cabalref19_Find.l1, if_neg (by simp; omega), List.drop_eq_nil_of_le (by omega)]; rfl
    | succ m ih =>
      intro i n hi hm
      obtain ⟨n, rfl⟩ : ∃ q, n = q + 1 := ⟨n - 1, by omega⟩
      have hil : i < q.length := by omega
      have hnext : iadd .i64 (i : Int) 1 = ((i + 1 : Nat) : Int) := by rw [add64 (by omega)]; omega
      rw [cabalref19_Find.l1, if_pos (by simp; omega), at_get hil, List.drop_eq_getElem_cons hil]
      simp only [Option.bind_some, hnext]
      unfold hfnd
      by_cases h : q[i].Id = id
      · rw [if_pos (decide_eq_true h), if_pos h]
      · rw [if_neg (by simpa using h), if_neg h]
        exact ih (i + 1) n (by omega) (by omega)
  unfold cabalref19_Find
  have := key q.length 0 4000 (by omega) (by omega)
  rw [show ((0 : Nat) : Int) = 0 from rfl, List.drop_zero] at this
  exact this

structure HeldFew (x : api_Held) : Prop where
  op : OpFew x.Op
  got : x.Got.length ≤ 20
structure QFew (q : List api_Held) : Prop where
  len : q.length ≤ 40
  each : ∀ x ∈ q, HeldFew x
def qrL (q : List api_Held) : Nat → Nat → Bool
  | _, 0 => true
  | i, m + 1 => (match q[i]? with | some x => decide (hfnd x.Id 0 (q.take i) < 0) && rightO x.Op | none => true) && qrL q (i + 1) m
def qright (q : List api_Held) : Bool := decide (q.length ≤ 24) && qrL q 0 q.length
theorem qright_eq (q : List api_Held) (hf : QFew q) : queue_Right 4000 q = some (qright q) := by
  have hlen := hf.len
  have key : ∀ (m i n : Nat), i + m = q.length → m < n → queue_Right.l1 4000 q n (i : Int) = some (qrL q i m) := by
    intro m
    induction m with
    | zero =>
      intro i n hi hm
      obtain ⟨n, rfl⟩ : ∃ q, n = q + 1 := ⟨n - 1, by omega⟩
      rw [queue_Right.l1, if_neg (by simp; omega)]; rfl
    | succ m ih =>
      intro i n hi hm
      obtain ⟨n, rfl⟩ : ∃ q, n = q + 1 := ⟨n - 1, by omega⟩
      have hil : i < q.length := by omega
      have hnext : iadd .i64 (i : Int) 1 = ((i + 1 : Nat) : Int) := by rw [add64 (by omega)]; omega
      have hx := hf.each _ (List.getElem_mem hil)
      rw [queue_Right.l1, if_pos (by simp; omega), at_get hil]
      simp only [Option.bind_some, cut_pre (Nat.le_of_lt hil), hnext]
      rw [qfind_eq _ (by rw [List.length_take]; omega)]
      unfold qrL
      rw [List.getElem?_eq_getElem hil]
      simp only [Option.bind_some, frame_eq _ hx.op]
      have ef : decide (hfnd q[i].Id 0 (q.take i) ≥ 0) = !decide (hfnd q[i].Id 0 (q.take i) < 0) := by
        by_cases c : hfnd q[i].Id 0 (q.take i) < 0
        · rw [decide_eq_true c, decide_eq_false (by omega)]; rfl
        · rw [decide_eq_false c, decide_eq_true (by omega)]; rfl
      rw [ef]
      cases decide (hfnd q[i].Id 0 (q.take i) < 0) with
      | false => rfl
      | true =>
        simp only [Bool.not_true, beq_self_eq_true, if_true, Option.bind_some, Bool.false_eq_true, if_false, Bool.true_and]
        cases rightO q[i].Op with
        | false => rfl
        | true => simp only [Bool.not_true, Bool.false_eq_true, if_false, Bool.true_and]; exact ih (i + 1) n (by omega) (by omega)
  unfold queue_Right qright
  by_cases c : q.length ≤ 24
  · rw [if_neg (by simp; omega), decide_eq_true c, Bool.true_and]
    have := key q.length 0 4000 (by omega) (by omega)
    rw [show ((0 : Nat) : Int) = 0 from rfl] at this
    exact this
  · rw [if_pos (by simp; omega), decide_eq_false c]; rfl
/-- it is found first where it is just if it isn't further ahead -/
theorem h_first (q : List api_Held) (i : Nat) (h : i < q.length) : (hfnd q[i].Id 0 q != (i : Int)) = !decide (hfnd q[i].Id 0 (q.take i) < 0) := by
  have htl : (q.take i).length = i := by rw [List.length_take]; omega
  rcases h_hit q[i].Id q 0 with ⟨_, e⟩ | ⟨j, hj, e1, e2, e3⟩
  · exact absurd rfl (e _ (List.getElem_mem h))
  · have hji : j ≤ i := by
      apply Classical.byContradiction
      intro hn
      exact e3 i h (by omega) rfl
    rcases h_hit q[i].Id (q.take i) 0 with ⟨f1, f2⟩ | ⟨t, ht, f1, f2, _⟩
    · have : j = i := by
        apply Classical.byContradiction
        intro hn
        exact f2 q[j] (List.mem_iff_getElem.2 ⟨j, by omega, by rw [List.getElem_take]⟩) e2
      rw [f1, e1, this]; simp
    · rw [List.getElem_take] at f2
      have : j ≠ i := by
        intro hn
        exact e3 t (by omega) (by omega) f2
      rw [f1, e1, decide_eq_false (by omega)]
      simp; omega
theorem rqright_eq (q : List api_Held) (hf : QFew q) : cabalref19_Right 4000 q = some (qright q) := by
  have hlen := hf.len
  have key : ∀ (m i n : Nat), i + m = q.length → m < n → cabalref19_Right.l1 4000 q n (i : Int) = some (decide (q.length ≤ 24) && qrL q i m) := by
    intro m
    induction m with
    | zero =>
      intro i n hi hm
      obtain ⟨n, rfl⟩ : ∃ q, n = q + 1 := ⟨n - 1, by omega⟩
      rw [cabalref19_Right.l1, if_neg (by simp; omega), cabalref19_Right.j1]
      unfold qrL
      rw [Bool.and_true]
      congr 1
      exact decide_eq_decide.2 (by omega)
    | succ m ih =>
      intro i n hi hm
      obtain ⟨n, rfl⟩ : ∃ q, n = q + 1 := ⟨n - 1, by omega⟩
      have hil : i < q.length := by omega
      have hnext : iadd .i64 (i : Int) 1 = ((i + 1 : Nat) : Int) := by rw [add64 (by omega)]; omega
      have hx := hf.each _ (List.getElem_mem hil)
      rw [cabalref19_Right.l1, if_pos (by simp; omega), at_get hil]
      simp only [Option.bind_some, doc_eq _ hx.op, hnext]
      have e : qrL q i (m + 1) = (decide (hfnd q[i].Id 0 (q.take i) < 0) && rightO q[i].Op && qrL q (i + 1) m) := by
        conv => lhs; rw [qrL, List.getElem?_eq_getElem hil]
      rw [e]
      cases rightO q[i].Op with
      | false => simp
      | true =>
        simp only [Bool.not_true, beq_self_eq_true, if_true, Option.bind_some, Bool.false_eq_true, if_false, rqfind_eq q (by omega), h_first q i hil, Bool.and_true]
        cases decide (hfnd q[i].Id 0 (q.take i) < 0) with
        | false => simp
        | true => simp only [Bool.not_true, Bool.false_eq_true, if_false, Bool.true_and]; exact ih (i + 1) n (by omega) (by omega)
  have := key q.length 0 4000 (by omega) (by omega)
  rw [show ((0 : Nat) : Int) = 0 from rfl] at this
  exact this

theorem samekeys_eq (a b : List (List Int)) (hn : a.length ≤ 2000) : cabalref08_SameKeys 4000 a b = some (decide (a = b)) := by
  have key : a.length = b.length → ∀ (m i n : Nat), i + m = a.length → m < n → cabalref08_SameKeys.l1 4000 a b n (i : Int) = some (decide (a.drop i = b.drop i)) := by
    intro hl m
    induction m with
    | zero =>
      intro i n hi hm
      obtain ⟨n, rfl⟩ : ∃ q, n = q + 1 := ⟨n - 1, by omega⟩
      rw [cabalref08_SameKeys.l1, if_neg (by simp; omega), List.drop_eq_nil_of_le (by omega), List.drop_eq_nil_of_le (by omega)]; rfl
    | succ m ih =>
      intro i n hi hm
      obtain ⟨n, rfl⟩ : ∃ q, n = q + 1 := ⟨n - 1, by omega⟩
      have ha : i < a.length := by omega
      have hb : i < b.length := by omega
      have hnext : iadd .i64 (i : Int) 1 = ((i + 1 : Nat) : Int) := by rw [add64 (by omega)]; omega
      rw [cabalref08_SameKeys.l1, if_pos (by simp; omega), at_get ha, at_get hb, dec_cons ha hb]
      simp only [Option.bind_some, hnext]
      cases decide (a[i] = b[i]) with
      | true => simp only [Bool.not_true, Bool.false_eq_true, if_false, Bool.true_and]; exact ih (i + 1) n (by omega) (by omega)
      | false => rfl
  unfold cabalref08_SameKeys
  by_cases hl : a.length = b.length
  · rw [if_neg (by simp [hl])]
    have := key hl a.length 0 4000 (by omega) (by omega)
    rw [show ((0 : Nat) : Int) = 0 from rfl, List.drop_zero, List.drop_zero] at this
    exact this
  · rw [if_pos (by simp; omega), dec_len hl]
theorem held_keys {x : api_Held} (h : Fine k_api_Held x) : ∀ q ∈ x.Op.Parents, q.length = 32 := by
  have h1 := Fine.iso h
  obtain ⟨_, h2⟩ := Fine.pair h1
  obtain ⟨h3, _⟩ := Fine.pair h2
  exact op_keys h3
theorem qgreat_eq (q : List api_Held) (hk : ∀ x ∈ q, ∀ z ∈ x.Op.Parents, z.length = 32) : ∃ b, cabalref19_Great 4000 q = some b ∧ (b = false → QFew q) := by
  have key : q.length ≤ 40 → ∀ (m i n : Nat), i + m = q.length → m < n → ∃ b, cabalref19_Great.l1 4000 q n (i : Int) = some b ∧ (b = false → ∀ x ∈ q.drop i, HeldFew x) := by
    intro hp m
    induction m with
    | zero =>
      intro i n hi hm
      obtain ⟨n, rfl⟩ : ∃ q, n = q + 1 := ⟨n - 1, by omega⟩
      rw [cabalref19_Great.l1, if_neg (by simp; omega), List.drop_eq_nil_of_le (by omega)]; exact ⟨_, rfl, fun _ x hx => by cases hx⟩
    | succ m ih =>
      intro i n hi hm
      obtain ⟨n, rfl⟩ : ∃ q, n = q + 1 := ⟨n - 1, by omega⟩
      have hil : i < q.length := by omega
      have hnext : iadd .i64 (i : Int) 1 = ((i + 1 : Nat) : Int) := by rw [add64 (by omega)]; omega
      have hd : q.drop i = q[i] :: q.drop (i + 1) := List.drop_eq_getElem_cons hil
      obtain ⟨b, hb, hb2⟩ := gop_eq q[i].Op
      rw [cabalref19_Great.l1, if_pos (by simp; omega), at_get hil]
      simp only [Option.bind_some, hb, hnext]
      cases b with
      | true => exact ⟨true, rfl, fun h => by cases h⟩
      | false =>
        simp only [beq_self_eq_true, if_true, Option.bind_some, Bool.false_eq_true, if_false]
        by_cases c : q[i].Got.length ≤ 20
        · rw [if_neg (by simp; omega)]
          obtain ⟨b, h1, h2⟩ := ih (i + 1) n (by omega) (by omega)
          refine ⟨b, h1, fun h x hx => ?_⟩
          rw [hd] at hx
          rcases List.mem_cons.1 hx with rfl | hx
          · obtain ⟨q1, q2, q3, q4⟩ := hb2 rfl
            exact ⟨⟨q1, q2, q3, q4, hk _ (List.getElem_mem hil)⟩, c⟩
          · exact h2 h x hx
        · rw [if_pos (by simp; omega)]
          exact ⟨true, rfl, fun h => by cases h⟩
  unfold cabalref19_Great
  by_cases c : q.length ≤ 40
  · rw [if_neg (by simp; omega)]
    obtain ⟨b, h1, h2⟩ := key c q.length 0 4000 (by omega) (by omega)
    rw [show ((0 : Nat) : Int) = 0 from rfl] at h1
    rw [List.drop_zero] at h2
    exact ⟨b, h1, fun h => ⟨c, h2 h⟩⟩
  · rw [if_pos (by simp; omega)]
    exact ⟨true, rfl, fun h => by cases h⟩

end Go.Proofs.Pure
