/- The document's test of an op. No program in sight. -/
import Derived.Test.YtdlnfgpcnfbjiaaVRight
namespace Go.Proofs.Pure
open Go Go.RowKit Go.Proofs.Kit
set_option linter.unusedVariables false

theorem less_eq (a b : List Int) (ha : a.length = 32) (hb : b.length = 32) : cabalref11_Less 4000 a b = some (ltK a b) := by
  have key : ∀ (m i n : Nat), i + m = 32 → m < n → cabalref11_Less.l1 4000 a b n (i : Int) = some (decide (cmpB (a.drop i) (b.drop i) < 0)) := by
    intro m
    induction m with
    | zero =>
      intro i n hi hm
      obtain ⟨n, rfl⟩ : ∃ q, n = q + 1 := ⟨n - 1, by omega⟩
      rw [cabalref11_Less.l1, if_neg (by simp; omega), List.drop_eq_nil_of_le (by omega), List.drop_eq_nil_of_le (by omega)]; rfl
    | succ m ih =>
      intro i n hi hm
      obtain ⟨n, rfl⟩ : ∃ q, n = q + 1 := ⟨n - 1, by omega⟩
      have hia : i < a.length := by omega
      have hib : i < b.length := by omega
      have hnext : iadd .i64 (i : Int) 1 = ((i + 1 : Nat) : Int) := by rw [add64 (by omega)]; omega
      have hr : (0 : Int) ≤ (i : Int) ∧ (i : Int) < 32 := by omega
      rw [cabalref11_Less.l1, if_pos (by simp; omega), List.drop_eq_getElem_cons hia, List.drop_eq_getElem_cons hib]
      simp only [if_pos hr, at_get hia, at_get hib, Option.bind_some, hnext]
      unfold cmpB
      by_cases q : a[i] = b[i]
      · rw [if_neg (by simp [q]), if_pos q]
        exact ih (i + 1) n (by omega) (by omega)
      · rw [if_pos (by simp [q]), if_neg q]
        by_cases g : a[i] < b[i]
        · rw [if_pos g, decide_eq_true g]; rfl
        · rw [if_neg g, decide_eq_false g]; rfl
  unfold cabalref11_Less
  have := key 32 0 4000 (by omega) (by omega)
  rw [show ((0 : Nat) : Int) = 0 from rfl, List.drop_zero, List.drop_zero] at this
  exact this

theorem rright_l3 (o : api_Op) (h : OpFew o) : ∀ (m j n : Nat), j + 1 + m = o.Parents.length → m < n → cabalref11_Right.l3 4000 o n ((j + 1 : Nat) : Int) = if inc ltK (o.Parents.drop j) = true then cabalref11_Right.j1 4000 o else some false := by
  have hp := h.parents
  intro m
  induction m with
  | zero =>
    intro j n hj hm
    obtain ⟨n, rfl⟩ : ∃ q, n = q + 1 := ⟨n - 1, by omega⟩
    rw [cabalref11_Right.l3, if_neg (by simp; omega), inc_end _ _ _ (by omega), if_pos rfl]
  | succ m ih =>
    intro j n hj hm
    obtain ⟨n, rfl⟩ : ∃ q, n = q + 1 := ⟨n - 1, by omega⟩
    have h1 : j + 1 < o.Parents.length := by omega
    have e1 : isub .i64 ((j + 1 : Nat) : Int) 1 = (j : Int) := by rw [sub64 (by omega)]; omega
    have e2 : iadd .i64 ((j + 1 : Nat) : Int) 1 = ((j + 1 + 1 : Nat) : Int) := by rw [add64 (by omega)]; omega
    have a1 : at? o.Parents (j : Int) = some o.Parents[j] := at_get (by omega)
    have a2 : at? o.Parents ((j + 1 : Nat) : Int) = some o.Parents[j + 1] := at_get h1
    rw [cabalref11_Right.l3, if_pos (by simp; omega), inc_drop _ _ _ h1]
    simp only [e1, a1, a2, Option.bind_some, less_eq _ _ (h.keys _ (List.getElem_mem _)) (h.keys _ (List.getElem_mem _)), e2]
    cases ltK o.Parents[j] o.Parents[j + 1] with
    | true => simp only [Bool.not_true, Bool.false_eq_true, if_false, Bool.true_and]; exact ih (j + 1) n (by omega) (by omega)
    | false => rfl

theorem rright_l2 (o : api_Op) (h : OpFew o) : ∀ (m i n : Nat) (b : Bool), i + m = o.Who.length → m < n → cabalref11_Right.l2 4000 o n b (i : Int) = if ((o.Who.drop i).all mem8 && inc ltI (o.Who.drop (i - 1))) = true then cabalref11_Right.j2 4000 o (b || (o.Who.drop i).contains o.Author) else some false := by
  have hp := h.who
  intro m
  induction m with
  | zero =>
    intro i n b hi hm
    obtain ⟨n, rfl⟩ : ∃ q, n = q + 1 := ⟨n - 1, by omega⟩
    rw [cabalref11_Right.l2, if_neg (by simp; omega), inc_end _ _ _ (by omega), List.drop_eq_nil_of_le (by omega)]
    simp
  | succ m ih =>
    intro i n b hi hm
    obtain ⟨n, rfl⟩ : ∃ q, n = q + 1 := ⟨n - 1, by omega⟩
    have hil : i < o.Who.length := by omega
    have hnext : iadd .i64 (i : Int) 1 = ((i + 1 : Nat) : Int) := by rw [add64 (by omega)]; omega
    have ec : (o.Who.drop i).contains o.Author = ((o.Who[i] == o.Author) || (o.Who.drop (i + 1)).contains o.Author) := by
      rw [List.drop_eq_getElem_cons hil, List.contains_cons, Bool.beq_comm]
    have ea : (o.Who.drop i).all mem8 = (mem8 o.Who[i] && (o.Who.drop (i + 1)).all mem8) := by
      rw [List.drop_eq_getElem_cons hil, List.all_cons]
    rw [cabalref11_Right.l2, if_pos (by simp; omega)]
    simp only [at_get hil, Option.bind_some, rmember_eq]
    have fin : ∀ b' : Bool, (if (b' == false) = true then some o.Who[i] else some 0).bind (fun x16 => cabalref11_Right.l2 4000 o n (if b' = true then true else x16 == o.Author) (iadd .i64 (i : Int) 1)) = cabalref11_Right.l2 4000 o n (b' || (o.Who[i] == o.Author)) ((i + 1 : Nat) : Int) := fun b' => by
      rw [hnext]; cases b' <;> rfl
    rw [ea, ec]
    cases hm8 : mem8 o.Who[i] with
    | false => rfl
    | true =>
      cases i with
      | zero =>
        have d0 : decide (((0 : Nat) : Int) > 0) = false := rfl
        rw [d0]
        simp only [Bool.not_true, beq_self_eq_true, Bool.false_eq_true, Bool.and_false, if_false, Option.bind_some, Bool.true_and, (by decide : (false == true) = false)]
        refine (fin b).trans ?_
        rw [ih 1 n _ (by omega) (by omega), Bool.or_assoc]
      | succ i =>
        have d1 : decide (((i + 1 : Nat) : Int) > 0) = true := decide_eq_true (by omega)
        have e1 : isub .i64 ((i + 1 : Nat) : Int) 1 = (i : Int) := by rw [sub64 (by omega)]; omega
        have a1 : at? o.Who (i : Int) = some o.Who[i] := at_get (by omega)
        have ei : inc ltI (o.Who.drop (i + 1 - 1)) = (ltI o.Who[i] o.Who[i + 1] && inc ltI (o.Who.drop (i + 1))) := inc_drop _ _ _ hil
        rw [d1, ei]
        simp only [Bool.not_true, beq_self_eq_true, Bool.and_self, if_true, e1, a1, Option.bind_some, Bool.false_eq_true, if_false, Bool.true_and]
        have el : decide (o.Who[i] ≥ o.Who[i + 1]) = !ltI o.Who[i] o.Who[i + 1] := by
          unfold ltI
          by_cases q : o.Who[i] < o.Who[i + 1]
          · rw [decide_eq_true q, decide_eq_false (by omega)]; rfl
          · rw [decide_eq_false q, decide_eq_true (by omega)]; rfl
        rw [el]
        cases ltI o.Who[i] o.Who[i + 1] with
        | false => simp
        | true =>
          simp only [Bool.not_true, Bool.false_eq_true, if_false, Bool.true_and]
          refine (fin b).trans ?_
          rw [ih (i + 1 + 1) n _ (by omega) (by omega), Bool.or_assoc]
          rfl

theorem rright_l1 (o : api_Op) (h : OpFew o) (y : Bool) : ∀ (m i n : Nat), i + m = o.Boxes.length → m < n → cabalref11_Right.l1 4000 o y n (i : Int) = if (!(o.Boxes.drop i).any (badB o) && inc ltB (o.Boxes.drop (i - 1))) = true then cabalref11_Right.j3 4000 o y else some false := by
  have hp := h.boxes
  intro m
  induction m with
  | zero =>
    intro i n hi hm
    obtain ⟨n, rfl⟩ : ∃ q, n = q + 1 := ⟨n - 1, by omega⟩
    rw [cabalref11_Right.l1, if_neg (by simp; omega), inc_end _ _ _ (by omega), List.drop_eq_nil_of_le (by omega)]
    simp
  | succ m ih =>
    intro i n hi hm
    obtain ⟨n, rfl⟩ : ∃ q, n = q + 1 := ⟨n - 1, by omega⟩
    have hil : i < o.Boxes.length := by omega
    have hnext : iadd .i64 (i : Int) 1 = ((i + 1 : Nat) : Int) := by rw [add64 (by omega)]; omega
    have ea : (o.Boxes.drop i).any (badB o) = (badB o o.Boxes[i] || (o.Boxes.drop (i + 1)).any (badB o)) := by
      rw [List.drop_eq_getElem_cons hil, List.any_cons]
    have eb : (if (if (!mem8 o.Boxes[i].To) = true then true else (o.Boxes[i].To == o.Author)) = true then true else decide ((o.Boxes[i].Body.length : Int) > 256)) = badB o o.Boxes[i] := by
      unfold badB
      cases mem8 o.Boxes[i].To <;> cases (o.Boxes[i].To == o.Author) <;> rfl
    rw [cabalref11_Right.l1, if_pos (by simp; omega)]
    simp only [at_get hil, Option.bind_some, rmember_eq, eb, ea, hnext]
    cases badB o o.Boxes[i] with
    | true =>
      simp
    | false =>
      cases i with
      | zero =>
        have d0 : decide (((0 : Nat) : Int) > 0) = false := rfl
        rw [d0]
        simp only [beq_self_eq_true, Bool.and_false, Bool.false_eq_true, if_false, Option.bind_some, Bool.false_or, (by decide : (false == true) = false)]
        exact ih 1 n (by omega) (by omega)
      | succ i =>
        have d1 : decide (((i + 1 : Nat) : Int) > 0) = true := decide_eq_true (by omega)
        have e1 : isub .i64 ((i + 1 : Nat) : Int) 1 = (i : Int) := by rw [sub64 (by omega)]; omega
        have a1 : at? o.Boxes (i : Int) = some o.Boxes[i] := at_get (by omega)
        have ei : inc ltB (o.Boxes.drop (i + 1 - 1)) = (ltB o.Boxes[i] o.Boxes[i + 1] && inc ltB (o.Boxes.drop (i + 1))) := inc_drop _ _ _ hil
        rw [d1, ei]
        simp only [beq_self_eq_true, Bool.and_self, if_true, e1, a1, Option.bind_some, Bool.false_eq_true, if_false, Bool.false_or]
        have el : decide (o.Boxes[i].To ≥ o.Boxes[i + 1].To) = !ltB o.Boxes[i] o.Boxes[i + 1] := by
          unfold ltB
          by_cases q : o.Boxes[i].To < o.Boxes[i + 1].To
          · rw [decide_eq_true q, decide_eq_false (by omega)]; rfl
          · rw [decide_eq_false q, decide_eq_true (by omega)]; rfl
        rw [el]
        cases ltB o.Boxes[i] o.Boxes[i + 1] with
        | false => simp
        | true =>
          simp only [Bool.not_true, Bool.false_eq_true, if_false, Bool.true_and]
          exact ih (i + 1 + 1) n (by omega) (by omega)

/-- what the document asks of a kind -/
def kindR (o : api_Op) (y : Bool) : Bool :=
  if decide (o.Kind = 1) && (!y || !decide (o.Parents.length = 0) || !(o.Seq == 1)) || !decide (o.Kind = 1) && decide (o.Parents.length = 0) then false
  else if decide (o.Kind = 2 ∨ o.Kind = 3) && (y || !decide (o.Who.length = 1)) || decide (3 < o.Kind) && !decide (o.Who.length = 0) then false
  else if decide (o.Kind = 5 ∨ o.Kind = 6) == decide (o.Of = Z32) then false
  else if o.Kind = 7 then decide (o.Check = Z32) && decide (0 < o.Text.length) else !decide (o.Check = Z32) && !decide (0 < o.Text.length)
theorem kind_eq (o : api_Op) (y : Bool) : cabalref11_kind 4000 o y = some (kindR o y) := by
  have hZ : ([0, 0, 0, 0, 0, 0, 0, 0, 0, 0, 0, 0, 0, 0, 0, 0, 0, 0, 0, 0, 0, 0, 0, 0, 0, 0, 0, 0, 0, 0, 0, 0] : List Int) = Z32 := rfl
  have eP0 : ((o.Parents.length : Int) == 0) = decide (o.Parents.length = 0) := by
    by_cases q : o.Parents.length = 0
    · rw [decide_eq_true q, q]; rfl
    · rw [decide_eq_false q]; simp; exact fun e => q (by rw [e]; rfl)
  have eP1 : decide ((o.Parents.length : Int) > 0) = !decide (o.Parents.length = 0) := by
    by_cases q : o.Parents.length = 0
    · rw [decide_eq_true q, decide_eq_false (by omega)]; rfl
    · rw [decide_eq_false q, decide_eq_true (by omega)]; rfl
  have eW0 : decide ((o.Who.length : Int) > 0) = !decide (o.Who.length = 0) := by
    by_cases q : o.Who.length = 0
    · rw [decide_eq_true q, decide_eq_false (by omega)]; rfl
    · rw [decide_eq_false q, decide_eq_true (by omega)]; rfl
  have eW1 : ((o.Who.length : Int) != 1) = !decide (o.Who.length = 1) := by
    by_cases q : o.Who.length = 1
    · rw [decide_eq_true q, q]; rfl
    · rw [decide_eq_false q]; simp; omega
  have eT0 : decide ((o.Text.length : Int) > 0) = decide (0 < o.Text.length) := by
    by_cases q : 0 < o.Text.length
    · rw [decide_eq_true q, decide_eq_true (by omega)]
    · rw [decide_eq_false q, decide_eq_false (by omega)]
  have eT1 : ((o.Text.length : Int) == 0) = !decide (0 < o.Text.length) := by
    by_cases q : 0 < o.Text.length
    · rw [decide_eq_true q]; simp; exact List.ne_nil_of_length_pos q
    · rw [decide_eq_false q, show o.Text.length = 0 by omega]; rfl
  unfold cabalref11_kind kindR
  simp only [hZ, Option.bind_some]
  rw [eP0, eP1, eW0, eW1, eT0, eT1]
  have e1 : (o.Seq == 1) = decide (o.Seq = 1) := by by_cases q : o.Seq = 1 <;> simp [q]
  have e2 : (o.Seq != 1) = !decide (o.Seq = 1) := by by_cases q : o.Seq = 1 <;> simp [q]
  rw [e1, e2]
  generalize decide (o.Of = Z32) = OF
  generalize decide (o.Check = Z32) = CK
  generalize decide (o.Parents.length = 0) = P0
  generalize decide (o.Who.length = 0) = W0
  generalize decide (o.Who.length = 1) = W1
  generalize decide (0 < o.Text.length) = T0
  generalize decide (o.Seq = 1) = S1
  generalize o.Kind = K
  by_cases k1 : K = 1
  · subst k1; revert y P0 S1 OF CK T0 W0 W1; decide
  by_cases k2 : K = 2
  · subst k2; revert y P0 S1 OF CK T0 W0 W1; decide
  by_cases k3 : K = 3
  · subst k3; revert y P0 S1 OF CK T0 W0 W1; decide
  by_cases k5 : K = 5
  · subst k5; revert y P0 S1 OF CK T0 W0 W1; decide
  by_cases k6 : K = 6
  · subst k6; revert y P0 S1 OF CK T0 W0 W1; decide
  by_cases k7 : K = 7
  · subst k7; revert y P0 S1 OF CK T0 W0 W1; decide
  have b1 : (K == 1) = false := by simpa using k1
  have b2 : (K == 2) = false := by simpa using k2
  have b3 : (K == 3) = false := by simpa using k3
  have b5 : (K == 5) = false := by simpa using k5
  have b6 : (K == 6) = false := by simpa using k6
  have b7 : (K == 7) = false := by simpa using k7
  have n1 : (K != 1) = true := by simpa using k1
  have c23 : decide (K = 2 ∨ K = 3) = false := decide_eq_false (by omega)
  have c56 : decide (K = 5 ∨ K = 6) = false := decide_eq_false (by omega)
  rw [b1, b2, b3, b5, b6, b7, n1, c23, c56, decide_eq_false k1, if_neg k7, show decide (K > 3) = decide (3 < K) from rfl]
  generalize decide (3 < K) = K3
  revert y P0 S1 OF CK T0 W0 W1 K3
  decide

theorem doc_eq (o : api_Op) (h : OpFew o) : cabalref11_Right 4000 o = some (rightO o) := by
  have hp := h.parents
  have hw := h.who
  have hb := h.boxes
  have t3 : cabalref11_Right.l3 4000 o 4000 1 = if inc ltK o.Parents = true then cabalref11_Right.j1 4000 o else some false := by
    by_cases q : o.Parents.length = 0
    · have q2 := List.eq_nil_of_length_eq_zero q
      rw [cabalref11_Right.l3, if_neg (by rw [q2]; simp), q2]; rfl
    · have := rright_l3 o h (o.Parents.length - 1) 0 4000 (by omega) (by omega)
      rw [show ((0 + 1 : Nat) : Int) = 1 from rfl, List.drop_zero] at this
      exact this
  have t2 : cabalref11_Right.j1 4000 o = if (o.Who.all mem8 && inc ltI o.Who) = true then cabalref11_Right.j2 4000 o (o.Who.contains o.Author) else some false := by
    have := rright_l2 o h o.Who.length 0 4000 false (by omega) (by omega)
    rw [show ((0 : Nat) : Int) = 0 from rfl, Nat.zero_sub, List.drop_zero, Bool.false_or] at this
    rw [cabalref11_Right.j1, this]
  have t1 : cabalref11_Right.j2 4000 o (o.Who.contains o.Author) = if (!o.Boxes.any (badB o) && inc ltB o.Boxes) = true then some (kindR o (o.Who.contains o.Author)) else some false := by
    have := rright_l1 o h (o.Who.contains o.Author) o.Boxes.length 0 4000 (by omega) (by omega)
    rw [show ((0 : Nat) : Int) = 0 from rfl, Nat.zero_sub, List.drop_zero] at this
    rw [cabalref11_Right.j2, this, cabalref11_Right.j3, kind_eq]; rfl
  unfold cabalref11_Right rightO
  simp only [rmember_eq, Option.bind_some, t3, t2, t1]
  have eP : decide ((o.Parents.length : Int) > 8) = !decide (o.Parents.length ≤ 8) := by
    by_cases q : o.Parents.length ≤ 8
    · rw [decide_eq_true q, decide_eq_false (by omega)]; rfl
    · rw [decide_eq_false q, decide_eq_true (by omega)]; rfl
  have eB : decide ((o.Boxes.length : Int) > 8) = !decide (o.Boxes.length ≤ 8) := by
    by_cases q : o.Boxes.length ≤ 8
    · rw [decide_eq_true q, decide_eq_false (by omega)]; rfl
    · rw [decide_eq_false q, decide_eq_true (by omega)]; rfl
  have eT : decide ((o.Text.length : Int) > 256) = !decide (o.Text.length ≤ 256) := by
    by_cases q : o.Text.length ≤ 256
    · rw [decide_eq_true q, decide_eq_false (by omega)]; rfl
    · rw [decide_eq_false q, decide_eq_true (by omega)]; rfl
  have eA : o.Who.all mem8 = !o.Who.any (fun v => !mem8 v) := by
    rw [List.all_eq_not_any_not]
  rw [eP, eB, eT, eA]
  unfold kindR whoR boxR
  have e1 : (o.Seq == 1) = decide (o.Seq = 1) := by by_cases q : o.Seq = 1 <;> simp [q]
  rw [e1]
  generalize mem8 o.Author = M
  generalize inc ltK o.Parents = PR
  generalize inc ltI o.Who = WR
  generalize o.Who.any (fun v => !mem8 v) = WA
  generalize o.Who.contains o.Author = WC
  generalize inc ltB o.Boxes = BR
  generalize o.Boxes.any (badB o) = BA
  generalize decide (o.Boxes.length ≤ 8) = B8
  generalize decide (o.Parents.length ≤ 8) = P8
  generalize decide (o.Text.length ≤ 256) = T8
  generalize decide (o.Of = Z32) = OF
  generalize decide (o.Check = Z32) = CK
  generalize decide (o.Parents.length = 0) = P0
  generalize decide (o.Who.length = 0) = W0
  generalize decide (o.Who.length = 1) = W1
  generalize decide (0 < o.Text.length) = T0
  generalize decide (o.Seq = 1) = S1
  generalize o.Seq = S
  generalize o.Kind = K
  cases M with
  | false => rfl
  | true =>
  by_cases hS : S = 0
  · simp [hS]
  have eS : (S == 0) = false := by simpa using hS
  rw [eS]
  by_cases k0 : K < 1
  · simp [k0]; omega
  by_cases k7 : K > 7
  · simp [k7]; omega
  rw [decide_eq_false k0, decide_eq_false k7, decide_eq_true (show 1 ≤ K by omega), decide_eq_true (show K ≤ 7 by omega)]
  cases P8 with
  | false => rfl
  | true =>
  cases B8 with
  | false => simp
  | true =>
  cases T8 with
  | false => simp
  | true =>
  cases PR with
  | false => rfl
  | true =>
  cases WR with
  | false => simp
  | true =>
  cases WA with
  | true => simp
  | false =>
  cases BA with
  | true => simp
  | false =>
  cases BR with
  | false => simp
  | true =>
  have hk : K = 1 ∨ K = 2 ∨ K = 3 ∨ K = 4 ∨ K = 5 ∨ K = 6 ∨ K = 7 := by omega
  rcases hk with rfl | rfl | rfl | rfl | rfl | rfl | rfl <;> (revert P0 S1 OF CK T0 W0 W1 WC; decide)


end Go.Proofs.Pure
