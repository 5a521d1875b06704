/- Nodes found by their names; what lies behind parents. No program in sight. -/
import Derived.Test.YtdlnfgpcnfbjiaaVPure
import Derived.Test.YtdlnfgpcnfbjiaaNum
namespace Go.Proofs.Pure
open Go Go.RowKit Go.Proofs.Kit
set_option linter.unusedVariables false

/-- where a name is, or -1 -/
def fnd (id : List Int) : Nat → List api_Node → Int
  | _, [] => -1
  | i, x :: l => if x.Id = id then (i : Int) else fnd id (i + 1) l
theorem fnd_cases (id : List Int) (l : List api_Node) : ∀ i : Nat, fnd id i l = -1 ∨ ∃ j, j < l.length ∧ fnd id i l = ((i + j : Nat) : Int) := by
  induction l with
  | nil => intro i; exact .inl rfl
  | cons x l ih =>
    intro i
    unfold fnd
    by_cases h : x.Id = id
    · rw [if_pos h]; exact .inr ⟨0, by simp, by simp⟩
    · rw [if_neg h]
      rcases ih (i + 1) with h | ⟨j, h1, h2⟩
      · exact .inl h
      · exact .inr ⟨j + 1, by simp; omega, by rw [h2]; omega⟩

theorem find_l1 (p : List api_Node) (hp : p.length ≤ 200) (id : List Int) : ∀ (m i n : Nat), i + m = p.length → m < n → slices_IndexFunc_api_Node_api_Node_graph_Find_1.l1 4000 p id n (i : Int) = some (fnd id i (p.drop i)) := by
  intro m
  induction m with
  | zero =>
    intro i n hi hm
    obtain ⟨n, rfl⟩ : ∃ q, n = q + 1 := ⟨n - 1, by omega⟩
    rw [slices_IndexFunc_api_Node_api_Node_graph_Find_1.l1, if_neg (by simp; omega), List.drop_eq_nil_of_le (by omega)]; rfl
  | succ m ih =>
    intro i n hi hm
    obtain ⟨n, rfl⟩ : ∃ q, n = q + 1 := ⟨n - 1, by omega⟩
    have hil : i < p.length := by omega
    have hnext : iadd .i64 (i : Int) 1 = ((i + 1 : Nat) : Int) := by rw [add64 (by omega)]; omega
    rw [slices_IndexFunc_api_Node_api_Node_graph_Find_1.l1, if_pos (by simp; omega), at_get hil, List.drop_eq_getElem_cons hil]
    simp only [Option.bind_some, graph_Find_1, hnext]
    unfold fnd
    by_cases h : p[i].Id = id
    · rw [if_pos (decide_eq_true h), if_pos h]
    · rw [if_neg (by simpa using h), if_neg h]
      exact ih (i + 1) n (by omega) (by omega)
theorem find_eq (p : List api_Node) (hp : p.length ≤ 200) (id : List Int) : graph_Find 4000 p id = some (fnd id 0 p) := by
  unfold graph_Find slices_IndexFunc_api_Node_api_Node_graph_Find_1
  have := find_l1 p hp id p.length 0 4000 (by omega) (by omega)
  rw [show ((0 : Nat) : Int) = 0 from rfl, List.drop_zero] at this
  rw [this]; rfl
theorem rfind_l1 (p : List api_Node) (hp : p.length ≤ 200) (id : List Int) : ∀ (m i n : Nat), i + m = p.length → m < n → cabalref15_Find.l1 4000 p id n (i : Int) = some (fnd id i (p.drop i)) := by
  intro m
  induction m with
  | zero =>
    intro i n hi hm
    obtain ⟨n, rfl⟩ : ∃ q, n = q + 1 := ⟨n - 1, by omega⟩
    rw [cabalref15_Find.l1, if_neg (by simp; omega), List.drop_eq_nil_of_le (by omega)]; rfl
  | succ m ih =>
    intro i n hi hm
    obtain ⟨n, rfl⟩ : ∃ q, n = q + 1 := ⟨n - 1, by omega⟩
    have hil : i < p.length := by omega
    have hnext : iadd .i64 (i : Int) 1 = ((i + 1 : Nat) : Int) := by rw [add64 (by omega)]; omega
    rw [cabalref15_Find.l1, if_pos (by simp; omega), at_get hil, List.drop_eq_getElem_cons hil]
    simp only [Option.bind_some, hnext]
    unfold fnd
    by_cases h : p[i].Id = id
    · rw [if_pos (decide_eq_true h), if_pos h]
    · rw [if_neg (by simpa using h), if_neg h]
      exact ih (i + 1) n (by omega) (by omega)
theorem rfind_eq (p : List api_Node) (hp : p.length ≤ 200) (id : List Int) : cabalref15_Find 4000 p id = some (fnd id 0 p) := by
  unfold cabalref15_Find
  have := rfind_l1 p hp id p.length 0 4000 (by omega) (by omega)
  rw [show ((0 : Nat) : Int) = 0 from rfl, List.drop_zero] at this
  exact this
theorem fnd_at (p : List api_Node) (id : List Int) (h : 0 ≤ fnd id 0 p) : ∃ j, ∃ hj : j < p.length, fnd id 0 p = (j : Int) ∧ at? p (fnd id 0 p) = some p[j] := by
  rcases fnd_cases id p 0 with c | ⟨j, h1, h2⟩
  · rw [c] at h; omega
  · have e : fnd id 0 p = (j : Int) := by rw [h2]; omega
    exact ⟨j, h1, e, by rw [e]; exact at_get h1⟩

/-- in a row -/
theorem in_l1 (l : List Int) (hl : l.length ≤ 2000) (v : Int) : ∀ (m i n : Nat), i + m = l.length → m < n → cabalref15_In.l1 4000 l v n (i : Int) = some ((l.drop i).contains v) := by
  intro m
  induction m with
  | zero =>
    intro i n hi hm
    obtain ⟨n, rfl⟩ : ∃ q, n = q + 1 := ⟨n - 1, by omega⟩
    rw [cabalref15_In.l1, if_neg (by simp; omega), List.drop_eq_nil_of_le (by omega)]; rfl
  | succ m ih =>
    intro i n hi hm
    obtain ⟨n, rfl⟩ : ∃ q, n = q + 1 := ⟨n - 1, by omega⟩
    have hil : i < l.length := by omega
    have hnext : iadd .i64 (i : Int) 1 = ((i + 1 : Nat) : Int) := by rw [add64 (by omega)]; omega
    rw [cabalref15_In.l1, if_pos (by simp; omega), at_get hil, List.drop_eq_getElem_cons hil, List.contains_cons]
    simp only [Option.bind_some, hnext]
    by_cases h : l[i] = v
    · rw [if_pos (by simpa using h)]; simp [h]
    · have h2 : (v == l[i]) = false := by simp; exact fun e => h e.symm
      rw [if_neg (by simpa using h), h2, Bool.false_or]
      exact ih (i + 1) n (by omega) (by omega)
theorem in_eq (l : List Int) (hl : l.length ≤ 2000) (v : Int) : cabalref15_In 4000 l v = some (l.contains v) := by
  unfold cabalref15_In
  have := in_l1 l hl v l.length 0 4000 (by omega) (by omega)
  rw [show ((0 : Nat) : Int) = 0 from rfl, List.drop_zero] at this
  exact this

/-- the numbers from i on that a test lets through -/
def coll (f : Nat → Bool) : Nat → Nat → List Int
  | _, 0 => []
  | i, m + 1 => if f i = true then (i : Int) :: coll f (i + 1) m else coll f (i + 1) m
theorem coll_len (f : Nat → Bool) (m : Nat) : ∀ i, (coll f i m).length ≤ m := by
  induction m with
  | zero => intro i; simp [coll]
  | succ m ih => intro i; unfold coll; have := ih (i + 1); split <;> simp <;> omega
theorem coll_congr (f g : Nat → Bool) (m : Nat) : ∀ i, (∀ j, i ≤ j → j < i + m → f j = g j) → coll f i m = coll g i m := by
  induction m with
  | zero => intro i _; rfl
  | succ m ih =>
    intro i h
    unfold coll
    rw [h i (by omega) (by omega), ih (i + 1) (fun j h1 h2 => h j (by omega) (by omega))]

/-- the rows behind a node aren't long -/
def Short (p : List api_Node) : Prop := ∀ x ∈ p, x.Past.length ≤ 200
/-- whether a parent is node i, or has it behind -/
def hitP (p : List api_Node) (i : Nat) (q : List Int) : Bool := fnd q 0 p == (i : Int) || (match p[(fnd q 0 p).toNat]? with | some x => x.Past.contains (i : Int) | none => false)
def inP (p : List api_Node) (ps : List (List Int)) (i : Nat) : Bool := ps.any (hitP p i)
def okP (p : List api_Node) (ps : List (List Int)) : Bool := ps.all (fun q => decide (0 ≤ fnd q 0 p))

theorem past_l1 (p : List api_Node) (hp : p.length ≤ 200) (y : List (Int × Bool)) : ∀ (m i n : Nat) (acc : List Int), i + m = p.length → m < n → acc.length ≤ i → graph_past.l1 4000 p y n (i : Int) acc = some (acc ++ coll (fun j => mget y (j : Int)) i m, 0) := by
  have hL : (1000000 : Nat) ≤ lim := by unfold lim; omega
  intro m
  induction m with
  | zero =>
    intro i n acc hi hm ha
    obtain ⟨n, rfl⟩ : ∃ q, n = q + 1 := ⟨n - 1, by omega⟩
    rw [graph_past.l1, if_neg (by simp; omega)]; simp [graph_past.j2, coll]
  | succ m ih =>
    intro i n acc hi hm ha
    obtain ⟨n, rfl⟩ : ∃ q, n = q + 1 := ⟨n - 1, by omega⟩
    have hnext : iadd .i64 (i : Int) 1 = ((i + 1 : Nat) : Int) := by rw [add64 (by omega)]; omega
    rw [graph_past.l1, if_pos (by simp; omega)]
    simp only [graph_past.j3, hnext]
    unfold coll
    by_cases h : mget y (i : Int) = true
    · rw [if_pos h, if_pos (by simp; omega), if_pos h, ih (i + 1) n _ (by omega) (by omega) (by simp; omega)]
      simp
    · rw [if_neg h, if_neg h]
      exact ih (i + 1) n _ (by omega) (by omega) (by omega)
theorem past_l3 (x : api_Node) (hx : x.Past.length ≤ 200) (y : Int) (L : Int → List (Int × Bool) → Option (List Int × Int)) : ∀ (m i n : Nat) (s : List (Int × Bool)), i + m = x.Past.length → m < n →
    ∃ s2, graph_past.l3 4000 x y L n (i : Int) s = L (iadd .i64 y 1) s2 ∧ ∀ j : Int, mget s2 j = (mget s j || (x.Past.drop i).contains j) := by
  intro m
  induction m with
  | zero =>
    intro i n s hi hm
    obtain ⟨n, rfl⟩ : ∃ q, n = q + 1 := ⟨n - 1, by omega⟩
    rw [graph_past.l3, if_neg (by simp; omega), List.drop_eq_nil_of_le (by omega)]
    exact ⟨s, rfl, fun j => by simp⟩
  | succ m ih =>
    intro i n s hi hm
    obtain ⟨n, rfl⟩ : ∃ q, n = q + 1 := ⟨n - 1, by omega⟩
    have hil : i < x.Past.length := by omega
    have hnext : iadd .i64 (i : Int) 1 = ((i + 1 : Nat) : Int) := by rw [add64 (by omega)]; omega
    rw [graph_past.l3, if_pos (by simp; omega), at_get hil, List.drop_eq_getElem_cons hil]
    simp only [Option.bind_some, hnext]
    obtain ⟨s2, h1, h2⟩ := ih (i + 1) n (mput s x.Past[i] true) (by omega) (by omega)
    refine ⟨s2, h1, fun j => ?_⟩
    rw [h2, mget_mput, List.contains_cons]
    by_cases h : x.Past[i] = j
    · simp [h]
    · have h3 : (j == x.Past[i]) = false := by simp; exact fun e => h e.symm
      rw [if_neg h, h3, Bool.false_or]
theorem past_l2 (p : List api_Node) (hp : p.length ≤ 200) (hs : Short p) (ps : List (List Int)) (hps : ps.length ≤ 100) : ∀ (m i n : Nat) (s : List (Int × Bool)), i + m = ps.length → m < n →
    graph_past.l2 4000 ps p n (i : Int) s = some (if okP p (ps.drop i) = true then (coll (fun j => mget s (j : Int) || inP p (ps.drop i) j) 0 p.length, 0) else ([], 14)) := by
  intro m
  induction m with
  | zero =>
    intro i n s hi hm
    obtain ⟨n, rfl⟩ : ∃ q, n = q + 1 := ⟨n - 1, by omega⟩
    rw [graph_past.l2, if_neg (by simp; omega), List.drop_eq_nil_of_le (by omega), graph_past.j1]
    have := past_l1 p hp s p.length 0 4000 [] (by omega) (by omega) (by simp)
    rw [show ((0 : Nat) : Int) = 0 from rfl] at this
    rw [this]
    simp [okP, inP]
  | succ m ih =>
    intro i n s hi hm
    obtain ⟨n, rfl⟩ : ∃ q, n = q + 1 := ⟨n - 1, by omega⟩
    have hil : i < ps.length := by omega
    have hnext : iadd .i64 (i : Int) 1 = ((i + 1 : Nat) : Int) := by rw [add64 (by omega)]; omega
    rw [graph_past.l2, if_pos (by simp; omega), at_get hil, List.drop_eq_getElem_cons hil]
    simp only [Option.bind_some]
    rw [find_eq p hp]
    simp only [Option.bind_some]
    by_cases h : 0 ≤ fnd ps[i] 0 p
    · obtain ⟨j, hj, e, ea⟩ := fnd_at p ps[i] h
      rw [if_neg (by simp; omega), ea]
      simp only [Option.bind_some]
      obtain ⟨s2, h1, h2⟩ := past_l3 p[j] (hs _ (List.getElem_mem hj)) (i : Int) (graph_past.l2 4000 ps p n) p[j].Past.length 0 4000 (mput s (fnd ps[i] 0 p) true) (by omega) (by have := hs _ (List.getElem_mem hj); omega)
      rw [show ((0 : Nat) : Int) = 0 from rfl] at h1
      rw [h1, hnext, ih (i + 1) n s2 (by omega) (by omega)]
      have eo : okP p (ps[i] :: ps.drop (i + 1)) = okP p (ps.drop (i + 1)) := by unfold okP; rw [List.all_cons, decide_eq_true h, Bool.true_and]
      rw [eo]
      have ec : coll (fun j => mget s2 (j : Int) || inP p (ps.drop (i + 1)) j) 0 p.length = coll (fun j => mget s (j : Int) || inP p (ps[i] :: ps.drop (i + 1)) j) 0 p.length := by
        apply coll_congr
        intro k _ _
        show (mget s2 (k : Int) || _) = (mget s (k : Int) || _)
        rw [h2, mget_mput, List.drop_zero]
        unfold inP
        rw [List.any_cons]
        unfold hitP
        rw [e, Int.toNat_natCast, List.getElem?_eq_getElem hj]
        by_cases hk : (j : Int) = (k : Int)
        · simp [hk]
        · have hk2 : ((j : Int) == (k : Int)) = false := by simpa using hk
          rw [if_neg hk, hk2, Bool.false_or, Bool.or_assoc]
      rw [ec]
    · have eo : okP p (ps[i] :: ps.drop (i + 1)) = false := by unfold okP; rw [List.all_cons, decide_eq_false h, Bool.false_and]
      rw [if_pos (by simp; omega), eo]
      rfl
theorem past_eq (p : List api_Node) (hp : p.length ≤ 200) (hs : Short p) (ps : List (List Int)) (hps : ps.length ≤ 100) : graph_past 4000 p ps = some (if okP p ps = true then (coll (inP p ps) 0 p.length, 0) else ([], 14)) := by
  unfold graph_past
  have := past_l2 p hp hs ps hps ps.length 0 4000 [] (by omega) (by omega)
  rw [show ((0 : Nat) : Int) = 0 from rfl, List.drop_zero] at this
  rw [this]
  rfl

theorem rpast_l2 (p : List api_Node) (hp : p.length ≤ 200) (hs : Short p) (ps : List (List Int)) (hps : ps.length ≤ 100) (hok : okP p ps = true) (y2 : Nat) (y3 : List Int) (hy : y3.length ≤ 200) (L : Int → List Int → Option (List Int × Bool)) : ∀ (m i n : Nat) (b : Bool), i + m = ps.length → m < n →
    cabalref15_Past.l2 4000 ps p (y2 : Int) y3 L n b (i : Int) = L (iadd .i64 (y2 : Int) 1) (if (b || inP p (ps.drop i) y2) = true then y3 ++ [(y2 : Int)] else y3) := by
  have hL : (1000000 : Nat) ≤ lim := by unfold lim; omega
  intro m
  induction m with
  | zero =>
    intro i n b hi hm
    obtain ⟨n, rfl⟩ : ∃ q, n = q + 1 := ⟨n - 1, by omega⟩
    rw [cabalref15_Past.l2, if_neg (by simp; omega), List.drop_eq_nil_of_le (by omega)]
    simp only [inP, List.any_nil, Bool.or_false, cabalref15_Past.j4, cabalref15_Past.j3]
    cases b with
    | true => rw [if_pos rfl, if_pos (by simp; omega), if_pos rfl]
    | false => simp
  | succ m ih =>
    intro i n b hi hm
    obtain ⟨n, rfl⟩ : ∃ q, n = q + 1 := ⟨n - 1, by omega⟩
    have hil : i < ps.length := by omega
    have hnext : iadd .i64 (i : Int) 1 = ((i + 1 : Nat) : Int) := by rw [add64 (by omega)]; omega
    have hq : 0 ≤ fnd ps[i] 0 p := by
      unfold okP at hok
      have := List.all_eq_true.1 hok _ (List.getElem_mem hil)
      exact of_decide_eq_true this
    obtain ⟨j, hj, e, ea⟩ := fnd_at p ps[i] hq
    rw [cabalref15_Past.l2, if_pos (by simp; omega), at_get hil, List.drop_eq_getElem_cons hil]
    simp only [Option.bind_some]
    rw [rfind_eq p hp]
    simp only [Option.bind_some, hnext]
    have eh : inP p (ps[i] :: ps.drop (i + 1)) y2 = ((fnd ps[i] 0 p == (y2 : Int)) || (p[j].Past.contains (y2 : Int)) || inP p (ps.drop (i + 1)) y2) := by
      unfold inP
      rw [List.any_cons]
      unfold hitP
      rw [e, Int.toNat_natCast, List.getElem?_eq_getElem hj]
    rw [eh]
    by_cases hc : (if b = true then true else (fnd ps[i] 0 p == (y2 : Int))) = true
    · have t : ((if b = true then true else fnd ps[i] 0 p == (y2 : Int)) == false) = false := by rw [hc]; rfl
      rw [t]
      simp only [Bool.false_eq_true, if_false, Option.bind_some, hc, if_true]
      rw [ih (i + 1) n true (by omega) (by omega)]
      have : (b || (fnd ps[i] 0 p == (y2 : Int) || p[j].Past.contains (y2 : Int) || inP p (ps.drop (i + 1)) y2)) = true := by
        cases b with
        | true => rfl
        | false => simp only [Bool.false_eq_true, if_false] at hc; rw [hc]; rfl
      rw [this, Bool.true_or]
    · have hc2 : (if b = true then true else (fnd ps[i] 0 p == (y2 : Int))) = false := by simpa using hc
      have hb : b = false := by cases b with
        | true => simp at hc2
        | false => rfl
      subst hb
      simp only [Bool.false_eq_true, if_false] at hc2
      simp only [hc2, Bool.false_eq_true, if_false, beq_self_eq_true, if_true, ea, Option.bind_some, Bool.false_or]
      rw [in_eq _ (by have := hs _ (List.getElem_mem hj); omega)]
      simp only [Option.bind_some]
      rw [ih (i + 1) n _ (by omega) (by omega)]
theorem rpast_l1 (p : List api_Node) (hp : p.length ≤ 200) (hs : Short p) (ps : List (List Int)) (hps : ps.length ≤ 100) (hok : okP p ps = true) : ∀ (m i n : Nat) (acc : List Int), i + m = p.length → m < n → acc.length ≤ i →
    cabalref15_Past.l1 4000 p ps n (i : Int) acc = some (acc ++ coll (inP p ps) i m, true) := by
  intro m
  induction m with
  | zero =>
    intro i n acc hi hm ha
    obtain ⟨n, rfl⟩ : ∃ q, n = q + 1 := ⟨n - 1, by omega⟩
    rw [cabalref15_Past.l1, if_neg (by simp; omega)]; simp [cabalref15_Past.j2, coll]
  | succ m ih =>
    intro i n acc hi hm ha
    obtain ⟨n, rfl⟩ : ∃ q, n = q + 1 := ⟨n - 1, by omega⟩
    have hnext : iadd .i64 (i : Int) 1 = ((i + 1 : Nat) : Int) := by rw [add64 (by omega)]; omega
    rw [cabalref15_Past.l1, if_pos (by simp; omega)]
    have t := rpast_l2 p hp hs ps hps hok i acc (by omega) (cabalref15_Past.l1 4000 p ps n) ps.length 0 4000 false (by omega) (by omega)
    rw [show ((0 : Nat) : Int) = 0 from rfl, List.drop_zero, Bool.false_or] at t
    rw [t, hnext]
    unfold coll
    by_cases h : inP p ps i = true
    · rw [if_pos h, if_pos h, ih (i + 1) n _ (by omega) (by omega) (by simp; omega)]
      simp
    · rw [if_neg h, if_neg h]
      exact ih (i + 1) n _ (by omega) (by omega) (by omega)
theorem rpast_l3 (p : List api_Node) (hp : p.length ≤ 200) (hs : Short p) (ps : List (List Int)) (hps : ps.length ≤ 100) : ∀ (m i n : Nat), i + m = ps.length → m < n →
    cabalref15_Past.l3 4000 ps p n (i : Int) = if okP p (ps.drop i) = true then cabalref15_Past.j1 4000 p ps else some ([], false) := by
  intro m
  induction m with
  | zero =>
    intro i n hi hm
    obtain ⟨n, rfl⟩ : ∃ q, n = q + 1 := ⟨n - 1, by omega⟩
    rw [cabalref15_Past.l3, if_neg (by simp; omega), List.drop_eq_nil_of_le (by omega)]; rfl
  | succ m ih =>
    intro i n hi hm
    obtain ⟨n, rfl⟩ : ∃ q, n = q + 1 := ⟨n - 1, by omega⟩
    have hil : i < ps.length := by omega
    have hnext : iadd .i64 (i : Int) 1 = ((i + 1 : Nat) : Int) := by rw [add64 (by omega)]; omega
    rw [cabalref15_Past.l3, if_pos (by simp; omega), at_get hil, List.drop_eq_getElem_cons hil]
    simp only [Option.bind_some]
    rw [rfind_eq p hp]
    simp only [Option.bind_some, hnext]
    by_cases h : 0 ≤ fnd ps[i] 0 p
    · have eo : okP p (ps[i] :: ps.drop (i + 1)) = okP p (ps.drop (i + 1)) := by unfold okP; rw [List.all_cons, decide_eq_true h, Bool.true_and]
      rw [if_neg (by simp; omega), eo]
      exact ih (i + 1) n (by omega) (by omega)
    · have eo : okP p (ps[i] :: ps.drop (i + 1)) = false := by unfold okP; rw [List.all_cons, decide_eq_false h, Bool.false_and]
      rw [if_pos (by simp; omega), eo]; rfl
theorem rpast_eq (p : List api_Node) (hp : p.length ≤ 200) (hs : Short p) (ps : List (List Int)) (hps : ps.length ≤ 100) : cabalref15_Past 4000 p ps = some (if okP p ps = true then (coll (inP p ps) 0 p.length, true) else ([], false)) := by
  unfold cabalref15_Past
  have := rpast_l3 p hp hs ps hps ps.length 0 4000 (by omega) (by omega)
  rw [show ((0 : Nat) : Int) = 0 from rfl, List.drop_zero] at this
  rw [this]
  by_cases h : okP p ps = true
  · rw [if_pos h, if_pos h, cabalref15_Past.j1]
    have t := rpast_l1 p hp hs ps hps h p.length 0 4000 [] (by omega) (by omega) (by simp)
    rw [show ((0 : Nat) : Int) = 0 from rfl] at t
    rw [t]; rfl
  · rw [if_neg h, if_neg h]


end Go.Proofs.Pure
