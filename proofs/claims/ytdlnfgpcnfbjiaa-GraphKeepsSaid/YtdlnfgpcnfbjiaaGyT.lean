/- Several parts of this proof in one file. No condition. -/
import Derived.Test.YtdlnfgpcnfbjiaaGPur
import Derived.Test.YtdlnfgpcnfbjiaaGyKeepF
section
namespace Go.Proofs.Pure
open Go Go.RowKit Go.Proofs.Kit
set_option linter.unusedVariables false
def fnd (id : List Int) : Nat → List api_Node → Int
  | _, [] => -1
  | i, x :: l => if x.Id = id then (i : Int) else fnd id (i + 1) l
theorem fnd_cases (id : List Int) (l : List api_Node) : ∀ i : Nat, fnd id i l = -1 ∨ ∃ j, j < l.length ∧ fnd id i l = ((i + j : Nat) : Int) := by
  induction l with
  | nil => intro i; exact .inl rfl
  | cons x l ih =>
    intro i
    unfold fnd
    by_cases h : x.Id = id
    · rw [if_pos h]; exact .inr ⟨0, by simp, by simp⟩
    · rw [if_neg h]
      rcases ih (i + 1) with h | ⟨j, h1, h2⟩
      · exact .inl h
      · exact .inr ⟨j + 1, by simp; omega, by rw [h2]; omega⟩
theorem find_l1 (p : List api_Node) (hp : p.length ≤ 200) (id : List Int) : ∀ (m i n : Nat), i + m = p.length → m < n → slices_IndexFunc_api_Node_api_Node_graph_Find_1.l1 4000 p id n (i : Int) = some (fnd id i (p.drop i)) := by
  intro m
  induction m with
  | zero =>
    intro i n hi hm
    obtain ⟨n, rfl⟩ : ∃ q, n = q + 1 := ⟨n - 1, by omega⟩
    rw [slices_IndexFunc_api_Node_api_Node_graph_Find_1.l1, if_neg (by simp; omega), List.drop_eq_nil_of_le (by omega)]; rfl
  | succ m ih =>
    intro i n hi hm
    obtain ⟨n, rfl⟩ : ∃ q, n = q + 1 := ⟨n - 1, by omega⟩
    have hil : i < p.length := by omega
    have hnext : iadd .i64 (i : Int) 1 = ((i + 1 : Nat) : Int) := by rw [add64 (by omega)]; omega
    rw [slices_IndexFunc_api_Node_api_Node_graph_Find_1.l1, if_pos (by simp; omega), at_get hil, List.drop_eq_getElem_cons hil]
    simp only [Option.bind_some, graph_Find_1, hnext]
    unfold fnd
    by_cases h : p[i].Id = id
    · rw [if_pos (decide_eq_true h), if_pos h]
    · rw [if_neg (by simpa using h), if_neg h]
      exact ih (i + 1) n (by omega) (by omega)
theorem find_eq (p : List api_Node) (hp : p.length ≤ 200) (id : List Int) : graph_Find 4000 p id = some (fnd id 0 p) := by
  unfold graph_Find slices_IndexFunc_api_Node_api_Node_graph_Find_1
  have := find_l1 p hp id p.length 0 4000 (by omega) (by omega)
  rw [show ((0 : Nat) : Int) = 0 from rfl, List.drop_zero] at this
  rw [this]; rfl
theorem rfind_l1 (p : List api_Node) (hp : p.length ≤ 200) (id : List Int) : ∀ (m i n : Nat), i + m = p.length → m < n → cabalref15_Find.l1 4000 p id n (i : Int) = some (fnd id i (p.drop i)) := by
  intro m
  induction m with
  | zero =>
    intro i n hi hm
    obtain ⟨n, rfl⟩ : ∃ q, n = q + 1 := ⟨n - 1, by omega⟩
    rw [cabalref15_Find.l1, if_neg (by simp; omega), List.drop_eq_nil_of_le (by omega)]; rfl
  | succ m ih =>
    intro i n hi hm
    obtain ⟨n, rfl⟩ : ∃ q, n = q + 1 := ⟨n - 1, by omega⟩
    have hil : i < p.length := by omega
    have hnext : iadd .i64 (i : Int) 1 = ((i + 1 : Nat) : Int) := by rw [add64 (by omega)]; omega
    rw [cabalref15_Find.l1, if_pos (by simp; omega), at_get hil, List.drop_eq_getElem_cons hil]
    simp only [Option.bind_some, hnext]
    unfold fnd
    by_cases h : p[i].Id = id
    · rw [if_pos (decide_eq_true h), if_pos h]
    · rw [if_neg (by simpa using h), if_neg h]
      exact ih (i + 1) n (by omega) (by omega)
theorem rfind_eq (p : List api_Node) (hp : p.length ≤ 200) (id : List Int) : cabalref15_Find 4000 p id = some (fnd id 0 p) := by
  unfold cabalref15_Find
  have := rfind_l1 p hp id p.length 0 4000 (by omega) (by omega)
  rw [show ((0 : Nat) : Int) = 0 from rfl, List.drop_zero] at this
  exact this
theorem fnd_at (p : List api_Node) (id : List Int) (h : 0 ≤ fnd id 0 p) : ∃ j, ∃ hj : j < p.length, fnd id 0 p = (j : Int) ∧ at? p (fnd id 0 p) = some p[j] := by
  rcases fnd_cases id p 0 with c | ⟨j, h1, h2⟩
  · rw [c] at h; omega
  · have e : fnd id 0 p = (j : Int) := by rw [h2]; omega
    exact ⟨j, h1, e, by rw [e]; exact at_get h1⟩
theorem in_l1 (l : List Int) (hl : l.length ≤ 2000) (v : Int) : ∀ (m i n : Nat), i + m = l.length → m < n → cabalref15_In.l1 4000 l v n (i : Int) = some ((l.drop i).contains v) := by
  intro m
  induction m with
  | zero =>
    intro i n hi hm
    obtain ⟨n, rfl⟩ : ∃ q, n = q + 1 := ⟨n - 1, by omega⟩
    rw [cabalref15_In.l1, if_neg (by simp; omega), List.drop_eq_nil_of_le (by omega)]; rfl
  | succ m ih =>
    intro i n hi hm
    obtain ⟨n, rfl⟩ : ∃ q, n = q + 1 := ⟨n - 1, by omega⟩
    have hil : i < l.length := by omega
    have hnext : iadd .i64 (i : Int) 1 = ((i + 1 : Nat) : Int) := by rw [add64 (by omega)]; omega
    rw [cabalref15_In.l1, if_pos (by simp; omega), at_get hil, List.drop_eq_getElem_cons hil, List.contains_cons]
    simp only [Option.bind_some, hnext]
    by_cases h : l[i] = v
    · rw [if_pos (by simpa using h)]; simp [h]
    · have h2 : (v == l[i]) = false := by simp; exact fun e => h e.symm
      rw [if_neg (by simpa using h), h2, Bool.false_or]
      exact ih (i + 1) n (by omega) (by omega)
theorem in_eq (l : List Int) (hl : l.length ≤ 2000) (v : Int) : cabalref15_In 4000 l v = some (l.contains v) := by
  unfold cabalref15_In
  have := in_l1 l hl v l.length 0 4000 (by omega) (by omega)
  rw [show ((0 : Nat) : Int) = 0 from rfl, List.drop_zero] at this
  exact this
def coll (f : Nat → Bool) : Nat → Nat → List Int
  | _, 0 => []
  | i, m + 1 => if f i = true then (i : Int) :: coll f (i + 1) m else coll f (i + 1) m
theorem coll_len (f : Nat → Bool) (m : Nat) : ∀ i, (coll f i m).length ≤ m := by
  induction m with
  | zero => intro i; simp [coll]
  | succ m ih => intro i; unfold coll; have := ih (i + 1); split <;> simp <;> omega
theorem coll_congr (f g : Nat → Bool) (m : Nat) : ∀ i, (∀ j, i ≤ j → j < i + m → f j = g j) → coll f i m = coll g i m := by
  induction m with
  | zero => intro i _; rfl
  | succ m ih =>
    intro i h
    unfold coll
    rw [h i (by omega) (by omega), ih (i + 1) (fun j h1 h2 => h j (by omega) (by omega))]
def Short (p : List api_Node) : Prop := ∀ x ∈ p, x.Past.length ≤ 200
def hitP (p : List api_Node) (i : Nat) (q : List Int) : Bool := fnd q 0 p == (i : Int) || (match p[(fnd q 0 p).toNat]? with | some x => x.Past.contains (i : Int) | none => false)
def inP (p : List api_Node) (ps : List (List Int)) (i : Nat) : Bool := ps.any (hitP p i)
def okP (p : List api_Node) (ps : List (List Int)) : Bool := ps.all (fun q => decide (0 ≤ fnd q 0 p))
theorem past_l1 (p : List api_Node) (hp : p.length ≤ 200) (y : List (Int × Bool)) : ∀ (m i n : Nat) (acc : List Int), i + m = p.length → m < n → acc.length ≤ i → graph_past.l1 4000 p y n (i : Int) acc = some (acc ++ coll (fun j => mget y (j : Int)) i m, 0) := by
  have hL : (1000000 : Nat) ≤ lim := by unfold lim; omega
  intro m
  induction m with
  | zero =>
    intro i n acc hi hm ha
    obtain ⟨n, rfl⟩ : ∃ q, n = q + 1 := ⟨n - 1, by omega⟩
    rw [graph_past.l1, if_neg (by simp; omega)]; simp [graph_past.j2, coll]
  | succ m ih =>
    intro i n acc hi hm ha
    obtain ⟨n, rfl⟩ : ∃ q, n = q + 1 := ⟨n - 1, by omega⟩
    have hnext : iadd .i64 (i : Int) 1 = ((i + 1 : Nat) : Int) := by rw [add64 (by omega)]; omega
    rw [graph_past.l1, if_pos (by simp; omega)]
    simp only [graph_past.j3, hnext]
    unfold coll
    by_cases h : mget y (i : Int) = true
    · rw [if_pos h, if_pos (by simp; omega), if_pos h, ih (i + 1) n _ (by omega) (by omega) (by simp; omega)]
      simp
    · rw [if_neg h, if_neg h]
      exact ih (i + 1) n _ (by omega) (by omega) (by omega)
theorem past_l3 (x : api_Node) (hx : x.Past.length ≤ 200) (y : Int) (L : Int → List (Int × Bool) → Option (List Int × Int)) : ∀ (m i n : Nat) (s : List (Int × Bool)), i + m = x.Past.length → m < n →
    ∃ s2, graph_past.l3 4000 x y L n (i : Int) s = L (iadd .i64 y 1) s2 ∧ ∀ j : Int, mget s2 j = (mget s j || (x.Past.drop i).contains j) := by
  intro m
  induction m with
  | zero =>
    intro i n s hi hm
    obtain ⟨n, rfl⟩ : ∃ q, n = q + 1 := ⟨n - 1, by omega⟩
    rw [graph_past.l3, if_neg (by simp; omega), List.drop_eq_nil_of_le (by omega)]
    exact ⟨s, rfl, fun j => by simp⟩
  | succ m ih =>
    intro i n s hi hm
    obtain ⟨n, rfl⟩ : ∃ q, n = q + 1 := ⟨n - 1, by omega⟩
    have hil : i < x.Past.length := by omega
    have hnext : iadd .i64 (i : Int) 1 = ((i + 1 : Nat) : Int) := by rw [add64 (by omega)]; omega
    rw [graph_past.l3, if_pos (by simp; omega), at_get hil, List.drop_eq_getElem_cons hil]
    simp only [Option.bind_some, hnext]
    obtain ⟨s2, h1, h2⟩ := ih (i + 1) n (mput s x.Past[i] true) (by omega) (by omega)
    refine ⟨s2, h1, fun j => ?_⟩
    rw [h2, mget_mput, List.contains_cons]
    by_cases h : x.Past[i] = j
    · simp [h]
    · have h3 : (j == x.Past[i]) = false := by simp; exact fun e => h e.symm
      rw [if_neg h, h3, Bool.false_or]
theorem past_l2 (p : List api_Node) (hp : p.length ≤ 200) (hs : Short p) (ps : List (List Int)) (hps : ps.length ≤ 100) : ∀ (m i n : Nat) (s : List (Int × Bool)), i + m = ps.length → m < n →
    graph_past.l2 4000 ps p n (i : Int) s = some (if okP p (ps.drop i) = true then (coll (fun j => mget s (j : Int) || inP p (ps.drop i) j) 0 p.length, 0) else ([], 14)) := by
  intro m
  induction m with
  | zero =>
    intro i n s hi hm
    obtain ⟨n, rfl⟩ : ∃ q, n = q + 1 := ⟨n - 1, by omega⟩
    rw [graph_past.l2, if_neg (by simp; omega), List.drop_eq_nil_of_le (by omega), graph_past.j1]
    have := past_l1 p hp s p.length 0 4000 [] (by omega) (by omega) (by simp)
    rw [show ((0 : Nat) : Int) = 0 from rfl] at this
    rw [this]
    simp [okP, inP]
  | succ m ih =>
    intro i n s hi hm
    obtain ⟨n, rfl⟩ : ∃ q, n = q + 1 := ⟨n - 1, by omega⟩
    have hil : i < ps.length := by omega
    have hnext : iadd .i64 (i : Int) 1 = ((i + 1 : Nat) : Int) := by rw [add64 (by omega)]; omega
    rw [graph_past.l2, if_pos (by simp; omega), at_get hil, List.drop_eq_getElem_cons hil]
    simp only [Option.bind_some]
    rw [find_eq p hp]
    simp only [Option.bind_some]
    by_cases h : 0 ≤ fnd ps[i] 0 p
    · obtain ⟨j, hj, e, ea⟩ := fnd_at p ps[i] h
      rw [if_neg (by simp; omega), ea]
      simp only [Option.bind_some]
      obtain ⟨s2, h1, h2⟩ := past_l3 p[j] (hs _ (List.getElem_mem hj)) (i : Int) (graph_past.l2 4000 ps p n) p[j].Past.length 0 4000 (mput s (fnd ps[i] 0 p) true) (by omega) (by have := hs _ (List.getElem_mem hj); omega)
      rw [show ((0 : Nat) : Int) = 0 from rfl] at h1
      rw [h1, hnext, ih (i + 1) n s2 (by omega) (by omega)]
      have eo : okP p (ps[i] :: ps.drop (i + 1)) = okP p (ps.drop (i + 1)) := by unfold okP; rw [List.all_cons, decide_eq_true h, Bool.true_and]
      rw [eo]
      have ec : coll (fun j => mget s2 (j : Int) || inP p (ps.drop (i + 1)) j) 0 p.length = coll (fun j => mget s (j : Int) || inP p (ps[i] :: ps.drop (i + 1)) j) 0 p.length := by
        apply coll_congr
        intro k _ _
        show (mget s2 (k : Int) || _) = (mget s (k : Int) || _)
        rw [h2, mget_mput, List.drop_zero]
        unfold inP
        rw [List.any_cons]
        unfold hitP
        rw [e, Int.toNat_natCast, List.getElem?_eq_getElem hj]
        by_cases hk : (j : Int) = (k : Int)
        · simp [hk]
        · have hk2 : ((j : Int) == (k : Int)) = false := by simpa using hk
          rw [if_neg hk, hk2, Bool.false_or, Bool.or_assoc]
      rw [ec]
    · have eo : okP p (ps[i] :: ps.drop (i + 1)) = false := by unfold okP; rw [List.all_cons, decide_eq_false h, Bool.false_and]
      rw [if_pos (by simp; omega), eo]
      rfl
theorem past_eq (p : List api_Node) (hp : p.length ≤ 200) (hs : Short p) (ps : List (List Int)) (hps : ps.length ≤ 100) : graph_past 4000 p ps = some (if okP p ps = true then (coll (inP p ps) 0 p.length, 0) else ([], 14)) := by
  unfold graph_past
  have := past_l2 p hp hs ps hps ps.length 0 4000 [] (by omega) (by omega)
  rw [show ((0 : Nat) : Int) = 0 from rfl, List.drop_zero] at this
  rw [this]
  rfl
theorem rpast_l2 (p : List api_Node) (hp : p.length ≤ 200) (hs : Short p) (ps : List (List Int)) (hps : ps.length ≤ 100) (hok : okP p ps = true) (y2 : Nat) (y3 : List Int) (hy : y3.length ≤ 200) (L : Int → List Int → Option (List Int × Bool)) : ∀ (m i n : Nat) (b : Bool), i + m = ps.length → m < n →
    cabalref15_Past.l2 4000 ps p (y2 : Int) y3 L n b (i : Int) = L (iadd .i64 (y2 : Int) 1) (if (b || inP p (ps.drop i) y2) = true then y3 ++ [(y2 : Int)] else y3) := by
  have hL : (1000000 : Nat) ≤ lim := by unfold lim; omega
  intro m
  induction m with
  | zero =>
    intro i n b hi hm
    obtain ⟨n, rfl⟩ : ∃ q, n = q + 1 := ⟨n - 1, by omega⟩
    rw [cabalref15_Past.l2, if_neg (by simp; omega), List.drop_eq_nil_of_le (by omega)]
    simp only [inP, List.any_nil, Bool.or_false, cabalref15_Past.j4, cabalref15_Past.j3]
    cases b with
    | true => rw [if_pos rfl, if_pos (by simp; omega), if_pos rfl]
    | false => simp
  | succ m ih =>
    intro i n b hi hm
    obtain ⟨n, rfl⟩ : ∃ q, n = q + 1 := ⟨n - 1, by omega⟩
    have hil : i < ps.length := by omega
    have hnext : iadd .i64 (i : Int) 1 = ((i + 1 : Nat) : Int) := by rw [add64 (by omega)]; omega
    have hq : 0 ≤ fnd ps[i] 0 p := by
      unfold okP at hok
      have := List.all_eq_true.1 hok _ (List.getElem_mem hil)
      exact of_decide_eq_true this
    obtain ⟨j, hj, e, ea⟩ := fnd_at p ps[i] hq
    rw [cabalref15_Past.l2, if_pos (by simp; omega), at_get hil, List.drop_eq_getElem_cons hil]
    simp only [Option.bind_some]
    rw [rfind_eq p hp]
    simp only [Option.bind_some, hnext]
    have eh : inP p (ps[i] :: ps.drop (i + 1)) y2 = ((fnd ps[i] 0 p == (y2 : Int)) || (p[j].Past.contains (y2 : Int)) || inP p (ps.drop (i + 1)) y2) := by
      unfold inP
      rw [List.any_cons]
      unfold hitP
      rw [e, Int.toNat_natCast, List.getElem?_eq_getElem hj]
    rw [eh]
    by_cases hc : (if b = true then true else (fnd ps[i] 0 p == (y2 : Int))) = true
    · have t : ((if b = true then true else fnd ps[i] 0 p == (y2 : Int)) == false) = false := by rw [hc]; rfl
      rw [t]
      simp only [Bool.false_eq_true, if_false, Option.bind_some, hc, if_true]
      rw [ih (i + 1) n true (by omega) (by omega)]
      have : (b || (fnd ps[i] 0 p == (y2 : Int) || p[j].Past.contains (y2 : Int) || inP p (ps.drop (i + 1)) y2)) = true := by
        cases b with
        | true => rfl
        | false => simp only [Bool.false_eq_true, if_false] at hc; rw [hc]; rfl
      rw [this, Bool.true_or]
    · have hc2 : (if b = true then true else (fnd ps[i] 0 p == (y2 : Int))) = false := by simpa using hc
      have hb : b = false := by cases b with
        | true => simp at hc2
        | false => rfl
      subst hb
      simp only [Bool.false_eq_true, if_false] at hc2
      simp only [hc2, Bool.false_eq_true, if_false, beq_self_eq_true, if_true, ea, Option.bind_some, Bool.false_or]
      rw [in_eq _ (by have := hs _ (List.getElem_mem hj); omega)]
      simp only [Option.bind_some]
      rw [ih (i + 1) n _ (by omega) (by omega)]
theorem rpast_l1 (p : List api_Node) (hp : p.length ≤ 200) (hs : Short p) (ps : List (List Int)) (hps : ps.length ≤ 100) (hok : okP p ps = true) : ∀ (m i n : Nat) (acc : List Int), i + m = p.length → m < n → acc.length ≤ i →
    cabalref15_Past.l1 4000 p ps n (i : Int) acc = some (acc ++ coll (inP p ps) i m, true) := by
  intro m
  induction m with
  | zero =>
    intro i n acc hi hm ha
    obtain ⟨n, rfl⟩ : ∃ q, n = q + 1 := ⟨n - 1, by omega⟩
    rw [cabalref15_Past.l1, if_neg (by simp; omega)]; simp [cabalref15_Past.j2, coll]
  | succ m ih =>
    intro i n acc hi hm ha
    obtain ⟨n, rfl⟩ : ∃ q, n = q + 1 := ⟨n - 1, by omega⟩
    have hnext : iadd .i64 (i : Int) 1 = ((i + 1 : Nat) : Int) := by rw [add64 (by omega)]; omega
    rw [cabalref15_Past.l1, if_pos (by simp; omega)]
    have t := rpast_l2 p hp hs ps hps hok i acc (by omega) (cabalref15_Past.l1 4000 p ps n) ps.length 0 4000 false (by omega) (by omega)
    rw [show ((0 : Nat) : Int) = 0 from rfl, List.drop_zero, Bool.false_or] at t
    rw [t, hnext]
    unfold coll
    by_cases h : inP p ps i = true
    · rw [if_pos h, if_pos h, ih (i + 1) n _ (by omega) (by omega) (by simp; omega)]
      simp
    · rw [if_neg h, if_neg h]
      exact ih (i + 1) n _ (by omega) (by omega) (by omega)
theorem rpast_l3 (p : List api_Node) (hp : p.length ≤ 200) (hs : Short p) (ps : List (List Int)) (hps : ps.length ≤ 100) : ∀ (m i n : Nat), i + m = ps.length → m < n →
    cabalref15_Past.l3 4000 ps p n (i : Int) = if okP p (ps.drop i) = true then cabalref15_Past.j1 4000 p ps else some ([], false) := by
  intro m
  induction m with
  | zero =>
    intro i n hi hm
    obtain ⟨n, rfl⟩ : ∃ q, n = q + 1 := ⟨n - 1, by omega⟩
    rw [cabalref15_Past.l3, if_neg (by simp; omega), List.drop_eq_nil_of_le (by omega)]; rfl
  | succ m ih =>
    intro i n hi hm
    obtain ⟨n, rfl⟩ : ∃ q, n = q + 1 := ⟨n - 1, by omega⟩
    have hil : i < ps.length := by omega
    have hnext : iadd .i64 (i : Int) 1 = ((i + 1 : Nat) : Int) := by rw [add64 (by omega)]; omega
    rw [cabalref15_Past.l3, if_pos (by simp; omega), at_get hil, List.drop_eq_getElem_cons hil]
    simp only [Option.bind_some]
    rw [rfind_eq p hp]
    simp only [Option.bind_some, hnext]
    by_cases h : 0 ≤ fnd ps[i] 0 p
    · have eo : okP p (ps[i] :: ps.drop (i + 1)) = okP p (ps.drop (i + 1)) := by unfold okP; rw [List.all_cons, decide_eq_true h, Bool.true_and]
      rw [if_neg (by simp; omega), eo]
      exact ih (i + 1) n (by omega) (by omega)
    · have eo : okP p (ps[i] :: ps.drop (i + 1)) = false := by unfold okP; rw [List.all_cons, decide_eq_false h, Bool.false_and]
      rw [if_pos (by simp; omega), eo]; rfl
theorem rpast_eq (p : List api_Node) (hp : p.length ≤ 200) (hs : Short p) (ps : List (List Int)) (hps : ps.length ≤ 100) : cabalref15_Past 4000 p ps = some (if okP p ps = true then (coll (inP p ps) 0 p.length, true) else ([], false)) := by
  unfold cabalref15_Past
  have := rpast_l3 p hp hs ps hps ps.length 0 4000 (by omega) (by omega)
  rw [show ((0 : Nat) : Int) = 0 from rfl, List.drop_zero] at this
  rw [this]
  by_cases h : okP p ps = true
  · rw [if_pos h, if_pos h, cabalref15_Past.j1]
    have t := rpast_l1 p hp hs ps hps h p.length 0 4000 [] (by omega) (by omega) (by simp)
    rw [show ((0 : Nat) : Int) = 0 from rfl] at t
    rw [t]; rfl
  · rw [if_neg h, if_neg h]
end Go.Proofs.Pure
end
section
namespace Go.Proofs.Pure
open Go Go.RowKit Go.Proofs.Kit
set_option linter.unusedVariables false
def inc {α : Type} (lt : α → α → Bool) : List α → Bool
  | a :: b :: l => lt a b && inc lt (b :: l)
  | _ => true
theorem inc_drop {α : Type} (lt : α → α → Bool) (l : List α) (j : Nat) (h : j + 1 < l.length) : inc lt (l.drop j) = (lt l[j] l[j + 1] && inc lt (l.drop (j + 1))) := by
  rw [List.drop_eq_getElem_cons (i := j) (by omega), List.drop_eq_getElem_cons (i := j + 1) h]; rfl
theorem inc_end {α : Type} (lt : α → α → Bool) (l : List α) (j : Nat) (h : l.length ≤ j + 1) : inc lt (l.drop j) = true := by
  by_cases c : j < l.length
  · rw [List.drop_eq_getElem_cons c, List.drop_eq_nil_of_le h]; rfl
  · rw [List.drop_eq_nil_of_le (by omega)]; rfl
def ltI (a b : Int) : Bool := decide (a < b)
def ltK (a b : List Int) : Bool := decide (cmpB a b < 0)
def ltB (a b : api_Box) : Bool := decide (a.To < b.To)
def mem8 (v : Int) : Bool := decide (0 ≤ v ∧ v < 8)
structure OpFew (o : api_Op) : Prop where
  parents : o.Parents.length ≤ 30
  who : o.Who.length ≤ 30
  boxes : o.Boxes.length ≤ 30
  text : o.Text.length ≤ 600
  keys : ∀ q ∈ o.Parents, q.length = 32
theorem member_eq (v : Int) : frame_member 4000 v = some (mem8 v) := by
  unfold frame_member mem8
  by_cases h : 0 ≤ v <;> simp [h]
theorem rmember_eq (v : Int) : cabalref11_Member 4000 v = some (mem8 v) := by
  unfold cabalref11_Member mem8
  by_cases h : 0 ≤ v
  · simp [h]; omega
  · simp [h]
theorem number_eq (a b : Int) : ∃ c, frame_byNumber 4000 a b = some c ∧ decide (c ≥ 0) = !ltI a b := by
  unfold frame_byNumber ltI
  by_cases h : a < b
  · rw [if_pos (decide_eq_true h)]; exact ⟨-1, rfl, by simp [h]⟩
  · rw [if_neg (by simpa using h)]
    by_cases g : a > b
    · rw [if_pos (decide_eq_true g)]; exact ⟨1, rfl, by simp; omega⟩
    · rw [if_neg (by simpa using g)]; exact ⟨0, rfl, by simp; omega⟩
theorem cut32k {s : List Int} (h : s.length = 32) : cut? s (0 : Int) (32 : Int) = some s := by
  have := cut_pre (l := s) (n := 32) (by omega)
  rw [List.take_of_length_le (by omega)] at this; exact this
theorem bykey_eq (a b : List Int) (ha : a.length = 32) (hb : b.length = 32) : ∃ c, frame_byKey 4000 a b = some c ∧ decide (c ≥ 0) = !ltK a b := by
  refine ⟨cmpB a b, ?_, ?_⟩
  · unfold frame_byKey
    simp [cut32k ha, cut32k hb, bytes_Compare]
  · unfold ltK
    by_cases h : cmpB a b < 0
    · rw [decide_eq_true h, decide_eq_false (by omega)]; rfl
    · rw [decide_eq_false h, decide_eq_true (by omega)]; rfl
theorem keys_rising (l : List (List Int)) (hk : ∀ q ∈ l, q.length = 32) (hl : l.length ≤ 100) : frame_row_api_Key_rising 4000 ⟨l, ()⟩ = some (inc ltK l) := by
  have key : ∀ (m j n : Nat), j + 1 + m = l.length → m < n → frame_row_api_Key_rising.l1 4000 ⟨l, ()⟩ n ((j + 1 : Nat) : Int) = some (inc ltK (l.drop j)) := by
    intro m
    induction m with
    | zero =>
      intro j n hj hm
      obtain ⟨n, rfl⟩ : ∃ q, n = q + 1 := ⟨n - 1, by omega⟩
      rw [frame_row_api_Key_rising.l1, if_neg (by simp; omega), inc_end _ _ _ (by omega)]; rfl
    | succ m ih =>
      intro j n hj hm
      obtain ⟨n, rfl⟩ : ∃ q, n = q + 1 := ⟨n - 1, by omega⟩
      have h1 : j + 1 < l.length := by omega
      have e1 : isub .i64 ((j + 1 : Nat) : Int) 1 = (j : Int) := by rw [sub64 (by omega)]; omega
      have e2 : iadd .i64 ((j + 1 : Nat) : Int) 1 = ((j + 1 + 1 : Nat) : Int) := by rw [add64 (by omega)]; omega
      have a1 : at? l (j : Int) = some l[j] := at_get (by omega)
      have a2 : at? l ((j + 1 : Nat) : Int) = some l[j + 1] := at_get h1
      obtain ⟨c, c1, c2⟩ := bykey_eq l[j] l[j + 1] (hk _ (List.getElem_mem _)) (hk _ (List.getElem_mem _))
      rw [frame_row_api_Key_rising.l1, if_pos (by simp; omega), inc_drop _ _ _ h1]
      simp only [e1, a1, a2, Option.bind_some, c1, c2, e2]
      cases h : ltK l[j] l[j + 1] with
      | true => simp only [Bool.not_true, Bool.false_eq_true, if_false, Bool.true_and]; exact ih (j + 1) n (by omega) (by omega)
      | false => rfl
  unfold frame_row_api_Key_rising
  cases hz : l with
  | nil => rw [frame_row_api_Key_rising.l1, if_neg (by simp)]; rfl
  | cons a t =>
    have := key (l.length - 1) 0 4000 (by rw [hz]; simp; omega) (by omega)
    rw [show ((0 + 1 : Nat) : Int) = 1 from rfl, List.drop_zero, hz] at this
    exact this
theorem ints_rising (l : List Int) (hl : l.length ≤ 100) : frame_row_int_rising 4000 ⟨l, ()⟩ = some (inc ltI l) := by
  have key : ∀ (m j n : Nat), j + 1 + m = l.length → m < n → frame_row_int_rising.l1 4000 ⟨l, ()⟩ n ((j + 1 : Nat) : Int) = some (inc ltI (l.drop j)) := by
    intro m
    induction m with
    | zero =>
      intro j n hj hm
      obtain ⟨n, rfl⟩ : ∃ q, n = q + 1 := ⟨n - 1, by omega⟩
      rw [frame_row_int_rising.l1, if_neg (by simp; omega), inc_end _ _ _ (by omega)]; rfl
    | succ m ih =>
      intro j n hj hm
      obtain ⟨n, rfl⟩ : ∃ q, n = q + 1 := ⟨n - 1, by omega⟩
      have h1 : j + 1 < l.length := by omega
      have e1 : isub .i64 ((j + 1 : Nat) : Int) 1 = (j : Int) := by rw [sub64 (by omega)]; omega
      have e2 : iadd .i64 ((j + 1 : Nat) : Int) 1 = ((j + 1 + 1 : Nat) : Int) := by rw [add64 (by omega)]; omega
      have a1 : at? l (j : Int) = some l[j] := at_get (by omega)
      have a2 : at? l ((j + 1 : Nat) : Int) = some l[j + 1] := at_get h1
      obtain ⟨c, c1, c2⟩ := number_eq l[j] l[j + 1]
      rw [frame_row_int_rising.l1, if_pos (by simp; omega), inc_drop _ _ _ h1]
      simp only [e1, a1, a2, Option.bind_some, c1, c2, e2]
      cases h : ltI l[j] l[j + 1] with
      | true => simp only [Bool.not_true, Bool.false_eq_true, if_false, Bool.true_and]; exact ih (j + 1) n (by omega) (by omega)
      | false => rfl
  unfold frame_row_int_rising
  cases hz : l with
  | nil => rw [frame_row_int_rising.l1, if_neg (by simp)]; rfl
  | cons a t =>
    have := key (l.length - 1) 0 4000 (by rw [hz]; simp; omega) (by omega)
    rw [show ((0 + 1 : Nat) : Int) = 1 from rfl, List.drop_zero, hz] at this
    exact this
theorem boxes_rising (l : List api_Box) (hl : l.length ≤ 100) : frame_row_api_Box_rising 4000 ⟨l, ()⟩ = some (inc ltB l) := by
  have key : ∀ (m j n : Nat), j + 1 + m = l.length → m < n → frame_row_api_Box_rising.l1 4000 ⟨l, ()⟩ n ((j + 1 : Nat) : Int) = some (inc ltB (l.drop j)) := by
    intro m
    induction m with
    | zero =>
      intro j n hj hm
      obtain ⟨n, rfl⟩ : ∃ q, n = q + 1 := ⟨n - 1, by omega⟩
      rw [frame_row_api_Box_rising.l1, if_neg (by simp; omega), inc_end _ _ _ (by omega)]; rfl
    | succ m ih =>
      intro j n hj hm
      obtain ⟨n, rfl⟩ : ∃ q, n = q + 1 := ⟨n - 1, by omega⟩
      have h1 : j + 1 < l.length := by omega
      have e1 : isub .i64 ((j + 1 : Nat) : Int) 1 = (j : Int) := by rw [sub64 (by omega)]; omega
      have e2 : iadd .i64 ((j + 1 : Nat) : Int) 1 = ((j + 1 + 1 : Nat) : Int) := by rw [add64 (by omega)]; omega
      have a1 : at? l (j : Int) = some l[j] := at_get (by omega)
      have a2 : at? l ((j + 1 : Nat) : Int) = some l[j + 1] := at_get h1
      obtain ⟨c, c1, c2⟩ := number_eq l[j].To l[j + 1].To
      have c2' : decide (c ≥ 0) = !ltB l[j] l[j + 1] := c2
      rw [frame_row_api_Box_rising.l1, if_pos (by simp; omega), inc_drop _ _ _ h1]
      simp only [e1, a1, a2, Option.bind_some, frame_boxes_1, c1, c2', e2]
      cases h : ltB l[j] l[j + 1] with
      | true => simp only [Bool.not_true, Bool.false_eq_true, if_false, Bool.true_and]; exact ih (j + 1) n (by omega) (by omega)
      | false => rfl
  unfold frame_row_api_Box_rising
  cases hz : l with
  | nil => rw [frame_row_api_Box_rising.l1, if_neg (by simp)]; rfl
  | cons a t =>
    have := key (l.length - 1) 0 4000 (by rw [hz]; simp; omega) (by omega)
    rw [show ((0 + 1 : Nat) : Int) = 1 from rfl, List.drop_zero, hz] at this
    exact this
theorem whoout_eq (l : List Int) (hl : l.length ≤ 100) : slices_ContainsFunc_int_int_frame_who_1 4000 l = some (l.any (fun v => !mem8 v)) := by
  have key : ∀ (m i n : Nat), i + m = l.length → m < n → ∃ r, slices_IndexFunc_int_int_frame_who_1.l1 4000 l n (i : Int) = some r ∧ decide (r ≥ 0) = (l.drop i).any (fun v => !mem8 v) := by
    intro m
    induction m with
    | zero =>
      intro i n hi hm
      obtain ⟨n, rfl⟩ : ∃ q, n = q + 1 := ⟨n - 1, by omega⟩
      rw [slices_IndexFunc_int_int_frame_who_1.l1, if_neg (by simp; omega), List.drop_eq_nil_of_le (by omega)]; exact ⟨-1, rfl, rfl⟩
    | succ m ih =>
      intro i n hi hm
      obtain ⟨n, rfl⟩ : ∃ q, n = q + 1 := ⟨n - 1, by omega⟩
      have hil : i < l.length := by omega
      have hnext : iadd .i64 (i : Int) 1 = ((i + 1 : Nat) : Int) := by rw [add64 (by omega)]; omega
      rw [slices_IndexFunc_int_int_frame_who_1.l1, if_pos (by simp; omega), at_get hil, List.drop_eq_getElem_cons hil, List.any_cons]
      simp only [Option.bind_some, frame_who_1, member_eq, hnext]
      cases h : mem8 l[i] with
      | true => simp only [Bool.not_true, Bool.false_eq_true, if_false, Bool.false_or]; exact ih (i + 1) n (by omega) (by omega)
      | false => exact ⟨(i : Int), by simp, by simp⟩
  unfold slices_ContainsFunc_int_int_frame_who_1 slices_IndexFunc_int_int_frame_who_1
  obtain ⟨r, h1, h2⟩ := key l.length 0 4000 (by omega) (by omega)
  rw [show ((0 : Nat) : Int) = 0 from rfl] at h1
  rw [List.drop_zero] at h2
  rw [h1]
  simp only [Option.bind_some, h2]
theorem contains_eq (l : List Int) (hl : l.length ≤ 2000) (v : Int) : slices_Contains_int_int 4000 l v = some (l.contains v) := by
  have key : ∀ (m i n : Nat), i + m = l.length → m < n → ∃ r, slices_Index_int_int.l1 4000 l v n (i : Int) = some r ∧ decide (r ≥ 0) = (l.drop i).contains v := by
    intro m
    induction m with
    | zero =>
      intro i n hi hm
      obtain ⟨n, rfl⟩ : ∃ q, n = q + 1 := ⟨n - 1, by omega⟩
      rw [slices_Index_int_int.l1, if_neg (by simp; omega), List.drop_eq_nil_of_le (by omega)]; exact ⟨-1, rfl, rfl⟩
    | succ m ih =>
      intro i n hi hm
      obtain ⟨n, rfl⟩ : ∃ q, n = q + 1 := ⟨n - 1, by omega⟩
      have hil : i < l.length := by omega
      have hnext : iadd .i64 (i : Int) 1 = ((i + 1 : Nat) : Int) := by rw [add64 (by omega)]; omega
      rw [slices_Index_int_int.l1, if_pos (by simp; omega), at_get hil, List.drop_eq_getElem_cons hil, List.contains_cons]
      simp only [Option.bind_some, hnext]
      cases h : (v == l[i]) with
      | true => exact ⟨(i : Int), by simp, by simp⟩
      | false => simp only [Bool.false_eq_true, if_false, Bool.false_or]; exact ih (i + 1) n (by omega) (by omega)
  unfold slices_Contains_int_int slices_Index_int_int
  obtain ⟨r, h1, h2⟩ := key l.length 0 4000 (by omega) (by omega)
  rw [show ((0 : Nat) : Int) = 0 from rfl] at h1
  rw [List.drop_zero] at h2
  rw [h1]
  simp only [Option.bind_some, h2]
def badB (o : api_Op) (b : api_Box) : Bool := !mem8 b.To || b.To == o.Author || decide ((b.Body.length : Int) > 256)
theorem boxbad_eq (o : api_Op) (l : List api_Box) (hl : l.length ≤ 100) : slices_ContainsFunc_api_Box_api_Box_frame_boxes_2 4000 l o = some (l.any (badB o)) := by
  have one : ∀ b, frame_boxes_2 4000 b o = some (badB o b) := fun b => by
    unfold frame_boxes_2 badB
    simp only [member_eq, Option.bind_some]
    cases mem8 b.To <;> cases (b.To == o.Author) <;> rfl
  have key : ∀ (m i n : Nat), i + m = l.length → m < n → ∃ r, slices_IndexFunc_api_Box_api_Box_frame_boxes_2.l1 4000 l o n (i : Int) = some r ∧ decide (r ≥ 0) = (l.drop i).any (badB o) := by
    intro m
    induction m with
    | zero =>
      intro i n hi hm
      obtain ⟨n, rfl⟩ : ∃ q, n = q + 1 := ⟨n - 1, by omega⟩
      rw [slices_IndexFunc_api_Box_api_Box_frame_boxes_2.l1, if_neg (by simp; omega), List.drop_eq_nil_of_le (by omega)]; exact ⟨-1, rfl, rfl⟩
    | succ m ih =>
      intro i n hi hm
      obtain ⟨n, rfl⟩ : ∃ q, n = q + 1 := ⟨n - 1, by omega⟩
      have hil : i < l.length := by omega
      have hnext : iadd .i64 (i : Int) 1 = ((i + 1 : Nat) : Int) := by rw [add64 (by omega)]; omega
      rw [slices_IndexFunc_api_Box_api_Box_frame_boxes_2.l1, if_pos (by simp; omega), at_get hil, List.drop_eq_getElem_cons hil, List.any_cons]
      simp only [Option.bind_some, one, hnext]
      cases h : badB o l[i] with
      | true => exact ⟨(i : Int), by simp, by simp⟩
      | false => simp only [Bool.false_eq_true, if_false, Bool.false_or]; exact ih (i + 1) n (by omega) (by omega)
  unfold slices_ContainsFunc_api_Box_api_Box_frame_boxes_2 slices_IndexFunc_api_Box_api_Box_frame_boxes_2
  obtain ⟨r, h1, h2⟩ := key l.length 0 4000 (by omega) (by omega)
  rw [show ((0 : Nat) : Int) = 0 from rfl] at h1
  rw [List.drop_zero] at h2
  rw [h1]
  simp only [Option.bind_some, h2]
def whoR (o : api_Op) : Bool :=
  (inc ltI o.Who && !o.Who.any (fun v => !mem8 v)) && (if o.Kind = 1 then o.Who.contains o.Author else if o.Kind = 2 ∨ o.Kind = 3 then decide (o.Who.length = 1) && !o.Who.contains o.Author else decide (o.Who.length = 0))
theorem who_eq (o : api_Op) (h : OpFew o) : frame_who 4000 o = some (whoR o) := by
  have hw := h.who
  unfold frame_who whoR
  rw [ints_rising o.Who (by omega)]
  simp only [Option.bind_some]
  cases hi : inc ltI o.Who with
  | false => rfl
  | true =>
    simp only [Bool.not_true, beq_self_eq_true, if_true, whoout_eq o.Who (by omega), Option.bind_some, Bool.true_and, Bool.false_eq_true, if_false]
    cases ha : o.Who.any (fun v => !mem8 v) with
    | true => rfl
    | false =>
      simp only [Bool.false_eq_true, if_false, Bool.not_false, Bool.true_and]
      by_cases k1 : o.Kind = 1
      · rw [if_pos (by simp [k1]), contains_eq _ (by omega), if_pos k1]; rfl
      · rw [if_neg (by simp [k1]), if_neg k1]
        have one : frame_who.j1 4000 o true = some (decide (o.Who.length = 1) && !o.Who.contains o.Author) := by
          unfold frame_who.j1
          rw [if_pos rfl]
          by_cases l1 : o.Who.length = 1
          · match hl : o.Who, l1 with
            | [a], _ =>
              simp only [at?, List.length_singleton, List.contains_cons, List.contains_nil, Bool.or_false]
              by_cases q : a = o.Author
              · subst q; simp
              · have q2 : (o.Author == a) = false := by simp; exact fun e => q e.symm
                simp [q, q2]
          · have l2 : ((o.Who.length : Int) == 1) = false := by simp; omega
            simp [l2, l1]
        have none_ : frame_who.j1 4000 o false = some (decide (o.Who.length = 0)) := by
          unfold frame_who.j1
          rw [if_neg (by simp)]
          congr 1
          by_cases l0 : o.Who.length = 0
          · simp [l0]
          · simp [l0]
        by_cases k2 : o.Kind = 2
        · rw [if_pos (by simp [k2]), show (o.Kind == 2) = true by simp [k2], if_pos (.inl k2)]; exact one
        · rw [if_neg (by simp [k2])]
          by_cases k3 : o.Kind = 3
          · rw [show (o.Kind == 3) = true by simp [k3], if_pos (.inr k3)]; exact one
          · rw [show (o.Kind == 3) = false by simp [k3], if_neg (by rintro (q | q); exact k2 q; exact k3 q)]; exact none_
theorem boxes_eq (o : api_Op) (h : OpFew o) : frame_boxes 4000 o = some (decide (o.Boxes.length ≤ 8) && inc ltB o.Boxes && !o.Boxes.any (badB o)) := by
  have hb := h.boxes
  unfold frame_boxes
  by_cases l8 : o.Boxes.length ≤ 8
  · have e : decide ((o.Boxes.length : Int) ≤ 8) = true := decide_eq_true (by omega)
    rw [e, decide_eq_true l8]
    simp only [beq_self_eq_true, if_true, boxes_rising o.Boxes (by omega), Option.bind_some, Bool.true_and]
    cases inc ltB o.Boxes with
    | true => simp only [beq_self_eq_true, if_true, boxbad_eq o o.Boxes (by omega), Option.bind_some]; rfl
    | false => rfl
  · have e : decide ((o.Boxes.length : Int) ≤ 8) = false := decide_eq_false (by omega)
    rw [e, decide_eq_false l8]; rfl
end Go.Proofs.Pure
end
section
namespace Go.Proofs.Pure
open Go Go.RowKit Go.Proofs.Kit
set_option linter.unusedVariables false
def Z32 : List Int := [0, 0, 0, 0, 0, 0, 0, 0, 0, 0, 0, 0, 0, 0, 0, 0, 0, 0, 0, 0, 0, 0, 0, 0, 0, 0, 0, 0, 0, 0, 0, 0]
def boxR (o : api_Op) : Bool := decide (o.Boxes.length ≤ 8) && inc ltB o.Boxes && !o.Boxes.any (badB o)
def rightO (o : api_Op) : Bool :=
  mem8 o.Author && !(o.Seq == 0) && decide (1 ≤ o.Kind) && decide (o.Kind ≤ 7) && decide (o.Parents.length ≤ 8) && inc ltK o.Parents &&
  (decide (o.Kind = 1) == decide (o.Parents.length = 0)) && (!decide (o.Kind = 1) || o.Seq == 1) && (decide (o.Kind = 5 ∨ o.Kind = 6) == !decide (o.Of = Z32)) &&
  (decide (o.Kind = 7) == decide (o.Check = Z32)) && (decide (o.Kind = 7) == decide (0 < o.Text.length)) && decide (o.Text.length ≤ 256) && whoR o && boxR o
theorem frame_eq (o : api_Op) (h : OpFew o) : frame_Right 4000 o = some (rightO o) := by
  have hp := h.parents
  have hZ : ([0, 0, 0, 0, 0, 0, 0, 0, 0, 0, 0, 0, 0, 0, 0, 0, 0, 0, 0, 0, 0, 0, 0, 0, 0, 0, 0, 0, 0, 0, 0, 0] : List Int) = Z32 := rfl
  have hb := boxes_eq o h
  rw [show (decide (o.Boxes.length ≤ 8) && inc ltB o.Boxes && !o.Boxes.any (badB o)) = boxR o from rfl] at hb
  unfold frame_Right rightO
  simp only [hZ, member_eq, Option.bind_some, keys_rising o.Parents h.keys (by omega), who_eq o h, hb]
  generalize whoR o = W
  generalize boxR o = B
  generalize mem8 o.Author = M
  generalize inc ltK o.Parents = PR
  generalize hOF : decide (o.Of = Z32) = OF
  generalize hCK : decide (o.Check = Z32) = CK
  have eP : decide ((o.Parents.length : Int) > 8) = !decide (o.Parents.length ≤ 8) := by
    by_cases q : o.Parents.length ≤ 8
    · rw [decide_eq_true q, decide_eq_false (by omega)]; rfl
    · rw [decide_eq_false q, decide_eq_true (by omega)]; rfl
  have eP0 : ((o.Parents.length : Int) == 0) = decide (o.Parents.length = 0) := by
    by_cases q : o.Parents.length = 0
    · rw [decide_eq_true q, q]; rfl
    · rw [decide_eq_false q]; simp; exact fun e => q (by rw [e]; rfl)
  have eT : decide ((o.Text.length : Int) > 256) = !decide (o.Text.length ≤ 256) := by
    by_cases q : o.Text.length ≤ 256
    · rw [decide_eq_true q, decide_eq_false (by omega)]; rfl
    · rw [decide_eq_false q, decide_eq_true (by omega)]; rfl
  have eT0 : decide ((o.Text.length : Int) > 0) = decide (0 < o.Text.length) := by
    by_cases q : 0 < o.Text.length
    · rw [decide_eq_true q, decide_eq_true (by omega)]
    · rw [decide_eq_false q, decide_eq_false (by omega)]
  rw [eP, eP0, eT, eT0]
  generalize decide (o.Parents.length ≤ 8) = P8
  generalize decide (o.Parents.length = 0) = P0
  generalize decide (o.Text.length ≤ 256) = T8
  generalize decide (0 < o.Text.length) = T0
  generalize o.Seq = S
  generalize o.Kind = K
  cases M with
  | false => rfl
  | true =>
  by_cases hS : S = 0
  · simp [hS]
  have eS : (S == 0) = false := by simpa using hS
  rw [eS]
  by_cases k0 : K < 1
  · simp [k0]; omega
  by_cases k7 : K > 7
  · simp [k7]; omega
  rw [decide_eq_false k0, decide_eq_false k7, decide_eq_true (show 1 ≤ K by omega), decide_eq_true (show K ≤ 7 by omega)]
  cases P8 with
  | false => rfl
  | true =>
  cases PR with
  | false => rfl
  | true =>
  cases T8 with
  | false =>
    simp
  | true =>
  have hk : K = 1 ∨ K = 2 ∨ K = 3 ∨ K = 4 ∨ K = 5 ∨ K = 6 ∨ K = 7 := by omega
  have e1 : (S == 1) = decide (S = 1) := by by_cases q : S = 1 <;> simp [q]
  have e2 : (S != 1) = !decide (S = 1) := by by_cases q : S = 1 <;> simp [q]
  rw [e1, e2]
  generalize decide (S = 1) = S1
  rcases hk with rfl | rfl | rfl | rfl | rfl | rfl | rfl <;> (cases P0 <;> cases S1 <;> cases OF <;> cases CK <;> cases T0 <;> cases W <;> cases B <;> rfl)
end Go.Proofs.Pure
end
section
namespace Go.Proofs.Pure
open Go Go.RowKit Go.Proofs.Kit
set_option linter.unusedVariables false
theorem less_eq (a b : List Int) (ha : a.length = 32) (hb : b.length = 32) : cabalref11_Less 4000 a b = some (ltK a b) := by
  have key : ∀ (m i n : Nat), i + m = 32 → m < n → cabalref11_Less.l1 4000 a b n (i : Int) = some (decide (cmpB (a.drop i) (b.drop i) < 0)) := by
    intro m
    induction m with
    | zero =>
      intro i n hi hm
      obtain ⟨n, rfl⟩ : ∃ q, n = q + 1 := ⟨n - 1, by omega⟩
      rw [cabalref11_Less.l1, if_neg (by simp; omega), List.drop_eq_nil_of_le (by omega), List.drop_eq_nil_of_le (by omega)]; rfl
    | succ m ih =>
      intro i n hi hm
      obtain ⟨n, rfl⟩ : ∃ q, n = q + 1 := ⟨n - 1, by omega⟩
      have hia : i < a.length := by omega
      have hib : i < b.length := by omega
      have hnext : iadd .i64 (i : Int) 1 = ((i + 1 : Nat) : Int) := by rw [add64 (by omega)]; omega
      have hr : (0 : Int) ≤ (i : Int) ∧ (i : Int) < 32 := by omega
      rw [cabalref11_Less.l1, if_pos (by simp; omega), List.drop_eq_getElem_cons hia, List.drop_eq_getElem_cons hib]
      simp only [if_pos hr, at_get hia, at_get hib, Option.bind_some, hnext]
      unfold cmpB
      by_cases q : a[i] = b[i]
      · rw [if_neg (by simp [q]), if_pos q]
        exact ih (i + 1) n (by omega) (by omega)
      · rw [if_pos (by simp [q]), if_neg q]
        by_cases g : a[i] < b[i]
        · rw [if_pos g, decide_eq_true g]; rfl
        · rw [if_neg g, decide_eq_false g]; rfl
  unfold cabalref11_Less
  have := key 32 0 4000 (by omega) (by omega)
  rw [show ((0 : Nat) : Int) = 0 from rfl, List.drop_zero, List.drop_zero] at this
  exact this
theorem rright_l3 (o : api_Op) (h : OpFew o) : ∀ (m j n : Nat), j + 1 + m = o.Parents.length → m < n → cabalref11_Right.l3 4000 o n ((j + 1 : Nat) : Int) = if inc ltK (o.Parents.drop j) = true then cabalref11_Right.j1 4000 o else some false := by
  have hp := h.parents
  intro m
  induction m with
  | zero =>
    intro j n hj hm
    obtain ⟨n, rfl⟩ : ∃ q, n = q + 1 := ⟨n - 1, by omega⟩
    rw [cabalref11_Right.l3, if_neg (by simp; omega), inc_end _ _ _ (by omega), if_pos rfl]
  | succ m ih =>
    intro j n hj hm
    obtain ⟨n, rfl⟩ : ∃ q, n = q + 1 := ⟨n - 1, by omega⟩
    have h1 : j + 1 < o.Parents.length := by omega
    have e1 : isub .i64 ((j + 1 : Nat) : Int) 1 = (j : Int) := by rw [sub64 (by omega)]; omega
    have e2 : iadd .i64 ((j + 1 : Nat) : Int) 1 = ((j + 1 + 1 : Nat) : Int) := by rw [add64 (by omega)]; omega
    have a1 : at? o.Parents (j : Int) = some o.Parents[j] := at_get (by omega)
    have a2 : at? o.Parents ((j + 1 : Nat) : Int) = some o.Parents[j + 1] := at_get h1
    rw [cabalref11_Right.l3, if_pos (by simp; omega), inc_drop _ _ _ h1]
    simp only [e1, a1, a2, Option.bind_some, less_eq _ _ (h.keys _ (List.getElem_mem _)) (h.keys _ (List.getElem_mem _)), e2]
    cases ltK o.Parents[j] o.Parents[j + 1] with
    | true => simp only [Bool.not_true, Bool.false_eq_true, if_false, Bool.true_and]; exact ih (j + 1) n (by omega) (by omega)
    | false => rfl
theorem rright_l2 (o : api_Op) (h : OpFew o) : ∀ (m i n : Nat) (b : Bool), i + m = o.Who.length → m < n → cabalref11_Right.l2 4000 o n b (i : Int) = if ((o.Who.drop i).all mem8 && inc ltI (o.Who.drop (i - 1))) = true then cabalref11_Right.j2 4000 o (b || (o.Who.drop i).contains o.Author) else some false := by
  have hp := h.who
  intro m
  induction m with
  | zero =>
    intro i n b hi hm
    obtain ⟨n, rfl⟩ : ∃ q, n = q + 1 := ⟨n - 1, by omega⟩
    rw [cabalref11_Right.l2, if_neg (by simp; omega), inc_end _ _ _ (by omega), List.drop_eq_nil_of_le (by omega)]
    simp
  | succ m ih =>
    intro i n b hi hm
    obtain ⟨n, rfl⟩ : ∃ q, n = q + 1 := ⟨n - 1, by omega⟩
    have hil : i < o.Who.length := by omega
    have hnext : iadd .i64 (i : Int) 1 = ((i + 1 : Nat) : Int) := by rw [add64 (by omega)]; omega
    have ec : (o.Who.drop i).contains o.Author = ((o.Who[i] == o.Author) || (o.Who.drop (i + 1)).contains o.Author) := by
      rw [List.drop_eq_getElem_cons hil, List.contains_cons, Bool.beq_comm]
    have ea : (o.Who.drop i).all mem8 = (mem8 o.Who[i] && (o.Who.drop (i + 1)).all mem8) := by
      rw [List.drop_eq_getElem_cons hil, List.all_cons]
    rw [cabalref11_Right.l2, if_pos (by simp; omega)]
    simp only [at_get hil, Option.bind_some, rmember_eq]
    have fin : ∀ b' : Bool, (if (b' == false) = true then some o.Who[i] else some 0).bind (fun x16 => cabalref11_Right.l2 4000 o n (if b' = true then true else x16 == o.Author) (iadd .i64 (i : Int) 1)) = cabalref11_Right.l2 4000 o n (b' || (o.Who[i] == o.Author)) ((i + 1 : Nat) : Int) := fun b' => by
      rw [hnext]; cases b' <;> rfl
    rw [ea, ec]
    cases hm8 : mem8 o.Who[i] with
    | false => rfl
    | true =>
      cases i with
      | zero =>
        have d0 : decide (((0 : Nat) : Int) > 0) = false := rfl
        rw [d0]
        simp only [Bool.not_true, beq_self_eq_true, Bool.false_eq_true, Bool.and_false, if_false, Option.bind_some, Bool.true_and, (by decide : (false == true) = false)]
        refine (fin b).trans ?_
        rw [ih 1 n _ (by omega) (by omega), Bool.or_assoc]
      | succ i =>
        have d1 : decide (((i + 1 : Nat) : Int) > 0) = true := decide_eq_true (by omega)
        have e1 : isub .i64 ((i + 1 : Nat) : Int) 1 = (i : Int) := by rw [sub64 (by omega)]; omega
        have a1 : at? o.Who (i : Int) = some o.Who[i] := at_get (by omega)
        have ei : inc ltI (o.Who.drop (i + 1 - 1)) = (ltI o.Who[i] o.Who[i + 1] && inc ltI (o.Who.drop (i + 1))) := inc_drop _ _ _ hil
        rw [d1, ei]
        simp only [Bool.not_true, beq_self_eq_true, Bool.and_self, if_true, e1, a1, Option.bind_some, Bool.false_eq_true, if_false, Bool.true_and]
        have el : decide (o.Who[i] ≥ o.Who[i + 1]) = !ltI o.Who[i] o.Who[i + 1] := by
          unfold ltI
          by_cases q : o.Who[i] < o.Who[i + 1]
          · rw [decide_eq_true q, decide_eq_false (by omega)]; rfl
          · rw [decide_eq_false q, decide_eq_true (by omega)]; rfl
        rw [el]
        cases ltI o.Who[i] o.Who[i + 1] with
        | false => simp
        | true =>
          simp only [Bool.not_true, Bool.false_eq_true, if_false, Bool.true_and]
          refine (fin b).trans ?_
          rw [ih (i + 1 + 1) n _ (by omega) (by omega), Bool.or_assoc]
          rfl
theorem rright_l1 (o : api_Op) (h : OpFew o) (y : Bool) : ∀ (m i n : Nat), i + m = o.Boxes.length → m < n → cabalref11_Right.l1 4000 o y n (i : Int) = if (!(o.Boxes.drop i).any (badB o) && inc ltB (o.Boxes.drop (i - 1))) = true then cabalref11_Right.j3 4000 o y else some false := by
  have hp := h.boxes
  intro m
  induction m with
  | zero =>
    intro i n hi hm
    obtain ⟨n, rfl⟩ : ∃ q, n = q + 1 := ⟨n - 1, by omega⟩
    rw [cabalref11_Right.l1, if_neg (by simp; omega), inc_end _ _ _ (by omega), List.drop_eq_nil_of_le (by omega)]
    simp
  | succ m ih =>
    intro i n hi hm
    obtain ⟨n, rfl⟩ : ∃ q, n = q + 1 := ⟨n - 1, by omega⟩
    have hil : i < o.Boxes.length := by omega
    have hnext : iadd .i64 (i : Int) 1 = ((i + 1 : Nat) : Int) := by rw [add64 (by omega)]; omega
    have ea : (o.Boxes.drop i).any (badB o) = (badB o o.Boxes[i] || (o.Boxes.drop (i + 1)).any (badB o)) := by
      rw [List.drop_eq_getElem_cons hil, List.any_cons]
    have eb : (if (if (!mem8 o.Boxes[i].To) = true then true else (o.Boxes[i].To == o.Author)) = true then true else decide ((o.Boxes[i].Body.length : Int) > 256)) = badB o o.Boxes[i] := by
      unfold badB
      cases mem8 o.Boxes[i].To <;> cases (o.Boxes[i].To == o.Author) <;> rfl
    rw [cabalref11_Right.l1, if_pos (by simp; omega)]
    simp only [at_get hil, Option.bind_some, rmember_eq, eb, ea, hnext]
    cases badB o o.Boxes[i] with
    | true =>
      simp
    | false =>
      cases i with
      | zero =>
        have d0 : decide (((0 : Nat) : Int) > 0) = false := rfl
        rw [d0]
        simp only [beq_self_eq_true, Bool.and_false, Bool.false_eq_true, if_false, Option.bind_some, Bool.false_or, (by decide : (false == true) = false)]
        exact ih 1 n (by omega) (by omega)
      | succ i =>
        have d1 : decide (((i + 1 : Nat) : Int) > 0) = true := decide_eq_true (by omega)
        have e1 : isub .i64 ((i + 1 : Nat) : Int) 1 = (i : Int) := by rw [sub64 (by omega)]; omega
        have a1 : at? o.Boxes (i : Int) = some o.Boxes[i] := at_get (by omega)
        have ei : inc ltB (o.Boxes.drop (i + 1 - 1)) = (ltB o.Boxes[i] o.Boxes[i + 1] && inc ltB (o.Boxes.drop (i + 1))) := inc_drop _ _ _ hil
        rw [d1, ei]
        simp only [beq_self_eq_true, Bool.and_self, if_true, e1, a1, Option.bind_some, Bool.false_eq_true, if_false, Bool.false_or]
        have el : decide (o.Boxes[i].To ≥ o.Boxes[i + 1].To) = !ltB o.Boxes[i] o.Boxes[i + 1] := by
          unfold ltB
          by_cases q : o.Boxes[i].To < o.Boxes[i + 1].To
          · rw [decide_eq_true q, decide_eq_false (by omega)]; rfl
          · rw [decide_eq_false q, decide_eq_true (by omega)]; rfl
        rw [el]
        cases ltB o.Boxes[i] o.Boxes[i + 1] with
        | false => simp
        | true =>
          simp only [Bool.not_true, Bool.false_eq_true, if_false, Bool.true_and]
          exact ih (i + 1 + 1) n (by omega) (by omega)
def kindR (o : api_Op) (y : Bool) : Bool :=
  if decide (o.Kind = 1) && (!y || !decide (o.Parents.length = 0) || !(o.Seq == 1)) || !decide (o.Kind = 1) && decide (o.Parents.length = 0) then false
  else if decide (o.Kind = 2 ∨ o.Kind = 3) && (y || !decide (o.Who.length = 1)) || decide (3 < o.Kind) && !decide (o.Who.length = 0) then false
  else if decide (o.Kind = 5 ∨ o.Kind = 6) == decide (o.Of = Z32) then false
  else if o.Kind = 7 then decide (o.Check = Z32) && decide (0 < o.Text.length) else !decide (o.Check = Z32) && !decide (0 < o.Text.length)
theorem kind_eq (o : api_Op) (y : Bool) : cabalref11_kind 4000 o y = some (kindR o y) := by
  have hZ : ([0, 0, 0, 0, 0, 0, 0, 0, 0, 0, 0, 0, 0, 0, 0, 0, 0, 0, 0, 0, 0, 0, 0, 0, 0, 0, 0, 0, 0, 0, 0, 0] : List Int) = Z32 := rfl
  have eP0 : ((o.Parents.length : Int) == 0) = decide (o.Parents.length = 0) := by
    by_cases q : o.Parents.length = 0
    · rw [decide_eq_true q, q]; rfl
    · rw [decide_eq_false q]; simp; exact fun e => q (by rw [e]; rfl)
  have eP1 : decide ((o.Parents.length : Int) > 0) = !decide (o.Parents.length = 0) := by
    by_cases q : o.Parents.length = 0
    · rw [decide_eq_true q, decide_eq_false (by omega)]; rfl
    · rw [decide_eq_false q, decide_eq_true (by omega)]; rfl
  have eW0 : decide ((o.Who.length : Int) > 0) = !decide (o.Who.length = 0) := by
    by_cases q : o.Who.length = 0
    · rw [decide_eq_true q, decide_eq_false (by omega)]; rfl
    · rw [decide_eq_false q, decide_eq_true (by omega)]; rfl
  have eW1 : ((o.Who.length : Int) != 1) = !decide (o.Who.length = 1) := by
    by_cases q : o.Who.length = 1
    · rw [decide_eq_true q, q]; rfl
    · rw [decide_eq_false q]; simp; omega
  have eT0 : decide ((o.Text.length : Int) > 0) = decide (0 < o.Text.length) := by
    by_cases q : 0 < o.Text.length
    · rw [decide_eq_true q, decide_eq_true (by omega)]
    · rw [decide_eq_false q, decide_eq_false (by omega)]
  have eT1 : ((o.Text.length : Int) == 0) = !decide (0 < o.Text.length) := by
    by_cases q : 0 < o.Text.length
    · rw [decide_eq_true q]; simp; exact List.ne_nil_of_length_pos q
    · rw [decide_eq_false q, show o.Text.length = 0 by omega]; rfl
  unfold cabalref11_kind kindR
  simp only [hZ, Option.bind_some]
  rw [eP0, eP1, eW0, eW1, eT0, eT1]
  have e1 : (o.Seq == 1) = decide (o.Seq = 1) := by by_cases q : o.Seq = 1 <;> simp [q]
  have e2 : (o.Seq != 1) = !decide (o.Seq = 1) := by by_cases q : o.Seq = 1 <;> simp [q]
  rw [e1, e2]
  generalize decide (o.Of = Z32) = OF
  generalize decide (o.Check = Z32) = CK
  generalize decide (o.Parents.length = 0) = P0
  generalize decide (o.Who.length = 0) = W0
  generalize decide (o.Who.length = 1) = W1
  generalize decide (0 < o.Text.length) = T0
  generalize decide (o.Seq = 1) = S1
  generalize o.Kind = K
  by_cases k1 : K = 1
  · subst k1; revert y P0 S1 OF CK T0 W0 W1; decide
  by_cases k2 : K = 2
  · subst k2; revert y P0 S1 OF CK T0 W0 W1; decide
  by_cases k3 : K = 3
  · subst k3; revert y P0 S1 OF CK T0 W0 W1; decide
  by_cases k5 : K = 5
  · subst k5; revert y P0 S1 OF CK T0 W0 W1; decide
  by_cases k6 : K = 6
  · subst k6; revert y P0 S1 OF CK T0 W0 W1; decide
  by_cases k7 : K = 7
  · subst k7; revert y P0 S1 OF CK T0 W0 W1; decide
  have b1 : (K == 1) = false := by simpa using k1
  have b2 : (K == 2) = false := by simpa using k2
  have b3 : (K == 3) = false := by simpa using k3
  have b5 : (K == 5) = false := by simpa using k5
  have b6 : (K == 6) = false := by simpa using k6
  have b7 : (K == 7) = false := by simpa using k7
  have n1 : (K != 1) = true := by simpa using k1
  have c23 : decide (K = 2 ∨ K = 3) = false := decide_eq_false (by omega)
  have c56 : decide (K = 5 ∨ K = 6) = false := decide_eq_false (by omega)
  rw [b1, b2, b3, b5, b6, b7, n1, c23, c56, decide_eq_false k1, if_neg k7, show decide (K > 3) = decide (3 < K) from rfl]
  generalize decide (3 < K) = K3
  revert y P0 S1 OF CK T0 W0 W1 K3
  decide
theorem doc_eq (o : api_Op) (h : OpFew o) : cabalref11_Right 4000 o = some (rightO o) := by
  have hp := h.parents
  have hw := h.who
  have hb := h.boxes
  have t3 : cabalref11_Right.l3 4000 o 4000 1 = if inc ltK o.Parents = true then cabalref11_Right.j1 4000 o else some false := by
    by_cases q : o.Parents.length = 0
    · have q2 := List.eq_nil_of_length_eq_zero q
      rw [cabalref11_Right.l3, if_neg (by rw [q2]; simp), q2]; rfl
    · have := rright_l3 o h (o.Parents.length - 1) 0 4000 (by omega) (by omega)
      rw [show ((0 + 1 : Nat) : Int) = 1 from rfl, List.drop_zero] at this
      exact this
  have t2 : cabalref11_Right.j1 4000 o = if (o.Who.all mem8 && inc ltI o.Who) = true then cabalref11_Right.j2 4000 o (o.Who.contains o.Author) else some false := by
    have := rright_l2 o h o.Who.length 0 4000 false (by omega) (by omega)
    rw [show ((0 : Nat) : Int) = 0 from rfl, Nat.zero_sub, List.drop_zero, Bool.false_or] at this
    rw [cabalref11_Right.j1, this]
  have t1 : cabalref11_Right.j2 4000 o (o.Who.contains o.Author) = if (!o.Boxes.any (badB o) && inc ltB o.Boxes) = true then some (kindR o (o.Who.contains o.Author)) else some false := by
    have := rright_l1 o h (o.Who.contains o.Author) o.Boxes.length 0 4000 (by omega) (by omega)
    rw [show ((0 : Nat) : Int) = 0 from rfl, Nat.zero_sub, List.drop_zero] at this
    rw [cabalref11_Right.j2, this, cabalref11_Right.j3, kind_eq]; rfl
  unfold cabalref11_Right rightO
  simp only [rmember_eq, Option.bind_some, t3, t2, t1]
  have eP : decide ((o.Parents.length : Int) > 8) = !decide (o.Parents.length ≤ 8) := by
    by_cases q : o.Parents.length ≤ 8
    · rw [decide_eq_true q, decide_eq_false (by omega)]; rfl
    · rw [decide_eq_false q, decide_eq_true (by omega)]; rfl
  have eB : decide ((o.Boxes.length : Int) > 8) = !decide (o.Boxes.length ≤ 8) := by
    by_cases q : o.Boxes.length ≤ 8
    · rw [decide_eq_true q, decide_eq_false (by omega)]; rfl
    · rw [decide_eq_false q, decide_eq_true (by omega)]; rfl
  have eT : decide ((o.Text.length : Int) > 256) = !decide (o.Text.length ≤ 256) := by
    by_cases q : o.Text.length ≤ 256
    · rw [decide_eq_true q, decide_eq_false (by omega)]; rfl
    · rw [decide_eq_false q, decide_eq_true (by omega)]; rfl
  have eA : o.Who.all mem8 = !o.Who.any (fun v => !mem8 v) := by
    rw [List.all_eq_not_any_not]
  rw [eP, eB, eT, eA]
  unfold kindR whoR boxR
  have e1 : (o.Seq == 1) = decide (o.Seq = 1) := by by_cases q : o.Seq = 1 <;> simp [q]
  rw [e1]
  generalize mem8 o.Author = M
  generalize inc ltK o.Parents = PR
  generalize inc ltI o.Who = WR
  generalize o.Who.any (fun v => !mem8 v) = WA
  generalize o.Who.contains o.Author = WC
  generalize inc ltB o.Boxes = BR
  generalize o.Boxes.any (badB o) = BA
  generalize decide (o.Boxes.length ≤ 8) = B8
  generalize decide (o.Parents.length ≤ 8) = P8
  generalize decide (o.Text.length ≤ 256) = T8
  generalize decide (o.Of = Z32) = OF
  generalize decide (o.Check = Z32) = CK
  generalize decide (o.Parents.length = 0) = P0
  generalize decide (o.Who.length = 0) = W0
  generalize decide (o.Who.length = 1) = W1
  generalize decide (0 < o.Text.length) = T0
  generalize decide (o.Seq = 1) = S1
  generalize o.Seq = S
  generalize o.Kind = K
  cases M with
  | false => rfl
  | true =>
  by_cases hS : S = 0
  · simp [hS]
  have eS : (S == 0) = false := by simpa using hS
  rw [eS]
  by_cases k0 : K < 1
  · simp [k0]; omega
  by_cases k7 : K > 7
  · simp [k7]; omega
  rw [decide_eq_false k0, decide_eq_false k7, decide_eq_true (show 1 ≤ K by omega), decide_eq_true (show K ≤ 7 by omega)]
  cases P8 with
  | false => rfl
  | true =>
  cases B8 with
  | false => simp
  | true =>
  cases T8 with
  | false => simp
  | true =>
  cases PR with
  | false => rfl
  | true =>
  cases WR with
  | false => simp
  | true =>
  cases WA with
  | true => simp
  | false =>
  cases BA with
  | true => simp
  | false =>
  cases BR with
  | false => simp
  | true =>
  have hk : K = 1 ∨ K = 2 ∨ K = 3 ∨ K = 4 ∨ K = 5 ∨ K = 6 ∨ K = 7 := by omega
  rcases hk with rfl | rfl | rfl | rfl | rfl | rfl | rfl <;> (revert P0 S1 OF CK T0 W0 W1 WC; decide)
end Go.Proofs.Pure
end
section
namespace Go.Proofs.Pure
open Go Go.RowKit Go.Proofs.Kit
set_option linter.unusedVariables false
theorem equal_eq (a b : List Int) (hn : a.length ≤ 2000) : slices_Equal_int_int 4000 a b = some (decide (a = b)) := by
  have key : a.length = b.length → ∀ (m i n : Nat), i + m = a.length → m < n → slices_Equal_int_int.l1 4000 a b n (i : Int) = some (decide (a.drop i = b.drop i)) := by
    intro hl m
    induction m with
    | zero =>
      intro i n hi hm
      obtain ⟨n, rfl⟩ : ∃ q, n = q + 1 := ⟨n - 1, by omega⟩
      rw [slices_Equal_int_int.l1, if_neg (by simp; omega), List.drop_eq_nil_of_le (by omega), List.drop_eq_nil_of_le (by omega)]; rfl
    | succ m ih =>
      intro i n hi hm
      obtain ⟨n, rfl⟩ : ∃ q, n = q + 1 := ⟨n - 1, by omega⟩
      have ha : i < a.length := by omega
      have hb : i < b.length := by omega
      have hnext : iadd .i64 (i : Int) 1 = ((i + 1 : Nat) : Int) := by rw [add64 (by omega)]; omega
      rw [slices_Equal_int_int.l1, if_pos (by simp; omega), at_get ha, at_get hb, List.drop_eq_getElem_cons ha, List.drop_eq_getElem_cons hb]
      simp only [Option.bind_some, hnext]
      by_cases q : a[i] = b[i]
      · rw [if_neg (by simp [q]), ih (i + 1) n (by omega) (by omega)]
        simp only [List.cons.injEq, q, true_and]
      · rw [if_pos (by simp [q])]
        simp only [List.cons.injEq, q, false_and, decide_false]
  unfold slices_Equal_int_int
  by_cases hl : a.length = b.length
  · rw [if_neg (by simp [hl])]
    have := key hl a.length 0 4000 (by omega) (by omega)
    rw [show ((0 : Nat) : Int) = 0 from rfl, List.drop_zero, List.drop_zero] at this
    exact this
  · rw [if_pos (by simp; omega), decide_eq_false (fun e => hl (by rw [e]))]
theorem sameints_eq (a b : List Int) (hn : a.length ≤ 2000) : cabalref15_SameInts 4000 a b = some (decide (a = b)) := by
  have key : a.length = b.length → ∀ (m i n : Nat), i + m = a.length → m < n → cabalref15_SameInts.l1 4000 a b n (i : Int) = some (decide (a.drop i = b.drop i)) := by
    intro hl m
    induction m with
    | zero =>
      intro i n hi hm
      obtain ⟨n, rfl⟩ : ∃ q, n = q + 1 := ⟨n - 1, by omega⟩
      rw [cabalref15_SameInts.l1, if_neg (by simp; omega), List.drop_eq_nil_of_le (by omega), List.drop_eq_nil_of_le (by omega)]; rfl
    | succ m ih =>
      intro i n hi hm
      obtain ⟨n, rfl⟩ : ∃ q, n = q + 1 := ⟨n - 1, by omega⟩
      have ha : i < a.length := by omega
      have hb : i < b.length := by omega
      have hnext : iadd .i64 (i : Int) 1 = ((i + 1 : Nat) : Int) := by rw [add64 (by omega)]; omega
      rw [cabalref15_SameInts.l1, if_pos (by simp; omega), at_get ha, at_get hb, List.drop_eq_getElem_cons ha, List.drop_eq_getElem_cons hb]
      simp only [Option.bind_some, hnext]
      by_cases q : a[i] = b[i]
      · rw [if_neg (by simp [q]), ih (i + 1) n (by omega) (by omega)]
        simp only [List.cons.injEq, q, true_and]
      · rw [if_pos (by simp [q])]
        simp only [List.cons.injEq, q, false_and, decide_false]
  unfold cabalref15_SameInts
  by_cases hl : a.length = b.length
  · rw [if_neg (by simp [hl])]
    have := key hl a.length 0 4000 (by omega) (by omega)
    rw [show ((0 : Nat) : Int) = 0 from rfl, List.drop_zero, List.drop_zero] at this
    exact this
  · rw [if_pos (by simp; omega), decide_eq_false (fun e => hl (by rw [e]))]
theorem coll_mem (f : Nat → Bool) (m : Nat) : ∀ (i : Nat) (v : Int), v ∈ coll f i m ↔ ∃ j : Nat, v = (j : Int) ∧ i ≤ j ∧ j < i + m ∧ f j = true := by
  induction m with
  | zero => intro i v; simp [coll]; omega
  | succ m ih =>
    intro i v
    unfold coll
    by_cases h : f i = true
    · rw [if_pos h, List.mem_cons, ih]
      constructor
      · rintro (e | ⟨j, h1, h2, h3, h4⟩)
        · exact ⟨i, e, by omega, by omega, h⟩
        · exact ⟨j, h1, by omega, by omega, h4⟩
      · rintro ⟨j, h1, h2, h3, h4⟩
        by_cases q : j = i
        · exact .inl (by rw [h1, q])
        · exact .inr ⟨j, h1, by omega, by omega, h4⟩
    · rw [if_neg h, ih]
      constructor
      · rintro ⟨j, h1, h2, h3, h4⟩; exact ⟨j, h1, by omega, by omega, h4⟩
      · rintro ⟨j, h1, h2, h3, h4⟩
        by_cases q : j = i
        · rw [q] at h4; exact absurd h4 h
        · exact ⟨j, h1, by omega, by omega, h4⟩
theorem coll_sorted (f : Nat → Bool) (m : Nat) : ∀ i : Nat, (coll f i m).Pairwise (· < ·) := by
  induction m with
  | zero => intro i; exact List.Pairwise.nil
  | succ m ih =>
    intro i
    unfold coll
    split
    · refine List.Pairwise.cons (fun v hv => ?_) (ih (i + 1))
      obtain ⟨j, h1, h2, _, _⟩ := (coll_mem f m (i + 1) v).1 hv
      omega
    · exact ih (i + 1)
theorem search_l1 (l : List Int) (hs : l.Pairwise (· < ·)) (hl : l.length ≤ 1000) (t : Int) : ∀ (m lo hi n : Nat), hi ≤ lo + m → lo ≤ hi → hi ≤ l.length → m < n → (∀ i (h : i < l.length), i < lo → l[i] < t) → (∀ i (h : i < l.length), hi ≤ i → t ≤ l[i]) →
    ∃ r : Nat, slices_BinarySearch_int_int.l1 4000 l t n (lo : Int) (hi : Int) = slices_BinarySearch_int_int.j1 4000 l t (r : Int) ∧ r ≤ l.length ∧ (∀ i (h : i < l.length), i < r → l[i] < t) ∧ (∀ i (h : i < l.length), r ≤ i → t ≤ l[i]) := by
  intro m
  induction m with
  | zero =>
    intro lo hi n h1 h2 h3 h4 h5 h6
    obtain ⟨n, rfl⟩ : ∃ q, n = q + 1 := ⟨n - 1, by omega⟩
    rw [slices_BinarySearch_int_int.l1, if_neg (by simp; omega)]
    exact ⟨lo, rfl, by omega, h5, fun i h q => h6 i h (by omega)⟩
  | succ m ih =>
    intro lo hi n h1 h2 h3 h4 h5 h6
    obtain ⟨n, rfl⟩ : ∃ q, n = q + 1 := ⟨n - 1, by omega⟩
    by_cases c : lo < hi
    · have em : IntKind.wrap .i64 (ishr .u64 (IntKind.wrap .u64 (iadd .i64 (lo : Int) (hi : Int))) 1) = (((lo + hi) / 2 : Nat) : Int) := by
        rw [add64 (by omega), wu64s (by omega), shr_def (by decide), wi64 (by simp; omega)]
        simp
      have hml : (lo + hi) / 2 < l.length := by omega
      rw [slices_BinarySearch_int_int.l1, if_pos (by simp; omega), em]
      simp only [Option.bind_some, at_get hml, cmp_Less_int, cmp_isNaN_int, bne_self_eq_false, Bool.false_eq_true, if_false, (by decide : (false == true) = false)]
      by_cases q : l[(lo + hi) / 2] < t
      · rw [if_pos (decide_eq_true q), add64 (by omega), show (((lo + hi) / 2 : Nat) : Int) + 1 = (((lo + hi) / 2 + 1 : Nat) : Int) by omega]
        refine ih _ hi n (by omega) (by omega) h3 (by omega) (fun i h g => ?_) h6
        by_cases e : i = (lo + hi) / 2
        · subst e; exact q
        · have := List.pairwise_iff_getElem.1 hs i ((lo + hi) / 2) h hml (by omega)
          omega
      · rw [if_neg (by simpa using q)]
        refine ih lo _ n (by omega) (by omega) (by omega) (by omega) h5 (fun i h g => ?_)
        by_cases e : i = (lo + hi) / 2
        · subst e; omega
        · have := List.pairwise_iff_getElem.1 hs ((lo + hi) / 2) i hml h (by omega)
          omega
    · rw [slices_BinarySearch_int_int.l1, if_neg (by simp; omega)]
      exact ⟨lo, rfl, by omega, h5, fun i h q => h6 i h (by omega)⟩
theorem search_eq (l : List Int) (hs : l.Pairwise (· < ·)) (hl : l.length ≤ 1000) (t : Int) : ∃ r, slices_BinarySearch_int_int 4000 l t = some (r, l.contains t) := by
  unfold slices_BinarySearch_int_int
  obtain ⟨r, e, r1, r2, r3⟩ := search_l1 l hs hl t l.length 0 l.length 4000 (by omega) (by omega) (by omega) (by omega) (fun i h q => by omega) (fun i h q => by omega)
  rw [show ((0 : Nat) : Int) = 0 from rfl] at e
  rw [e]
  refine ⟨(r : Int), ?_⟩
  unfold slices_BinarySearch_int_int.j1
  by_cases c : r < l.length
  · rw [decide_eq_true (show (r : Int) < (l.length : Int) by omega)]
    simp only [beq_self_eq_true, if_true, at_get c, Option.bind_some, Bool.true_and]
    by_cases q : l[r] = t
    · have hc : l.contains t = true := by rw [← q]; simp
      rw [hc]
      simp [q]
    · have hc : l.contains t = false := by
        rw [Bool.eq_false_iff]
        intro h
        obtain ⟨i, hi, ei⟩ := List.mem_iff_getElem.1 (by simpa using h : t ∈ l)
        have := r3 r c (by omega)
        by_cases g : i < r
        · have := r2 i hi g; omega
        · by_cases g2 : i = r
          · subst g2; exact q ei
          · have := List.pairwise_iff_getElem.1 hs r i c hi (by omega); omega
      have q2 : (l[r] == t) = false := by simpa using q
      rw [hc]
      simp [q2, slices_isNaN_int]
  · rw [decide_eq_false (show ¬ (r : Int) < (l.length : Int) by omega)]
    have hc : l.contains t = false := by
      rw [Bool.eq_false_iff]
      intro h
      obtain ⟨i, hi, ei⟩ := List.mem_iff_getElem.1 (by simpa using h : t ∈ l)
      have := r2 i hi (by omega); omega
    rw [hc]
    rfl
def tn (past : List Int) (a : Int) : Nat → Nat → List api_Node → Option Nat
  | _, c, [] => some c
  | i, c, x :: l => if x.Op.Author = a then (if past.contains (i : Int) = true then tn past a (i + 1) (c + 1) l else none) else tn past a (i + 1) c l
theorem turn_l1 (p : List api_Node) (hp : p.length ≤ 200) (o : api_Op) (past : List Int) (hs : past.Pairwise (· < ·)) (hl : past.length ≤ 1000) : ∀ (m i n c : Nat), i + m = p.length → m < n → c ≤ i →
    graph_turn.l1 4000 p o past n ((c + 1 : Nat) : Int) (i : Int) = (match tn past o.Author i c (p.drop i) with | some c => graph_turn.j1 4000 o p ((c + 1 : Nat) : Int) | none => some false) := by
  intro m
  induction m with
  | zero =>
    intro i n c hi hm hc
    obtain ⟨n, rfl⟩ : ∃ q, n = q + 1 := ⟨n - 1, by omega⟩
    rw [graph_turn.l1, if_neg (by simp; omega), List.drop_eq_nil_of_le (by omega)]; rfl
  | succ m ih =>
    intro i n c hi hm hc
    obtain ⟨n, rfl⟩ : ∃ q, n = q + 1 := ⟨n - 1, by omega⟩
    have hil : i < p.length := by omega
    have hnext : iadd .i64 (i : Int) 1 = ((i + 1 : Nat) : Int) := by rw [add64 (by omega)]; omega
    have hc1 : iadd .u32 ((c + 1 : Nat) : Int) 1 = ((c + 1 + 1 : Nat) : Int) := by rw [add32 (by omega)]; omega
    rw [graph_turn.l1, if_pos (by simp; omega), at_get hil, List.drop_eq_getElem_cons hil]
    simp only [Option.bind_some, graph_turn.j2, hnext]
    unfold tn
    by_cases q : p[i].Op.Author = o.Author
    · obtain ⟨r, e⟩ := search_eq past hs hl (i : Int)
      rw [if_neg (by simp [q]), if_pos q, e]
      simp only [Option.bind_some, hc1]
      cases past.contains (i : Int) with
      | true => simp only [Bool.not_true, Bool.false_eq_true, if_false, if_true]; exact ih (i + 1) n (c + 1) (by omega) (by omega) (by omega)
      | false => rfl
    · rw [if_pos (by simp [q]), if_neg q]
      exact ih (i + 1) n c (by omega) (by omega) (by omega)
theorem rturn_l1 (p : List api_Node) (hp : p.length ≤ 200) (o : api_Op) (past : List Int) (hl : past.length ≤ 1000) : ∀ (m i n c : Nat), i + m = p.length → m < n → c ≤ i →
    cabalref15_turn.l1 4000 p o past n (c : Int) (i : Int) = (match tn past o.Author i c (p.drop i) with | some c => some (o.Seq == ((c + 1 : Nat) : Int)) | none => some false) := by
  intro m
  induction m with
  | zero =>
    intro i n c hi hm hc
    obtain ⟨n, rfl⟩ : ∃ q, n = q + 1 := ⟨n - 1, by omega⟩
    rw [cabalref15_turn.l1, if_neg (by simp; omega), List.drop_eq_nil_of_le (by omega), cabalref15_turn.j1, add32 (by omega)]; rfl
  | succ m ih =>
    intro i n c hi hm hc
    obtain ⟨n, rfl⟩ : ∃ q, n = q + 1 := ⟨n - 1, by omega⟩
    have hil : i < p.length := by omega
    have hnext : iadd .i64 (i : Int) 1 = ((i + 1 : Nat) : Int) := by rw [add64 (by omega)]; omega
    have hc1 : iadd .u32 (c : Int) 1 = ((c + 1 : Nat) : Int) := by rw [add32 (by omega)]; omega
    rw [cabalref15_turn.l1, if_pos (by simp; omega), at_get hil, List.drop_eq_getElem_cons hil]
    simp only [Option.bind_some, cabalref15_turn.j2, hnext]
    unfold tn
    by_cases q : p[i].Op.Author = o.Author
    · rw [if_pos (by simp [q]), if_pos q, in_eq past (by omega)]
      simp only [Option.bind_some, hc1]
      cases past.contains (i : Int) with
      | true => simp only [Bool.not_true, Bool.false_eq_true, if_false, if_true]; exact ih (i + 1) n (c + 1) (by omega) (by omega) (by omega)
      | false => rfl
    · rw [if_neg (by simp [q]), if_neg q]
      exact ih (i + 1) n c (by omega) (by omega) (by omega)
def turnB (p : List api_Node) (o : api_Op) (past : List Int) : Bool :=
  (decide (o.Kind = 1) == decide (p.length = 0)) && (match tn past o.Author 0 0 p with | some c => o.Seq == ((c + 1 : Nat) : Int) | none => false)
theorem kind_p0 (p : List api_Node) (o : api_Op) : decide ((o.Kind == 1) = ((p.length : Int) == 0)) = (decide (o.Kind = 1) == decide (p.length = 0)) := by
  have eP0 : ((p.length : Int) == 0) = decide (p.length = 0) := by
    by_cases q : p.length = 0
    · rw [decide_eq_true q, q]; rfl
    · rw [decide_eq_false q]; simp; exact fun e => q (by rw [e]; rfl)
  have eK : (o.Kind == 1) = decide (o.Kind = 1) := by by_cases q : o.Kind = 1 <;> simp [q]
  rw [eP0, eK]
  cases decide (o.Kind = 1) <;> cases decide (p.length = 0) <;> rfl
theorem turn_eq (p : List api_Node) (hp : p.length ≤ 200) (o : api_Op) (past : List Int) (hs : past.Pairwise (· < ·)) (hl : past.length ≤ 1000) : graph_turn 4000 p o past = some (turnB p o past) := by
  unfold graph_turn turnB
  have := turn_l1 p hp o past hs hl p.length 0 4000 0 (by omega) (by omega) (by omega)
  rw [show ((0 : Nat) : Int) = 0 from rfl, show ((0 + 1 : Nat) : Int) = 1 from rfl, List.drop_zero] at this
  rw [this]
  cases tn past o.Author 0 0 p with
  | none => simp
  | some c =>
    simp only [graph_turn.j1, kind_p0, Option.bind_some]
    cases (o.Seq == ((c + 1 : Nat) : Int)) <;> cases (decide (o.Kind = 1) == decide (p.length = 0)) <;> rfl
theorem rturn_eq (p : List api_Node) (hp : p.length ≤ 200) (o : api_Op) (past : List Int) (hl : past.length ≤ 1000) : cabalref15_turn 4000 p o past = some (turnB p o past) := by
  unfold cabalref15_turn turnB
  rw [kind_p0]
  cases (decide (o.Kind = 1) == decide (p.length = 0)) with
  | false => rfl
  | true =>
    have := rturn_l1 p hp o past hl p.length 0 4000 0 (by omega) (by omega) (by omega)
    rw [show ((0 : Nat) : Int) = 0 from rfl, List.drop_zero] at this
    simp only [Bool.not_true, Bool.false_eq_true, if_false, Bool.true_and, this]
    cases tn past o.Author 0 0 p <;> rfl
structure NodeFew (x : api_Node) : Prop where
  op : OpFew x.Op
  past : x.Past.length ≤ 200
structure Few (p : List api_Node) : Prop where
  len : p.length ≤ 110
  each : ∀ x ∈ p, NodeFew x
theorem Few.take {p : List api_Node} (h : Few p) (i : Nat) : Few (p.take i) := ⟨by rw [List.length_take]; have := h.len; omega, fun x hx => h.each x (List.mem_of_mem_take hx)⟩
theorem Few.short {p : List api_Node} (h : Few p) : Short p := fun x hx => (h.each x hx).past
def pastL (p : List api_Node) (o : api_Op) : List Int := coll (inP p o.Parents) 0 p.length
def fitB (p : List api_Node) (x : api_Node) : Bool :=
  okP p x.Op.Parents && rightO x.Op && decide (fnd x.Id 0 p < 0) && decide (pastL p x.Op = x.Past) && turnB p x.Op (pastL p x.Op)
theorem fits_eq (p : List api_Node) (h : Few p) (x : api_Node) (hx : NodeFew x) : graph_fits 4000 p x = some (fitB p x) := by
  have hlen := h.len
  have hps := hx.op.parents
  unfold graph_fits fitB
  rw [past_eq p (by omega) h.short _ (by omega)]
  simp only [Option.bind_some]
  cases okP p x.Op.Parents with
  | false => rfl
  | true =>
    have hl : (coll (inP p x.Op.Parents) 0 p.length).length ≤ p.length := coll_len _ _ _
    simp only [if_true, beq_self_eq_true, frame_eq x.Op hx.op, Option.bind_some, Bool.true_and]
    cases rightO x.Op with
    | false => rfl
    | true =>
      simp only [beq_self_eq_true, if_true, find_eq p (by omega), Option.bind_some, Bool.true_and]
      cases decide (fnd x.Id 0 p < 0) with
      | false => rfl
      | true =>
        simp only [beq_self_eq_true, if_true, equal_eq _ _ (show (coll (inP p x.Op.Parents) 0 p.length).length ≤ 2000 by omega), Option.bind_some, Bool.true_and]
        unfold pastL
        cases decide (coll (inP p x.Op.Parents) 0 p.length = x.Past) with
        | false => rfl
        | true =>
          simp only [beq_self_eq_true, if_true, turn_eq p (by omega) x.Op _ (coll_sorted _ _ _) (show (coll (inP p x.Op.Parents) 0 p.length).length ≤ 1000 by omega), Option.bind_some, Bool.true_and]
def rightL (p : List api_Node) : Nat → Nat → Bool
  | _, 0 => true
  | i, m + 1 => (match p[i]? with | some x => fitB (p.take i) x | none => true) && rightL p (i + 1) m
def rightG (p : List api_Node) : Bool := decide (p.length ≤ 96) && rightL p 0 p.length
theorem right_eq (p : List api_Node) (h : Few p) : graph_Right 4000 p = some (rightG p) := by
  have hlen := h.len
  have key : ∀ (m i n : Nat), i + m = p.length → m < n → graph_Right.l1 4000 p n (i : Int) = some (rightL p i m) := by
    intro m
    induction m with
    | zero =>
      intro i n hi hm
      obtain ⟨n, rfl⟩ : ∃ q, n = q + 1 := ⟨n - 1, by omega⟩
      rw [graph_Right.l1, if_neg (by simp; omega)]; rfl
    | succ m ih =>
      intro i n hi hm
      obtain ⟨n, rfl⟩ : ∃ q, n = q + 1 := ⟨n - 1, by omega⟩
      have hil : i < p.length := by omega
      have hnext : iadd .i64 (i : Int) 1 = ((i + 1 : Nat) : Int) := by rw [add64 (by omega)]; omega
      rw [graph_Right.l1, if_pos (by simp; omega), at_get hil]
      simp only [Option.bind_some, cut_pre (Nat.le_of_lt hil), fits_eq _ (h.take i) _ (h.each _ (List.getElem_mem hil)), hnext]
      unfold rightL
      rw [List.getElem?_eq_getElem hil]
      cases hf : fitB (p.take i) p[i] with
      | false => simp [hf]
      | true => simp only [Bool.not_true, Bool.false_eq_true, if_false, hf, Bool.true_and]; exact ih (i + 1) n (by omega) (by omega)
  unfold graph_Right rightG
  by_cases c : p.length ≤ 96
  · rw [if_neg (by simp; omega), decide_eq_true c, Bool.true_and]
    have := key p.length 0 4000 (by omega) (by omega)
    rw [show ((0 : Nat) : Int) = 0 from rfl] at this
    exact this
  · rw [if_pos (by simp; omega), decide_eq_false c]; rfl
end Go.Proofs.Pure
end
section
namespace Go.Proofs.Pure
open Go Go.RowKit Go.Proofs.Kit
set_option linter.unusedVariables false
theorem gop_l1 (o : api_Op) (h : o.Boxes.length ≤ 30) : ∀ (m i n : Nat), i + m = o.Boxes.length → m < n → ∃ b, cabalref11_Great.l1 4000 o n (i : Int) = some b := by
  intro m
  induction m with
  | zero =>
    intro i n hi hm
    obtain ⟨n, rfl⟩ : ∃ q, n = q + 1 := ⟨n - 1, by omega⟩
    rw [cabalref11_Great.l1, if_neg (by simp; omega)]; exact ⟨_, rfl⟩
  | succ m ih =>
    intro i n hi hm
    obtain ⟨n, rfl⟩ : ∃ q, n = q + 1 := ⟨n - 1, by omega⟩
    have hil : i < o.Boxes.length := by omega
    have hnext : iadd .i64 (i : Int) 1 = ((i + 1 : Nat) : Int) := by rw [add64 (by omega)]; omega
    rw [cabalref11_Great.l1, if_pos (by simp; omega), at_get hil]
    simp only [Option.bind_some, hnext]
    split
    · exact ⟨_, rfl⟩
    · exact ih (i + 1) n (by omega) (by omega)
theorem gop_eq (o : api_Op) : ∃ b, cabalref11_Great 4000 o = some b ∧ (b = false → o.Parents.length ≤ 30 ∧ o.Who.length ≤ 30 ∧ o.Boxes.length ≤ 30 ∧ o.Text.length ≤ 600) := by
  unfold cabalref11_Great
  simp only [Option.bind_some]
  by_cases c : o.Parents.length ≤ 30 ∧ o.Who.length ≤ 30 ∧ o.Boxes.length ≤ 30 ∧ o.Text.length ≤ 600
  · obtain ⟨b, hb⟩ := gop_l1 o c.2.2.1 o.Boxes.length 0 4000 (by omega) (by omega)
    rw [show ((0 : Nat) : Int) = 0 from rfl] at hb
    rw [decide_eq_false (show ¬ (o.Parents.length : Int) > 30 by omega), decide_eq_false (show ¬ (o.Who.length : Int) > 30 by omega), decide_eq_false (show ¬ (o.Boxes.length : Int) > 30 by omega), decide_eq_false (show ¬ (o.Text.length : Int) > 600 by omega)]
    simp only [Bool.false_eq_true, if_false]
    exact ⟨b, hb, fun _ => c⟩
  · refine ⟨true, ?_, fun h => by cases h⟩
    rw [if_pos]
    by_cases p1 : o.Parents.length ≤ 30
    · by_cases p2 : o.Who.length ≤ 30
      · by_cases p3 : o.Boxes.length ≤ 30
        · have p4 : ¬ o.Text.length ≤ 600 := fun p4 => c ⟨p1, p2, p3, p4⟩
          have : decide ((o.Text.length : Int) > 600) = true := decide_eq_true (by omega)
          simp only [this, ite_self]
        · have : decide ((o.Boxes.length : Int) > 30) = true := decide_eq_true (by omega)
          rw [this]; simp
      · have : decide ((o.Who.length : Int) > 30) = true := decide_eq_true (by omega)
        rw [this]; simp
    · have : decide ((o.Parents.length : Int) > 30) = true := decide_eq_true (by omega)
      rw [this]; simp
def NodeKeys (x : api_Node) : Prop := ∀ q ∈ x.Op.Parents, q.length = 32
theorem op_keys {o : api_Op} (h : Fine k_api_Op o) : ∀ q ∈ o.Parents, q.length = 32 := by
  have h1 := Fine.iso h
  obtain ⟨_, h2⟩ := Fine.pair h1
  obtain ⟨_, h3⟩ := Fine.pair h2
  obtain ⟨h4, _⟩ := Fine.pair h3
  exact fun q hq => (Fine.arr ((Fine.sl h4).2 q hq)).1
theorem node_keys {x : api_Node} (h : Fine k_api_Node x) : NodeKeys x := by
  have h1 := Fine.iso h
  obtain ⟨_, h2⟩ := Fine.pair h1
  obtain ⟨h3, _⟩ := Fine.pair h2
  exact op_keys h3
theorem great_l1 (p : List api_Node) (hk : ∀ x ∈ p, NodeKeys x) (hp : p.length ≤ 110) : ∀ (m i n : Nat), i + m = p.length → m < n → ∃ b, cabalref15_Great.l1 4000 p n (i : Int) = some b ∧ (b = false → ∀ x ∈ p.drop i, NodeFew x) := by
  intro m
  induction m with
  | zero =>
    intro i n hi hm
    obtain ⟨n, rfl⟩ : ∃ q, n = q + 1 := ⟨n - 1, by omega⟩
    rw [cabalref15_Great.l1, if_neg (by simp; omega), List.drop_eq_nil_of_le (by omega)]; exact ⟨_, rfl, fun _ x hx => by cases hx⟩
  | succ m ih =>
    intro i n hi hm
    obtain ⟨n, rfl⟩ : ∃ q, n = q + 1 := ⟨n - 1, by omega⟩
    have hil : i < p.length := by omega
    have hnext : iadd .i64 (i : Int) 1 = ((i + 1 : Nat) : Int) := by rw [add64 (by omega)]; omega
    have hd : p.drop i = p[i] :: p.drop (i + 1) := List.drop_eq_getElem_cons hil
    obtain ⟨b, hb, hb2⟩ := gop_eq p[i].Op
    rw [cabalref15_Great.l1, if_pos (by simp; omega), at_get hil]
    simp only [Option.bind_some, hb, hnext]
    cases b with
    | true => exact ⟨true, rfl, fun h => by cases h⟩
    | false =>
      simp only [beq_self_eq_true, if_true, Option.bind_some, Bool.false_eq_true, if_false]
      by_cases c : p[i].Past.length ≤ 200
      · rw [if_neg (by simp; omega)]
        obtain ⟨b, h1, h2⟩ := ih (i + 1) n (by omega) (by omega)
        refine ⟨b, h1, fun h x hx => ?_⟩
        rw [hd] at hx
        rcases List.mem_cons.1 hx with rfl | hx
        · obtain ⟨q1, q2, q3, q4⟩ := hb2 rfl
          exact ⟨⟨q1, q2, q3, q4, hk _ (List.getElem_mem hil)⟩, c⟩
        · exact h2 h x hx
      · rw [if_pos (by simp; omega)]
        exact ⟨true, rfl, fun h => by cases h⟩
theorem great_eq (p : List api_Node) (hk : ∀ x ∈ p, NodeKeys x) : ∃ b, cabalref15_Great 4000 p = some b ∧ (b = false → Few p) := by
  unfold cabalref15_Great
  by_cases c : p.length ≤ 110
  · rw [if_neg (by simp; omega)]
    obtain ⟨b, h1, h2⟩ := great_l1 p hk c p.length 0 4000 (by omega) (by omega)
    rw [show ((0 : Nat) : Int) = 0 from rfl] at h1
    rw [List.drop_zero] at h2
    exact ⟨b, h1, fun h => ⟨c, h2 h⟩⟩
  · rw [if_pos (by simp; omega)]
    exact ⟨true, rfl, fun h => by cases h⟩
theorem right_len {p : List api_Node} (hr : rightG p = true) : p.length ≤ 96 := by
  unfold rightG at hr
  rw [Bool.and_eq_true] at hr
  exact of_decide_eq_true hr.1
end Go.Proofs.Pure
end
section
namespace Go.Proofs.Pure
open Go Go.RowKit Go.Proofs.Kit
set_option linter.unusedVariables false
end Go.Proofs.Pure
end
section
namespace Go.Proofs.Pure
open Go Go.RowKit Go.Proofs.Kit
set_option linter.unusedVariables false
theorem clone_eq (o : api_Op) (h : OpFew o) : graph_clone 4000 o = some o := by
  have hL : (1000000 : Nat) ≤ lim := by unfold lim; omega
  have h1 := h.parents
  have h2 := h.who
  have h3 := h.boxes
  unfold graph_clone slices_Clone_api_Key_api_Key slices_Clone_int_int slices_Clone_api_Box_api_Box
  rw [if_pos (by simp; omega), if_pos (by simp; omega), if_pos (by simp; omega)]
  simp
theorem cloneI_eq (l : List Int) (h : l.length ≤ 1000) : slices_Clone_int_int 4000 l = some l := by
  have hL : (1000000 : Nat) ≤ lim := by unfold lim; omega
  unfold slices_Clone_int_int
  rw [if_pos (by simp; omega)]
  simp
theorem add_l1 (p : List api_Node) (hf : Few p) (o : api_Op) (ho : OpFew o) (id : List Int) (x4 : List Int × Int) : ∀ (m i n : Nat), i + m = p.length → m < n → graph_Add.l1 4000 p o id x4 n (i : Int) (p.take i) = some (p ++ [⟨id, o, x4.1⟩], 0) := by
  have hL : (1000000 : Nat) ≤ lim := by unfold lim; omega
  have hlen := hf.len
  intro m
  induction m with
  | zero =>
    intro i n hi hm
    obtain ⟨n, rfl⟩ : ∃ q, n = q + 1 := ⟨n - 1, by omega⟩
    rw [graph_Add.l1, if_neg (by simp; omega), List.take_of_length_le (by omega), graph_Add.j1, clone_eq o ho]
    simp only [Option.bind_some]
    rw [if_pos (by simp; omega)]
  | succ m ih =>
    intro i n hi hm
    obtain ⟨n, rfl⟩ : ∃ q, n = q + 1 := ⟨n - 1, by omega⟩
    have hil : i < p.length := by omega
    have hx := hf.each _ (List.getElem_mem hil)
    have hnext : iadd .i64 (i : Int) 1 = ((i + 1 : Nat) : Int) := by rw [add64 (by omega)]; omega
    have hp := hx.past
    rw [graph_Add.l1, if_pos (by simp; omega), at_get hil]
    simp only [Option.bind_some]
    rw [clone_eq _ hx.op]
    simp only [Option.bind_some]
    rw [cloneI_eq _ (by omega)]
    simp only [Option.bind_some]
    rw [if_pos (by simp; omega), hnext]
    have e : p.take i ++ [(⟨p[i].Id, p[i].Op, p[i].Past⟩ : api_Node)] = p.take (i + 1) := by rw [List.take_add_one, List.getElem?_eq_getElem hil]; rfl
    rw [e]
    exact ih (i + 1) n (by omega) (by omega)
def addR (p : List api_Node) (id : List Int) (o : api_Op) : List api_Node × Int :=
  if rightG p = false ∨ rightO o = false then ([], 1) else if 0 ≤ fnd id 0 p then ([], 13) else if p.length = 96 then ([], 8) else if okP p o.Parents = false then ([], 14) else if turnB p o (pastL p o) = false then ([], 15) else (p ++ [⟨id, o, pastL p o⟩], 0)
theorem add_eq (p : List api_Node) (hf : Few p) (id : List Int) (o : api_Op) (ho : OpFew o) : graph_Add 4000 p id o = some (addR p id o) := by
  have hlen := hf.len
  have hps := ho.parents
  unfold graph_Add addR
  rw [right_eq p hf]
  cases hr : rightG p with
  | false => rfl
  | true =>
    simp only [Option.bind_some, Bool.not_true, beq_self_eq_true, if_true, frame_eq o ho]
    cases rightO o with
    | false => rfl
    | true =>
      simp only [Bool.not_true, Bool.false_eq_true, if_false, find_eq p (by omega), Option.bind_some, or_self, reduceCtorEq]
      by_cases c1 : 0 ≤ fnd id 0 p
      · rw [if_pos (decide_eq_true c1), if_pos c1]
      · rw [if_neg (by simpa using c1), if_neg c1]
        by_cases c2 : p.length = 96
        · rw [if_pos (by simp [c2]), if_pos c2]
        · rw [if_neg (by simp; omega), if_neg c2, past_eq p (by omega) hf.short _ (by omega)]
          simp only [Option.bind_some]
          cases okP p o.Parents with
          | false => rfl
          | true =>
            have hl := coll_len (inP p o.Parents) p.length 0
            simp only [if_true, bne_self_eq_false, Bool.false_eq_true, if_false, reduceCtorEq]
            rw [turn_eq p (by omega) o _ (coll_sorted _ _ _) (by omega)]
            simp only [Option.bind_some]
            unfold pastL
            cases turnB p o (coll (inP p o.Parents) 0 p.length) with
            | false => rfl
            | true =>
              simp only [Bool.not_true, Bool.false_eq_true, if_false, reduceCtorEq]
              have := add_l1 p hf o ho id (coll (inP p o.Parents) 0 p.length, 0) p.length 0 4000 (by omega) (by omega)
              rw [show ((0 : Nat) : Int) = 0 from rfl, List.take_zero] at this
              exact this
theorem radd_eq (p : List api_Node) (hf : Few p) (hr : rightG p = true) (id : List Int) (o : api_Op) (ho : OpFew o) : cabalref15_Add 4000 p id o = some (addR p id o) := by
  have hL : (1000000 : Nat) ≤ lim := by unfold lim; omega
  have hlen := right_len hr
  have hps := ho.parents
  unfold cabalref15_Add addR
  rw [doc_eq o ho, hr]
  cases rightO o with
  | false => rfl
  | true =>
    simp only [Bool.not_true, Bool.false_eq_true, if_false, rfind_eq p (by omega), Option.bind_some, or_self, reduceCtorEq]
    by_cases c1 : 0 ≤ fnd id 0 p
    · rw [if_pos (decide_eq_true c1), if_pos c1]
    · rw [if_neg (by simpa using c1), if_neg c1]
      by_cases c2 : p.length = 96
      · rw [if_pos (by simp [c2]), if_pos c2]
      · rw [if_neg (by simp; omega), if_neg c2, rpast_eq p (by omega) hf.short _ (by omega)]
        simp only [Option.bind_some]
        cases okP p o.Parents with
        | false => rfl
        | true =>
          have hl := coll_len (inP p o.Parents) p.length 0
          simp only [if_true, Bool.not_true, Bool.false_eq_true, if_false, reduceCtorEq]
          rw [rturn_eq p (by omega) o _ (by omega)]
          simp only [Option.bind_some]
          unfold pastL
          cases turnB p o (coll (inP p o.Parents) 0 p.length) with
          | false => rfl
          | true =>
            simp only [Bool.not_true, Bool.false_eq_true, if_false, reduceCtorEq]
            rw [if_pos (by simp; omega), if_pos (by simp; omega)]
            simp
theorem addR_few (p : List api_Node) (hf : Few p) (id : List Int) (o : api_Op) (ho : OpFew o) : ((addR p id o).1.length ≤ 111) ∧ ∀ x ∈ (addR p id o).1, NodeFew x := by
  have hlen := hf.len
  have hl := coll_len (inP p o.Parents) p.length 0
  have none_ : (([] : List api_Node).length ≤ 111) ∧ ∀ x ∈ ([] : List api_Node), NodeFew x := ⟨by simp, fun x hx => by cases hx⟩
  unfold addR
  split
  · exact none_
  · split
    · exact none_
    · split
      · exact none_
      · split
        · exact none_
        · split
          · exact none_
          · refine ⟨by simp; omega, fun x hx => ?_⟩
            rcases List.mem_append.1 hx with h | h
            · exact hf.each x h
            · simp at h; subst h
              exact ⟨ho, by show (pastL p o).length ≤ 200; unfold pastL; omega⟩
theorem sameop_refl (o : api_Op) (h : OpFew o) : cabalref11_SameOp 4000 o o = some true := by
  have hp := h.parents
  have hw := h.who
  have hb := h.boxes
  have k1 : ∀ (m i n : Nat), i + m = o.Boxes.length → m < n → cabalref11_SameOp.l1 4000 o o n (i : Int) = some true := by
    intro m
    induction m with
    | zero =>
      intro i n hi hm
      obtain ⟨n, rfl⟩ : ∃ q, n = q + 1 := ⟨n - 1, by omega⟩
      rw [cabalref11_SameOp.l1, if_neg (by simp; omega)]; rfl
    | succ m ih =>
      intro i n hi hm
      obtain ⟨n, rfl⟩ : ∃ q, n = q + 1 := ⟨n - 1, by omega⟩
      have hil : i < o.Boxes.length := by omega
      have hnext : iadd .i64 (i : Int) 1 = ((i + 1 : Nat) : Int) := by rw [add64 (by omega)]; omega
      rw [cabalref11_SameOp.l1, if_pos (by simp; omega), at_get hil]
      simp only [Option.bind_some, decide_true, Bool.not_true, Bool.false_eq_true, if_false, hnext]
      exact ih (i + 1) n (by omega) (by omega)
  have k2 : ∀ (m i n : Nat), i + m = o.Who.length → m < n → cabalref11_SameOp.l2 4000 o o n (i : Int) = some true := by
    intro m
    induction m with
    | zero =>
      intro i n hi hm
      obtain ⟨n, rfl⟩ : ∃ q, n = q + 1 := ⟨n - 1, by omega⟩
      rw [cabalref11_SameOp.l2, if_neg (by simp; omega), cabalref11_SameOp.j2]
      have := k1 o.Boxes.length 0 4000 (by omega) (by omega)
      rw [show ((0 : Nat) : Int) = 0 from rfl] at this
      exact this
    | succ m ih =>
      intro i n hi hm
      obtain ⟨n, rfl⟩ : ∃ q, n = q + 1 := ⟨n - 1, by omega⟩
      have hil : i < o.Who.length := by omega
      have hnext : iadd .i64 (i : Int) 1 = ((i + 1 : Nat) : Int) := by rw [add64 (by omega)]; omega
      rw [cabalref11_SameOp.l2, if_pos (by simp; omega), at_get hil]
      simp only [Option.bind_some, bne_self_eq_false, Bool.false_eq_true, if_false, hnext]
      exact ih (i + 1) n (by omega) (by omega)
  have k3 : ∀ (m i n : Nat), i + m = o.Parents.length → m < n → cabalref11_SameOp.l3 4000 o o n (i : Int) = some true := by
    intro m
    induction m with
    | zero =>
      intro i n hi hm
      obtain ⟨n, rfl⟩ : ∃ q, n = q + 1 := ⟨n - 1, by omega⟩
      rw [cabalref11_SameOp.l3, if_neg (by simp; omega), cabalref11_SameOp.j1]
      have := k2 o.Who.length 0 4000 (by omega) (by omega)
      rw [show ((0 : Nat) : Int) = 0 from rfl] at this
      exact this
    | succ m ih =>
      intro i n hi hm
      obtain ⟨n, rfl⟩ : ∃ q, n = q + 1 := ⟨n - 1, by omega⟩
      have hil : i < o.Parents.length := by omega
      have hnext : iadd .i64 (i : Int) 1 = ((i + 1 : Nat) : Int) := by rw [add64 (by omega)]; omega
      rw [cabalref11_SameOp.l3, if_pos (by simp; omega), at_get hil]
      simp only [Option.bind_some, decide_true, Bool.not_true, Bool.false_eq_true, if_false, hnext]
      exact ih (i + 1) n (by omega) (by omega)
  have t := k3 o.Parents.length 0 4000 (by omega) (by omega)
  rw [show ((0 : Nat) : Int) = 0 from rfl] at t
  unfold cabalref11_SameOp
  simp only [bne_self_eq_false, decide_true, Bool.not_true, Bool.false_eq_true, if_false, Option.bind_some]
  exact t
theorem same_l1 (k : Nat) (hS : ∀ l : List Int, l.length ≤ 2000 → cabalref15_SameInts k l l = some true) (hO : ∀ o, OpFew o → cabalref11_SameOp k o o = some true) (p : List api_Node) (hl : p.length ≤ 111) (h : ∀ x ∈ p, NodeFew x) : ∀ (m i n : Nat), i + m = p.length → m < n → cabalref15_Same.l1 k p p n (i : Int) = some true := by
  intro m
  induction m with
  | zero =>
    intro i n hi hm
    obtain ⟨n, rfl⟩ : ∃ q, n = q + 1 := ⟨n - 1, by omega⟩
    rw [cabalref15_Same.l1, if_neg (by simp; omega)]; rfl
  | succ m ih =>
    intro i n hi hm
    obtain ⟨n, rfl⟩ : ∃ q, n = q + 1 := ⟨n - 1, by omega⟩
    have hil : i < p.length := by omega
    have hx := h _ (List.getElem_mem hil)
    have hp := hx.past
    have hnext : iadd .i64 (i : Int) 1 = ((i + 1 : Nat) : Int) := by rw [add64 (by omega)]; omega
    have s1 := hS p[i].Past (by omega)
    have s2 := hO _ hx.op
    rw [cabalref15_Same.l1, if_pos (by simp; omega), at_get hil]
    simp only [Option.bind_some, decide_true, Bool.not_true, beq_self_eq_true, if_true, Bool.false_eq_true, if_false, s1, s2, hnext]
    exact ih (i + 1) n (by omega) (by omega)
theorem same_refl (p : List api_Node) (h : p.length ≤ 111 ∧ ∀ x ∈ p, NodeFew x) : cabalref15_Same 4000 p p = some true := by
  unfold cabalref15_Same
  have e : ((p.length : Int) != (p.length : Int)) = false := by simp
  rw [e]
  simp only [Bool.false_eq_true, if_false]
  have hS : ∀ l : List Int, l.length ≤ 2000 → cabalref15_SameInts 4000 l l = some true := fun l hl => (sameints_eq l l hl).trans (by rw [decide_eq_true rfl])
  have := same_l1 4000 hS sameop_refl p h.1 h.2 p.length 0 4000 (by omega) (by omega)
  rw [show ((0 : Nat) : Int) = 0 from rfl] at this
  exact this
end Go.Proofs.Pure
end
section
namespace Go.Proofs.Pure
open Go Go.RowKit Go.Proofs.Kit
set_option linter.unusedVariables false
theorem alive15 : caballaw15_alive 4000 = some true := by decide +kernel
theorem addR_none (p : List api_Node) (id : List Int) (o : api_Op) (h : (addR p id o).2 ≠ 0) : (addR p id o).1 = [] := by
  unfold addR at h ⊢
  split
  · rfl
  · rename_i c1; rw [if_neg c1] at h
    split
    · rfl
    · rename_i c2; rw [if_neg c2] at h
      split
      · rfl
      · rename_i c3; rw [if_neg c3] at h
        split
        · rfl
        · rename_i c4; rw [if_neg c4] at h
          split
          · rfl
          · rename_i c5; rw [if_neg c5] at h; exact absurd rfl h
theorem zN_few : (List.replicate 2 zN).length ≤ 111 ∧ ∀ x ∈ List.replicate 2 zN, NodeFew x := by
  refine ⟨by rw [List.length_replicate]; omega, fun x hx => ?_⟩
  rw [List.eq_of_mem_replicate hx]
  exact ⟨⟨by show 0 ≤ 30; omega, by show 0 ≤ 30; omega, by show 0 ≤ 30; omega, by show 0 ≤ 600; omega, fun q hq => by cases hq⟩, by show 0 ≤ 200; omega⟩
theorem GraphKeeps (x0 : (List api_Node)) (x1 : (List Int)) (x2 : api_Op) (g0 : Fine (ksl k_api_Node) x0) (g1 : Fine (karr 32 (kint .u8)) x1) (g2 : Fine k_api_Op x2) : ∃ k, caballaw15_GraphKeeps k x0 x1 x2 = some true := by
  have hL : lim = 2147483648 := rfl
  refine ⟨4000, ?_⟩
  unfold caballaw15_GraphKeeps
  rw [alive15]
  simp only [Option.bind_some, Bool.not_true, Bool.false_eq_true, if_false]
  obtain ⟨b, hb, hf⟩ := great_eq x0 (fun x hx => node_keys ((Fine.sl g0).2 x hx))
  rw [hb]
  simp only [Option.bind_some]
  cases b with
  | true => simp
  | false =>
    have hf := hf rfl
    obtain ⟨c, hc, hc2⟩ := gop_eq x2
    simp only [beq_self_eq_true, if_true, hc, Option.bind_some, Bool.false_eq_true, if_false]
    cases c with
    | true => simp
    | false =>
      obtain ⟨q1, q2, q3, q4⟩ := hc2 rfl
      have ho : OpFew x2 := ⟨q1, q2, q3, q4, op_keys g2⟩
      have hlen := hf.len
      simp only [Bool.false_eq_true, if_false]
      rw [if_pos (show ([] : List (List Int)).length + x2.Parents.length ≤ lim by rw [hL, List.length_nil]; omega), if_pos (show ([] : List Int).length + x2.Who.length ≤ lim by rw [hL, List.length_nil]; omega), if_pos (show ([] : List api_Box).length + x2.Boxes.length ≤ lim by rw [hL, List.length_nil]; omega), if_pos (show x0.length + 2 ≤ lim by rw [hL]; omega)]
      rw [add_eq x0 hf x1 x2 ho, Option.bind_some]
      by_cases he : (addR x0 x1 x2).2 = 0
      · have hr : rightG x0 = true := by
          cases hr : rightG x0 with
          | true => rfl
          | false => unfold addR at he; rw [if_pos (.inl hr)] at he; cases he
        have hs : cabalref15_Same 4000 (addR x0 x1 x2).1 (addR x0 x1 x2).1 = some true := same_refl _ (addR_few x0 hf x1 x2 ho)
        have hz := same_refl _ zN_few
        rw [if_neg (show ¬ ((addR x0 x1 x2).2 != (0 : Int)) = true by rw [he]; decide)]
        unfold caballaw15_GraphKeeps.t1
        rw [radd_eq x0 hf hr x1 x2 ho, Option.bind_some, upto_eq _ _ x2.Parents.length 4000 0 (by omega) (by omega), upto_eq _ _ x2.Who.length 4000 0 (by omega) (by omega), upto_eq _ _ x2.Boxes.length 4000 0 (by omega) (by omega), upto_eq _ _ x0.length 4000 0 (by omega) (by omega)]
        unfold caballaw15_GraphKeeps.t2
        rw [alive15, Option.bind_some, if_pos (by decide), hs, Option.bind_some, if_pos (by decide), hz]; rfl
      · rw [if_pos (show ((addR x0 x1 x2).2 != (0 : Int)) = true by simpa using he), addR_none x0 x1 x2 he]; rfl
end Go.Proofs.Pure
end
