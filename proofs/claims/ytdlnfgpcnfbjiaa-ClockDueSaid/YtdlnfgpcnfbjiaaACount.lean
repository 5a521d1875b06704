/- Clocks of a graph's nodes: how many of each member's nodes. No program in sight. -/
import Derived.Test.YtdlnfgpcnfbjiaaAClk
namespace Go.Proofs.Pure
open Go Go.RowKit Go.Proofs.Kit
set_option linter.unusedVariables false

theorem alive26 : caballaw26_alive 4000 = some true := by decide +kernel

def Z8 : List Int := [0, 0, 0, 0, 0, 0, 0, 0]
/-- one more for a member -/
def addA (y : List Int) (a : Int) : List Int := y.set a.toNat (y.getD a.toNat 0 + 1)
/-- who made node j -/
def auth (p : List api_Node) (v : Int) : Int := match p[v.toNat]? with | some x => x.Op.Author | none => 0
def cntL (p : List api_Node) : List Int → List Int → List Int
  | y, [] => y
  | y, v :: l => cntL p (addA y (auth p v)) l
theorem cntL_append (p : List api_Node) (a b : List Int) : ∀ y, cntL p y (a ++ b) = cntL p (cntL p y a) b := by
  induction a with
  | nil => intro y; rfl
  | cons v a ih => intro y; exact ih _
/-- members are members -/
def Auth (p : List api_Node) : Prop := ∀ x ∈ p, 0 ≤ x.Op.Author ∧ x.Op.Author < 8
theorem auth_at {p : List api_Node} (i : Nat) (h : i < p.length) : auth p (i : Int) = p[i].Op.Author := by
  unfold auth; rw [Int.toNat_natCast, List.getElem?_eq_getElem h]
theorem auth_rng {p : List api_Node} (ha : Auth p) (v : Int) : 0 ≤ auth p v ∧ auth p v < 8 := by
  unfold auth
  cases h : p[v.toNat]? with
  | none => exact ⟨by decide, by decide⟩
  | some x => exact ha x (List.mem_of_getElem? h)

/-- eight small numbers -/
structure Small (n : Nat) (y : List Int) : Prop where
  len : y.length = 8
  rng : ∀ a, a < 8 → 0 ≤ y.getD a 0 ∧ y.getD a 0 ≤ n
theorem small0 : Small 0 Z8 := ⟨rfl, fun a h => by
  match a, h with
  | 0, _ | 1, _ | 2, _ | 3, _ | 4, _ | 5, _ | 6, _ | 7, _ => exact ⟨by decide, by decide⟩⟩
theorem addA_get {y : List Int} (hy : y.length = 8) (a : Nat) (ha : a < 8) (b : Nat) : (addA y (a : Int)).getD b 0 = y.getD b 0 + (if a = b then 1 else 0) := by
  unfold addA
  rw [Int.toNat_natCast, List.getD_eq_getElem?_getD, List.getD_eq_getElem?_getD, List.getD_eq_getElem?_getD, List.getElem?_set]
  by_cases h : a = b
  · subst h
    simp [hy, ha]
  · rw [if_neg h, if_neg h, Int.add_zero]
theorem Small.add {n : Nat} {y : List Int} (h : Small n y) (a : Int) (ha : 0 ≤ a ∧ a < 8) : Small (n + 1) (addA y a) := by
  obtain ⟨a, rfl⟩ : ∃ m : Nat, a = m := ⟨a.toNat, by omega⟩
  refine ⟨by unfold addA; rw [List.length_set]; exact h.len, fun b hb => ?_⟩
  rw [addA_get h.len a (by omega)]
  have := h.rng b hb
  split <;> omega
theorem Small.clock {n : Nat} {y : List Int} (h : Small n y) (hn : n ≤ 1000000) : Clock y := by
  refine ⟨h.len, fun x hx => ?_⟩
  obtain ⟨i, hi, e⟩ := List.mem_iff_getElem.1 hx
  have := h.rng i (by rw [← h.len]; exact hi)
  have e2 : y.getD i 0 = x := by simp [List.getD_eq_getElem?_getD, List.getElem?_eq_getElem hi, e]
  omega
theorem cntL_small {p : List api_Node} (ha : Auth p) (l : List Int) : ∀ (n : Nat) (y : List Int), Small n y → Small (n + l.length) (cntL p y l) := by
  induction l with
  | nil => intro n y h; exact h
  | cons v l ih =>
    intro n y h
    have := ih (n + 1) _ (h.add _ (auth_rng ha v))
    rw [List.length_cons, show n + (l.length + 1) = n + 1 + l.length by omega]
    exact this

/-- a step that adds one, as both programs do it -/
theorem add_step {n : Nat} {y : List Int} (h : Small n y) (hn : n ≤ 1000000) (a : Int) (ha : 0 ≤ a ∧ a < 8) {R : Type} (K : List Int → Option R) :
    (at? y a).bind (fun x3 => if (0 ≤ a ∧ a < 8) then ((set? y a (iadd .u32 x3 1)).bind K) else none) = K (addA y a) := by
  obtain ⟨a, rfl⟩ : ∃ m : Nat, a = m := ⟨a.toNat, by omega⟩
  have hl : a < y.length := by rw [h.len]; omega
  have := h.rng a (by omega)
  have e : y.getD a 0 = y[a] := by simp [List.getD_eq_getElem?_getD, List.getElem?_eq_getElem hl]
  rw [at_get hl]
  simp only [Option.bind_some]
  rw [if_pos ha, add32 (by rw [← e]; omega)]
  unfold set?
  rw [if_pos ⟨by omega, by omega⟩]
  unfold addA
  rw [Int.toNat_natCast, e]
  rfl

theorem count_l1 (p : List api_Node) (ha : Auth p) (l : List Int) (hl : l.length ≤ 2000) (hv : ∀ v ∈ l, 0 ≤ v ∧ v < p.length) : ∀ (m i n : Nat) (y : List Int), i + m = l.length → m < n → Small i y → clock_count.l1 4000 l p n (i : Int) y = some (cntL p y (l.drop i)) := by
  intro m
  induction m with
  | zero =>
    intro i n y hi hm hy
    obtain ⟨n, rfl⟩ : ∃ q, n = q + 1 := ⟨n - 1, by omega⟩
    rw [clock_count.l1, if_neg (by simp; omega), List.drop_eq_nil_of_le (by omega)]; rfl
  | succ m ih =>
    intro i n y hi hm hy
    obtain ⟨n, rfl⟩ : ∃ q, n = q + 1 := ⟨n - 1, by omega⟩
    have hil : i < l.length := by omega
    have hnext : iadd .i64 (i : Int) 1 = ((i + 1 : Nat) : Int) := by rw [add64 (by omega)]; omega
    have hvi := hv _ (List.getElem_mem hil)
    rw [clock_count.l1, if_pos (by simp; omega), at_get hil, List.drop_eq_getElem_cons hil]
    simp only [Option.bind_some, hnext]
    obtain ⟨j, hj⟩ : ∃ j : Nat, l[i] = j := ⟨l[i].toNat, by omega⟩
    have hjl : j < p.length := by omega
    rw [hj, at_get hjl]
    simp only [Option.bind_some]
    have hau := ha _ (List.getElem_mem hjl)
    rw [if_pos hau, add_step hy (by omega) _ hau]
    unfold cntL
    rw [auth_at j hjl]
    exact ih (i + 1) n _ (by omega) (by omega) (hy.add _ hau)
theorem count_eq (p : List api_Node) (ha : Auth p) (l : List Int) (hl : l.length ≤ 2000) (hv : ∀ v ∈ l, 0 ≤ v ∧ v < p.length) : clock_count 4000 p l = some (cntL p Z8 l) := by
  unfold clock_count
  have := count_l1 p ha l hl hv l.length 0 4000 Z8 (by omega) (by omega) small0
  rw [show ((0 : Nat) : Int) = 0 from rfl, List.drop_zero] at this
  exact this

theorem right_auth {p : List api_Node} (hr : rightG p = true) : Auth p := fun x hx => by
  obtain ⟨i, hi, e⟩ := List.mem_iff_getElem.1 hx
  rw [← e]
  exact (right_at hr i hi).author

/-- what lies behind a node, and it -/
def hist (p : List api_Node) (i : Nat) : List Int := (match p[i]? with | some x => x.Past | none => []) ++ [(i : Int)]
theorem hist_eq {p : List api_Node} {i : Nat} (h : i < p.length) : hist p i = p[i].Past ++ [(i : Int)] := by unfold hist; rw [List.getElem?_eq_getElem h]
theorem hist_rng {p : List api_Node} (hr : rightG p = true) (i : Nat) (h : i < p.length) : ∀ v ∈ hist p i, 0 ≤ v ∧ v < p.length := by
  intro v hv
  rw [hist_eq h] at hv
  rcases List.mem_append.1 hv with q | q
  · obtain ⟨j, h1, h2⟩ := past_lt hr i h v q; omega
  · simp at q; omega
theorem of_eq (p : List api_Node) (hf : Few p) (hr : rightG p = true) (i : Nat) (h : i < p.length) : clock_Of 4000 p (i : Int) = some (cntL p Z8 (hist p i), 0) := by
  have hL : (1000000 : Nat) ≤ lim := by unfold lim; omega
  have hp := (hf.each _ (List.getElem_mem h)).past
  unfold clock_Of
  rw [right_eq p hf, hr]
  simp only [Option.bind_some, Bool.not_true, Bool.false_eq_true, if_false]
  have e : (if decide ((i : Int) < 0) = true then true else decide ((i : Int) ≥ (p.length : Int))) = false := by
    rw [decide_eq_false (show ¬ (i : Int) < 0 by omega), decide_eq_false (show ¬ (i : Int) ≥ (p.length : Int) by omega)]; rfl
  rw [e]
  simp only [Bool.false_eq_true, if_false, at_get h, Option.bind_some, slices_Clone_int_int]
  rw [if_pos (by simp; omega)]
  simp only [Option.bind_some, List.nil_append]
  rw [if_pos (by simp; omega), ← hist_eq h, count_eq p (right_auth hr) _ (by rw [hist_eq h]; simp; omega) (hist_rng hr i h)]
  rfl
theorem of_out (p : List api_Node) (hf : Few p) (hr : rightG p = true) (v : Int) (h : v < 0 ∨ (p.length : Int) ≤ v) : clock_Of 4000 p v = some (Z8, 22) := by
  unfold clock_Of
  rw [right_eq p hf, hr]
  simp only [Option.bind_some, Bool.not_true, Bool.false_eq_true, if_false]
  have e : (if decide (v < 0) = true then true else decide (v ≥ (p.length : Int))) = true := by
    rcases h with h | h
    · rw [decide_eq_true h]; rfl
    · rw [decide_eq_true (show v ≥ (p.length : Int) from h)]; simp
  rw [e]; rfl
theorem of_bad (p : List api_Node) (hf : Few p) (hr : rightG p = false) (v : Int) : clock_Of 4000 p v = some (Z8, 1) := by
  unfold clock_Of
  rw [right_eq p hf, hr]; rfl

/-- all nodes -/
def upto (i m : Nat) : List Int := coll (fun _ => true) i m
theorem upto_succ (i m : Nat) : upto i (m + 1) = (i : Int) :: upto (i + 1) m := rfl

theorem plus_l1 (n : Nat) (hn : 9 ≤ n) (a0 a1 a2 a3 a4 a5 a6 a7 b0 b1 b2 b3 b4 b5 b6 b7 : Int) :
    clock_plus.l1 4000 [a0, a1, a2, a3, a4, a5, a6, a7] n 0 [b0, b1, b2, b3, b4, b5, b6, b7] = some [iadd .u32 b0 a0, iadd .u32 b1 a1, iadd .u32 b2 a2, iadd .u32 b3 a3, iadd .u32 b4 a4, iadd .u32 b5 a5, iadd .u32 b6 a6, iadd .u32 b7 a7] := by
  obtain ⟨m, rfl⟩ := Nat.exists_eq_add_of_le' hn
  rfl
theorem plus_eq {n : Nat} {y : List Int} (h : Small n y) (hn : n ≤ 1000) (a : Int) (ha : 0 ≤ a ∧ a < 8) : clock_plus 4000 y (addA Z8 a) = some (addA y a) := by
  obtain ⟨a, rfl⟩ : ∃ m : Nat, a = m := ⟨a.toNat, by omega⟩
  obtain ⟨b0, b1, b2, b3, b4, b5, b6, b7, rfl⟩ := len8 h.len
  have r0 := h.rng 0 (by omega); have r1 := h.rng 1 (by omega); have r2 := h.rng 2 (by omega); have r3 := h.rng 3 (by omega)
  have r4 := h.rng 4 (by omega); have r5 := h.rng 5 (by omega); have r6 := h.rng 6 (by omega); have r7 := h.rng 7 (by omega)
  simp at r0 r1 r2 r3 r4 r5 r6 r7
  unfold clock_plus
  have z : ∀ x : Int, 0 ≤ x ∧ x ≤ n → iadd .u32 x 0 = x := fun x hx => by rw [add32 (by omega)]; omega
  have o : ∀ x : Int, 0 ≤ x ∧ x ≤ n → iadd .u32 x 1 = x + 1 := fun x hx => add32 (by omega)
  have ha8 : a < 8 := by omega
  match a, ha8 with
  | 0, _ => refine (plus_l1 4000 (by omega) 1 0 0 0 0 0 0 0 b0 b1 b2 b3 b4 b5 b6 b7).trans ?_; rw [o b0 r0, z b1 r1, z b2 r2, z b3 r3, z b4 r4, z b5 r5, z b6 r6, z b7 r7]; rfl
  | 1, _ => refine (plus_l1 4000 (by omega) 0 1 0 0 0 0 0 0 b0 b1 b2 b3 b4 b5 b6 b7).trans ?_; rw [z b0 r0, o b1 r1, z b2 r2, z b3 r3, z b4 r4, z b5 r5, z b6 r6, z b7 r7]; rfl
  | 2, _ => refine (plus_l1 4000 (by omega) 0 0 1 0 0 0 0 0 b0 b1 b2 b3 b4 b5 b6 b7).trans ?_; rw [z b0 r0, z b1 r1, o b2 r2, z b3 r3, z b4 r4, z b5 r5, z b6 r6, z b7 r7]; rfl
  | 3, _ => refine (plus_l1 4000 (by omega) 0 0 0 1 0 0 0 0 b0 b1 b2 b3 b4 b5 b6 b7).trans ?_; rw [z b0 r0, z b1 r1, z b2 r2, o b3 r3, z b4 r4, z b5 r5, z b6 r6, z b7 r7]; rfl
  | 4, _ => refine (plus_l1 4000 (by omega) 0 0 0 0 1 0 0 0 b0 b1 b2 b3 b4 b5 b6 b7).trans ?_; rw [z b0 r0, z b1 r1, z b2 r2, z b3 r3, o b4 r4, z b5 r5, z b6 r6, z b7 r7]; rfl
  | 5, _ => refine (plus_l1 4000 (by omega) 0 0 0 0 0 1 0 0 b0 b1 b2 b3 b4 b5 b6 b7).trans ?_; rw [z b0 r0, z b1 r1, z b2 r2, z b3 r3, z b4 r4, o b5 r5, z b6 r6, z b7 r7]; rfl
  | 6, _ => refine (plus_l1 4000 (by omega) 0 0 0 0 0 0 1 0 b0 b1 b2 b3 b4 b5 b6 b7).trans ?_; rw [z b0 r0, z b1 r1, z b2 r2, z b3 r3, z b4 r4, z b5 r5, o b6 r6, z b7 r7]; rfl
  | 7, _ => refine (plus_l1 4000 (by omega) 0 0 0 0 0 0 0 1 b0 b1 b2 b3 b4 b5 b6 b7).trans ?_; rw [z b0 r0, z b1 r1, z b2 r2, z b3 r3, z b4 r4, z b5 r5, z b6 r6, o b7 r7]; rfl

theorem all_l1 (p : List api_Node) (hp : p.length ≤ 200) (ha : Auth p) : ∀ (m i n : Nat) (y : List Int), i + m = p.length → m < n → Small i y → clock_All.l1 4000 p n (i : Int) y = some (cntL p y (upto i m), 0) := by
  intro m
  induction m with
  | zero =>
    intro i n y hi hm hy
    obtain ⟨n, rfl⟩ : ∃ q, n = q + 1 := ⟨n - 1, by omega⟩
    rw [clock_All.l1, if_neg (by simp; omega)]; rfl
  | succ m ih =>
    intro i n y hi hm hy
    obtain ⟨n, rfl⟩ : ∃ q, n = q + 1 := ⟨n - 1, by omega⟩
    have hil : i < p.length := by omega
    have hnext : iadd .i64 (i : Int) 1 = ((i + 1 : Nat) : Int) := by rw [add64 (by omega)]; omega
    have hau := auth_rng ha (i : Int)
    have hs := hy.add _ hau
    rw [clock_All.l1, if_pos (by simp; omega), count_eq p ha [(i : Int)] (by simp) (fun v hv => by simp at hv; omega)]
    have e1 : cntL p Z8 [(i : Int)] = addA Z8 (auth p (i : Int)) := rfl
    rw [e1]
    simp only [Option.bind_some]
    rw [plus_eq hy (by omega) _ hau]
    simp only [Option.bind_some]
    rw [join2 4000 (by omega) (hy.clock (by omega)) (hs.clock (by omega))]
    have e2 : sup y (addA y (auth p (i : Int))) = addA y (auth p (i : Int)) := by
      rw [sup_eq (hy.clock (by omega)) (hs.clock (by omega))]
      intro b hb
      obtain ⟨a, ea⟩ : ∃ m : Nat, auth p (i : Int) = m := ⟨(auth p (i : Int)).toNat, by omega⟩
      rw [ea, addA_get hy.len a (by omega)]
      split <;> omega
    rw [e2, upto_succ]
    simp only [Option.bind_some, hnext]
    unfold cntL
    exact ih (i + 1) n _ (by omega) (by omega) hs
theorem all_eq (p : List api_Node) (hf : Few p) (hr : rightG p = true) : clock_All 4000 p = some (cntL p Z8 (upto 0 p.length), 0) := by
  have hlen := hf.len
  unfold clock_All
  rw [right_eq p hf, hr]
  simp only [Option.bind_some, Bool.not_true, Bool.false_eq_true, if_false]
  have := all_l1 p (by omega) (right_auth hr) p.length 0 4000 Z8 (by omega) (by omega) small0
  rw [show ((0 : Nat) : Int) = 0 from rfl] at this
  exact this
theorem all_bad (p : List api_Node) (hf : Few p) (hr : rightG p = false) : clock_All 4000 p = some (Z8, 1) := by
  unfold clock_All
  rw [right_eq p hf, hr]; rfl

/-! #### the document's way -/
theorem rall_l1 (p : List api_Node) (hp : p.length ≤ 200) (ha : Auth p) : ∀ (m i n : Nat) (y : List Int), i + m = p.length → m < n → Small i y → cabalref26_All.l1 4000 p n (i : Int) y = some (cntL p y (upto i m)) := by
  intro m
  induction m with
  | zero =>
    intro i n y hi hm hy
    obtain ⟨n, rfl⟩ : ∃ q, n = q + 1 := ⟨n - 1, by omega⟩
    rw [cabalref26_All.l1, if_neg (by simp; omega)]; rfl
  | succ m ih =>
    intro i n y hi hm hy
    obtain ⟨n, rfl⟩ : ∃ q, n = q + 1 := ⟨n - 1, by omega⟩
    have hil : i < p.length := by omega
    have hnext : iadd .i64 (i : Int) 1 = ((i + 1 : Nat) : Int) := by rw [add64 (by omega)]; omega
    have hau := ha _ (List.getElem_mem hil)
    rw [cabalref26_All.l1, if_pos (by simp; omega), at_get hil]
    simp only [Option.bind_some, hnext]
    rw [if_pos hau, add_step hy (by omega) _ hau, upto_succ]
    unfold cntL
    rw [auth_at i hil]
    exact ih (i + 1) n _ (by omega) (by omega) (hy.add _ hau)
theorem rall_eq (p : List api_Node) (hf : Few p) (hr : rightG p = true) : cabalref26_All 4000 p = some (cntL p Z8 (upto 0 p.length)) := by
  have hlen := hf.len
  unfold cabalref26_All
  have := rall_l1 p (by omega) (right_auth hr) p.length 0 4000 Z8 (by omega) (by omega) small0
  rw [show ((0 : Nat) : Int) = 0 from rfl] at this
  exact this

theorem rof_l1 (p : List api_Node) (hf : Few p) (ha : Auth p) (t : Nat) (ht : t < p.length) : ∀ (m i n : Nat) (y : List Int), i + m = p.length → m < n → Small i y → cabalref26_Of.l1 4000 p (t : Int) n (i : Int) y = some (cntL p y (coll (fun j => decide (j = t) || p[t].Past.contains (j : Int)) i m)) := by
  have hlen := hf.len
  have hpt := (hf.each _ (List.getElem_mem ht)).past
  intro m
  induction m with
  | zero =>
    intro i n y hi hm hy
    obtain ⟨n, rfl⟩ : ∃ q, n = q + 1 := ⟨n - 1, by omega⟩
    rw [cabalref26_Of.l1, if_neg (by simp; omega)]; rfl
  | succ m ih =>
    intro i n y hi hm hy
    obtain ⟨n, rfl⟩ : ∃ q, n = q + 1 := ⟨n - 1, by omega⟩
    have hil : i < p.length := by omega
    have hnext : iadd .i64 (i : Int) 1 = ((i + 1 : Nat) : Int) := by rw [add64 (by omega)]; omega
    have hau := ha _ (List.getElem_mem hil)
    rw [cabalref26_Of.l1, if_pos (by simp; omega)]
    have et : ((i : Int) == (t : Int)) = decide (i = t) := by
      by_cases q : i = t
      · simp [q]
      · have : ¬ (i : Int) = (t : Int) := by omega
        simp [q, this]
    rw [et]
    have step : (at? p (i : Int)).bind (fun x3 => if 0 ≤ x3.Op.Author ∧ x3.Op.Author < 8 then (at? y x3.Op.Author).bind (fun x4 => if 0 ≤ x3.Op.Author ∧ x3.Op.Author < 8 then (set? y x3.Op.Author (iadd .u32 x4 1)).bind (fun x5 => cabalref26_Of.j2 4000 (i : Int) (cabalref26_Of.l1 4000 p (t : Int) n) x5) else none) else none) = some (cntL p y ((i : Int) :: coll (fun j => decide (j = t) || p[t].Past.contains (j : Int)) (i + 1) m)) := by
      rw [at_get hil]
      simp only [Option.bind_some]
      rw [if_pos hau, add_step hy (by omega) _ hau]
      simp only [cabalref26_Of.j2, hnext]
      unfold cntL
      rw [auth_at i hil]
      exact ih (i + 1) n _ (by omega) (by omega) (hy.add _ hau)
    unfold coll
    by_cases q : i = t
    · rw [decide_eq_true q]
      simp only [(by decide : (true == false) = false), Bool.false_eq_true, if_false, if_true, Option.bind_some, Bool.true_or]
      exact step
    · rw [decide_eq_false q]
      simp only [beq_self_eq_true, if_true, at_get ht, Option.bind_some, in_eq _ (show p[t].Past.length ≤ 2000 by omega), Bool.false_eq_true, if_false, Bool.false_or]
      by_cases c : p[t].Past.contains (i : Int) = true
      · rw [if_pos c, if_pos c]
        exact step
      · rw [if_neg c, if_neg c]
        simp only [cabalref26_Of.j2, hnext]
        exact ih (i + 1) n _ (by omega) (by omega) ⟨hy.len, fun a ha => by have := hy.rng a ha; omega⟩
theorem coll_add (f : Nat → Bool) (m : Nat) : ∀ (i k : Nat), coll f i (m + k) = coll f i m ++ coll f (i + m) k := by
  induction m with
  | zero => intro i k; rw [Nat.zero_add]; rfl
  | succ m ih =>
    intro i k
    rw [show m + 1 + k = (m + k) + 1 by omega]
    have e : ∀ q, coll f i (q + 1) = if f i = true then (i : Int) :: coll f (i + 1) q else coll f (i + 1) q := fun q => rfl
    rw [e, e, ih (i + 1) k, show i + 1 + m = i + (m + 1) by omega]
    split <;> rfl
theorem coll_none (f : Nat → Bool) (m : Nat) : ∀ i, (∀ j, i ≤ j → j < i + m → f j = false) → coll f i m = [] := by
  induction m with
  | zero => intro i _; rfl
  | succ m ih =>
    intro i h
    unfold coll
    rw [if_neg (by rw [h i (by omega) (by omega)]; decide)]
    exact ih (i + 1) (fun j h1 h2 => h j (by omega) (by omega))
theorem hist_coll {p : List api_Node} (hr : rightG p = true) (t : Nat) (ht : t < p.length) : coll (fun j => decide (j = t) || p[t].Past.contains (j : Int)) 0 p.length = hist p t := by
  rw [hist_eq ht]
  obtain ⟨k, hk⟩ : ∃ k, p.length = t + (1 + k) := ⟨p.length - t - 1, by omega⟩
  rw [hk, coll_add, coll_add]
  have e3 : coll (fun j => decide (j = t) || p[t].Past.contains (j : Int)) (0 + t + 1) k = [] := coll_none _ _ _ (fun j h1 h2 => by
    rw [decide_eq_false (by omega), Bool.false_or, Bool.eq_false_iff]
    intro h
    obtain ⟨i, h1, h2⟩ := past_lt hr t ht (j : Int) (by simpa using h)
    omega)
  have e2 : coll (fun j => decide (j = t) || p[t].Past.contains (j : Int)) (0 + t) 1 = [(t : Int)] := by
    unfold coll
    rw [if_pos (by simp)]
    unfold coll
    simp
  have e1 : coll (fun j => decide (j = t) || p[t].Past.contains (j : Int)) 0 t = p[t].Past := by
    have hp := (right_at hr t ht).past
    have hl : (p.take t).length = t := by rw [List.length_take]; omega
    have e : p[t].Past = coll (inP (p.take t) p[t].Op.Parents) 0 t := by rw [hp]; unfold pastL; rw [hl]
    rw [e]
    apply coll_congr
    intro j _ hj
    rw [decide_eq_false (by omega), Bool.false_or]
    rw [Bool.eq_iff_iff, List.contains_iff_mem, coll_mem]
    constructor
    · rintro ⟨i, h1, _, _, h4⟩
      have : j = i := by omega
      rw [this]; exact h4
    · intro h; exact ⟨j, rfl, by omega, by omega, h⟩
  rw [e1, e2, e3, List.append_nil]
theorem rof_eq (p : List api_Node) (hf : Few p) (hr : rightG p = true) (t : Nat) (ht : t < p.length) : cabalref26_Of 4000 p (t : Int) = some (cntL p Z8 (hist p t)) := by
  have hlen := hf.len
  unfold cabalref26_Of
  have := rof_l1 p hf (right_auth hr) t ht p.length 0 4000 Z8 (by omega) (by omega) small0
  rw [show ((0 : Nat) : Int) = 0 from rfl, hist_coll hr t ht] at this
  exact this

end Go.Proofs.Pure
