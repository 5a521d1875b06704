/- What lies behind what: closed, and a member's nodes in a row; clocks tell it. No program in sight. -/
import Derived.Test.YtdlnfgpcnfbjiaaACount
namespace Go.Proofs.Pure
open Go Go.RowKit Go.Proofs.Kit
set_option linter.unusedVariables false

/-- u lies behind v -/
def Beh (p : List api_Node) (u v : Nat) : Prop := ∃ h : v < p.length, (u : Int) ∈ p[v].Past
theorem beh_lt {p : List api_Node} (hr : rightG p = true) {u v : Nat} (h : Beh p u v) : u < v ∧ v < p.length := by
  obtain ⟨hv, hm⟩ := h
  obtain ⟨j, h1, h2⟩ := past_lt hr v hv _ hm
  exact ⟨by omega, hv⟩

theorem fnd_lt {id : List Int} {l : List api_Node} (h : 0 ≤ fnd id 0 l) : (fnd id 0 l).toNat < l.length ∧ fnd id 0 l = ((fnd id 0 l).toNat : Int) := by
  obtain ⟨j, hj, e, _⟩ := fnd_at l id h
  rw [e]; exact ⟨by simpa using hj, by simp⟩
/-- behind a node: a parent, or behind a parent -/
theorem beh_iff {p : List api_Node} (hr : rightG p = true) (u v : Nat) (hv : v < p.length) : Beh p u v ↔ ∃ q ∈ p[v].Op.Parents, ∃ w : Nat, fnd q 0 (p.take v) = (w : Int) ∧ w < v ∧ (w = u ∨ Beh p u w) := by
  have hR := right_at hr v hv
  have htl : (p.take v).length = v := by rw [List.length_take]; omega
  have hok := hR.ok
  unfold okP at hok
  have at_ : ∀ q ∈ p[v].Op.Parents, ∃ w : Nat, fnd q 0 (p.take v) = (w : Int) ∧ w < v ∧ ∀ u : Nat, hitP (p.take v) u q = true ↔ (w = u ∨ Beh p u w) := by
    intro q hq
    have h0 : 0 ≤ fnd q 0 (p.take v) := of_decide_eq_true (List.all_eq_true.1 hok q hq)
    obtain ⟨h1, h2⟩ := fnd_lt h0
    rw [htl] at h1
    refine ⟨_, h2, h1, fun u => ?_⟩
    generalize (fnd q 0 (p.take v)).toNat = w at h1 h2
    unfold hitP
    have hw : w < p.length := by omega
    have e : (p.take v)[w]? = some p[w] := by rw [List.getElem?_take_of_lt h1, List.getElem?_eq_getElem hw]
    rw [h2, Int.toNat_natCast, e]
    simp only [Bool.or_eq_true, beq_iff_eq, List.contains_iff_mem]
    constructor
    · rintro (a | a)
      · exact .inl (by omega)
      · exact .inr ⟨hw, a⟩
    · rintro (a | ⟨_, a⟩)
      · exact .inl (by omega)
      · exact .inr a
  constructor
  · rintro ⟨_, hm⟩
    rw [hR.past] at hm
    unfold pastL at hm
    obtain ⟨j, h1, _, _, h4⟩ := (coll_mem _ _ _ _).1 hm
    have : u = j := by omega
    subst this
    unfold inP at h4
    obtain ⟨q, hq, h5⟩ := List.any_eq_true.1 h4
    obtain ⟨w, e1, e2, e3⟩ := at_ q hq
    exact ⟨q, hq, w, e1, e2, (e3 u).1 h5⟩
  · rintro ⟨q, hq, w, e1, e2, e3⟩
    obtain ⟨w2, f1, f2, f3⟩ := at_ q hq
    have : w2 = w := by omega
    subst this
    refine ⟨hv, ?_⟩
    rw [hR.past]
    unfold pastL
    rw [coll_mem]
    have hu : u < v := by
      rcases e3 with a | a
      · omega
      · have := (beh_lt hr a).1; omega
    refine ⟨u, rfl, by omega, by rw [htl]; omega, ?_⟩
    unfold inP
    exact List.any_eq_true.2 ⟨q, hq, (f3 u).2 e3⟩
/-- what lies behind is closed -/
theorem beh_trans {p : List api_Node} (hr : rightG p = true) : ∀ (n w u v : Nat), w ≤ n → Beh p u v → Beh p v w → Beh p u w := by
  intro n
  induction n with
  | zero => intro w u v hn h1 h2; have := (beh_lt hr h2).1; omega
  | succ n ih =>
    intro w u v hn h1 h2
    have hw := (beh_lt hr h2).2
    obtain ⟨q, hq, x, e1, e2, e3⟩ := (beh_iff hr v w hw).1 h2
    refine (beh_iff hr u w hw).2 ⟨q, hq, x, e1, e2, .inr ?_⟩
    rcases e3 with e | e
    · rw [e]; exact h1
    · exact ih x u v (by omega) h1 e

theorem tn_has {past : List Int} {a : Int} : ∀ (l : List api_Node) (i c : Nat) (r : Nat), tn past a i c l = some r → ∀ (k : Nat) (h : k < l.length), l[k].Op.Author = a → ((i + k : Nat) : Int) ∈ past := by
  intro l
  induction l with
  | nil => intro i c r h k hk; simp at hk
  | cons x l ih =>
    intro i c r h k hk ha
    unfold tn at h
    cases k with
    | zero =>
      have ha' : x.Op.Author = a := ha
      rw [if_pos ha'] at h
      by_cases q : past.contains (i : Int) = true
      · simpa using q
      · rw [if_neg q] at h; cases h
    | succ k =>
      have hk' : k < l.length := by simpa using hk
      have ha' : l[k].Op.Author = a := ha
      rw [show i + (k + 1) = i + 1 + k by omega]
      by_cases q : x.Op.Author = a
      · rw [if_pos q] at h
        by_cases g : past.contains (i : Int) = true
        · rw [if_pos g] at h
          exact ih _ _ _ h k hk' ha'
        · rw [if_neg g] at h; cases h
      · rw [if_neg q] at h
        exact ih _ _ _ h k hk' ha'
/-- a member's nodes lie one behind the other -/
theorem beh_own {p : List api_Node} (hr : rightG p = true) (u v : Nat) (hv : v < p.length) (h : u < v) (ha : auth p (u : Int) = auth p (v : Int)) : Beh p u v := by
  have hu : u < p.length := by omega
  rw [auth_at u hu, auth_at v hv] at ha
  have ht := (right_at hr v hv).turn
  unfold turnB at ht
  rw [Bool.and_eq_true] at ht
  have ht := ht.2
  cases hc : tn p[v].Past p[v].Op.Author 0 0 (p.take v) with
  | none => rw [hc] at ht; cases ht
  | some c =>
    have htl : (p.take v).length = v := by rw [List.length_take]; omega
    have := tn_has _ _ _ _ hc u (by omega) (by rw [List.getElem_take]; exact ha)
    rw [Nat.zero_add] at this
    exact ⟨hv, this⟩

/-! #### how many -/
def num (f : Nat → Bool) : Nat → Nat → Nat
  | _, 0 => 0
  | i, m + 1 => (if f i = true then 1 else 0) + num f (i + 1) m
theorem num_le (f g : Nat → Bool) (m : Nat) : ∀ i, (∀ j, i ≤ j → j < i + m → f j = true → g j = true) → num f i m ≤ num g i m := by
  induction m with
  | zero => intro i _; exact Nat.le_refl _
  | succ m ih =>
    intro i h
    have := ih (i + 1) (fun j h1 h2 => h j (by omega) (by omega))
    unfold num
    by_cases c : f i = true
    · rw [if_pos c, if_pos (h i (by omega) (by omega) c)]; omega
    · rw [if_neg c]; omega
theorem num_lt (f g : Nat → Bool) (m : Nat) : ∀ i, (∀ j, i ≤ j → j < i + m → f j = true → g j = true) → (∃ j, i ≤ j ∧ j < i + m ∧ f j = false ∧ g j = true) → num f i m < num g i m := by
  induction m with
  | zero => rintro i _ ⟨j, h1, h2, _⟩; omega
  | succ m ih =>
    intro i h hx
    obtain ⟨j, h1, h2, h3, h4⟩ := hx
    by_cases c : j = i
    · subst c
      have := num_le f g m (j + 1) (fun k h1 h2 => h k (by omega) (by omega))
      unfold num
      rw [h3, h4]; simp; omega
    · have := ih (i + 1) (fun k h1 h2 => h k (by omega) (by omega)) ⟨j, by omega, by omega, h3, h4⟩
      unfold num
      by_cases c : f i = true
      · rw [if_pos c, if_pos (h i (by omega) (by omega) c)]; omega
      · rw [if_neg c]; omega
theorem num_congr (f g : Nat → Bool) (m i : Nat) (h : ∀ j, i ≤ j → j < i + m → f j = g j) : num f i m = num g i m :=
  Nat.le_antisymm (num_le f g m i (fun j h1 h2 h3 => by rw [← h j h1 h2]; exact h3)) (num_le g f m i (fun j h1 h2 h3 => by rw [h j h1 h2]; exact h3))

/-- a clock's number for a member: how many of the nodes counted are its -/
theorem cntL_get {p : List api_Node} (ha : Auth p) (f : Nat → Bool) (a : Nat) (h8 : a < 8) (m : Nat) : ∀ (i : Nat) (y : List Int), y.length = 8 → (cntL p y (coll f i m)).getD a 0 = y.getD a 0 + (num (fun j => f j && auth p (j : Int) == (a : Int)) i m : Int) := by
  induction m with
  | zero => intro i y hy; simp [coll, cntL, num]
  | succ m ih =>
    intro i y hy
    have hc : coll f i (m + 1) = if f i = true then (i : Int) :: coll f (i + 1) m else coll f (i + 1) m := rfl
    have hn : num (fun j => f j && auth p (j : Int) == (a : Int)) i (m + 1) = (if (f i && auth p (i : Int) == (a : Int)) = true then 1 else 0) + num (fun j => f j && auth p (j : Int) == (a : Int)) (i + 1) m := rfl
    rw [hc, hn]
    by_cases c : f i = true
    · rw [if_pos c, c]
      have e : cntL p y ((i : Int) :: coll f (i + 1) m) = cntL p (addA y (auth p (i : Int))) (coll f (i + 1) m) := rfl
      have hau := auth_rng ha (i : Int)
      obtain ⟨b, hb⟩ : ∃ b : Nat, auth p (i : Int) = b := ⟨(auth p (i : Int)).toNat, by omega⟩
      rw [e, ih (i + 1) _ (by unfold addA; rw [List.length_set]; exact hy), hb, addA_get hy b (by omega)]
      by_cases q : b = a
      · subst q; simp; omega
      · have : ((b : Int) == (a : Int)) = false := by simp; omega
        rw [if_neg q, this]; simp
    · have c2 : f i = false := by simpa using c
      rw [if_neg c, c2, ih (i + 1) y hy]; simp

/-- being counted in a node's clock -/
def inH (p : List api_Node) (t : Nat) (j : Nat) : Bool := decide (j = t) || (match p[t]? with | some x => x.Past.contains (j : Int) | none => false)
theorem inH_iff {p : List api_Node} {t : Nat} (ht : t < p.length) (j : Nat) : inH p t j = true ↔ j = t ∨ Beh p j t := by
  unfold inH
  rw [List.getElem?_eq_getElem ht]
  simp only [Bool.or_eq_true, decide_eq_true_eq, List.contains_iff_mem]
  constructor
  · rintro (h | h)
    · exact .inl h
    · exact .inr ⟨ht, h⟩
  · rintro (h | ⟨_, h⟩)
    · exact .inl h
    · exact .inr h
theorem hist_inH {p : List api_Node} (hr : rightG p = true) (t : Nat) (ht : t < p.length) : hist p t = coll (inH p t) 0 p.length := by
  rw [← hist_coll hr t ht]
  apply coll_congr
  intro j _ _
  unfold inH
  rw [List.getElem?_eq_getElem ht]
def clk (p : List api_Node) (t : Nat) : List Int := cntL p Z8 (hist p t)
theorem Z8_get (a : Nat) (h : a < 8) : Z8.getD a 0 = 0 := by
  match a, h with
  | 0, _ | 1, _ | 2, _ | 3, _ | 4, _ | 5, _ | 6, _ | 7, _ => rfl
theorem clk_get {p : List api_Node} (hr : rightG p = true) (t : Nat) (ht : t < p.length) (a : Nat) (ha : a < 8) : (clk p t).getD a 0 = (num (fun j => inH p t j && auth p (j : Int) == (a : Int)) 0 p.length : Int) := by
  unfold clk
  rw [hist_inH hr t ht, cntL_get (right_auth hr) _ a ha _ _ _ rfl, Z8_get a ha, Int.zero_add]
theorem clk_clock {p : List api_Node} (hr : rightG p = true) (hf : Few p) (t : Nat) (ht : t < p.length) : Clock (clk p t) := by
  have := (hf.each _ (List.getElem_mem ht)).past
  exact (cntL_small (right_auth hr) (hist p t) 0 Z8 small0).clock (by rw [hist_eq ht]; simp; omega)

/-- clocks tell what lies behind -/
theorem clk_le {p : List api_Node} (hr : rightG p = true) (i j : Nat) (hi : i < p.length) (hj : j < p.length) : le8 (clk p i) (clk p j) ↔ i = j ∨ Beh p i j := by
  constructor
  · intro h
    by_cases c : i = j ∨ Beh p i j
    · exact c
    · exfalso
      have hau := auth_rng (right_auth hr) (i : Int)
      obtain ⟨a, ea⟩ : ∃ a : Nat, auth p (i : Int) = a := ⟨(auth p (i : Int)).toNat, by omega⟩
      have := h a (by omega)
      rw [clk_get hr i hi a (by omega), clk_get hr j hj a (by omega)] at this
      have lt := num_lt (fun v => inH p j v && auth p (v : Int) == (a : Int)) (fun v => inH p i v && auth p (v : Int) == (a : Int)) p.length 0 (fun v _ hv h => by
        simp only [Bool.and_eq_true, beq_iff_eq] at h ⊢
        refine ⟨?_, h.2⟩
        rw [inH_iff hi]
        have hv2 : v < p.length := by omega
        have h1 := (inH_iff hj v).1 h.1
        rcases Nat.lt_trichotomy v i with q | q | q
        · exact .inr (beh_own hr v i hi q (by rw [h.2, ea]))
        · exact .inl q
        · exfalso
          have h2 := beh_own hr i v hv2 q (by rw [h.2, ea])
          apply c
          rcases h1 with g | g
          · rw [← g]; exact .inr h2
          · exact .inr (beh_trans hr j j i v (Nat.le_refl _) h2 g)) ⟨i, by omega, by omega, by
          rw [Bool.and_eq_false_iff]
          left
          rw [Bool.eq_false_iff]
          intro g
          exact c ((inH_iff hj i).1 g), by
          simp only [Bool.and_eq_true, beq_iff_eq]
          exact ⟨(inH_iff hi i).2 (.inl rfl), ea⟩⟩
      omega
  · intro h a ha
    rw [clk_get hr i hi a ha, clk_get hr j hj a ha]
    have := num_le (fun v => inH p i v && auth p (v : Int) == (a : Int)) (fun v => inH p j v && auth p (v : Int) == (a : Int)) p.length 0 (fun v _ _ g => by
      simp only [Bool.and_eq_true, beq_iff_eq] at g ⊢
      refine ⟨?_, g.2⟩
      rw [inH_iff hj]
      have g1 := (inH_iff hi v).1 g.1
      rcases h with e | e
      · rw [← e]; exact g1
      · rcases g1 with q | q
        · rw [q]; exact .inr e
        · exact .inr (beh_trans hr j j v i (Nat.le_refl _) q e))
    omega
theorem clk_eq {p : List api_Node} (hr : rightG p = true) (i j : Nat) (hi : i < p.length) (hj : j < p.length) : clk p i = clk p j ↔ i = j := by
  constructor
  · intro h
    have h1 := (clk_le hr i j hi hj).1 (by rw [h]; exact fun _ _ => Int.le_refl _)
    have h2 := (clk_le hr j i hj hi).1 (by rw [h]; exact fun _ _ => Int.le_refl _)
    rcases h1 with e | e
    · exact e
    · rcases h2 with g | g
      · exact g.symm
      · have := (beh_lt hr e).1; have := (beh_lt hr g).1; omega
  · intro h; rw [h]

/-! #### the program's questions -/
theorem has_eq (p : List api_Node) (hf : Few p) (i j : Int) : graph_has 4000 p i j = some (decide (0 ≤ i ∧ 0 ≤ j ∧ i < p.length ∧ j < p.length) && rightG p) := by
  unfold graph_has
  simp only [Option.bind_some]
  by_cases h1 : 0 ≤ i <;> by_cases h2 : 0 ≤ j <;> by_cases h3 : i < p.length <;> by_cases h4 : j < p.length <;> simp [h1, h2, h3, h4, right_eq p hf]
def behB (p : List api_Node) (u v : Nat) : Bool := match p[v]? with | some x => x.Past.contains (u : Int) | none => false
theorem behB_iff {p : List api_Node} {u v : Nat} (h : v < p.length) : behB p u v = true ↔ Beh p u v := by
  unfold behB
  rw [List.getElem?_eq_getElem h, List.contains_iff_mem]
  exact ⟨fun g => ⟨h, g⟩, fun ⟨_, g⟩ => g⟩
theorem ahead_eq (p : List api_Node) (hf : Few p) (hr : rightG p = true) (i j : Nat) (hi : i < p.length) (hj : j < p.length) : graph_Ahead 4000 p (i : Int) (j : Int) = some (behB p i j) := by
  have hp := (hf.each _ (List.getElem_mem hj)).past
  unfold graph_Ahead
  rw [has_eq p hf, hr, decide_eq_true ⟨by omega, by omega, by omega, by omega⟩]
  simp only [Bool.and_self, Option.bind_some, beq_self_eq_true, if_true, at_get hj]
  rw [contains_eq _ (by omega)]
  unfold behB
  rw [List.getElem?_eq_getElem hj]
  rfl
theorem apart_eq (p : List api_Node) (hf : Few p) (hr : rightG p = true) (i j : Nat) (hi : i < p.length) (hj : j < p.length) : graph_Apart 4000 p (i : Int) (j : Int) = some (!decide (i = j) && !behB p i j && !behB p j i) := by
  have hpi := (hf.each _ (List.getElem_mem hi)).past
  have hpj := (hf.each _ (List.getElem_mem hj)).past
  unfold graph_Apart
  rw [has_eq p hf, hr, decide_eq_true ⟨by omega, by omega, by omega, by omega⟩]
  have en : ((i : Int) != (j : Int)) = !decide (i = j) := by
    by_cases q : i = j
    · simp [q]
    · have : ¬ (i : Int) = (j : Int) := by omega
      simp [q, this]
  simp only [Bool.and_self, Option.bind_some, if_true, en]
  cases decide (i = j) with
  | true => rfl
  | false =>
    simp only [Bool.not_false, beq_self_eq_true, if_true, at_get hi, at_get hj, Option.bind_some, Bool.true_and]
    rw [contains_eq _ (by omega)]
    simp only [Option.bind_some]
    have e1 : p[i].Past.contains (j : Int) = behB p j i := by unfold behB; rw [List.getElem?_eq_getElem hi]
    have e2 : p[j].Past.contains (i : Int) = behB p i j := by unfold behB; rw [List.getElem?_eq_getElem hj]
    rw [e1]
    cases behB p j i with
    | true => simp
    | false =>
      simp only [Bool.not_false, beq_self_eq_true, if_true, Option.bind_some]
      rw [contains_eq _ (by omega)]
      simp only [Option.bind_some, e2, Bool.and_true]

end Go.Proofs.Pure
