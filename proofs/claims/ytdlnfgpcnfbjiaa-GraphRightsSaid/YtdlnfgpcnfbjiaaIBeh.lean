/- What lies behind what, without clocks: closed, and a member's nodes in a row. No program in sight. -/
import Derived.Test.YtdlnfgpcnfbjiaaIGreat
namespace Go.Proofs.Pure
open Go Go.RowKit Go.Proofs.Kit
set_option linter.unusedVariables false

/-- who made node j -/
def auth (p : List api_Node) (v : Int) : Int := match p[v.toNat]? with | some x => x.Op.Author | none => 0
theorem auth_at {p : List api_Node} (i : Nat) (h : i < p.length) : auth p (i : Int) = p[i].Op.Author := by
  unfold auth; rw [Int.toNat_natCast, List.getElem?_eq_getElem h]
/-- u lies behind v -/
def Beh (p : List api_Node) (u v : Nat) : Prop := ∃ h : v < p.length, (u : Int) ∈ p[v].Past
theorem tn_has {past : List Int} {a : Int} : ∀ (l : List api_Node) (i c : Nat) (r : Nat), tn past a i c l = some r → ∀ (k : Nat) (h : k < l.length), l[k].Op.Author = a → ((i + k : Nat) : Int) ∈ past := by
  intro l
  induction l with
  | nil => intro i c r h k hk; simp at hk
  | cons x l ih =>
    intro i c r h k hk ha
    unfold tn at h
    cases k with
    | zero =>
      have ha' : x.Op.Author = a := ha
      rw [if_pos ha'] at h
      by_cases q : past.contains (i : Int) = true
      · simpa using q
      · rw [if_neg q] at h; cases h
    | succ k =>
      have hk' : k < l.length := by simpa using hk
      have ha' : l[k].Op.Author = a := ha
      rw [show i + (k + 1) = i + 1 + k by omega]
      by_cases q : x.Op.Author = a
      · rw [if_pos q] at h
        by_cases g : past.contains (i : Int) = true
        · rw [if_pos g] at h
          exact ih _ _ _ h k hk' ha'
        · rw [if_neg g] at h; cases h
      · rw [if_neg q] at h
        exact ih _ _ _ h k hk' ha'
/-- a member's nodes lie one behind the other -/
theorem beh_own {p : List api_Node} (hr : rightG p = true) (u v : Nat) (hv : v < p.length) (h : u < v) (ha : auth p (u : Int) = auth p (v : Int)) : Beh p u v := by
  have hu : u < p.length := by omega
  rw [auth_at u hu, auth_at v hv] at ha
  have ht := (right_at hr v hv).turn
  unfold turnB at ht
  rw [Bool.and_eq_true] at ht
  have ht := ht.2
  cases hc : tn p[v].Past p[v].Op.Author 0 0 (p.take v) with
  | none => rw [hc] at ht; cases ht
  | some c =>
    have htl : (p.take v).length = v := by rw [List.length_take]; omega
    have := tn_has _ _ _ _ hc u (by omega) (by rw [List.getElem_take]; exact ha)
    rw [Nat.zero_add] at this
    exact ⟨hv, this⟩
theorem has_eq (p : List api_Node) (hf : Few p) (i j : Int) : graph_has 4000 p i j = some (decide (0 ≤ i ∧ 0 ≤ j ∧ i < p.length ∧ j < p.length) && rightG p) := by
  unfold graph_has
  simp only [Option.bind_some]
  by_cases h1 : 0 ≤ i <;> by_cases h2 : 0 ≤ j <;> by_cases h3 : i < p.length <;> by_cases h4 : j < p.length <;> simp [h1, h2, h3, h4, right_eq p hf]
def behB (p : List api_Node) (u v : Nat) : Bool := match p[v]? with | some x => x.Past.contains (u : Int) | none => false
theorem ahead_eq (p : List api_Node) (hf : Few p) (hr : rightG p = true) (i j : Nat) (hi : i < p.length) (hj : j < p.length) : graph_Ahead 4000 p (i : Int) (j : Int) = some (behB p i j) := by
  have hp := (hf.each _ (List.getElem_mem hj)).past
  unfold graph_Ahead
  rw [has_eq p hf, hr, decide_eq_true ⟨by omega, by omega, by omega, by omega⟩]
  simp only [Bool.and_self, Option.bind_some, beq_self_eq_true, if_true, at_get hj]
  rw [contains_eq _ (by omega)]
  unfold behB
  rw [List.getElem?_eq_getElem hj]
  rfl
theorem apart_eq (p : List api_Node) (hf : Few p) (hr : rightG p = true) (i j : Nat) (hi : i < p.length) (hj : j < p.length) : graph_Apart 4000 p (i : Int) (j : Int) = some (!decide (i = j) && !behB p i j && !behB p j i) := by
  have hpi := (hf.each _ (List.getElem_mem hi)).past
  have hpj := (hf.each _ (List.getElem_mem hj)).past
  unfold graph_Apart
  rw [has_eq p hf, hr, decide_eq_true ⟨by omega, by omega, by omega, by omega⟩]
  have en : ((i : Int) != (j : Int)) = !decide (i = j) := by
    by_cases q : i = j
    · simp [q]
    · have : ¬ (i : Int) = (j : Int) := by omega
      simp [q, this]
  simp only [Bool.and_self, Option.bind_some, if_true, en]
  cases decide (i = j) with
  | true => rfl
  | false =>
    simp only [Bool.not_false, beq_self_eq_true, if_true, at_get hi, at_get hj, Option.bind_some, Bool.true_and]
    rw [contains_eq _ (by omega)]
    simp only [Option.bind_some]
    have e1 : p[i].Past.contains (j : Int) = behB p j i := by unfold behB; rw [List.getElem?_eq_getElem hi]
    have e2 : p[j].Past.contains (i : Int) = behB p i j := by unfold behB; rw [List.getElem?_eq_getElem hj]
    rw [e1]
    cases behB p j i with
    | true => simp
    | false =>
      simp only [Bool.not_false, beq_self_eq_true, if_true, Option.bind_some]
      rw [contains_eq _ (by omega)]
      simp only [Option.bind_some, e2, Bool.and_true]
/-- the questions for any numbers -/
def inG (p : List api_Node) (i j : Int) : Bool := decide (0 ≤ i ∧ 0 ≤ j ∧ i < p.length ∧ j < p.length) && rightG p
def ahG (p : List api_Node) (i j : Int) : Bool := inG p i j && behB p i.toNat j.toNat
def apG (p : List api_Node) (i j : Int) : Bool := inG p i j && (!decide (i = j) && !behB p i.toNat j.toNat && !behB p j.toNat i.toNat)
theorem inG_iff {p : List api_Node} {i j : Int} : inG p i j = true ↔ (0 ≤ i ∧ 0 ≤ j ∧ i < p.length ∧ j < p.length) ∧ rightG p = true := by
  unfold inG; rw [Bool.and_eq_true, decide_eq_true_eq]
theorem ahG_eq (p : List api_Node) (hf : Few p) (i j : Int) : graph_Ahead 4000 p i j = some (ahG p i j) := by
  cases h : inG p i j with
  | true =>
    obtain ⟨⟨h1, h2, h3, h4⟩, hr⟩ := inG_iff.1 h
    obtain ⟨i, rfl⟩ : ∃ m : Nat, i = m := ⟨i.toNat, by omega⟩
    obtain ⟨j, rfl⟩ : ∃ m : Nat, j = m := ⟨j.toNat, by omega⟩
    rw [ahead_eq p hf hr i j (by omega) (by omega)]
    unfold ahG
    rw [h]; simp
  | false =>
    unfold graph_Ahead ahG
    rw [has_eq p hf, show (decide (0 ≤ i ∧ 0 ≤ j ∧ i < p.length ∧ j < p.length) && rightG p) = false from h, h]
    rfl
theorem apG_eq (p : List api_Node) (hf : Few p) (i j : Int) : graph_Apart 4000 p i j = some (apG p i j) := by
  cases h : inG p i j with
  | true =>
    obtain ⟨⟨h1, h2, h3, h4⟩, hr⟩ := inG_iff.1 h
    obtain ⟨i, rfl⟩ : ∃ m : Nat, i = m := ⟨i.toNat, by omega⟩
    obtain ⟨j, rfl⟩ : ∃ m : Nat, j = m := ⟨j.toNat, by omega⟩
    rw [apart_eq p hf hr i j (by omega) (by omega)]
    unfold apG
    have e : decide ((i : Int) = (j : Int)) = decide (i = j) := by
      by_cases q : i = j
      · rw [decide_eq_true q, decide_eq_true (by omega)]
      · rw [decide_eq_false q, decide_eq_false (by omega)]
    rw [h, e]; simp
  | false =>
    unfold graph_Apart apG
    rw [has_eq p hf, show (decide (0 ≤ i ∧ 0 ≤ j ∧ i < p.length ∧ j < p.length) && rightG p) = false from h, h]
    rfl

end Go.Proofs.Pure
