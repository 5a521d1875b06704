/- What lies behind what, without clocks: closed, and a member's nodes in a row. No program in sight. -/
import Derived.Test.YtdlnfgpcnfbjiaaLGreat
namespace Go.Proofs.Pure
open Go Go.RowKit Go.Proofs.Kit
set_option linter.unusedVariables false

/-- u lies behind v -/
def Beh (p : List api_Node) (u v : Nat) : Prop := ∃ h : v < p.length, (u : Int) ∈ p[v].Past
theorem beh_lt {p : List api_Node} (hr : rightG p = true) {u v : Nat} (h : Beh p u v) : u < v ∧ v < p.length := by
  obtain ⟨hv, hm⟩ := h
  obtain ⟨j, h1, h2⟩ := past_lt hr v hv _ hm
  exact ⟨by omega, hv⟩
theorem fnd_lt {id : List Int} {l : List api_Node} (h : 0 ≤ fnd id 0 l) : (fnd id 0 l).toNat < l.length ∧ fnd id 0 l = ((fnd id 0 l).toNat : Int) := by
  obtain ⟨j, hj, e, _⟩ := fnd_at l id h
  rw [e]; exact ⟨by simpa using hj, by simp⟩
/-- behind a node: a parent, or behind a parent -/
theorem beh_iff {p : List api_Node} (hr : rightG p = true) (u v : Nat) (hv : v < p.length) : Beh p u v ↔ ∃ q ∈ p[v].Op.Parents, ∃ w : Nat, fnd q 0 (p.take v) = (w : Int) ∧ w < v ∧ (w = u ∨ Beh p u w) := by
  have hR := right_at hr v hv
  have htl : (p.take v).length = v := by rw [List.length_take]; omega
  have hok := hR.ok
  unfold okP at hok
  have at_ : ∀ q ∈ p[v].Op.Parents, ∃ w : Nat, fnd q 0 (p.take v) = (w : Int) ∧ w < v ∧ ∀ u : Nat, hitP (p.take v) u q = true ↔ (w = u ∨ Beh p u w) := by
    intro q hq
    have h0 : 0 ≤ fnd q 0 (p.take v) := of_decide_eq_true (List.all_eq_true.1 hok q hq)
    obtain ⟨h1, h2⟩ := fnd_lt h0
    rw [htl] at h1
    refine ⟨_, h2, h1, fun u => ?_⟩
    generalize (fnd q 0 (p.take v)).toNat = w at h1 h2
    unfold hitP
    have hw : w < p.length := by omega
    have e : (p.take v)[w]? = some p[w] := by rw [List.getElem?_take_of_lt h1, List.getElem?_eq_getElem hw]
    rw [h2, Int.toNat_natCast, e]
    simp only [Bool.or_eq_true, beq_iff_eq, List.contains_iff_mem]
    constructor
    · rintro (a | a)
      · exact .inl (by omega)
      · exact .inr ⟨hw, a⟩
    · rintro (a | ⟨_, a⟩)
      · exact .inl (by omega)
      · exact .inr a
  constructor
  · rintro ⟨_, hm⟩
    rw [hR.past] at hm
    unfold pastL at hm
    obtain ⟨j, h1, _, _, h4⟩ := (coll_mem _ _ _ _).1 hm
    have : u = j := by omega
    subst this
    unfold inP at h4
    obtain ⟨q, hq, h5⟩ := List.any_eq_true.1 h4
    obtain ⟨w, e1, e2, e3⟩ := at_ q hq
    exact ⟨q, hq, w, e1, e2, (e3 u).1 h5⟩
  · rintro ⟨q, hq, w, e1, e2, e3⟩
    obtain ⟨w2, f1, f2, f3⟩ := at_ q hq
    have : w2 = w := by omega
    subst this
    refine ⟨hv, ?_⟩
    rw [hR.past]
    unfold pastL
    rw [coll_mem]
    have hu : u < v := by
      rcases e3 with a | a
      · omega
      · have := (beh_lt hr a).1; omega
    refine ⟨u, rfl, by omega, by rw [htl]; omega, ?_⟩
    unfold inP
    exact List.any_eq_true.2 ⟨q, hq, (f3 u).2 e3⟩
/-- what lies behind is closed -/
theorem beh_trans {p : List api_Node} (hr : rightG p = true) : ∀ (n w u v : Nat), w ≤ n → Beh p u v → Beh p v w → Beh p u w := by
  intro n
  induction n with
  | zero => intro w u v hn h1 h2; have := (beh_lt hr h2).1; omega
  | succ n ih =>
    intro w u v hn h1 h2
    have hw := (beh_lt hr h2).2
    obtain ⟨q, hq, x, e1, e2, e3⟩ := (beh_iff hr v w hw).1 h2
    refine (beh_iff hr u w hw).2 ⟨q, hq, x, e1, e2, .inr ?_⟩
    rcases e3 with e | e
    · rw [e]; exact h1
    · exact ih x u v (by omega) h1 e
theorem has_eq (p : List api_Node) (hf : Few p) (i j : Int) : graph_has 4000 p i j = some (decide (0 ≤ i ∧ 0 ≤ j ∧ i < p.length ∧ j < p.length) && rightG p) := by
  unfold graph_has
  simp only [Option.bind_some]
  by_cases h1 : 0 ≤ i <;> by_cases h2 : 0 ≤ j <;> by_cases h3 : i < p.length <;> by_cases h4 : j < p.length <;> simp [h1, h2, h3, h4, right_eq p hf]
def behB (p : List api_Node) (u v : Nat) : Bool := match p[v]? with | some x => x.Past.contains (u : Int) | none => false
theorem behB_iff {p : List api_Node} {u v : Nat} (h : v < p.length) : behB p u v = true ↔ Beh p u v := by
  unfold behB
  rw [List.getElem?_eq_getElem h, List.contains_iff_mem]
  exact ⟨fun g => ⟨h, g⟩, fun ⟨_, g⟩ => g⟩
theorem ahead_eq (p : List api_Node) (hf : Few p) (hr : rightG p = true) (i j : Nat) (hi : i < p.length) (hj : j < p.length) : graph_Ahead 4000 p (i : Int) (j : Int) = some (behB p i j) := by
  have hp := (hf.each _ (List.getElem_mem hj)).past
  unfold graph_Ahead
  rw [has_eq p hf, hr, decide_eq_true ⟨by omega, by omega, by omega, by omega⟩]
  simp only [Bool.and_self, Option.bind_some, beq_self_eq_true, if_true, at_get hj]
  rw [contains_eq _ (by omega)]
  unfold behB
  rw [List.getElem?_eq_getElem hj]
  rfl

end Go.Proofs.Pure
