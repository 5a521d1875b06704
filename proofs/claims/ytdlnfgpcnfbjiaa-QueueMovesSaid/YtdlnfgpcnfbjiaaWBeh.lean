/- What lies behind what, without clocks: closed, and a member's nodes in a row. No program in sight. -/
import Derived.Test.YtdlnfgpcnfbjiaaWGreat
namespace Go.Proofs.Pure
open Go Go.RowKit Go.Proofs.Kit
set_option linter.unusedVariables false

/-- who made node j -/
def auth (p : List api_Node) (v : Int) : Int := match p[v.toNat]? with | some x => x.Op.Author | none => 0
theorem auth_at {p : List api_Node} (i : Nat) (h : i < p.length) : auth p (i : Int) = p[i].Op.Author := by
  unfold auth; rw [Int.toNat_natCast, List.getElem?_eq_getElem h]
/-- u lies behind v -/
def Beh (p : List api_Node) (u v : Nat) : Prop := ∃ h : v < p.length, (u : Int) ∈ p[v].Past
theorem beh_lt {p : List api_Node} (hr : rightG p = true) {u v : Nat} (h : Beh p u v) : u < v ∧ v < p.length := by
  obtain ⟨hv, hm⟩ := h
  obtain ⟨j, h1, h2⟩ := past_lt hr v hv _ hm
  exact ⟨by omega, hv⟩
theorem fnd_lt {id : List Int} {l : List api_Node} (h : 0 ≤ fnd id 0 l) : (fnd id 0 l).toNat < l.length ∧ fnd id 0 l = ((fnd id 0 l).toNat : Int) := by
  obtain ⟨j, hj, e, _⟩ := fnd_at l id h
  rw [e]; exact ⟨by simpa using hj, by simp⟩
/-- behind a node: a parent, or behind a parent -/
theorem beh_iff {p : List api_Node} (hr : rightG p = true) (u v : Nat) (hv : v < p.length) : Beh p u v ↔ ∃ q ∈ p[v].Op.Parents, ∃ w : Nat, fnd q 0 (p.take v) = (w : Int) ∧ w < v ∧ (w = u ∨ Beh p u w) := by
  have hR := right_at hr v hv
  have htl : (p.take v).length = v := by rw [List.length_take]; omega
  have hok := hR.ok
  unfold okP at hok
  have at_ : ∀ q ∈ p[v].Op.Parents, ∃ w : Nat, fnd q 0 (p.take v) = (w : Int) ∧ w < v ∧ ∀ u : Nat, hitP (p.take v) u q = true ↔ (w = u ∨ Beh p u w) := by
    intro q hq
    have h0 : 0 ≤ fnd q 0 (p.take v) := of_decide_eq_true (List.all_eq_true.1 hok q hq)
    obtain ⟨h1, h2⟩ := fnd_lt h0
    rw [htl] at h1
    refine ⟨_, h2, h1, fun u => ?_⟩
    generalize (fnd q 0 (p.take v)).toNat = w at h1 h2
    unfold hitP
    have hw : w < p.length := by omega
    have e : (p.take v)[w]? = some p[w] := by rw [List.getElem?_take_of_lt h1, List.getElem?_eq_getElem hw]
    rw [h2, Int.toNat_natCast, e]
    simp only [Bool.or_eq_true, beq_iff_eq, List.contains_iff_mem]
    constructor
    · rintro (a | a)
      · exact .inl (by omega)
      · exact .inr ⟨hw, a⟩
    · rintro (a | ⟨_, a⟩)
      · exact .inl (by omega)
      · exact .inr a
  constructor
  · rintro ⟨_, hm⟩
    rw [hR.past] at hm
    unfold pastL at hm
    obtain ⟨j, h1, _, _, h4⟩ := (coll_mem _ _ _ _).1 hm
    have : u = j := by omega
    subst this
    unfold inP at h4
    obtain ⟨q, hq, h5⟩ := List.any_eq_true.1 h4
    obtain ⟨w, e1, e2, e3⟩ := at_ q hq
    exact ⟨q, hq, w, e1, e2, (e3 u).1 h5⟩
  · rintro ⟨q, hq, w, e1, e2, e3⟩
    obtain ⟨w2, f1, f2, f3⟩ := at_ q hq
    have : w2 = w := by omega
    subst this
    refine ⟨hv, ?_⟩
    rw [hR.past]
    unfold pastL
    rw [coll_mem]
    have hu : u < v := by
      rcases e3 with a | a
      · omega
      · have := (beh_lt hr a).1; omega
    refine ⟨u, rfl, by omega, by rw [htl]; omega, ?_⟩
    unfold inP
    exact List.any_eq_true.2 ⟨q, hq, (f3 u).2 e3⟩
theorem tn_has {past : List Int} {a : Int} : ∀ (l : List api_Node) (i c : Nat) (r : Nat), tn past a i c l = some r → ∀ (k : Nat) (h : k < l.length), l[k].Op.Author = a → ((i + k : Nat) : Int) ∈ past := by
  intro l
  induction l with
  | nil => intro i c r h k hk; simp at hk
  | cons x l ih =>
    intro i c r h k hk ha
    unfold tn at h
    cases k with
    | zero =>
      have ha' : x.Op.Author = a := ha
      rw [if_pos ha'] at h
      by_cases q : past.contains (i : Int) = true
      · simpa using q
      · rw [if_neg q] at h; cases h
    | succ k =>
      have hk' : k < l.length := by simpa using hk
      have ha' : l[k].Op.Author = a := ha
      rw [show i + (k + 1) = i + 1 + k by omega]
      by_cases q : x.Op.Author = a
      · rw [if_pos q] at h
        by_cases g : past.contains (i : Int) = true
        · rw [if_pos g] at h
          exact ih _ _ _ h k hk' ha'
        · rw [if_neg g] at h; cases h
      · rw [if_neg q] at h
        exact ih _ _ _ h k hk' ha'
/-- a member's nodes lie one behind the other -/
theorem beh_own {p : List api_Node} (hr : rightG p = true) (u v : Nat) (hv : v < p.length) (h : u < v) (ha : auth p (u : Int) = auth p (v : Int)) : Beh p u v := by
  have hu : u < p.length := by omega
  rw [auth_at u hu, auth_at v hv] at ha
  have ht := (right_at hr v hv).turn
  unfold turnB at ht
  rw [Bool.and_eq_true] at ht
  have ht := ht.2
  cases hc : tn p[v].Past p[v].Op.Author 0 0 (p.take v) with
  | none => rw [hc] at ht; cases ht
  | some c =>
    have htl : (p.take v).length = v := by rw [List.length_take]; omega
    have := tn_has _ _ _ _ hc u (by omega) (by rw [List.getElem_take]; exact ha)
    rw [Nat.zero_add] at this
    exact ⟨hv, this⟩
theorem rightL_of {p : List api_Node} : ∀ (m j : Nat), (∀ (i : Nat) (h : i < p.length), j ≤ i → i < j + m → fitB (p.take i) p[i] = true) → rightL p j m = true := by
  intro m
  induction m with
  | zero => intro j _; rfl
  | succ m ih =>
    intro j h
    unfold rightL
    rw [ih (j + 1) (fun i hi h1 h2 => h i hi (by omega) (by omega)), Bool.and_true]
    by_cases c : j < p.length
    · rw [List.getElem?_eq_getElem c]
      exact h j c (by omega) (by omega)
    · rw [List.getElem?_eq_none (by omega)]
theorem right_take {p : List api_Node} (hr : rightG p = true) (t : Nat) : rightG (p.take t) = true := by
  have hl := right_len hr
  have hr2 := hr
  unfold rightG at hr2
  rw [Bool.and_eq_true] at hr2
  unfold rightG
  rw [Bool.and_eq_true]
  refine ⟨decide_eq_true (by rw [List.length_take]; omega), rightL_of _ _ (fun i hi h1 h2 => ?_)⟩
  have hi2 := hi
  rw [List.length_take] at hi2
  have := rightL_at _ _ hr2.2 i (by omega) (by omega) (by omega)
  rw [List.getElem_take, List.take_take, Nat.min_eq_left (by omega)]
  exact this


end Go.Proofs.Pure
