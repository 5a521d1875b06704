/- The same operations in another order are the same graph. No program in sight. -/
import Derived.Test.YtdlnfgpcnfbjiaaYAdd
namespace Go.Proofs.Pure
open Go Go.RowKit Go.Proofs.Kit
set_option linter.unusedVariables false

theorem pm_hit (id : List Int) (l : List api_Node) : ∀ i : Nat, (fnd id i l = -1 ∧ ∀ x ∈ l, x.Id ≠ id) ∨ ∃ j, ∃ h : j < l.length, fnd id i l = ((i + j : Nat) : Int) ∧ l[j].Id = id := by
  induction l with
  | nil => intro i; exact .inl ⟨rfl, fun x hx => by cases hx⟩
  | cons x l ih =>
    intro i
    unfold fnd
    by_cases h : x.Id = id
    · rw [if_pos h]; exact .inr ⟨0, by simp, by simp, h⟩
    · rw [if_neg h]
      rcases ih (i + 1) with ⟨h1, h2⟩ | ⟨j, h1, h2, h3⟩
      · refine .inl ⟨h1, fun y hy => ?_⟩
        rcases List.mem_cons.1 hy with e | e
        · rw [e]; exact h
        · exact h2 y e
      · exact .inr ⟨j + 1, by simp; omega, by rw [h2]; omega, h3⟩
theorem pm_lt {p : List api_Node} (hr : rightG p = true) (i j : Nat) (hi : i < p.length) (hj : j < p.length) (h : i < j) : p[i].Id ≠ p[j].Id := by
  have hn := (right_at hr j hj).new
  rcases pm_hit p[j].Id (p.take j) 0 with ⟨_, e⟩ | ⟨k, hk, e, _⟩
  · exact e p[i] (List.mem_iff_getElem.2 ⟨i, by rw [List.length_take]; omega, by rw [List.getElem_take]⟩)
  · omega
theorem pm_ids {p : List api_Node} (hr : rightG p = true) (i j : Nat) (hi : i < p.length) (hj : j < p.length) (h : p[i].Id = p[j].Id) : i = j := by
  rcases Nat.lt_trichotomy i j with g | g | g
  · exact absurd h (pm_lt hr i j hi hj g)
  · exact g
  · exact absurd h.symm (pm_lt hr j i hj hi g)
structure Sub (l m : List api_Node) : Prop where
  rl : rightG l = true
  rm : rightG m = true
  of : ∀ j (h : j < m.length), ∃ i, ∃ g : i < l.length, m[j].Id = l[i].Id ∧ m[j].Op = l[i].Op
theorem Sub.op {l m : List api_Node} (s : Sub l m) {j i : Nat} (hj : j < m.length) (hi : i < l.length) (e : m[j].Id = l[i].Id) : m[j].Op = l[i].Op := by
  obtain ⟨i2, h2, e1, e2⟩ := s.of j hj
  have := pm_ids s.rl i i2 hi h2 (by rw [← e, e1])
  subst this
  exact e2
theorem sub_len {α : Type} [DecidableEq α] : ∀ (a b : List α), a.Nodup → (∀ x ∈ a, x ∈ b) → a.length ≤ b.length
  | [], b, _, _ => by simp
  | x :: a, b, hn, hs => by
    obtain ⟨h1, h2⟩ := List.nodup_cons.1 hn
    have hx : x ∈ b := hs x (by simp)
    have := sub_len a (b.erase x) h2 (fun y hy => (List.mem_erase_of_ne (fun e => h1 (by rw [← e]; exact hy))).2 (hs y (by simp [hy])))
    rw [List.length_erase_of_mem hx] at this
    have := List.length_pos_of_mem hx
    simp; omega
theorem sub_back {α : Type} [DecidableEq α] (a b : List α) (hn : a.Nodup) (hs : ∀ x ∈ a, x ∈ b) (hl : b.length ≤ a.length) : ∀ x ∈ b, x ∈ a := by
  intro x hx
  apply Classical.byContradiction
  intro h
  have := sub_len (x :: a) b (List.nodup_cons.2 ⟨h, hn⟩) (fun y hy => by
    rcases List.mem_cons.1 hy with e | e
    · rw [e]; exact hx
    · exact hs y e)
  simp at this; omega
def ids (p : List api_Node) : List (List Int) := p.map (fun x => x.Id)
theorem ids_nodup {p : List api_Node} (hr : rightG p = true) : (ids p).Nodup := by
  unfold ids List.Nodup
  rw [List.pairwise_map, List.pairwise_iff_getElem]
  intro i j hi hj h e
  exact pm_lt hr i j hi hj h e
theorem ids_mem {p : List api_Node} {z : List Int} : z ∈ ids p ↔ ∃ j, ∃ h : j < p.length, p[j].Id = z := by
  unfold ids
  rw [List.mem_map]
  constructor
  · rintro ⟨x, hx, e⟩
    obtain ⟨j, hj, g⟩ := List.mem_iff_getElem.1 hx
    exact ⟨j, hj, by rw [g]; exact e⟩
  · rintro ⟨j, hj, e⟩; exact ⟨p[j], List.getElem_mem hj, e⟩
theorem Sub.all {l m : List api_Node} (s : Sub l m) (h : l.length ≤ m.length) : ∀ i (hi : i < l.length), ∃ j, ∃ h : j < m.length, m[j].Id = l[i].Id := by
  intro i hi
  refine ids_mem.1 (sub_back (ids m) (ids l) (ids_nodup s.rm) (fun x hx => ?_) (by unfold ids; simpa using h) _ (ids_mem.2 ⟨i, hi, rfl⟩))
  obtain ⟨j, hj, e⟩ := ids_mem.1 hx
  obtain ⟨k, hk, e1, _⟩ := s.of j hj
  exact ids_mem.2 ⟨k, hk, by rw [← e1, e]⟩
theorem Sub.take {l : List api_Node} (hr : rightG l = true) (n : Nat) : Sub l (l.take n) := ⟨hr, right_take hr n, fun j h => by
  rw [List.length_take] at h
  exact ⟨j, by omega, by rw [List.getElem_take], by rw [List.getElem_take]⟩⟩

end Go.Proofs.Pure
