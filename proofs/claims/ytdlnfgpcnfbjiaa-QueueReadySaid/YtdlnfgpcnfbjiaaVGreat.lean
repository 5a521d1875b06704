/- Which graphs are looked at. No program in sight. -/
import Derived.Test.YtdlnfgpcnfbjiaaVFits
namespace Go.Proofs.Pure
open Go Go.RowKit Go.Proofs.Kit
set_option linter.unusedVariables false

theorem gop_l1 (o : api_Op) (h : o.Boxes.length ≤ 30) : ∀ (m i n : Nat), i + m = o.Boxes.length → m < n → ∃ b, cabalref11_Great.l1 4000 o n (i : Int) = some b := by
  intro m
  induction m with
  | zero =>
    intro i n hi hm
    obtain ⟨n, rfl⟩ : ∃ q, n = q + 1 := ⟨n - 1, by omega⟩
    rw [cabalref11_Great.l1, if_neg (by simp; omega)]; exact ⟨_, rfl⟩
  | succ m ih =>
    intro i n hi hm
    obtain ⟨n, rfl⟩ : ∃ q, n = q + 1 := ⟨n - 1, by omega⟩
    have hil : i < o.Boxes.length := by omega
    have hnext : iadd .i64 (i : Int) 1 = ((i + 1 : Nat) : Int) := by rw [add64 (by omega)]; omega
    rw [cabalref11_Great.l1, if_pos (by simp; omega), at_get hil]
    simp only [Option.bind_some, hnext]
    split
    · exact ⟨_, rfl⟩
    · exact ih (i + 1) n (by omega) (by omega)
theorem gop_eq (o : api_Op) : ∃ b, cabalref11_Great 4000 o = some b ∧ (b = false → o.Parents.length ≤ 30 ∧ o.Who.length ≤ 30 ∧ o.Boxes.length ≤ 30 ∧ o.Text.length ≤ 600) := by
  unfold cabalref11_Great
  simp only [Option.bind_some]
  by_cases c : o.Parents.length ≤ 30 ∧ o.Who.length ≤ 30 ∧ o.Boxes.length ≤ 30 ∧ o.Text.length ≤ 600
  · obtain ⟨b, hb⟩ := gop_l1 o c.2.2.1 o.Boxes.length 0 4000 (by omega) (by omega)
    rw [show ((0 : Nat) : Int) = 0 from rfl] at hb
    rw [decide_eq_false (show ¬ (o.Parents.length : Int) > 30 by omega), decide_eq_false (show ¬ (o.Who.length : Int) > 30 by omega), decide_eq_false (show ¬ (o.Boxes.length : Int) > 30 by omega), decide_eq_false (show ¬ (o.Text.length : Int) > 600 by omega)]
    simp only [Bool.false_eq_true, if_false]
    exact ⟨b, hb, fun _ => c⟩
  · refine ⟨true, ?_, fun h => by cases h⟩
    rw [if_pos]
    by_cases p1 : o.Parents.length ≤ 30
    · by_cases p2 : o.Who.length ≤ 30
      · by_cases p3 : o.Boxes.length ≤ 30
        · have p4 : ¬ o.Text.length ≤ 600 := fun p4 => c ⟨p1, p2, p3, p4⟩
          have : decide ((o.Text.length : Int) > 600) = true := decide_eq_true (by omega)
          simp only [this, ite_self]
        · have : decide ((o.Boxes.length : Int) > 30) = true := decide_eq_true (by omega)
          rw [this]; simp
      · have : decide ((o.Who.length : Int) > 30) = true := decide_eq_true (by omega)
        rw [this]; simp
    · have : decide ((o.Parents.length : Int) > 30) = true := decide_eq_true (by omega)
      rw [this]; simp

/-- keys have their length -/
def NodeKeys (x : api_Node) : Prop := ∀ q ∈ x.Op.Parents, q.length = 32
theorem op_keys {o : api_Op} (h : Fine k_api_Op o) : ∀ q ∈ o.Parents, q.length = 32 := by
  have h1 := Fine.iso h
  obtain ⟨_, h2⟩ := Fine.pair h1
  obtain ⟨_, h3⟩ := Fine.pair h2
  obtain ⟨h4, _⟩ := Fine.pair h3
  exact fun q hq => (Fine.arr ((Fine.sl h4).2 q hq)).1
theorem node_keys {x : api_Node} (h : Fine k_api_Node x) : NodeKeys x := by
  have h1 := Fine.iso h
  obtain ⟨_, h2⟩ := Fine.pair h1
  obtain ⟨h3, _⟩ := Fine.pair h2
  exact op_keys h3

theorem great_l1 (p : List api_Node) (hk : ∀ x ∈ p, NodeKeys x) (hp : p.length ≤ 110) : ∀ (m i n : Nat), i + m = p.length → m < n → ∃ b, cabalref15_Great.l1 4000 p n (i : Int) = some b ∧ (b = false → ∀ x ∈ p.drop i, NodeFew x) := by
  intro m
  induction m with
  | zero =>
    intro i n hi hm
    obtain ⟨n, rfl⟩ : ∃ q, n = q + 1 := ⟨n - 1, by omega⟩
    rw [cabalref15_Great.l1, if_neg (by simp; omega), List.drop_eq_nil_of_le (by omega)]; exact ⟨_, rfl, fun _ x hx => by cases hx⟩
  | succ m ih =>
    intro i n hi hm
    obtain ⟨n, rfl⟩ : ∃ q, n = q + 1 := ⟨n - 1, by omega⟩
    have hil : i < p.length := by omega
    have hnext : iadd .i64 (i : Int) 1 = ((i + 1 : Nat) : Int) := by rw [add64 (by omega)]; omega
    have hd : p.drop i = p[i] :: p.drop (i + 1) := List.drop_eq_getElem_cons hil
    obtain ⟨b, hb, hb2⟩ := gop_eq p[i].Op
    rw [cabalref15_Great.l1, if_pos (by simp; omega), at_get hil]
    simp only [Option.bind_some, hb, hnext]
    cases b with
    | true => exact ⟨true, rfl, fun h => by cases h⟩
    | false =>
      simp only [beq_self_eq_true, if_true, Option.bind_some, Bool.false_eq_true, if_false]
      by_cases c : p[i].Past.length ≤ 200
      · rw [if_neg (by simp; omega)]
        obtain ⟨b, h1, h2⟩ := ih (i + 1) n (by omega) (by omega)
        refine ⟨b, h1, fun h x hx => ?_⟩
        rw [hd] at hx
        rcases List.mem_cons.1 hx with rfl | hx
        · obtain ⟨q1, q2, q3, q4⟩ := hb2 rfl
          exact ⟨⟨q1, q2, q3, q4, hk _ (List.getElem_mem hil)⟩, c⟩
        · exact h2 h x hx
      · rw [if_pos (by simp; omega)]
        exact ⟨true, rfl, fun h => by cases h⟩
theorem great_eq (p : List api_Node) (hk : ∀ x ∈ p, NodeKeys x) : ∃ b, cabalref15_Great 4000 p = some b ∧ (b = false → Few p) := by
  unfold cabalref15_Great
  by_cases c : p.length ≤ 110
  · rw [if_neg (by simp; omega)]
    obtain ⟨b, h1, h2⟩ := great_l1 p hk c p.length 0 4000 (by omega) (by omega)
    rw [show ((0 : Nat) : Int) = 0 from rfl] at h1
    rw [List.drop_zero] at h2
    exact ⟨b, h1, fun h => ⟨c, h2 h⟩⟩
  · rw [if_pos (by simp; omega)]
    exact ⟨true, rfl, fun h => by cases h⟩


end Go.Proofs.Pure
