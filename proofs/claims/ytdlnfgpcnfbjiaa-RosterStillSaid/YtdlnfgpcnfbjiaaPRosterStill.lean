/- RosterStill over its plain functions: no program in sight. -/
import Derived.Test.YtdlnfgpcnfbjiaaQRosP
namespace Go.Proofs.Pure
open Go Go.RowKit Go.Proofs.Kit
set_option linter.unusedVariables false

theorem alive16 : caballaw16_alive 4000 = some true := by decide +kernel
theorem w2_l1 (k : Nat) (p : List api_Node) (o : api_Op) (id : List Int) (x : List Int × Int) : ∀ (n : Nat) (i : Int) (acc : List api_Node), graph_Add_w2.l1 k p o id x n i acc = graph_Add.l1 k p o id x n i acc := by
  intro n
  induction n with
  | zero => intro i acc; rfl
  | succ n ih =>
    intro i acc
    have ef : graph_Add_w2.l1 k p o id x n = graph_Add.l1 k p o id x n := funext fun i => funext fun acc => ih i acc
    rw [graph_Add_w2.l1, graph_Add.l1, ef]
    rfl
theorem w2_eq (k : Nat) (p : List api_Node) (id : List Int) (o : api_Op) : graph_Add_w2 k p id o = graph_Add k p id o := by
  unfold graph_Add_w2 graph_Add
  have ef : ∀ x, graph_Add_w2.l1 k p o id x k = graph_Add.l1 k p o id x k := fun x => funext fun i => funext fun acc => w2_l1 k p o id x k i acc
  simp only [ef]
theorem add_take {p : List api_Node} (hr : rightG p = true) (i : Nat) (hi : i < p.length) : addR (p.take i) p[i].Id p[i].Op = (p.take (i + 1), 0) := by
  have hl := right_len hr
  have R := right_at hr i hi
  have ht : turnB (p.take i) p[i].Op (pastL (p.take i) p[i].Op) = true := by rw [← R.past]; exact R.turn
  unfold addR
  rw [if_neg (by rw [right_take hr, R.op]; simp), if_neg (by have := R.new; omega), if_neg (by rw [List.length_take]; omega), if_neg (by rw [R.ok]; simp), if_neg (by rw [ht]; simp), ← R.past, List.take_add_one, List.getElem?_eq_getElem hi]
  rfl
theorem same_ros (m : List api_Node) : cabalref15_SameInts 4000 (rosA m) (rosA m) = some true := by
  have h8 : (rosA m).length ≤ 8 := by unfold rosA rosL; exact coll_len _ 8 0
  rw [sameints_eq _ _ (by omega), decide_eq_true rfl]
theorem ri_l1 (p : List api_Node) (hf : Few p) (hr : rightG p = true) : ∀ (m i n : Nat), i + m = p.length → m < n → caballaw16_RosterStill.l1 4000 p n (p.take i) (i : Int) = some true := by
  have hlen := hf.len
  intro m
  induction m with
  | zero =>
    intro i n hi hn
    obtain ⟨n, rfl⟩ : ∃ q, n = q + 1 := ⟨n - 1, by omega⟩
    rw [caballaw16_RosterStill.l1, if_neg (by simp; omega)]
    unfold caballaw16_RosterStill.j1
    rw [alive16]; rfl
  | succ m ih =>
    intro i n hi hn
    obtain ⟨n, rfl⟩ : ∃ q, n = q + 1 := ⟨n - 1, by omega⟩
    have hil : i < p.length := by omega
    have hnext : iadd .i64 (i : Int) 1 = ((i + 1 : Nat) : Int) := by rw [add64 (by omega)]; omega
    have hx := hf.each _ (List.getElem_mem hil)
    have ha : graph_Add_w2 4000 (p.take i) p[i].Id p[i].Op = some (p.take (i + 1), 0) := by
      rw [w2_eq, add_eq _ (hf.take i) _ _ hx.op, add_take hr i hil]
    have hrest := ih (i + 1) n (by omega) (by omega)
    rw [caballaw16_RosterStill.l1, if_pos (by simp; omega), at_get hil]
    simp only [Option.bind_some, ha, hnext, hrest, bne_self_eq_false, Bool.false_eq_true, if_false, rall_eq _ (hf.take i), rall_eq _ (hf.take (i + 1)), right_take hr, if_true]
    by_cases c : p[i].Op.Kind ≥ 4
    · have e : rosA (p.take (i + 1)) = rosA (p.take i) := by
        rw [List.take_add_one, List.getElem?_eq_getElem hil]
        exact ros_still (right_take hr i) ⟨by omega, by omega, by omega⟩
      rw [decide_eq_true c, e]
      simp only [beq_self_eq_true, if_true, Option.bind_some, same_ros]
      rfl
    · rw [decide_eq_false c]
      rfl

theorem RosterStill (x0 : (List api_Node)) (g0 : Fine (ksl k_api_Node) x0) : ∃ k, caballaw16_RosterStill k x0 = some true := by
  refine ⟨4000, ?_⟩
  unfold caballaw16_RosterStill
  rw [alive16]
  simp only [Option.bind_some, Bool.not_true, Bool.false_eq_true, if_false]
  obtain ⟨b, hb, hf⟩ := great_eq x0 (fun x hx => node_keys ((Fine.sl g0).2 x hx))
  rw [hb]
  simp only [Option.bind_some]
  cases b with
  | true => simp
  | false =>
    have hf := hf rfl
    by_cases c : x0.length ≤ 40
    · rw [decide_eq_false (show ¬ (x0.length : Int) > 40 by omega)]
      simp only [Bool.false_eq_true, if_false, beq_self_eq_true, if_true]
      rw [right_eq x0 hf]
      cases hr : rightG x0 with
      | false => simp
      | true =>
        simp only [Option.bind_some, Bool.not_true, Bool.false_eq_true, if_false]
        exact ri_l1 x0 hf hr x0.length 0 4000 (by omega) (by omega)
    · rw [decide_eq_true (show (x0.length : Int) > 40 by omega)]
      simp


end Go.Proofs.Pure
