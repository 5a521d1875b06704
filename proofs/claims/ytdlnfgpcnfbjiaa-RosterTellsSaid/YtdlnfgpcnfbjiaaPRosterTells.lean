/- RosterTells over its plain functions: no program in sight. -/
import Derived.Test.YtdlnfgpcnfbjiaaKRosD
namespace Go.Proofs.Pure
open Go Go.RowKit Go.Proofs.Kit
set_option linter.unusedVariables false

theorem alive16 : caballaw16_alive 4000 = some true := by decide +kernel
theorem ros_len (p : List api_Node) (c : Int → Bool) (set : List Int) : (rosL p c set).length ≤ 8 := by unfold rosL; exact coll_len _ 8 0
theorem same_ros (p : List api_Node) (c : Int → Bool) (set : List Int) : cabalref15_SameInts 4000 (rosL p c set) (rosL p c set) = some true := by
  have h8 := ros_len p c set
  rw [sameints_eq _ _ (by omega), decide_eq_true rfl]
theorem rt_set (p : List api_Node) (hf : Few p) (hr : rightG p = true) (set : List Int) (hs : setB p set = true) (hl : set.length ≤ 2000) : cabalref16_Roster 4000 p (cntL p p.length) set = some (rosL p (cB p) set) :=
  droster_eq p hf hr (cntL p p.length) (by rw [cnt_len]; omega) set (by rw [cnt_len]; exact set_in hs) hl
theorem RosterTells (x0 : (List api_Node)) (x1 : (List Int)) (g0 : Fine (ksl k_api_Node) x0) (g1 : Fine (ksl (kint .i64)) x1) : ∃ k, caballaw16_RosterTells k x0 x1 = some true := by
  refine ⟨4000, ?_⟩
  unfold caballaw16_RosterTells
  rw [alive16]
  simp only [Option.bind_some, Bool.not_true, Bool.false_eq_true, if_false]
  obtain ⟨b, hb, hf⟩ := great_eq x0 (fun x hx => node_keys ((Fine.sl g0).2 x hx))
  rw [hb]
  simp only [Option.bind_some]
  cases b with
  | true => simp
  | false =>
    have hf := hf rfl
    by_cases c : x1.length ≤ 120
    · have hl : x1.length ≤ 2000 := by omega
      rw [decide_eq_false (show ¬ (x1.length : Int) > 120 by omega)]
      simp only [Bool.false_eq_true, if_false]
      rw [of_eq x0 hf x1 hl, rall_eq x0 hf, rright_eq x0 hf]
      cases hr : rightG x0 with
      | false => simp
      | true =>
        simp only [Option.bind_some, Bool.not_true, Bool.false_eq_true, if_false, if_true, beq_self_eq_true, Bool.true_and]
        have hs := same_ros x0 (cB x0) (allS x0)
        rw [show rosL x0 (cB x0) (allS x0) = rosA x0 from rfl] at hs
        rw [dall_eq x0 hf hr]
        simp only [Option.bind_some, hs, Bool.not_true, Bool.false_eq_true, if_false, dset_eq x0 hf x1 hl]
        cases h : setB x0 x1 with
        | false => rfl
        | true =>
          simp only [if_true, Bool.not_true, Bool.false_eq_true, if_false, beq_self_eq_true, dcounts_eq x0 hf hr, Option.bind_some, rt_set x0 hf hr x1 h hl, same_ros]
    · rw [decide_eq_true (show (x1.length : Int) > 120 by omega)]
      simp


end Go.Proofs.Pure
