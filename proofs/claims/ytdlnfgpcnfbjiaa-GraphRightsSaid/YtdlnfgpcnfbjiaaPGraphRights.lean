/- GraphRights over its plain functions: no program in sight. -/
import Derived.Test.YtdlnfgpcnfbjiaaIRHeads
import Derived.Test.YtdlnfgpcnfbjiaaISame
namespace Go.Proofs.Pure
open Go Go.RowKit Go.Proofs.Kit
set_option linter.unusedVariables false

theorem alive15 : caballaw15_alive 4000 = some true := by decide +kernel

theorem GraphRights (x0 : (List api_Node)) (x1 : (List api_Node)) (x2 : (List Int)) (x3 : Int) (x4 : Int) (g0 : Fine (ksl k_api_Node) x0) (g1 : Fine (ksl k_api_Node) x1) (g2 : Fine (karr 32 (kint .u8)) x2) (g3 : Fine (kint .i64) x3) (g4 : Fine (kint .i64) x4) : ∃ k, caballaw15_GraphRights k x0 x1 x2 x3 x4 = some true := by
  refine ⟨4000, ?_⟩
  unfold caballaw15_GraphRights
  rw [alive15]
  simp only [Option.bind_some, Bool.not_true, Bool.false_eq_true, if_false]
  obtain ⟨b, hb, hf⟩ := great_eq x0 (fun x hx => node_keys ((Fine.sl g0).2 x hx))
  obtain ⟨c, hc, _⟩ := great_eq x1 (fun x hx => node_keys ((Fine.sl g1).2 x hx))
  rw [hb]
  simp only [Option.bind_some]
  cases b with
  | true => simp
  | false =>
    have hf := hf rfl
    have hlen := hf.len
    have hid : Ids32 x0 := fun x hx => node_id ((Fine.sl g0).2 x hx)
    simp only [beq_self_eq_true, if_true, hc, Option.bind_some, Bool.false_eq_true, if_false]
    cases c with
    | true => simp
    | false =>
      have e1 := gsame_eq x0 x0 hf
      rw [decide_eq_true rfl] at e1
      have hhl : (headsL x0).length < 2000 := by
        unfold headsL
        rw [putAll_len]
        have := hl_len (isH x0) x0 0
        unfold headsU
        simp; omega
      simp only [Bool.false_eq_true, if_false, rright_eq x0 hf, right_eq x0 hf, Option.bind_some, beq_self_eq_true, if_true, decide_true, Bool.not_true, find_eq x0 (show x0.length ≤ 200 by omega), rfind_eq x0 (show x0.length ≤ 200 by omega), bne_self_eq_false, gsame_eq x0 x1 hf, rsame_eq x0 x1 hf, e1, ahG_eq x0 hf, apG_eq x0 hf, heads_eq x0 hf hid, rheads_eq x0 hf hid]
      by_cases q : rightG x0 = true ∧ 0 ≤ x3 ∧ 0 ≤ x4 ∧ x3 < x0.length ∧ x4 < x0.length
      · obtain ⟨hr, q1, q2, q3, q4⟩ := q
        obtain ⟨i, rfl⟩ : ∃ m : Nat, x3 = m := ⟨x3.toNat, by omega⟩
        obtain ⟨j, rfl⟩ : ∃ m : Nat, x4 = m := ⟨x4.toNat, by omega⟩
        have hi : i < x0.length := by omega
        have hj : j < x0.length := by omega
        have hpi := (hf.each _ (List.getElem_mem hi)).past
        have hpj := (hf.each _ (List.getElem_mem hj)).past
        have hg : inG x0 (i : Int) (j : Int) = true := inG_iff.2 ⟨⟨q1, q2, q3, q4⟩, hr⟩
        have a1 : x0[j].Past.contains (i : Int) = behB x0 i j := by unfold behB; rw [List.getElem?_eq_getElem hj]
        have a2 : x0[i].Past.contains (j : Int) = behB x0 j i := by unfold behB; rw [List.getElem?_eq_getElem hi]
        have b1 : ahG x0 (i : Int) (j : Int) = behB x0 i j := by unfold ahG; rw [hg]; simp
        have en : ((i : Int) != (j : Int)) = !decide ((i : Int) = (j : Int)) := by by_cases z : (i : Int) = (j : Int) <;> simp [z]
        have b2 : apG x0 (i : Int) (j : Int) = (!decide ((i : Int) = (j : Int)) && !behB x0 i j && !behB x0 j i) := by unfold apG; rw [hg]; simp
        rw [hr, decide_eq_false (show ¬ (i : Int) < 0 by omega), decide_eq_false (show ¬ (j : Int) < 0 by omega), decide_eq_false (show ¬ (i : Int) ≥ (x0.length : Int) by omega), decide_eq_false (show ¬ (j : Int) ≥ (x0.length : Int) by omega)]
        simp only [Bool.not_true, Bool.false_eq_true, if_false, at_get hi, at_get hj, Option.bind_some, in_eq _ (show x0[j].Past.length ≤ 2000 by omega), in_eq _ (show x0[i].Past.length ≤ 2000 by omega), a1, a2, b1, b2, decide_true, beq_self_eq_true, if_true, en]
        have hsk := samekeys_refl (headsL x0) hhl
        cases behB x0 i j <;> cases behB x0 j i <;> cases decide ((i : Int) = (j : Int)) <;> simp [hsk]
      · have hq : inG x0 x3 x4 = false := by
          rw [Bool.eq_false_iff]; intro g
          obtain ⟨⟨u1, u2, u3, u4⟩, hr⟩ := inG_iff.1 g
          exact q ⟨hr, u1, u2, u3, u4⟩
        have b1 : ahG x0 x3 x4 = false := by unfold ahG; rw [hq]; rfl
        have b2 : apG x0 x3 x4 = false := by unfold apG; rw [hq]; rfl
        have ec : (if (if (if (if (!rightG x0) = true then true else decide (x3 < 0)) = true then true else decide (x4 < 0)) = true then true else decide (x3 ≥ (x0.length : Int))) = true then true else decide (x4 ≥ (x0.length : Int))) = true := by
          by_cases hr : rightG x0 = true
          · rw [hr]
            by_cases u1 : 0 ≤ x3
            · by_cases u2 : 0 ≤ x4
              · by_cases u3 : x3 < x0.length
                · have u4 : ¬ x4 < x0.length := fun u4 => q ⟨hr, u1, u2, u3, u4⟩
                  rw [decide_eq_true (show x4 ≥ (x0.length : Int) by omega)]; simp only [ite_self]
                · rw [decide_eq_true (show x3 ≥ (x0.length : Int) by omega)]; simp only [ite_self, if_true]
              · rw [decide_eq_true (show x4 < 0 by omega)]; simp only [ite_self, if_true]
            · rw [decide_eq_true (show x3 < 0 by omega)]; simp only [ite_self, if_true]
          · have : rightG x0 = false := by simpa using hr
            rw [this]; simp only [Bool.not_false, if_true]
        rw [ec, b1, b2]
        cases rightG x0 <;> simp


end Go.Proofs.Pure
