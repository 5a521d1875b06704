/- The document's rosters: the same. No program in sight. -/
import Derived.Test.YtdlnfgpcnfbjiaaYRosP
namespace Go.Proofs.Pure
open Go Go.RowKit Go.Proofs.Kit
set_option linter.unusedVariables false

theorem kind_in {p : List api_Node} (hr : rightG p = true) (i : Nat) (hi : i < p.length) : 1 ≤ p[i].Op.Kind ∧ p[i].Op.Kind ≤ 7 := by
  have h := (right_at hr i hi).op
  unfold rightO at h
  simp only [Bool.and_eq_true, decide_eq_true_eq] at h
  exact ⟨h.1.1.1.1.1.1.1.1.1.1.1.2, h.1.1.1.1.1.1.1.1.1.1.2⟩
theorem who_out {p : List api_Node} (hr : rightG p = true) (i : Nat) (hi : i < p.length) (hk : p[i].Op.Kind = 3) : ∃ w, p[i].Op.Who = [w] := by
  have h := (right_at hr i hi).op
  unfold rightO at h
  simp only [Bool.and_eq_true] at h
  have hw : whoR p[i].Op = true := h.1.2
  unfold whoR at hw
  rw [Bool.and_eq_true] at hw
  have h2 := hw.2
  rw [if_neg (by omega), if_pos (.inr hk), Bool.and_eq_true, decide_eq_true_eq] at h2
  exact List.length_eq_one_iff.1 h2.1
theorem removal_eq (p : List api_Node) (hf : Few p) (hr : rightG p = true) (cs : List Bool) (j : Nat) (hj : j < cs.length) (hp : j < p.length) (who : Int) : cabalref16_removal 4000 p cs (j : Int) who = some (rmvB p (cF cs) (j : Int) who) := by
  unfold cabalref16_removal rmvB
  rw [at_get hp, at_get hj, opB_at j hp, cF_at j hj]
  simp only [Option.bind_some]
  cases cs[j] with
  | false => simp
  | true =>
    simp only [beq_self_eq_true, if_true, Option.bind_some, Bool.true_and]
    by_cases c : p[j].Op.Kind = 3
    · obtain ⟨w, ew⟩ := who_out hr j hp c
      rw [decide_eq_true c, show (p[j].Op.Kind == 3) = true by simpa using c]
      simp only [beq_self_eq_true, if_true, Option.bind_some, ew]
      rw [show at? [w] (0 : Int) = some w from rfl]
      simp only [Option.bind_some, Bool.true_and, List.contains_cons, List.contains_nil, Bool.or_false]
      rw [show (w == who) = (who == w) from Bool.beq_comm]
    · rw [decide_eq_false c, show (p[j].Op.Kind == 3) = false by simpa using c]
      simp
theorem dlets_l1 (p : List api_Node) (hf : Few p) (hr : rightG p = true) (cs : List Bool) (hc : cs.length ≤ p.length) (set : List Int) (hs : InS cs.length set) (hl : set.length ≤ 2000) (i : Nat) (hi : i < cs.length) (hip : i < p.length) (who : Int) : ∀ (m y n : Nat), y + m = set.length → m < n →
    cabalref16_lets.l1 4000 set cs p (i : Int) p[i] who n (y : Int) = some ((set.drop y).all (fun r => !barB p (cF cs) p[i].Op (i : Int) who r)) := by
  intro m
  induction m with
  | zero =>
    intro y n hy hn
    obtain ⟨n, rfl⟩ : ∃ q, n = q + 1 := ⟨n - 1, by omega⟩
    rw [cabalref16_lets.l1, if_neg (by simp; omega), List.drop_eq_nil_of_le (by omega)]; rfl
  | succ m ih =>
    intro y n hy hn
    obtain ⟨n, rfl⟩ : ∃ q, n = q + 1 := ⟨n - 1, by omega⟩
    have hyl : y < set.length := by omega
    have hnext : iadd .i64 (y : Int) 1 = ((y + 1 : Nat) : Int) := by rw [add64 (by omega)]; omega
    obtain ⟨r, er, hrl⟩ := hs _ (List.getElem_mem hyl)
    have hrp : r < p.length := by omega
    have pi := (hf.each _ (List.getElem_mem hip)).past
    have pr := (hf.each _ (List.getElem_mem hrp)).past
    have hI := ih (y + 1) n (by omega) (by omega)
    have e0 : rmvB p (cF cs) (r : Int) p[i].Op.Author = (cs[r] && (decide (p[r].Op.Kind = 3) && p[r].Op.Who.contains p[i].Op.Author)) := by unfold rmvB; rw [opB_at r hrp, cF_at r hrl]
    have e1 : rmvB p (cF cs) (r : Int) who = (cs[r] && (decide (p[r].Op.Kind = 3) && p[r].Op.Who.contains who)) := by unfold rmvB; rw [opB_at r hrp, cF_at r hrl]
    rw [cabalref16_lets.l1, if_pos (by simp; omega), at_get hyl, List.drop_eq_getElem_cons hyl, List.all_cons, er]
    simp only [Option.bind_some, cabalref16_lets.j2, hnext, hI, removal_eq p hf hr cs r hrl hrp, at_get hrp, at_get hip, at_get hrl]
    have eb : barB p (cF cs) p[i].Op (i : Int) who (r : Int) = (decide (p[i].Op.Kind = 2) && rmvB p (cF cs) (r : Int) p[i].Op.Author && !decide ((r : Int) = (i : Int)) && !ahdB p (r : Int) (i : Int) && !ahdB p (i : Int) (r : Int) || rmvB p (cF cs) (r : Int) who && !ahdB p (r : Int) (i : Int)) := rfl
    rw [eb, e0, e1, ahdB_at _ i hip, ahdB_at _ r hrp]
    generalize (set.drop (y + 1)).all (fun r => !barB p (cF cs) p[i].Op (i : Int) who r) = Z
    have i1 := in_eq _ (show p[i].Past.length ≤ 2000 by omega) (r : Int)
    have i2 := in_eq _ (show p[r].Past.length ≤ 2000 by omega) (i : Int)
    generalize p[i].Past.contains (r : Int) = F at i1 ⊢
    generalize p[r].Past.contains (i : Int) = G at i2 ⊢
    generalize p[r].Op.Who.contains p[i].Op.Author = B
    generalize p[r].Op.Who.contains who = C
    cases cs[r] with
    | false => simp only [Bool.not_false, if_true, Bool.false_and, Bool.and_false, Bool.or_false, Bool.true_and, Option.bind_some, Bool.true_eq_false, if_false, beq_iff_eq, Bool.not_false]
    | true =>
      simp only [Bool.not_true, beq_self_eq_true, if_true, Option.bind_some, Bool.false_eq_true, if_false, bne, bkind]
      by_cases c3 : p[r].Op.Kind = 3
      · simp only [decide_eq_true c3, Bool.not_true, Bool.false_eq_true, if_false, Bool.true_and]
        generalize decide (p[i].Op.Kind = 2) = A
        by_cases q : (r : Int) = (i : Int)
        · rw [decide_eq_true q]
          cases C with
          | false => cases A <;> cases B <;> rfl
          | true =>
            simp only [beq_self_eq_true, if_true, Option.bind_some, i1]
            cases A <;> cases B <;> cases F <;> rfl
        · rw [decide_eq_false q]
          simp only [Bool.not_false, beq_self_eq_true, if_true, Option.bind_some, i1]
          cases F with
          | true =>
            simp only [Bool.not_true, Bool.false_eq_true, if_false, Option.bind_some, beq_iff_eq]
            cases A <;> cases B <;> cases C <;> simp [i1]
          | false =>
            simp only [Bool.not_false, beq_self_eq_true, if_true, Option.bind_some, i2]
            cases G <;> cases A <;> cases B <;> cases C <;> simp [i1]
      · simp only [decide_eq_false c3, Bool.not_false, if_true, Bool.false_and, Bool.and_false, Bool.or_false, Bool.true_and]
theorem dlets_eq (p : List api_Node) (hf : Few p) (hr : rightG p = true) (cs : List Bool) (hc : cs.length ≤ p.length) (set : List Int) (hs : InS cs.length set) (hl : set.length ≤ 2000) (i : Nat) (hi : i < cs.length) (who : Int) :
    cabalref16_lets 4000 p cs set (i : Int) who = some (letsB p (cF cs) set (i : Int) who) := by
  have hip : i < p.length := by omega
  have hw := (hf.each _ (List.getElem_mem hip)).op.who
  have hk := kind_in hr i hip
  have h1 := dlets_l1 p hf hr cs hc set hs hl i hi hip who set.length 0 4000 (by omega) (by omega)
  rw [show ((0 : Nat) : Int) = 0 from rfl, List.drop_zero] at h1
  unfold cabalref16_lets letsB
  rw [at_get hip, at_get hi, opB_at i hip, cF_at i hi]
  have ek : (decide (p[i].Op.Kind = 1) || decide (p[i].Op.Kind = 2)) = !decide (p[i].Op.Kind > 2) := by
    by_cases q : p[i].Op.Kind > 2
    · rw [decide_eq_true q, decide_eq_false (by omega), decide_eq_false (by omega)]; rfl
    · rw [decide_eq_false q]
      by_cases q1 : p[i].Op.Kind = 1
      · rw [decide_eq_true q1]; rfl
      · rw [decide_eq_false q1, decide_eq_true (by omega)]; rfl
  simp only [Option.bind_some, in_eq _ (show p[i].Op.Who.length ≤ 2000 by omega), h1, ek]
  generalize set.all (fun r => !barB p (cF cs) p[i].Op (i : Int) who r) = Z
  cases cs[i] <;> cases decide (p[i].Op.Kind > 2) <;> cases p[i].Op.Who.contains who <;> simp
theorem droster_l2 (p : List api_Node) (hf : Few p) (hr : rightG p = true) (cs : List Bool) (hc : cs.length ≤ p.length) (set : List Int) (hs : InS cs.length set) (hl : set.length ≤ 2000) (w : Int) (acc : List Int) (L : Int → List Int → Option (List Int)) : ∀ (m y n : Nat) (b : Bool), y + m = set.length → m < n →
    cabalref16_Roster.l2 4000 set p cs w acc L n b (y : Int) = cabalref16_Roster.j3 4000 acc w L (b || (set.drop y).any (fun i => letsB p (cF cs) set i w)) := by
  intro m
  induction m with
  | zero =>
    intro y n b hy hn
    obtain ⟨n, rfl⟩ : ∃ q, n = q + 1 := ⟨n - 1, by omega⟩
    rw [cabalref16_Roster.l2, if_neg (by simp; omega), List.drop_eq_nil_of_le (by omega)]; simp
  | succ m ih =>
    intro y n b hy hn
    obtain ⟨n, rfl⟩ : ∃ q, n = q + 1 := ⟨n - 1, by omega⟩
    have hyl : y < set.length := by omega
    have hnext : iadd .i64 (y : Int) 1 = ((y + 1 : Nat) : Int) := by rw [add64 (by omega)]; omega
    obtain ⟨r, er, hrl⟩ := hs _ (List.getElem_mem hyl)
    rw [cabalref16_Roster.l2, if_pos (by simp; omega), at_get hyl, List.drop_eq_getElem_cons hyl, List.any_cons, er, hnext]
    cases b with
    | true =>
      have := ih (y + 1) n true (by omega) (by omega)
      rw [Bool.true_or] at this ⊢
      exact this
    | false =>
      simp only [beq_self_eq_true, if_true, Option.bind_some, dlets_eq p hf hr cs hc set hs hl r hrl, Bool.false_eq_true, if_false, Bool.false_or]
      rw [ih (y + 1) n _ (by omega) (by omega)]
theorem droster_eq (p : List api_Node) (hf : Few p) (hr : rightG p = true) (cs : List Bool) (hc : cs.length ≤ p.length) (set : List Int) (hs : InS cs.length set) (hl : set.length ≤ 2000) :
    cabalref16_Roster 4000 p cs set = some (rosL p (cF cs) set) := by
  have hL : (1000000 : Nat) ≤ lim := by unfold lim; omega
  have key : ∀ (m y n : Nat) (acc : List Int), y + m = 8 → m < n → acc.length ≤ y → cabalref16_Roster.l1 4000 set p cs n (y : Int) acc = some (acc ++ coll (fun w => inB p (cF cs) set (w : Int)) y m) := by
    intro m
    induction m with
    | zero =>
      intro y n acc hy hn ha
      obtain ⟨n, rfl⟩ : ∃ q, n = q + 1 := ⟨n - 1, by omega⟩
      rw [cabalref16_Roster.l1, if_neg (by simp; omega)]; simp [cabalref16_Roster.j1, coll]
    | succ m ih =>
      intro y n acc hy hn ha
      obtain ⟨n, rfl⟩ : ∃ q, n = q + 1 := ⟨n - 1, by omega⟩
      have hnext : iadd .i64 (y : Int) 1 = ((y + 1 : Nat) : Int) := by rw [add64 (by omega)]; omega
      have h2 := droster_l2 p hf hr cs hc set hs hl (y : Int) acc (cabalref16_Roster.l1 4000 set p cs n) set.length 0 4000 false (by omega) (by omega)
      rw [show ((0 : Nat) : Int) = 0 from rfl, List.drop_zero, Bool.false_or] at h2
      rw [cabalref16_Roster.l1, if_pos (by simp; omega), h2, cabalref16_Roster.j3]
      simp only [cabalref16_Roster.j2, hnext]
      have hin : set.any (fun i => letsB p (cF cs) set i (y : Int)) = inB p (cF cs) set (y : Int) := rfl
      rw [hin]
      unfold coll
      by_cases h : inB p (cF cs) set (y : Int) = true
      · rw [if_pos h, if_pos (by simp; omega), if_pos h, ih (y + 1) n _ (by omega) (by omega) (by simp; omega)]
        simp
      · rw [if_neg h, if_neg h]
        exact ih (y + 1) n _ (by omega) (by omega) (by omega)
  have := key 8 0 4000 [] (by omega) (by omega) (by simp)
  rw [show ((0 : Nat) : Int) = 0 from rfl] at this
  exact this
theorem dcounts_eq (p : List api_Node) (hf : Few p) (hr : rightG p = true) : cabalref16_Counts 4000 p = some (cntL p p.length) := by
  have hL : (1000000 : Nat) ≤ lim := by unfold lim; omega
  have hlen := hf.len
  have key : ∀ (m i n : Nat), i + m = p.length → m < n → cabalref16_Counts.l1 4000 p n (i : Int) (cntL p i) = some (cntL p p.length) := by
    intro m
    induction m with
    | zero =>
      intro i n hi hn
      obtain ⟨n, rfl⟩ : ∃ q, n = q + 1 := ⟨n - 1, by omega⟩
      rw [cabalref16_Counts.l1, if_neg (by simp; omega), cabalref16_Counts.j1, show i = p.length by omega]
    | succ m ih =>
      intro i n hi hn
      obtain ⟨n, rfl⟩ : ∃ q, n = q + 1 := ⟨n - 1, by omega⟩
      have hil : i < p.length := by omega
      have hx := (hf.each _ (List.getElem_mem hil)).past
      have hnext : iadd .i64 (i : Int) 1 = ((i + 1 : Nat) : Int) := by rw [add64 (by omega)]; omega
      have hcl := cnt_len p i
      have hrl : (rosL p (cF (cntL p i)) p[i].Past).length ≤ 2000 := by unfold rosL; have := coll_len (fun who => inB p (cF (cntL p i)) p[i].Past (who : Int)) 8 0; omega
      have hb := droster_eq p hf hr (cntL p i) (by omega) p[i].Past (by rw [hcl]; exact past_in hr i hil) (by omega)
      rw [cabalref16_Counts.l1, if_pos (by simp; omega), at_get hil]
      simp only [Option.bind_some, hnext, bkind]
      have e : cntL p (i + 1) = cntL p i ++ [cntB p (cF (cntL p i)) p[i]] := by rw [cntL, List.getElem?_eq_getElem hil]
      have g := ih (i + 1) n (by omega) (by omega)
      rw [e] at g
      unfold cntB at g
      by_cases c : p[i].Op.Kind = 1
      · rw [decide_eq_true c] at g ⊢
        simp only [Bool.true_or] at g
        simp only [Bool.true_eq, Bool.false_eq_true, if_false, Option.bind_some, beq_iff_eq, if_true]
        rw [if_pos (by simp; omega)]
        exact g
      · rw [decide_eq_false c] at g ⊢
        simp only [Bool.false_or] at g
        simp only [beq_self_eq_true, if_true, Option.bind_some, hb, in_eq _ hrl, Bool.false_eq_true, if_false]
        rw [if_pos (by simp; omega)]
        exact g
  have := key p.length 0 4000 (by omega) (by omega)
  rw [show ((0 : Nat) : Int) = 0 from rfl] at this
  exact this

end Go.Proofs.Pure
