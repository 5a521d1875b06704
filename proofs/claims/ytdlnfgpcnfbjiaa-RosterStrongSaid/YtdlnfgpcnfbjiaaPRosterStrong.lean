/- RosterStrong over its plain functions: no program in sight. -/
import Derived.Test.YtdlnfgpcnfbjiaaLRosP
namespace Go.Proofs.Pure
open Go Go.RowKit Go.Proofs.Kit
set_option linter.unusedVariables false

theorem alive16 : caballaw16_alive 4000 = some true := by decide +kernel
/-- who is added or removed is one -/
theorem who_one {p : List api_Node} (hr : rightG p = true) (i : Nat) (hi : i < p.length) (hk : p[i].Op.Kind = 2 ∨ p[i].Op.Kind = 3) : ∃ w, p[i].Op.Who = [w] := by
  have h := (right_at hr i hi).op
  unfold rightO at h
  simp only [Bool.and_eq_true] at h
  have hw : whoR p[i].Op = true := h.1.2
  unfold whoR at hw
  rw [Bool.and_eq_true] at hw
  have h2 := hw.2
  rw [if_neg (by omega), if_pos hk, Bool.and_eq_true, decide_eq_true_eq] at h2
  exact List.length_eq_one_iff.1 h2.1
theorem inc_of_sorted : ∀ l : List Int, l.Pairwise (· < ·) → inc ltI l = true
  | [], _ => rfl
  | [a], _ => rfl
  | a :: b :: l, h => by
    obtain ⟨h1, h2⟩ := List.pairwise_cons.1 h
    unfold inc
    rw [inc_of_sorted (b :: l) h2, Bool.and_true]
    exact decide_eq_true (h1 b (by simp))
/-- what lies behind a node is a set -/
theorem past_set {p : List api_Node} (hr : rightG p = true) (i : Nat) (hi : i < p.length) : setB p p[i].Past = true := by
  unfold setB
  rw [Bool.and_eq_true, Bool.and_eq_true]
  refine ⟨⟨?_, ?_⟩, ?_⟩
  · unfold bndB
    rw [List.all_eq_true]
    intro v hv
    obtain ⟨j, e, hj⟩ := past_lt hr i hi v hv
    rw [Bool.and_eq_true, decide_eq_true_eq, decide_eq_true_eq]
    omega
  · refine inc_of_sorted _ ?_
    rw [(right_at hr i hi).past]
    unfold pastL
    exact coll_sorted _ _ _
  · unfold pstB
    rw [List.all_eq_true]
    intro v hv
    obtain ⟨j, e, hj⟩ := past_lt hr i hi v hv
    subst e
    rw [Int.toNat_natCast, List.getElem?_eq_getElem (by omega)]
    show p[j].Past.all _ = true
    rw [List.all_eq_true]
    intro u hu
    obtain ⟨t, e, ht⟩ := past_lt hr j (by omega) u hu
    subst e
    obtain ⟨_, hm⟩ := beh_trans hr i i t j (Nat.le_refl _) ⟨by omega, hu⟩ ⟨hi, hv⟩
    simpa using hm
theorem st_l2 (p : List api_Node) (hf : Few p) (hr : rightG p = true) (i : Nat) (hi : i < p.length) (w : Int) (all : List Int) (hal : all.length ≤ 8) (h : all.contains w = true → ∃ k, ∃ hk : k < p.length, Beh p i k ∧ p[k].Op.Kind = 2 ∧ w ∈ p[k].Op.Who) (L : Int → Option Bool) :
    ∀ (m k n : Nat) (again : Bool), k + m = p.length → m < n → (all.contains w = true → again = true ∨ ∃ q, ∃ hq : q < p.length, k ≤ q ∧ Beh p i q ∧ p[q].Op.Kind = 2 ∧ w ∈ p[q].Op.Who) →
    caballaw16_RosterStrong.l2 4000 p (i : Int) w all L n again (k : Int) = L (iadd .i64 (i : Int) 1) := by
  have hlen := hf.len
  intro m
  induction m with
  | zero =>
    intro k n again hk hn hw
    obtain ⟨n, rfl⟩ : ∃ q, n = q + 1 := ⟨n - 1, by omega⟩
    rw [caballaw16_RosterStrong.l2, if_neg (by simp; omega), caballaw16_RosterStrong.j3, caballaw16_RosterStrong.j2, in_eq all (by omega)]
    cases again with
    | true => rfl
    | false =>
      cases hc : all.contains w with
      | false => simp
      | true =>
        rcases hw hc with g | ⟨q, hq, g, _⟩
        · cases g
        · omega
  | succ m ih =>
    intro k n again hk hn hw
    obtain ⟨n, rfl⟩ : ∃ q, n = q + 1 := ⟨n - 1, by omega⟩
    have hkl : k < p.length := by omega
    have hnext : iadd .i64 (k : Int) 1 = ((k + 1 : Nat) : Int) := by rw [add64 (by omega)]; omega
    rw [caballaw16_RosterStrong.l2, if_pos (by simp; omega), ahead_eq p hf hr i k hi hkl, at_get hkl]
    cases again with
    | true =>
      simp only [beq_iff_eq, Bool.true_eq_false, if_false, Option.bind_some, Bool.false_eq_true, if_true, hnext]
      simp
      exact ih (k + 1) n true (by omega) (by omega) (fun _ => .inl rfl)
    | false =>
      simp only [beq_self_eq_true, if_true, Option.bind_some, Bool.true_and, hnext, Bool.false_eq_true, if_false]
      cases hb : behB p i k with
      | false =>
        simp
        refine ih (k + 1) n false (by omega) (by omega) (fun g => ?_)
        rcases hw g with q | ⟨q, hq, g1, g2, g3, g4⟩
        · exact .inl q
        · by_cases e : q = k
          · subst e; rw [← behB_iff hq, hb] at g2; cases g2
          · exact .inr ⟨q, hq, by omega, g2, g3, g4⟩
      | true =>
        simp only [beq_self_eq_true, if_true, Option.bind_some]
        by_cases c : p[k].Op.Kind = 2
        · obtain ⟨w2, ew⟩ := who_one hr k hkl (.inl c)
          rw [show (p[k].Op.Kind == 2) = true by simpa using c]
          simp only [beq_self_eq_true, if_true, Option.bind_some, ew]
          rw [show at? [w2] (0 : Int) = some w2 from rfl]
          simp only [Option.bind_some]
          refine ih (k + 1) n _ (by omega) (by omega) (fun g => ?_)
          rcases hw g with q | ⟨q, hq, g1, g2, g3, g4⟩
          · cases q
          · by_cases e : q = k
            · subst e
              rw [ew] at g4
              left; simp at g4; simp [g4]
            · exact .inr ⟨q, hq, by omega, g2, g3, g4⟩
        · rw [show (p[k].Op.Kind == 2) = false by simpa using c]
          simp
          refine ih (k + 1) n false (by omega) (by omega) (fun g => ?_)
          rcases hw g with q | ⟨q, hq, g1, g2, g3, g4⟩
          · exact .inl q
          · by_cases e : q = k
            · subst e; exact absurd g3 c
            · exact .inr ⟨q, hq, by omega, g2, g3, g4⟩
theorem st_l1 (p : List api_Node) (hf : Few p) (hr : rightG p = true) : ∀ (m i n : Nat), i + m = p.length → m < n → caballaw16_RosterStrong.l1 4000 p (rosA p) n (i : Int) = some true := by
  have hlen := hf.len
  intro m
  induction m with
  | zero =>
    intro i n hi hn
    obtain ⟨n, rfl⟩ : ∃ q, n = q + 1 := ⟨n - 1, by omega⟩
    rw [caballaw16_RosterStrong.l1, if_neg (by simp; omega)]
    unfold caballaw16_RosterStrong.j1
    rw [alive16]; rfl
  | succ m ih =>
    intro i n hi hn
    obtain ⟨n, rfl⟩ : ∃ q, n = q + 1 := ⟨n - 1, by omega⟩
    have hil : i < p.length := by omega
    have hx := (hf.each _ (List.getElem_mem hil)).past
    have hnext : iadd .i64 (i : Int) 1 = ((i + 1 : Nat) : Int) := by rw [add64 (by omega)]; omega
    have hrest := ih (i + 1) n (by omega) (by omega)
    rw [caballaw16_RosterStrong.l1, if_pos (by simp; omega), at_get hil]
    simp only [Option.bind_some, caballaw16_RosterStrong.j2, hnext, hrest]
    by_cases c : p[i].Op.Kind = 3
    · rw [if_neg (by simp [c]), of_eq p hf p[i].Past (by omega), hr, past_set hr i hil]
      obtain ⟨w, ew⟩ := who_one hr i hil (.inr c)
      simp only [Bool.and_self, if_true, Option.bind_some, bne_self_eq_false, Bool.false_eq_true, if_false, ew]
      rw [show at? [w] (0 : Int) = some w from rfl]
      have hrl : (rosL p (cB p) p[i].Past).length ≤ 2000 := by
        have h8 : (rosL p (cB p) p[i].Past).length ≤ 8 := by unfold rosL; exact coll_len _ 8 0
        omega
      simp only [Option.bind_some, in_eq _ hrl]
      cases hc : (rosL p (cB p) p[i].Past).contains p[i].Op.Author with
      | false => rfl
      | true =>
        simp only [Bool.not_true, Bool.false_eq_true, if_false]
        have hcb : cB p (i : Int) = true := by
          rw [cB_eq hr i hil]
          unfold cntB
          rw [hc, Bool.or_true]
        have h8 : (rosA p).length ≤ 8 := by unfold rosA rosL; exact coll_len _ 8 0
        have hex : (rosA p).contains w = true → ∃ k, ∃ hk : k < p.length, Beh p i k ∧ p[k].Op.Kind = 2 ∧ w ∈ p[k].Op.Who := fun g => by
          apply Classical.byContradiction
          intro hn
          exact ros_strong hr i hil w c (by rw [ew]; simp) hcb (fun k hk hb h2 hw => hn ⟨k, hk, hb, h2, hw⟩) (by simpa using g)
        have := st_l2 p hf hr i hil w (rosA p) h8 hex (caballaw16_RosterStrong.l1 4000 p (rosA p) n) p.length 0 4000 false (by omega) (by omega) (fun g => by
          obtain ⟨k, hk, h1⟩ := hex g
          exact .inr ⟨k, hk, by omega, h1⟩)
        rw [show ((0 : Nat) : Int) = 0 from rfl, hnext, hrest] at this
        exact this
    · rw [if_pos (by simpa using c)]

theorem RosterStrong (x0 : (List api_Node)) (g0 : Fine (ksl k_api_Node) x0) : ∃ k, caballaw16_RosterStrong k x0 = some true := by
  refine ⟨4000, ?_⟩
  unfold caballaw16_RosterStrong
  rw [alive16]
  simp only [Option.bind_some, Bool.not_true, Bool.false_eq_true, if_false]
  obtain ⟨b, hb, hf⟩ := great_eq x0 (fun x hx => node_keys ((Fine.sl g0).2 x hx))
  rw [hb]
  simp only [Option.bind_some]
  cases b with
  | true => simp
  | false =>
    have hf := hf rfl
    simp only [Bool.false_eq_true, if_false, beq_self_eq_true, if_true]
    rw [right_eq x0 hf]
    cases hr : rightG x0 with
    | false => simp
    | true =>
      simp only [Option.bind_some, Bool.not_true, Bool.false_eq_true, if_false]
      rw [rall_eq x0 hf, hr]
      simp only [if_true, Option.bind_some]
      have hlen := hf.len
      have := st_l1 x0 hf hr x0.length 0 4000 (by omega) (by omega)
      rw [show ((0 : Nat) : Int) = 0 from rfl] at this
      exact this


end Go.Proofs.Pure
