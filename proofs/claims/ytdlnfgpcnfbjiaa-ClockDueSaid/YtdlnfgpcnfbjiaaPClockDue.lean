/- ClockDue over its plain functions: no program in sight. -/
import Derived.Test.YtdlnfgpcnfbjiaaADue
namespace Go.Proofs.Pure
open Go Go.RowKit Go.Proofs.Kit
set_option linter.unusedVariables false

theorem cd_l2 (p : List api_Node) (hf : Few p) (i t : Nat) (hi : i < p.length) (ht : t ≤ p.length) (x8 x10 x9 : List Int × Int) : ∀ (m j n : Nat) (b : Bool), j + m = p[i].Past.length → m < n →
    caballaw26_ClockDue.l2 4000 p (i : Int) (t : Int) x8 x10 x9 n b (j : Int) = caballaw26_ClockDue.j1 4000 x8 x10 x9 p (i : Int) (t : Int) (b && (p[i].Past.drop j).all (fun v => decide (v < (t : Int)))) := by
  have hlen := hf.len
  have hp := (hf.each _ (List.getElem_mem hi)).past
  intro m
  induction m with
  | zero =>
    intro j n b hj hm
    obtain ⟨n, rfl⟩ : ∃ q, n = q + 1 := ⟨n - 1, by omega⟩
    rw [caballaw26_ClockDue.l2, at_get hi]
    simp only [Option.bind_some]
    rw [if_neg (by simp; omega), List.drop_eq_nil_of_le (by omega), List.all_nil, Bool.and_true]
  | succ m ih =>
    intro j n b hj hm
    obtain ⟨n, rfl⟩ : ∃ q, n = q + 1 := ⟨n - 1, by omega⟩
    have hjl : j < p[i].Past.length := by omega
    have hnext : iadd .i64 (j : Int) 1 = ((j + 1 : Nat) : Int) := by rw [add64 (by omega)]; omega
    rw [caballaw26_ClockDue.l2, at_get hi]
    simp only [Option.bind_some]
    rw [if_pos (by simp; omega), List.drop_eq_getElem_cons hjl, List.all_cons, hnext, wi64 (by omega)]
    cases b with
    | false =>
      simp only [(by decide : (false == true) = false), Bool.false_eq_true, if_false, Option.bind_some, Bool.false_and]
      rw [ih (j + 1) n false (by omega) (by omega), Bool.false_and]
    | true =>
      simp only [beq_self_eq_true, if_true, Option.bind_some, at_get hjl, Bool.true_and]
      rw [ih (j + 1) n _ (by omega) (by omega)]
theorem cd_l1 (p : List api_Node) (x11 : List api_Span) (hx : x11.length ≤ 8) (hs : ∀ s ∈ x11, 0 ≤ s.To - s.From ∧ s.To - s.From < 4294967296) (x8 x9 x10 : List Int × Int) (i t : Int) (y : Bool) : ∀ (m j n : Nat) (a : Int), j + m = x11.length → m < n → 0 ≤ a ∧ a ≤ 4294967296 * j →
    caballaw26_ClockDue.l1 4000 x11 x8 x9 x10 p i y t n a (j : Int) = caballaw26_ClockDue.j2 4000 x8 x9 x10 p i y t (a + sumS (x11.drop j)) := by
  intro m
  induction m with
  | zero =>
    intro j n a hj hm ha
    obtain ⟨n, rfl⟩ : ∃ q, n = q + 1 := ⟨n - 1, by omega⟩
    rw [caballaw26_ClockDue.l1, if_neg (by simp; omega), List.drop_eq_nil_of_le (by omega)]
    unfold sumS; rw [Int.add_zero]
  | succ m ih =>
    intro j n a hj hm ha
    obtain ⟨n, rfl⟩ : ∃ q, n = q + 1 := ⟨n - 1, by omega⟩
    have hjl : j < x11.length := by omega
    have hnext : iadd .i64 (j : Int) 1 = ((j + 1 : Nat) : Int) := by rw [add64 (by omega)]; omega
    have hsj := hs _ (List.getElem_mem hjl)
    have hsub : isub .u32 x11[j].To x11[j].From = x11[j].To - x11[j].From := wu32s (by omega)
    rw [caballaw26_ClockDue.l1, if_pos (by simp; omega), if_pos (by omega), at_get hjl]
    simp only [Option.bind_some]
    have hj8 : (j : Int) ≤ 8 := by omega
    have ha2 : a ≤ 34359738368 := by omega
    rw [if_pos (by omega), hsub, wi64 (by omega), add64 (x := a) (y := x11[j].To - x11[j].From) (by omega), add64 (by omega), hnext, ih (j + 1) n _ (by omega) (by omega) (by omega), List.drop_eq_getElem_cons hjl]
    congr 1
    have : sumS (x11[j] :: x11.drop (j + 1)) = (x11[j].To - x11[j].From + 1) + sumS (x11.drop (j + 1)) := rfl
    rw [this]; omega

theorem ClockDue (x0 : (List api_Node)) (x1 : Int) (x2 : Int) (g0 : Fine (ksl k_api_Node) x0) (g1 : Fine (kint .i64) x1) (g2 : Fine (kint .i64) x2) : ∃ k, caballaw26_ClockDue k x0 x1 x2 = some true := by
  refine ⟨4000, ?_⟩
  unfold caballaw26_ClockDue
  rw [alive26]
  simp only [Option.bind_some, Bool.not_true, Bool.false_eq_true, if_false]
  obtain ⟨b, hb, hf⟩ := great_eq x0 (fun x hx => node_keys ((Fine.sl g0).2 x hx))
  rw [hb]
  simp only [Option.bind_some]
  cases b with
  | true => simp
  | false =>
    have hf := hf rfl
    have hlen := hf.len
    simp only [beq_self_eq_true, if_true, Bool.false_eq_true, if_false]
    rw [right_eq x0 hf]
    cases hr : rightG x0 with
    | false => simp
    | true =>
      simp only [Option.bind_some, Bool.not_true, Bool.false_eq_true, if_false]
      by_cases c : 0 ≤ x2 ∧ x2 < x0.length
      · obtain ⟨i, rfl⟩ : ∃ i : Nat, x2 = i := ⟨x2.toNat, by omega⟩
        have hi : i < x0.length := by omega
        have eu : IntKind.wrap .u64 (iadd .i64 (x0.length : Int) 1) = ((x0.length + 1 : Nat) : Int) := by rw [add64 (by omega), wu64s (by omega)]; omega
        rw [decide_eq_false (show ¬ (i : Int) < 0 by omega), decide_eq_false (show ¬ (i : Int) ≥ (x0.length : Int) by omega), eu]
        simp only [Bool.false_eq_true, if_false]
        rw [if_pos (by omega), wu64, rem_pos (Int.emod_nonneg _ (by decide))]
        have m1 := Int.emod_nonneg (x1 % 18446744073709551616) (b := ((x0.length + 1 : Nat) : Int)) (by omega)
        have m2 := Int.emod_lt_of_pos (x1 % 18446744073709551616) (b := ((x0.length + 1 : Nat) : Int)) (by omega)
        obtain ⟨t, ht⟩ : ∃ t : Nat, x1 % 18446744073709551616 % ((x0.length + 1 : Nat) : Int) = (t : Int) := ⟨(x1 % 18446744073709551616 % ((x0.length + 1 : Nat) : Int)).toNat, by omega⟩
        have htl : t ≤ x0.length := by omega
        rw [ht]
        simp only [Option.bind_some, wi64 (show -9223372036854775808 ≤ (t : Int) ∧ (t : Int) < 9223372036854775808 by omega), cut_pre htl, all_take x0 hf hr t htl, of_eq x0 hf hr i hi]
        have eall : clock_All 4000 x0 = some (pre x0 x0.length, 0) := by
          have := all_take x0 hf hr x0.length (Nat.le_refl _)
          rw [List.take_length] at this; exact this
        rw [eall]
        simp only [Option.bind_some]
        have e2 := cd_l2 x0 hf i t hi htl (pre x0 t, 0) (pre x0 x0.length, 0) (cntL x0 Z8 (hist x0 i), 0) x0[i].Past.length 0 4000 (decide ((i : Int) ≥ (t : Int))) (by omega) (by have := (hf.each _ (List.getElem_mem hi)).past; omega)
        rw [show ((0 : Nat) : Int) = 0 from rfl, List.drop_zero] at e2
        rw [e2]
        unfold caballaw26_ClockDue.j1
        have hsm : ∀ j, j < 8 → (pre x0 t).getD j 0 < 4294967295 := fun j hj => by
          have := (cntL_small (right_auth hr) (coll (fun j => decide (j < t)) 0 x0.length) 0 Z8 small0).rng j hj
          have h3 := coll_len (fun j => decide (j < t)) x0.length 0
          unfold pre; omega
        have e3 := lacks_l1 (pre_clock hr hf t) (pre_clock hr hf x0.length) hsm 8 0 4000 [] (by omega) (by omega) (by simp)
        rw [show ((0 : Nat) : Int) = 0 from rfl, List.nil_append] at e3
        have e4 : clock_Lacks 4000 (pre x0 t) (pre x0 x0.length) = some (lackL (pre x0 t) (pre x0 x0.length) 0 8) := e3
        simp only [e4, Option.bind_some]
        have hle : ∀ j, 0 ≤ j → j < 0 + 8 → (pre x0 t).getD j 0 ≤ (pre x0 x0.length).getD j 0 := fun j _ hj => by
          rw [pre_get hr t j (by omega), pre_get hr x0.length j (by omega)]
          have := num_le (fun v => decide (v < t) && auth x0 (v : Int) == (j : Int)) (fun v => decide (v < x0.length) && auth x0 (v : Int) == (j : Int)) x0.length 0 (fun v _ hv g => by
            simp only [Bool.and_eq_true, decide_eq_true_eq] at g ⊢
            exact ⟨by omega, g.2⟩)
          omega
        have hspan : ∀ s ∈ lackL (pre x0 t) (pre x0 x0.length) 0 8, 0 ≤ s.To - s.From ∧ s.To - s.From < 4294967296 := by
          have key : ∀ (m j : Nat), j + m = 8 → ∀ s ∈ lackL (pre x0 t) (pre x0 x0.length) j m, 0 ≤ s.To - s.From ∧ s.To - s.From < 4294967296 := by
            intro m
            induction m with
            | zero => intro j _ s hs; cases hs
            | succ m ih =>
              intro j hj s hs
              unfold lackL at hs
              have r1 : 0 ≤ (pre x0 t).getD j 0 := by rw [pre_get hr t j (by omega)]; omega
              have r2 : (pre x0 x0.length).getD j 0 < 4294967296 := ((pre_clock hr hf x0.length).rng _ (by rw [List.getD_eq_getElem?_getD, List.getElem?_eq_getElem (by rw [(pre_clock hr hf x0.length).len]; omega)]; simp)).2
              by_cases c : (pre x0 t).getD j 0 < (pre x0 x0.length).getD j 0
              · rw [if_pos c] at hs
                rcases List.mem_cons.1 hs with e | e
                · subst e
                  show 0 ≤ (pre x0 x0.length).getD j 0 - ((pre x0 t).getD j 0 + 1) ∧ (pre x0 x0.length).getD j 0 - ((pre x0 t).getD j 0 + 1) < 4294967296
                  omega
                · exact ih (j + 1) (by omega) s e
              · rw [if_neg c] at hs
                exact ih (j + 1) (by omega) s hs
          exact key 8 0 (by omega)
        have hl8 := lackL_len (pre x0 t) (pre x0 x0.length) 8 0
        have e5 := cd_l1 x0 (lackL (pre x0 t) (pre x0 x0.length) 0 8) hl8 hspan (pre x0 t, 0) (cntL x0 Z8 (hist x0 i), 0) (pre x0 x0.length, 0) (i : Int) (t : Int) (decide ((i : Int) ≥ (t : Int)) && x0[i].Past.all (fun v => decide (v < (t : Int)))) (lackL (pre x0 t) (pre x0 x0.length) 0 8).length 0 4000 0 (by omega) (by omega) (by omega)
        rw [show ((0 : Nat) : Int) = 0 from rfl, List.drop_zero, Int.zero_add, sumS_lack 8 0 hle, gap_sum, sum8_pre hr t htl, sum8_pre hr x0.length (Nat.le_refl _)] at e5
        rw [e5]
        unfold caballaw26_ClockDue.j2
        rw [alive26]
        simp only [Option.bind_some, beq_self_eq_true, if_true, at_get hi]
        have hdue : clock_Due 4000 (pre x0 t) (cntL x0 Z8 (hist x0 i)) x0[i].Op.Author = some (due (pre x0 t) (clk x0 i) (auth x0 (i : Int))) := by
          rw [auth_at i hi]
          exact due_eq _ (pre_clock hr hf t) (clk_clock hr hf i hi)
        have hy : due (pre x0 t) (clk x0 i) (auth x0 (i : Int)) = (decide ((i : Int) ≥ (t : Int)) && x0[i].Past.all (fun v => decide (v < (t : Int)))) := by
          rw [Bool.eq_iff_iff, due_iff hf hr t i htl hi, Bool.and_eq_true, decide_eq_true_eq, List.all_eq_true]
          constructor
          · rintro ⟨h1, h2⟩
            refine ⟨by omega, fun v hv => decide_eq_true ?_⟩
            obtain ⟨u, e, _⟩ := past_lt hr i hi v hv
            subst e
            have := h2 u ⟨hi, hv⟩
            omega
          · rintro ⟨h1, h2⟩
            refine ⟨by omega, fun u hu => ?_⟩
            obtain ⟨_, hm⟩ := hu
            have := of_decide_eq_true (h2 _ hm)
            omega
        have etw : IntKind.wrap .i64 (t : Int) = (t : Int) := wi64 (by omega)
        rw [hdue, hy, etw, sub64 (by omega)]
        simp
      · rw [if_pos]
        by_cases c1 : 0 ≤ x2
        · rw [decide_eq_true (show x2 ≥ (x0.length : Int) by omega)]; simp only [ite_self]
        · rw [decide_eq_true (show x2 < 0 by omega)]; simp only [if_true]

end Go.Proofs.Pure
