/- ClockOrders over its plain functions: no program in sight. -/
import Derived.Test.YtgggcnadlnlmpaaClk
namespace Go.Proofs.Pure
open Go Go.RowKit Go.Proofs.Kit

theorem lacks_loop (k : Nat) (a b : List Int) : ∀ n y i, clock_Lacks.l1 k b a n y i = cabalref26_Lacks.l1 k b a n y i := by
  intro n
  induction n with
  | zero => intro y i; rfl
  | succ n ih =>
    intro y i
    have e : clock_Lacks.l1 k b a n = cabalref26_Lacks.l1 k b a n := by funext y i; exact ih y i
    rw [clock_Lacks.l1, cabalref26_Lacks.l1, e]
    rfl

theorem lacks_same (k : Nat) (a b : List Int) : clock_Lacks k a b = cabalref26_Lacks k a b := lacks_loop k a b k [] 0

theorem lacks_some (k : Nat) {a b : List Int} (ha : Clock a) (hb : Clock b) : ∀ m n i (y : List api_Span), i + m = 8 → m < n → y.length ≤ i → ∃ z, clock_Lacks.l1 k b a n y (i : Int) = some z ∧ z.length ≤ 8 := by
  intro m
  induction m with
  | zero =>
    intro n i y hi hn hy
    cases n with
    | zero => simp at hn
    | succ n => exact ⟨y, by rw [clock_Lacks.l1, if_neg (by simp; omega)]; rfl, by omega⟩
  | succ m ih =>
    intro n i y hi hn hy
    cases n with
    | zero => simp at hn
    | succ n =>
      have hix : (0 : Int) ≤ (i : Int) ∧ (i : Int) < 8 := by omega
      have h0 : at? a (i : Int) = some (a.getD i 0) := at?_len (by rw [ha.len]; omega) 0
      have h1 : at? b (i : Int) = some (b.getD i 0) := at?_len (by rw [hb.len]; omega) 0
      rw [clock_Lacks.l1, if_pos (by simp; omega)]
      simp only [if_pos hix, h0, h1, Option.bind_some, clock_Lacks.j2]
      rw [iadd_small (by omega) (by omega), show (i : Int) + 1 = ((i + 1 : Nat) : Int) by simp]
      split
      · rw [if_pos (by simp [lim]; omega)]
        exact ih n (i + 1) _ (by omega) (by omega) (by simp; omega)
      · exact ih n (i + 1) _ (by omega) (by omega) (by omega)

theorem lacks_eq {a b : List Int} (ha : Clock a) (hb : Clock b) : ∃ z, clock_Lacks 100 a b = some z ∧ cabalref26_Lacks 100 a b = some z ∧ z.length ≤ 8 := by
  obtain ⟨z, h, hz⟩ := lacks_some 100 ha hb 8 100 0 [] (by omega) (by omega) (by simp)
  exact ⟨z, h, (lacks_same 100 a b).symm.trans h, hz⟩

theorem orders_loop (k : Nat) (x4 : List api_Span) (p1 p2 : List Int) (p3 : List (List Int)) (p4 : Int) (hx : x4.length ≤ 8) :
    ∀ (rest pre : List api_Span) (n : Nat), x4 = pre ++ rest → rest.length < n →
      caballaw26_ClockOrders.l1 k x4 x4 p1 p2 p3 p4 n (pre.length : Int) = caballaw26_ClockOrders.j1 k p1 p2 p3 p4 := by
  intro rest
  induction rest with
  | nil =>
    intro pre n e hn
    cases n with
    | zero => simp at hn
    | succ n => subst e; rw [caballaw26_ClockOrders.l1, if_neg (by simp)]
  | cons r rest ih =>
    intro pre n e hn
    cases n with
    | zero => simp at hn
    | succ n =>
      have hl : pre.length ≤ 8 := by rw [e] at hx; simp at hx; omega
      have h := ih (pre ++ [r]) n (by rw [e]; simp) (by simp at hn; omega)
      rw [show ((pre ++ [r]).length : Int) = (pre.length : Int) + 1 by simp] at h
      have hat : at? x4 (pre.length : Int) = some r := by rw [e]; exact at?_pre _ _ _
      rw [caballaw26_ClockOrders.l1, if_pos (by rw [e]; simp; omega), hat]
      simp only [Option.bind_some, decide_true, Bool.not_true, Bool.false_eq_true, if_false]
      rw [iadd_small (by omega) (by omega)]
      exact h

def due (a b : List Int) (p : Int) : Bool :=
  if p < 0 ∨ 8 ≤ p then false else if b.getD p.toNat 0 = 0 then false else if b.getD p.toNat 0 ≠ a.getD p.toNat 0 + 1 then false else decide (le8 (b.set p.toNat (a.getD p.toNat 0)) a)

theorem due_eq {a b : List Int} (p : Int) (ha : Clock a) (hb : Clock b) : clock_Due 100 a b p = some (due a b p) := by
  unfold clock_Due due
  by_cases h0 : p < 0 ∨ 8 ≤ p
  · have e : (if decide (p < 0) = true then true else decide (p ≥ 8)) = true := by
      rcases h0 with h | h
      · simp [h]
      · simp [h]
    simp only [e, Option.bind_some, if_pos h0]
    simp
  · obtain ⟨i, rfl⟩ : ∃ i : Nat, p = i := ⟨p.toNat, by omega⟩
    have hi : i < 8 := by omega
    have hix : (0 : Int) ≤ (i : Int) ∧ (i : Int) < 8 := by omega
    have e : (if decide ((i : Int) < 0) = true then true else decide ((i : Int) ≥ 8)) = false := by simp; omega
    have ea : at? a (i : Int) = some (a.getD i 0) := at?_len (by rw [ha.len]; omega) 0
    have eb : at? b (i : Int) = some (b.getD i 0) := at?_len (by rw [hb.len]; omega) 0
    have hs : ∀ y : Int, set? b (i : Int) y = some (b.set i y) := by
      intro y; unfold set?; simp; rw [hb.len]; omega
    have ra := ha.rng (a.getD i 0) (by rw [List.getD_eq_getElem?_getD, List.getElem?_eq_getElem (by rw [ha.len]; omega)]; simp)
    have rb := hb.rng (b.getD i 0) (by rw [List.getD_eq_getElem?_getD, List.getElem?_eq_getElem (by rw [hb.len]; omega)]; simp)
    have hc : Clock (b.set i (a.getD i 0)) := ⟨by simp [hb.len], fun x hx => by
      rcases List.mem_or_eq_of_mem_set hx with h | h
      · exact hb.rng x h
      · subst h; exact ra⟩
    have hwin := within_eq 100 (by omega) hc ha
    simp only [e, Option.bind_some, if_neg h0, ea, eb, hs, hix, and_self, implies_true, if_true, Int.toNat_natCast, hwin]
    generalize decide (le8 (b.set i (a.getD i 0)) a) = q
    generalize b.getD i 0 = B at *
    generalize a.getD i 0 = A at *
    by_cases hz : B = 0
    · subst hz; simp
    · have hw : isub .u32 B 1 = B - 1 := by unfold isub; rw [IntKind.wrap_u32]; omega
      by_cases hq : B = A + 1
      · subst hq
        have h2 : A + 1 - 1 = A := by omega
        rw [h2] at hw
        simp [hz, hw]
      · have h2 : ¬ (B - 1 = A) := by omega
        simp [hz, hw, h2, hq]

theorem refdue_loop (i : Nat) {a b : List Int} (ha : Clock a) (hb : Clock b) :
    ∀ (m n j : Nat), j + m = 8 → m < n → cabalref26_Due.l1 100 (i : Int) b a n (j : Int) = some (decide (∀ l : Nat, l < 8 → j ≤ l → l ≠ i → b.getD l 0 ≤ a.getD l 0)) := by
  intro m
  induction m with
  | zero =>
    intro n j hj hn
    cases n with
    | zero => simp at hn
    | succ n =>
      rw [cabalref26_Due.l1, if_neg (by simp; omega), cabalref26_Due.j1]
      congr 1; symm; apply decide_eq_true; intro l h1 h2; omega
  | succ m ih =>
    intro n j hj hn
    cases n with
    | zero => simp at hn
    | succ n =>
      have hix : (0 : Int) ≤ (j : Int) ∧ (j : Int) < 8 := by omega
      have ea : at? a (j : Int) = some (a.getD j 0) := at?_len (by rw [ha.len]; omega) 0
      have eb : at? b (j : Int) = some (b.getD j 0) := at?_len (by rw [hb.len]; omega) 0
      rw [cabalref26_Due.l1, if_pos (by simp; omega)]
      have hih := ih n (j + 1) (by omega) (by omega)
      rw [show ((j + 1 : Nat) : Int) = (j : Int) + 1 by simp] at hih
      simp only [ea, eb, hix, and_self, implies_true, if_true, iadd_small hix.1 (show (j : Int) < 1000000 by omega), hih]
      by_cases hji : j = i
      · have e : ((j : Int) != (i : Int)) = false := by simp; omega
        simp only [e, Bool.false_eq_true, beq_iff_eq, if_false, Option.bind_some]
        congr 1; apply decide_eq_decide.2
        constructor
        · intro h l h1 h2 h3; exact h l h1 (by omega) h3
        · intro h l h1 h2 h3; exact h l h1 (by omega) h3
      · have e : ((j : Int) != (i : Int)) = true := by simp; omega
        simp only [e, beq_self_eq_true, if_true, Option.bind_some]
        by_cases hg : b.getD j 0 > a.getD j 0
        · rw [if_pos (by simpa using hg)]
          congr 1; symm; apply decide_eq_false
          intro h; have := h j (by omega) (by omega) hji; omega
        · rw [if_neg (by simpa using hg)]
          congr 1; apply decide_eq_decide.2
          constructor
          · intro h l h1 h2 h3
            by_cases hl : l = j
            · subst hl; omega
            · exact h l h1 (by omega) h3
          · intro h l h1 h2 h3; exact h l h1 (by omega) h3

theorem refdue_eq {a b : List Int} (p : Int) (ha : Clock a) (hb : Clock b) : cabalref26_Due 100 a b p = some (due a b p) := by
  unfold cabalref26_Due due
  by_cases h0 : p < 0 ∨ 8 ≤ p
  · have e : (if decide (p < 0) = true then true else decide (p > 7)) = true := by
      rcases h0 with h | h
      · simp [h]
      · simp; omega
    simp only [e, Option.bind_some, if_pos h0]
    simp
  · obtain ⟨i, rfl⟩ : ∃ i : Nat, p = i := ⟨p.toNat, by omega⟩
    have hi : i < 8 := by omega
    have hix : (0 : Int) ≤ (i : Int) ∧ (i : Int) < 8 := by omega
    have e : (if decide ((i : Int) < 0) = true then true else decide ((i : Int) > 7)) = false := by simp; omega
    have ea : at? a (i : Int) = some (a.getD i 0) := at?_len (by rw [ha.len]; omega) 0
    have eb : at? b (i : Int) = some (b.getD i 0) := at?_len (by rw [hb.len]; omega) 0
    have ra := ha.rng (a.getD i 0) (by rw [List.getD_eq_getElem?_getD, List.getElem?_eq_getElem (by rw [ha.len]; omega)]; simp)
    have rb := hb.rng (b.getD i 0) (by rw [List.getD_eq_getElem?_getD, List.getElem?_eq_getElem (by rw [hb.len]; omega)]; simp)
    simp only [e, Option.bind_some, if_neg h0, ea, eb, hix, and_self, implies_true, if_true, Int.toNat_natCast]
    have hwin : cabalref26_Due.l1 100 (i : Int) b a 100 0 = some (decide (le8 (b.set i (a.getD i 0)) a)) := by
      refine (refdue_loop i ha hb 8 100 0 (by omega) (by omega)).trans ?_
      congr 1; apply decide_eq_decide.2
      unfold le8
      constructor
      · intro h l hl
        by_cases hli : l = i
        · subst hli; simp [List.getD_eq_getElem?_getD, hb.len, hi]
        · have := h l hl (by omega) hli
          simpa [List.getD_eq_getElem?_getD, List.getElem?_set, Ne.symm hli] using this
      · intro h l hl _ hli
        have := h l hl
        simpa [List.getD_eq_getElem?_getD, List.getElem?_set, Ne.symm hli] using this
    rw [hwin]
    generalize decide (le8 (b.set i (a.getD i 0)) a) = q
    generalize b.getD i 0 = B at *
    generalize a.getD i 0 = A at *
    have hw : IntKind.wrap .u64 B = B := by rw [IntKind.wrap_u64]; omega
    have hv : iadd .u64 (IntKind.wrap .u64 A) 1 = A + 1 := by unfold iadd; rw [IntKind.wrap_u64, IntKind.wrap_u64]; omega
    by_cases hz : B = 0
    · subst hz; simp
    · by_cases hq : B = A + 1
      · subst hq
        simp [hz, hw, hv]
      · simp [hz, hw, hv, hq]

theorem ClockOrders (x0 : (List Int)) (x1 : (List Int)) (x2 : (List (List Int))) (x3 : Int) (g0 : Fine (karr 8 (kint .u32)) x0) (g1 : Fine (karr 8 (kint .u32)) x1) (g2 : Fine (ksl (karr 8 (kint .u32))) x2) (_ : Fine (kint .i64) x3) : ∃ k, caballaw26_ClockOrders k x0 x1 x2 x3 = some true := by
  have ha := Clock.of g0
  have hb := Clock.of g1
  refine ⟨100, ?_⟩
  unfold caballaw26_ClockOrders
  rw [alive_eq, Option.bind_some, if_neg (by simp)]
  by_cases hl : (x2.length : Int) > 60
  · rw [if_pos (by simpa using hl)]; rfl
  rw [if_neg (by simpa using hl)]
  obtain ⟨z, hz1, hz2, hz3⟩ := lacks_eq ha hb
  rw [hz1, hz2, Option.bind_some, Option.bind_some, if_neg (by simp)]
  refine (orders_loop 100 z x0 x1 x2 x3 hz3 z [] 100 rfl (by omega)).trans ?_
  unfold caballaw26_ClockOrders.j1
  have hr : ∀ r ∈ x2, r.length = 8 := fun r h => (g2.sl.2 r h).arr.1
  simp only [alive_eq, Option.bind_some, order_eq 100 (by omega) ha hb, reforder_eq 100 (by omega) ha hb, join_eq 100 x2 hr (by omega) (by omega), refjoin_eq 100 x2 hr (by omega) (by omega),
    due_eq x3 ha hb, refdue_eq x3 ha hb, beq_self_eq_true, if_true, decide_true]

end Go.Proofs.Pure
