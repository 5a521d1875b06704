/- ClockLattice over its plain functions: no program in sight. -/
import Derived.Test.YtgggcnadlnlmpaaClk
namespace Go.Proofs.Pure
open Go Go.RowKit Go.Proofs.Kit

theorem mx_assoc {a b c : Int} : mx (mx a b) c = mx a (mx b c) := by
  have e : ∀ x y : Int, mx x y = max x y := fun x y => by unfold mx; split <;> omega
  simp only [e]; omega

theorem Clock.sup {a b : List Int} (ha : Clock a) (hb : Clock b) : Clock (sup a b) := by
  obtain ⟨a0, a1, a2, a3, a4, a5, a6, a7, rfl⟩ := len8 ha.len
  obtain ⟨b0, b1, b2, b3, b4, b5, b6, b7, rfl⟩ := len8 hb.len
  refine ⟨rfl, fun x hx => ?_⟩
  have h1 := ha.rng
  have h2 := hb.rng
  simp [Pure.sup, mx] at hx h1 h2
  rcases hx with h | h | h | h | h | h | h | h <;> (rw [h]; split <;> omega)

theorem sup_getD {a b : List Int} (ha : Clock a) (hb : Clock b) {i : Nat} (hi : i < 8) : (sup a b).getD i 0 = mx (a.getD i 0) (b.getD i 0) := by
  unfold sup
  simp [List.getD_eq_getElem?_getD, List.getElem?_zipWith, List.getElem?_eq_getElem (show i < a.length by rw [ha.len]; exact hi), List.getElem?_eq_getElem (show i < b.length by rw [hb.len]; exact hi)]

theorem clock_ext {a b : List Int} (ha : Clock a) (hb : Clock b) (h : ∀ i < 8, a.getD i 0 = b.getD i 0) : a = b := by
  obtain ⟨a0, a1, a2, a3, a4, a5, a6, a7, rfl⟩ := len8 ha.len
  obtain ⟨b0, b1, b2, b3, b4, b5, b6, b7, rfl⟩ := len8 hb.len
  have h0 := h 0 (by omega)
  have h1 := h 1 (by omega)
  have h2 := h 2 (by omega)
  have h3 := h 3 (by omega)
  have h4 := h 4 (by omega)
  have h5 := h 5 (by omega)
  have h6 := h 6 (by omega)
  have h7 := h 7 (by omega)
  simp at h0 h1 h2 h3 h4 h5 h6 h7
  simp [*]

theorem le8_refl (a : List Int) : le8 a a := fun _ _ => Int.le_refl _
theorem le8_trans {a b c : List Int} (h : le8 a b) (k : le8 b c) : le8 a c := fun i hi => Int.le_trans (h i hi) (k i hi)
theorem le8_anti {a b : List Int} (ha : Clock a) (hb : Clock b) (h : le8 a b) (k : le8 b a) : a = b := clock_ext ha hb fun i hi => by have := h i hi; have := k i hi; omega

theorem sup_comm {a b : List Int} (ha : Clock a) (hb : Clock b) : sup a b = sup b a :=
  clock_ext (ha.sup hb) (hb.sup ha) fun i hi => by rw [sup_getD ha hb hi, sup_getD hb ha hi]; unfold mx; split <;> split <;> omega
theorem sup_assoc {a b c : List Int} (ha : Clock a) (hb : Clock b) (hc : Clock c) : sup (sup a b) c = sup a (sup b c) :=
  clock_ext ((ha.sup hb).sup hc) (ha.sup (hb.sup hc)) fun i hi => by
    rw [sup_getD (ha.sup hb) hc hi, sup_getD ha hb hi, sup_getD ha (hb.sup hc) hi, sup_getD hb hc hi]; exact mx_assoc
theorem le_sup_l {a b : List Int} (ha : Clock a) (hb : Clock b) : le8 a (sup a b) := fun i hi => by rw [sup_getD ha hb hi]; unfold mx; split <;> omega
theorem le_sup_r {a b : List Int} (ha : Clock a) (hb : Clock b) : le8 b (sup a b) := fun i hi => by rw [sup_getD ha hb hi]; unfold mx; split <;> omega
theorem sup_le {a b c : List Int} (ha : Clock a) (hb : Clock b) (h : le8 a c) (k : le8 b c) : le8 (sup a b) c := fun i hi => by
  have := h i hi; have := k i hi; rw [sup_getD ha hb hi]; unfold mx; split <;> omega

theorem most_law {a b : List Int} (ha : Clock a) (hb : Clock b) : caballaw26_most 100 a b = some (decide (le8 a b)) := by
  unfold caballaw26_most
  simp only [order_eq 100 (by omega) ha hb, Option.bind_some]
  unfold ord
  by_cases h0 : a = b
  · subst h0; simp [le8_refl]
  · by_cases h1 : le8 a b
    · simp [h0, h1]
    · by_cases h2 : le8 b a
      · simp [h0, h1, h2]
      · simp [h0, h1, h2]

theorem ClockLattice (x0 : (List Int)) (x1 : (List Int)) (x2 : (List Int)) (g0 : Fine (karr 8 (kint .u32)) x0) (g1 : Fine (karr 8 (kint .u32)) x1) (g2 : Fine (karr 8 (kint .u32)) x2) : ∃ k, caballaw26_ClockLattice k x0 x1 x2 = some true := by
  have ha := Clock.of g0
  have hb := Clock.of g1
  have hc := Clock.of g2
  refine ⟨100, ?_⟩
  unfold caballaw26_ClockLattice
  have hab := ha.sup hb
  have hbc := hb.sup hc
  have hk : 61 ≤ 100 := by omega
  simp only [alive_eq, Option.bind_some, Bool.not_true, Bool.false_eq_true, if_false, join2 100 hk ha hb, join2 100 hk hb ha, join2 100 hk hb hc, join2 100 hk hab hc, join2 100 hk ha hbc,
    most_law ha hab, most_law hb hab, most_law ha hc, most_law hb hc, most_law hab hc, most_law ha hb, most_law hb ha, most_law ha ha,
    decide_eq_true (le_sup_l ha hb), decide_eq_true (le_sup_r ha hb), decide_eq_true (le8_refl x0), sup_assoc ha hb hc, sup_comm hb ha, decide_true, beq_self_eq_true, if_true]
  have t1 : le8 x0 x2 → le8 x1 x2 → le8 (sup x0 x1) x2 := sup_le ha hb
  have t2 : le8 x0 x1 → le8 x1 x2 → le8 x0 x2 := le8_trans
  have t3 : le8 x0 x1 → le8 x1 x0 → x0 = x1 := le8_anti ha hb
  by_cases h1 : le8 x0 x2 <;> by_cases h2 : le8 x1 x2 <;> by_cases h3 : le8 x0 x1 <;> by_cases h4 : le8 x1 x0 <;> simp_all

end Go.Proofs.Pure
