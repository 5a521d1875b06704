/- CodeTurned over its plain functions: no program in sight. -/
import Derived.Test.YtankoeffbdnffaaTAli
import Derived.Test.YtankoeffbdnffaaTTur
namespace Go.Proofs.Pure
open Go Go.RowKit Go.Proofs.Kit
set_option linter.unusedVariables false
set_option linter.unusedSimpArgs false

theorem q16 {x : Int} (hx : 0 ≤ x ∧ x < 256) : iquo .u8 x 16 = x / 16 := byte_cases (p := fun x => iquo .u8 x 16 = x / 16) (by decide +kernel) hx
theorem turned_j1 {D : List Int} (hD : D.length = 80) (hd : Dgt D) (hc : ckOk D = false) : caballaw27_CodeTurned.j1 4000 (tx D) = some true := by
  unfold caballaw27_CodeTurned.j1
  rw [Read_eq (tx D) (by rw [tx_len]; omega) (tx_byt hd), read_tx D hD hd, if_neg (by rw [hc]; exact Bool.false_ne_true), alive27, Option.bind_some, Option.bind_some, Option.bind_some]
  rfl
theorem set_at {l : List Int} {i : Nat} (h : i < l.length) (y : Int) : set? l (i : Int) y = some (l.set i y) := by
  unfold set?; rw [if_pos (by constructor <;> omega), Int.toNat_natCast]
theorem CodeTurned (x0 : (List Int)) (x1 : Int) (x2 : Int) (x3 : Bool) (g0 : Fine (karr 32 (kint .u8)) x0) (g1 : Fine (kint .u8) x1) (g2 : Fine (kint .u8) x2) (g3 : Fine kbool x3) : ∃ k, caballaw27_CodeTurned k x0 x1 x2 x3 = some true := by
  refine ⟨4000, ?_⟩
  have h0 := Fine.arr g0
  have hb0 : Byt x0 := fun x hx => by have := Fine.int (h0.2 x hx); exact ⟨this.1, Int.lt_of_le_of_lt this.2 (by decide)⟩
  have p1 : 0 ≤ x1 ∧ x1 < 256 := by have := Fine.int g1; exact ⟨this.1, Int.lt_of_le_of_lt this.2 (by decide)⟩
  have p2 : 0 ≤ x2 ∧ x2 < 256 := by have := Fine.int g2; exact ⟨this.1, Int.lt_of_le_of_lt this.2 (by decide)⟩
  obtain ⟨a, ha⟩ : ∃ a : Nat, x1 % 16 = (a : Int) := ⟨(x1 % 16).toNat, by omega⟩
  obtain ⟨b, hb⟩ : ∃ b : Nat, x1 / 16 % 5 = (b : Int) := ⟨(x1 / 16 % 5).toNat, by omega⟩
  have hD := cod_len x0
  have hd := cod_dgt x0
  have hk := cod_ck x0
  generalize hC : cod x0 = D at hD hd hk
  have hl := tx_len D
  have hj : a * 6 + b < 95 := by omega
  have h5 : (a * 6 + b) % 6 ≠ 5 := by omega
  have hi : a * 6 + b - (a * 6 + b) / 6 < D.length := by omega
  have tj : (tx D)[a * 6 + b]'(by omega) = 48 + D[a * 6 + b - (a * 6 + b) / 6] := by
    have := tx_getD D _ hj
    rw [getD_at (by omega)] at this
    rw [this]; unfold txt; rw [if_neg h5, getD_at hi]
  have hdi := hd _ (List.getElem_mem hi)
  unfold caballaw27_CodeTurned
  rw [alive27, Option.bind_some, if_neg (by simp), Write_eq x0 h0.1 hb0, hC, Option.bind_some, if_neg (by rw [hl]; decide), rem_pos p1.1, q16 p1, rem_pos (by omega), ha, hb, wi64 (by omega), wi64 (by omega), mul64 (by omega), add64 (by omega), show ((a : Int) * 6 + (b : Int)) = ((a * 6 + b : Nat) : Int) by omega, Option.bind_some]
  cases x3 with
  | false =>
    rw [if_neg Bool.false_ne_true, if_pos (by omega), at_get (by omega), Option.bind_some, tj, rem_pos p2.1]
    have e1 : iadd .u8 (iadd .u8 (isub .u8 (48 + D[a * 6 + b - (a * 6 + b) / 6]) 48) 1) (x2 % 9) = D[a * 6 + b - (a * 6 + b) / 6] + 1 + x2 % 9 := by
      rw [show isub .u8 (48 + D[a * 6 + b - (a * 6 + b) / 6]) 48 = D[a * 6 + b - (a * 6 + b) / 6] by
        show IntKind.wrap .u8 _ = _
        rw [wu8s (by omega)]; omega]
      rw [show iadd .u8 D[a * 6 + b - (a * 6 + b) / 6] 1 = D[a * 6 + b - (a * 6 + b) / 6] + 1 from wu8s (by omega)]
      exact wu8s (by omega)
    have e2 : iadd .u8 48 ((D[a * 6 + b - (a * 6 + b) / 6] + 1 + x2 % 9) % 10) = 48 + (D[a * 6 + b - (a * 6 + b) / 6] + 1 + x2 % 9) % 10 := wu8s (by omega)
    rw [Option.bind_some, if_pos (by omega), e1, rem_pos (by omega), e2, set_at (by omega), Option.bind_some, tx_set hD hj h5]
    exact turned_j1 (by rw [List.length_set]; exact hD) (hd.set (by omega) _) (ck_one hD hd hk hi (by omega) (by omega))
  | true =>
    rw [if_pos rfl, Option.bind_some, cbk]
    by_cases c4 : b = 4
    · rw [decide_eq_true (show (b : Int) = 4 by omega)]
      rfl
    · have hj2 : a * 6 + b + 1 < 95 := by omega
      have hi2 : a * 6 + b - (a * 6 + b) / 6 + 1 < D.length := by omega
      have h52 : (a * 6 + b + 1) % 6 ≠ 5 := by omega
      have ei : a * 6 + b + 1 - (a * 6 + b + 1) / 6 = a * 6 + b - (a * 6 + b) / 6 + 1 := by omega
      have tj2 : (tx D)[a * 6 + b + 1]'(by omega) = 48 + D[a * 6 + b - (a * 6 + b) / 6 + 1] := by
        have := tx_getD D _ hj2
        rw [getD_at (by omega)] at this
        rw [this]; unfold txt; rw [if_neg h52, ei, getD_at hi2]
      have ej : iadd .i64 ((a * 6 + b : Nat) : Int) 1 = ((a * 6 + b + 1 : Nat) : Int) := by rw [add64 (by omega)]; omega
      have hdj := hd _ (List.getElem_mem hi2)
      have a1 : at? (tx D) ((a * 6 + b : Nat) : Int) = some (48 + D[a * 6 + b - (a * 6 + b) / 6]) := by rw [at_get (by omega), tj]
      have a2 : at? (tx D) ((a * 6 + b + 1 : Nat) : Int) = some (48 + D[a * 6 + b - (a * 6 + b) / 6 + 1]) := by rw [at_get (by omega), tj2]
      rw [decide_eq_false (show ¬ (b : Int) = 4 by omega), ej, if_pos (fun _ => by omega), if_pos (by rfl), a1, Option.bind_some, if_pos (fun _ => by omega), if_pos (by rfl), a2, Option.bind_some, if_neg Bool.false_ne_true, cbk]
      by_cases ce : 48 + D[a * 6 + b - (a * 6 + b) / 6] = 48 + D[a * 6 + b - (a * 6 + b) / 6 + 1]
      · rw [if_pos (decide_eq_true ce)]; rfl
      · rw [if_neg (by simpa using ce), if_pos (by omega), Option.bind_some, if_pos (by omega), Option.bind_some, if_pos (by omega), set_at (by omega), Option.bind_some, tx_set hD hj h5, if_pos (by rw [tx_len]; omega), set_at (by rw [tx_len]; omega), Option.bind_some, tx_set (by rw [List.length_set]; exact hD) hj2 h52, ei]
        exact turned_j1 (by rw [List.length_set, List.length_set]; exact hD) ((hd.set hdj _).set hdi _) (ck_two hD hd hk hi2 (by omega))


end Go.Proofs.Pure
