/- One digit changed, or two turned: the check digits don't fit. No program in sight. -/
import Derived.Test.YtankoeffbdnffaaTWri
namespace Go.Proofs.Pure
open Go Go.RowKit Go.Proofs.Kit
set_option linter.unusedVariables false
set_option linter.unusedSimpArgs false

theorem ckF_val : ∀ (l : List Int) (c : Int), 0 ≤ c ∧ c < 97 → ckF c l = (c * 10 ^ l.length + vl 10 l) % 97
  | [], c, h => by
    show c = (c * 10 ^ 0 + vl 10 []) % 97
    rw [Int.pow_zero, Int.mul_one, show vl 10 ([] : List Int) = 0 from rfl]; omega
  | x :: l, c, h => by
    have ih := ckF_val l ((c * 10 + x) % 97) ⟨Int.emod_nonneg _ (by omega), Int.emod_lt_of_pos _ (by omega)⟩
    show ckF ((c * 10 + x) % 97) l = _
    rw [ih, vl_cons, List.length_cons, Int.pow_succ]
    have e1 : c * (10 ^ l.length * 10) + (x * 10 ^ l.length + vl 10 l) = (c * 10 + x) * 10 ^ l.length + vl 10 l := by
      rw [Int.add_mul, Int.mul_comm (10 ^ l.length) 10, Int.mul_assoc, Int.add_assoc]
    rw [e1]
    have e2 : (c * 10 + x) % 97 = (c * 10 + x) - 97 * ((c * 10 + x) / 97) := by omega
    rw [e2, Int.sub_mul, Int.mul_assoc]
    generalize (c * 10 + x) * 10 ^ l.length = X
    generalize (c * 10 + x) / 97 * 10 ^ l.length = Y
    omega
theorem ck_mod {D : List Int} (hD : D.length = 80) (h : ckOk D = true) : vl 10 D % 97 = 1 := by
  have h8 : 78 < D.length := by omega
  have h9 : 79 < D.length := by omega
  have e : D = D.take 78 ++ [D[78], D[79]] := by
    conv => lhs; rw [← List.take_append_drop 78 D, List.drop_eq_getElem_cons h8, List.drop_eq_getElem_cons h9, List.drop_eq_nil_of_le (show D.length ≤ 78 + 1 + 1 by omega)]
  unfold ckOk at h
  rw [Bool.and_eq_true, decide_eq_true_eq, decide_eq_true_eq, getD_at h8, getD_at h9] at h
  have hv : vl 10 D = vl 10 (D.take 78) * 100 + (D[78] * 10 + D[79]) := by
    conv => lhs; rw [e, vl_append, vl_cons, vl_cons]
    simp [vl]
  have hF := ckF_val (D.take 78) 0 (by omega)
  rw [Int.zero_mul, Int.zero_add] at hF
  unfold ckN at h
  rw [hF] at h
  rw [hv]
  generalize vl 10 (D.take 78) = V at h ⊢
  omega
theorem ten_mod (x : Int) : ∀ m : Nat, (x * 10 ^ m) % 97 = 0 → x % 97 = 0
  | 0, h => by rw [Int.pow_zero, Int.mul_one] at h; exact h
  | m + 1, h => ten_mod x m (by
      rw [Int.pow_succ, ← Int.mul_assoc] at h
      generalize x * 10 ^ m = y at h ⊢
      omega)
theorem set_split {D : List Int} {i : Nat} (h : i < D.length) (y : Int) : D.set i y = D.take i ++ y :: D.drop (i + 1) := by
  rw [List.set_eq_take_append_cons_drop, if_pos h]
theorem split_at {D : List Int} {i : Nat} (h : i < D.length) : D = D.take i ++ D[i] :: D.drop (i + 1) := by
  conv => lhs; rw [← List.take_append_drop i D, List.drop_eq_getElem_cons h]
theorem ck_one {D : List Int} (hD : D.length = 80) (hd : Dgt D) (h : ckOk D = true) {i : Nat} (hi : i < D.length) {y : Int} (hy : 0 ≤ y ∧ y < 10) (hn : y ≠ D[i]) : ckOk (D.set i y) = false := by
  rw [Bool.eq_false_iff]
  intro hc
  have h1 := ck_mod hD h
  have h2 := ck_mod (by rw [List.length_set]; exact hD) hc
  have e1 : vl 10 D = vl 10 (D.take i) * 10 ^ ((D.drop (i + 1)).length + 1) + (D[i] * 10 ^ (D.drop (i + 1)).length + vl 10 (D.drop (i + 1))) := by
    conv => lhs; rw [split_at hi, vl_append, vl_cons, List.length_cons]
  have e2 : vl 10 (D.set i y) = vl 10 (D.take i) * 10 ^ ((D.drop (i + 1)).length + 1) + (y * 10 ^ (D.drop (i + 1)).length + vl 10 (D.drop (i + 1))) := by
    rw [set_split hi, vl_append, vl_cons, List.length_cons]
  have hdi := hd _ (List.getElem_mem hi)
  have h3 : ((y - D[i]) * 10 ^ (D.drop (i + 1)).length) % 97 = 0 := by
    rw [Int.sub_mul]; omega
  have := ten_mod _ _ h3
  omega
theorem ck_two {D : List Int} (hD : D.length = 80) (hd : Dgt D) (h : ckOk D = true) {i : Nat} (hi : i + 1 < D.length) (hn : D[i] ≠ D[i + 1]) : ckOk ((D.set i D[i + 1]).set (i + 1) D[i]) = false := by
  rw [Bool.eq_false_iff]
  intro hc
  have h1 := ck_mod hD h
  have h2 := ck_mod (by rw [List.length_set, List.length_set]; exact hD) hc
  have hi0 : i < D.length := by omega
  have s1 : D = D.take i ++ D[i] :: D[i + 1] :: D.drop (i + 2) := by
    conv => lhs; rw [split_at hi0, List.drop_eq_getElem_cons hi]
  have s2 : (D.set i D[i + 1]).set (i + 1) D[i] = D.take i ++ D[i + 1] :: D[i] :: D.drop (i + 2) := by
    rw [set_split hi0, List.drop_eq_getElem_cons hi]
    have : i + 1 = (D.take i).length + 1 := by rw [List.length_take]; omega
    rw [List.set_append_right _ _ (by rw [List.length_take]; omega)]
    rw [show i + 1 - (D.take i).length = 1 by rw [List.length_take]; omega]
    rfl
  have e1 : vl 10 D = vl 10 (D.take i) * 10 ^ ((D.drop (i + 2)).length + 1 + 1) + (D[i] * 10 ^ ((D.drop (i + 2)).length + 1) + (D[i + 1] * 10 ^ (D.drop (i + 2)).length + vl 10 (D.drop (i + 2)))) := by
    conv => lhs; rw [s1, vl_append, vl_cons, vl_cons, List.length_cons, List.length_cons]
  have e2 : vl 10 ((D.set i D[i + 1]).set (i + 1) D[i]) = vl 10 (D.take i) * 10 ^ ((D.drop (i + 2)).length + 1 + 1) + (D[i + 1] * 10 ^ ((D.drop (i + 2)).length + 1) + (D[i] * 10 ^ (D.drop (i + 2)).length + vl 10 (D.drop (i + 2)))) := by
    rw [s2, vl_append, vl_cons, vl_cons, List.length_cons, List.length_cons]
  have hdi := hd _ (List.getElem_mem hi0)
  have hdj := hd _ (List.getElem_mem hi)
  rw [e1] at h1
  rw [e2] at h2
  have h3 : ((9 * (D[i] - D[i + 1])) * 10 ^ (D.drop (i + 2)).length) % 97 = 0 := by
    rw [Int.pow_succ (n := (D.drop (i + 2)).length)] at h1 h2
    generalize vl 10 (D.take i) * 10 ^ ((D.drop (i + 2)).length + 1 + 1) = A at h1 h2
    generalize (10 : Int) ^ (D.drop (i + 2)).length = T at h1 h2 ⊢
    rw [Int.mul_assoc, Int.sub_mul]
    have f1 : D[i] * (T * 10) = 10 * (D[i] * T) := by rw [← Int.mul_assoc, Int.mul_comm]
    have f2 : D[i + 1] * (T * 10) = 10 * (D[i + 1] * T) := by rw [← Int.mul_assoc, Int.mul_comm]
    rw [f1] at h1
    rw [f2] at h2
    generalize D[i] * T = a at h1 h2 ⊢
    generalize D[i + 1] * T = b at h1 h2 ⊢
    omega
  have := ten_mod _ _ h3
  omega
theorem tx_set {D : List Int} (hD : D.length = 80) {j : Nat} (hj : j < 95) (h5 : j % 6 ≠ 5) (y : Int) : (tx D).set j (48 + y) = tx (D.set (j - j / 6) y) := by
  refine List.ext_getElem (by rw [List.length_set, tx_len, tx_len]) (fun t h1 h2 => ?_)
  have ht : t < 95 := by rw [tx_len] at h2; exact h2
  have e1 := tx_getD D t ht
  have e2 := tx_getD (D.set (j - j / 6) y) t ht
  rw [getD_at h2] at e2
  rw [getD_at (by rw [tx_len]; exact ht)] at e1
  rw [List.getElem_set, e2]
  by_cases c : j = t
  · subst c
    rw [if_pos rfl]
    unfold txt
    rw [if_neg h5, getD_at (by rw [List.length_set]; omega), List.getElem_set_self]
  · rw [if_neg c, e1]
    unfold txt
    by_cases q : t % 6 = 5
    · rw [if_pos q, if_pos q]
    · rw [if_neg q, if_neg q, List.getD_eq_getElem?_getD, List.getD_eq_getElem?_getD, List.getElem?_set_ne (by omega)]
theorem Dgt.set {D : List Int} (hd : Dgt D) {y : Int} (hy : 0 ≤ y ∧ y < 10) (i : Nat) : Dgt (D.set i y) := fun x hx => by
  rcases List.mem_or_eq_of_mem_set hx with e | e
  · exact hd x e
  · rw [e]; exact hy


end Go.Proofs.Pure
