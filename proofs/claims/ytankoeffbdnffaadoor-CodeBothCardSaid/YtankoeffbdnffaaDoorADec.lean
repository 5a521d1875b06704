/- Writing a code as the document has it: the same. No program in sight. -/
import Derived.Test.YtankoeffbdnffaaDoorAWri
namespace Go.Proofs.Pure
open Go Go.RowKit Go.Proofs.Kit
set_option linter.unusedVariables false
set_option linter.unusedSimpArgs false

theorem dec_l2 (L : List Int) (hL : L.length = 78) (hb : Dgt L) (c : Int) (hc : 0 ≤ c ∧ c < 256) (y : Int) (K : Int → List Int → Option (List Int)) : ∀ (m n : Nat), m ≤ 78 → m < n →
    cabalref27_Decimal.l2 4000 y K n (mulD 256 10 c (L.drop m)).1 ((m : Int) - 1) (L.take m ++ (mulD 256 10 c (L.drop m)).2) = cabalref27_Decimal.j2 4000 y K (mulD 256 10 c L).2 := by
  intro m
  induction m with
  | zero =>
    intro n _ hn
    obtain ⟨n, rfl⟩ : ∃ q, n = q + 1 := ⟨n - 1, by omega⟩
    rw [cabalref27_Decimal.l2, if_neg (by simp)]
    simp
  | succ m ih =>
    intro n hm hn
    obtain ⟨n, rfl⟩ : ∃ q, n = q + 1 := ⟨n - 1, by omega⟩
    have hml : m < L.length := by omega
    have hx := hb _ (List.getElem_mem hml)
    have hC := mul_carry (f := 256) (b := 10) (by omega) (by omega) hc (L.drop (m + 1)) (fun x hx => hb x (List.mem_of_mem_drop hx))
    have e0 : ((m + 1 : Nat) : Int) - 1 = (m : Int) := by omega
    have et : L.take (m + 1) = L.take m ++ [L[m]] := by rw [List.take_add_one, List.getElem?_eq_getElem hml]; rfl
    have htl : (L.take m).length = m := by rw [List.length_take]; omega
    have ed : mulD 256 10 c (L.drop m) = (((mulD 256 10 c (L.drop (m + 1))).1 + 256 * L[m]) / 10, (((mulD 256 10 c (L.drop (m + 1))).1 + 256 * L[m]) % 10) :: (mulD 256 10 c (L.drop (m + 1))).2) := by
      rw [List.drop_eq_getElem_cons hml]; rfl
    have g := ih n (by omega) (by omega)
    rw [ed] at g
    have hlen : (L.take m ++ L[m] :: (mulD 256 10 c (L.drop (m + 1))).2).length = 78 := by
      rw [List.length_append, List.length_cons, mul_len, List.length_drop, htl]; omega
    rw [cabalref27_Decimal.l2, e0, if_pos (by simp), et, List.append_assoc]
    simp only [List.singleton_append]
    rw [if_pos (by rw [hlen]; omega), at_mid _ _ _ m htl]
    simp only [Option.bind_some]
    have ex : L[m] * 256 + (mulD 256 10 c (L.drop (m + 1))).1 = (mulD 256 10 c (L.drop (m + 1))).1 + 256 * L[m] := by omega
    rw [mul64 (show -9223372036854775808 ≤ L[m] * 256 ∧ L[m] * 256 < 9223372036854775808 by omega), add64 (by omega), ex, rem_pos (by omega), quo64 (by omega) (by omega), if_pos (by rw [hlen]; omega), set_mid _ _ _ _ m htl, sub64 (by omega)]
    simp only [Option.bind_some]
    exact g
theorem dec_eq (L : List Int) (hL : L.length = 78) (hb : Dgt L) (c : Int) (hc : 0 ≤ c ∧ c < 256) (y : Int) (K : Int → List Int → Option (List Int)) (n : Nat) (hn : 78 < n) :
    cabalref27_Decimal.l2 4000 y K n c 77 L = cabalref27_Decimal.j2 4000 y K (mulD 256 10 c L).2 := by
  have h2 := dec_l2 L hL hb c hc y K 78 n (by omega) hn
  have e1 : L.drop 78 = [] := List.drop_eq_nil_of_le (by omega)
  have e2 : L.take 78 = L := List.take_of_length_le (by omega)
  have e3 : mulD 256 10 c [] = (c, []) := rfl
  rw [e1, e2, e3] at h2
  simp only [List.append_nil] at h2
  rw [show ((78 : Nat) : Int) - 1 = 77 from rfl] at h2
  exact h2
def decR : List Int → List Int → List Int
  | [], out => out
  | x :: k, out => decR k (mulD 256 10 x out).2
theorem dec_l1 (k : List Int) (hk : k.length = 32) (hb : Byt k) : ∀ (m i n : Nat) (out : List Int), i + m = 32 → m < n → out.length = 78 → Dgt out →
    cabalref27_Decimal.l1 4000 k n (i : Int) out = some (decR (k.drop i) out) := by
  intro m
  induction m with
  | zero =>
    intro i n out hi hn ho hd
    obtain ⟨n, rfl⟩ : ∃ q, n = q + 1 := ⟨n - 1, by omega⟩
    rw [cabalref27_Decimal.l1, if_neg (by simp; omega), List.drop_eq_nil_of_le (by omega), cabalref27_Decimal.j1]; rfl
  | succ m ih =>
    intro i n out hi hn ho hd
    obtain ⟨n, rfl⟩ : ∃ q, n = q + 1 := ⟨n - 1, by omega⟩
    have hil : i < k.length := by omega
    have hx := hb _ (List.getElem_mem hil)
    have g := ih (i + 1) n (mulD 256 10 k[i] out).2 (by omega) (by omega) (by rw [mul_len]; exact ho) (mul_dig (by omega) out)
    rw [cabalref27_Decimal.l1, if_pos (by simp; omega), if_pos (by omega), at_get hil, Option.bind_some, wi64 (by omega), dec_eq out ho hd k[i] hx (i : Int) (cabalref27_Decimal.l1 4000 k n) 4000 (by omega), cabalref27_Decimal.j2, add64 (by omega), show (i : Int) + 1 = ((i + 1 : Nat) : Int) by omega, List.drop_eq_getElem_cons hil]
    exact g
theorem decR_val : ∀ (k out : List Int), out.length = 78 → Dgt out → Byt k → vl 10 out * 256 ^ k.length + vl 256 k < 10 ^ 78 →
    (decR k out).length = 78 ∧ Dgt (decR k out) ∧ vl 10 (decR k out) = vl 10 out * 256 ^ k.length + vl 256 k
  | [], out, ho, hd, _, _ => ⟨ho, hd, by simp [vl, decR]⟩
  | x :: k, out, ho, hd, hb, h => by
    have hm := mul_val 256 10 x (by omega) out
    have hx := hb x (by simp)
    have hc := mul_carry (f := 256) (b := 10) (by omega) (by omega) hx out hd
    have hv := vl_nonneg (b := 10) (by omega) _ (fun z hz => (mul_dig (f := 256) (b := 10) (c := x) (by omega) out z hz).1)
    have hw : 0 ≤ vl 256 k := vl_nonneg (by omega) k (fun z hz => (hb z (by simp [hz])).1)
    have e0 : vl 10 out * 256 ^ (x :: k).length + vl 256 (x :: k) = (256 * vl 10 out + x) * 256 ^ k.length + vl 256 k := by
      rw [vl_cons, List.length_cons, Int.add_mul, Int.pow_succ, Int.add_assoc, Int.mul_comm 256, Int.mul_assoc, Int.mul_comm (256 ^ k.length) 256]
    rw [e0] at h ⊢
    rw [hm, ho] at h ⊢
    have hp : 0 < (256 : Int) ^ k.length := Int.pow_pos (by omega)
    have c : (mulD 256 10 x out).1 = 0 := by
      generalize (mulD 256 10 x out).1 = C at hc h
      generalize (mulD 256 10 x out).2 = K at hv h
      have s0 : 0 < (10 : Int) ^ 78 := by decide +kernel
      generalize (10 : Int) ^ 78 = S at h s0
      rcases Int.lt_or_le C 1 with q | q
      · omega
      · exfalso
        have h1 : 1 * S ≤ C * S := Int.mul_le_mul_of_nonneg_right q (by omega)
        have h2 : (C * S + vl 10 K) * 1 ≤ (C * S + vl 10 K) * 256 ^ k.length := Int.mul_le_mul_of_nonneg_left (by omega) (by omega)
        omega
    rw [c, Int.zero_mul, Int.zero_add] at h ⊢
    exact decR_val k (mulD 256 10 x out).2 (by rw [mul_len]; exact ho) (mul_dig (by omega) out) (fun z hz => hb z (by simp [hz])) h
theorem Decimal_eq (k : List Int) (hk : k.length = 32) (hb : Byt k) : cabalref27_Decimal 4000 k = some (digs k) := by
  have hL : (1000000 : Nat) ≤ lim := by unfold lim; omega
  have hz : Dgt (List.replicate 78 0) := fun x hx => by rw [List.eq_of_mem_replicate hx]; omega
  have hv : vl 10 (List.replicate 78 0) * 256 ^ k.length + vl 256 k = vl 256 k := by rw [vl_zero, Int.zero_mul, Int.zero_add]
  have h2 := vl_lt (b := 256) (by omega) k hb
  rw [hk] at h2
  obtain ⟨a, b, c⟩ := decR_val k (List.replicate 78 0) (by simp) hz hb (by rw [hv]; exact Int.lt_trans h2 p32)
  rw [hv] at c
  have e : decR k (List.replicate 78 0) = digs k := vl_inj (b := 10) (by omega) _ _ (by rw [a, digs_len]) b (digs_dgt k) (by rw [c, digs_val k hk hb])
  have h := dec_l1 k hk hb 32 0 4000 (List.replicate 78 0) (by omega) (by omega) (by simp) hz
  rw [List.drop_zero, e] at h
  unfold cabalref27_Decimal
  rw [if_pos ⟨by omega, by show 78 ≤ lim; omega⟩]
  exact h
theorem gr_l1 (X : List Int) (hX : X.length = 80) (hd : Dgt X) : ∀ (m i n : Nat), i + m = 80 → m < n →
    cabalref27_Grouped.l1 4000 X n ((List.range (i + (i - 1) / 5)).map (txt X)) (i : Int) = some (tx X) := by
  have hL : (1000000 : Nat) ≤ lim := by unfold lim; omega
  intro m
  induction m with
  | zero =>
    intro i n hi hn
    obtain ⟨n, rfl⟩ : ∃ q, n = q + 1 := ⟨n - 1, by omega⟩
    have : i = 80 := by omega
    subst this
    rw [cabalref27_Grouped.l1, if_neg (by simp), cabalref27_Grouped.j1]; rfl
  | succ m ih =>
    intro i n hi hn
    obtain ⟨n, rfl⟩ : ∃ q, n = q + 1 := ⟨n - 1, by omega⟩
    have hil : i < X.length := by omega
    have hdi := hd _ (List.getElem_mem hil)
    have hl : ∀ t : Nat, ((List.range t).map (txt X)).length = t := fun t => by simp
    have g := ih (i + 1) n (by omega) (by omega)
    have e48 : IntKind.wrap .u8 (iadd .i64 48 X[i]) = 48 + X[i] := by rw [add64 (by omega), wu8s (by omega)]
    have eg := getD_at hil
    rw [cabalref27_Grouped.l1, if_pos (by simp; omega), Option.bind_some, rem_pos (by omega), cbk]
    by_cases c : 0 < i ∧ i % 5 = 0
    · have e1 : i + 1 + (i + 1 - 1) / 5 = i + (i - 1) / 5 + 1 + 1 := by omega
      have t1 : txt X (i + (i - 1) / 5) = 32 := by unfold txt; rw [if_pos (by omega)]
      have t2 : txt X (i + (i - 1) / 5 + 1) = 48 + X[i] := by
        unfold txt
        rw [if_neg (by omega), show i + (i - 1) / 5 + 1 - (i + (i - 1) / 5 + 1) / 6 = i by omega, eg]
      rw [e1, range_snoc, range_snoc, t1, t2] at g
      rw [decide_eq_true (show (i : Int) > 0 by omega), decide_eq_true (show (i : Int) % 5 = 0 by omega), if_pos rfl, if_pos rfl, if_pos (by rw [hl, List.length_singleton]; omega), cabalref27_Grouped.j2, at_get hil, Option.bind_some, e48, if_pos (by rw [List.length_append, hl, List.length_singleton, List.length_singleton]; omega), add64 (by omega)]
      exact g
    · have e1 : i + 1 + (i + 1 - 1) / 5 = i + (i - 1) / 5 + 1 := by omega
      have t2 : txt X (i + (i - 1) / 5) = 48 + X[i] := by
        unfold txt
        rw [if_neg (by omega), show i + (i - 1) / 5 - (i + (i - 1) / 5) / 6 = i by omega, eg]
      rw [e1, range_snoc, t2] at g
      have hc : (if decide ((i : Int) > 0) = true then decide ((i : Int) % 5 = 0) else false) = false := by
        by_cases c0 : (i : Int) > 0
        · rw [if_pos (decide_eq_true c0)]; exact decide_eq_false (by omega)
        · rw [if_neg (by simpa using c0)]
      rw [hc, if_neg Bool.false_ne_true, cabalref27_Grouped.j2, at_get hil, Option.bind_some, e48, if_pos (by rw [hl, List.length_singleton]; omega), add64 (by omega)]
      exact g
theorem rWrite_eq (k : List Int) (hk : k.length = 32) (hb : Byt k) : cabalref27_Write 4000 k = some (tx (cod k)) := by
  have hL : (1000000 : Nat) ≤ lim := by unfold lim; omega
  have hcb := ckN_bound (digs k)
  have h := gr_l1 (cod k) (cod_len k) (cod_dgt k) 80 0 4000 (by omega) (by omega)
  have h5 : (List.range (0 + (0 - 1) / 5)).map (txt (cod k)) = [] := rfl
  rw [h5] at h
  have h' : cabalref27_Grouped 4000 (digs k ++ [ckN (digs k) / 10, ckN (digs k) % 10]) = some (tx (cod k)) := h
  unfold cabalref27_Write
  rw [Decimal_eq k hk hb, Option.bind_some, rcheck_eq (digs k) (by rw [digs_len]; omega) (by rw [digs_len]; omega) (digs_dgt k), Option.bind_some, if_pos (by rw [digs_len]; show 78 + 2 ≤ lim; omega), quo64 (by omega) (by omega), rem_pos (by omega), h']
  rfl


end Go.Proofs.Pure
