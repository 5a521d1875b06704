/- Writing a code: what is written, its digits and their value. No program in sight. -/
import Derived.Test.YtankoeffbdnffaaDoorACod
namespace Go.Proofs.Pure
open Go Go.RowKit Go.Proofs.Kit
set_option linter.unusedVariables false
set_option linter.unusedSimpArgs false

theorem shl_or8 {x y : Int} (hx : 0 ≤ x ∧ x < 10) (hy : 0 ≤ y ∧ y < 256) : ior .i64 (ishl .i64 x 8) y = x * 256 + y := by
  have h : ∀ a : Fin 10, ∀ b : Fin 256, ior .i64 (ishl .i64 ((a.val : Nat) : Int) 8) ((b.val : Nat) : Int) = ((a.val : Nat) : Int) * 256 + ((b.val : Nat) : Int) := by decide +kernel
  have := h ⟨x.toNat, by omega⟩ ⟨y.toNat, by omega⟩
  simpa [Int.toNat_of_nonneg hx.1, Int.toNat_of_nonneg hy.1] using this
theorem by10_l1 : ∀ (L P : List Int) (r : Int) (n : Nat), P.length + L.length = 32 → L.length < n → Byt L → 0 ≤ r ∧ r < 10 →
    code_by10.l1 4000 n r (P.length : Int) (P ++ L) = some ((divD 256 10 r L).1, P ++ (divD 256 10 r L).2)
  | [], P, r, n, hl, hn, _, hr => by
    obtain ⟨n, rfl⟩ : ∃ q, n = q + 1 := ⟨n - 1, by simp at hn; omega⟩
    rw [code_by10.l1, if_neg (by simp at hl ⊢; omega), code_by10.j1, wu8s (by omega)]; rfl
  | x :: L, P, r, n, hl, hn, hb, hr => by
    rw [List.length_cons] at hl hn
    obtain ⟨n, rfl⟩ : ∃ q, n = q + 1 := ⟨n - 1, by omega⟩
    have hx := hb x (by simp)
    have ih := by10_l1 L (P ++ [(r * 256 + x) / 10]) ((r * 256 + x) % 10) n (by rw [List.length_append, List.length_singleton]; omega) (by omega) (fun y hy => hb y (by simp [hy])) (by omega)
    rw [List.length_append, List.length_singleton, List.append_assoc, List.append_assoc] at ih
    rw [code_by10.l1, if_pos (by simp; omega), if_pos (by omega), at_mid P x L P.length rfl]
    simp only [Option.bind_some]
    rw [wi64 (by omega), shl_or8 hr hx, quo64 (by omega) (by omega), if_pos (by omega), wu8s (by omega), set_mid P x _ L P.length rfl]
    simp only [Option.bind_some]
    rw [rem_pos (by omega), add64 (by omega)]
    exact ih
theorem by10_eq (q : List Int) (hq : q.length = 32) (hb : Byt q) : code_by10 4000 q = some (divD 256 10 0 q) := by
  unfold code_by10
  exact by10_l1 q [] 0 4000 (by simpa using hq) (by omega) hb (by omega)

def wrD : Nat → List Int → List Int → List Int
  | 0, _, E => E
  | m + 1, q, E => wrD m (divD 256 10 0 q).2 ((divD 256 10 0 q).1 :: E)
theorem Byt.div {q : List Int} (hb : Byt q) : Byt (divD 256 10 0 q).2 := div_dig (by omega) (by omega) q 0 (by omega) hb
theorem wrD_len : ∀ (m : Nat) (q E : List Int), (wrD m q E).length = m + E.length
  | 0, q, E => by show E.length = _; omega
  | m + 1, q, E => by show (wrD m _ _).length = _; rw [wrD_len m, List.length_cons]; omega
theorem wrD_dgt : ∀ (m : Nat) (q E : List Int), Dgt E → Dgt (wrD m q E)
  | 0, q, E, h => h
  | m + 1, q, E, h => wrD_dgt m _ _ (fun x hx => by
      rcases List.mem_cons.1 hx with e | e
      · have := div_rest (b := 256) (f := 10) (by omega) q 0 (by omega)
        rw [e]; exact this
      · exact h x e)
theorem wrD_val : ∀ (m : Nat) (q E : List Int), Byt q → ∃ Q : Int, 0 ≤ Q ∧ vl 256 q * 10 ^ E.length + vl 10 E = Q * 10 ^ (E.length + m) + vl 10 (wrD m q E)
  | 0, q, E, hb => ⟨vl 256 q, vl_nonneg (by omega) q (fun x hx => (hb x hx).1), rfl⟩
  | m + 1, q, E, hb => by
    obtain ⟨Q, h0, h1⟩ := wrD_val m (divD 256 10 0 q).2 ((divD 256 10 0 q).1 :: E) hb.div
    refine ⟨Q, h0, ?_⟩
    show _ = _ + vl 10 (wrD m _ _)
    rw [List.length_cons, vl_cons] at h1
    rw [show E.length + (m + 1) = E.length + 1 + m by omega, ← h1]
    have hv := div_val 256 10 (by omega) q 0
    rw [Int.zero_mul, Int.zero_add] at hv
    rw [hv, Int.add_mul, Int.pow_succ, Int.add_assoc, Int.mul_comm 10, Int.mul_assoc, Int.mul_comm (10 ^ E.length) 10]
theorem p32 : (256 : Int) ^ 32 < 10 ^ 78 := by decide +kernel
/-- the number of a code, in its digits -/
def digs (k : List Int) : List Int := wrD 78 k []
theorem digs_len (k : List Int) : (digs k).length = 78 := wrD_len 78 k []
theorem digs_dgt (k : List Int) : Dgt (digs k) := wrD_dgt 78 k [] (fun x hx => by cases hx)
theorem digs_val (k : List Int) (hk : k.length = 32) (hb : Byt k) : vl 10 (digs k) = vl 256 k := by
  obtain ⟨Q, h0, h1⟩ := wrD_val 78 k [] hb
  have h2 := vl_lt (b := 256) (by omega) k hb
  rw [hk] at h2
  have h3 : 0 ≤ vl 10 (digs k) := vl_nonneg (by omega) _ (fun x hx => (digs_dgt k x hx).1)
  have h4 := p32
  have e1 : vl 10 ([] : List Int) = 0 := rfl
  have e2 : ([] : List Int).length = 0 := rfl
  rw [e1, e2, Int.pow_zero, Int.mul_one, Int.add_zero, Nat.zero_add] at h1
  change vl 256 k = Q * 10 ^ 78 + vl 10 (digs k) at h1
  have t0 : 0 < (10 : Int) ^ 78 := by decide +kernel
  generalize (10 : Int) ^ 78 = T at h1 h4 t0
  generalize (256 : Int) ^ 32 = S at h2 h4
  generalize vl 10 (digs k) = d at h1 h3 ⊢
  generalize vl 256 k = v at h1 h2 ⊢
  have h5 : Q = 0 := by
    rcases Int.lt_or_le Q 1 with c | c
    · omega
    · exfalso
      have : 1 * T ≤ Q * T := Int.mul_le_mul_of_nonneg_right c (by omega)
      omega
  rw [h5, Int.zero_mul] at h1
  omega

def txt (D : List Int) (j : Nat) : Int := if j % 6 = 5 then 32 else 48 + D.getD (j - j / 6) 0
def cod (k : List Int) : List Int := digs k ++ [ckN (digs k) / 10, ckN (digs k) % 10]
def tx (D : List Int) : List Int := (List.range 95).map (txt D)
theorem ckN_app (E l : List Int) (h : E.length = 78) : ckN (E ++ l) = ckN E := by
  unfold ckN
  rw [List.take_append_of_le_length (by omega)]
theorem WB (b : Bool) (l : List Int) (c : Int) (h : l.length + 1 ≤ 1000000) : strings_Builder_WriteByte 4000 ⟨b, l⟩ c = some ((), ⟨true, l ++ [c]⟩) := by
  have hL : (1000000 : Nat) ≤ lim := by unfold lim; omega
  unfold strings_Builder_WriteByte strings_Builder_copyCheck
  cases b
  · simp only [Bool.not_false, if_true, Option.bind_some]
    rw [if_pos (by simp; omega)]
  · simp only [Bool.not_true, Bool.false_eq_true, if_false, Option.bind_some]
    rw [if_pos (by simp; omega)]
theorem range_snoc (n : Nat) (f : Nat → Int) : (List.range (n + 1)).map f = (List.range n).map f ++ [f n] := by rw [List.range_succ, List.map_append]; rfl
theorem wr_l1 (X : List Int) (hX : X.length = 80) (hd : Dgt X) : ∀ (m i n : Nat) (b : Bool), i + m = 80 → m < n →
    code_Write.l1 4000 X n (i : Int) b ((List.range (i + (i - 1) / 5)).map (txt X)) = some (tx X) := by
  intro m
  induction m with
  | zero =>
    intro i n b hi hn
    obtain ⟨n, rfl⟩ : ∃ q, n = q + 1 := ⟨n - 1, by omega⟩
    have : i = 80 := by omega
    subst this
    rw [code_Write.l1, if_neg (by simp), code_Write.j2, strings_Builder_String, if_pos (by simp), Option.bind_some]; rfl
  | succ m ih =>
    intro i n b hi hn
    obtain ⟨n, rfl⟩ : ∃ q, n = q + 1 := ⟨n - 1, by omega⟩
    have hil : i < X.length := by omega
    have hdi := hd _ (List.getElem_mem hil)
    have hl : ∀ t : Nat, ((List.range t).map (txt X)).length = t := fun t => by simp
    have g := ih (i + 1) n true (by omega) (by omega)
    have e48 : iadd .u8 48 X[i] = 48 + X[i] := wu8s (by omega)
    have eg := getD_at hil
    rw [code_Write.l1, if_pos (by simp; omega), at_get hil, Option.bind_some, if_pos (by omega), Option.bind_some, rem_pos (by omega), cbk]
    by_cases c : 0 < i ∧ i % 5 = 0
    · have e1 : i + 1 + (i + 1 - 1) / 5 = i + (i - 1) / 5 + 1 + 1 := by omega
      have t1 : txt X (i + (i - 1) / 5) = 32 := by unfold txt; rw [if_pos (by omega)]
      have t2 : txt X (i + (i - 1) / 5 + 1) = 48 + X[i] := by
        unfold txt
        rw [if_neg (by omega), show i + (i - 1) / 5 + 1 - (i + (i - 1) / 5 + 1) / 6 = i by omega, eg]
      rw [e1, range_snoc, range_snoc, t1, t2] at g
      rw [decide_eq_true (show (i : Int) > 0 by omega), decide_eq_true (show (i : Int) % 5 = 0 by omega), if_pos rfl, if_pos rfl, WB _ _ _ (by rw [hl]; omega), Option.bind_some, code_Write.j3, WB _ _ _ (by rw [List.length_append, hl, List.length_singleton]; omega), Option.bind_some, e48, add64 (by omega)]
      exact g
    · have e1 : i + 1 + (i + 1 - 1) / 5 = i + (i - 1) / 5 + 1 := by omega
      have t2 : txt X (i + (i - 1) / 5) = 48 + X[i] := by
        unfold txt
        rw [if_neg (by omega), show i + (i - 1) / 5 - (i + (i - 1) / 5) / 6 = i by omega, eg]
      rw [e1, range_snoc, t2] at g
      have hc : (if decide ((i : Int) > 0) = true then decide ((i : Int) % 5 = 0) else false) = false := by
        by_cases c0 : (i : Int) > 0
        · rw [if_pos (decide_eq_true c0)]; exact decide_eq_false (by omega)
        · rw [if_neg (by simpa using c0)]
      rw [hc, if_neg Bool.false_ne_true, code_Write.j3, WB _ _ _ (by rw [hl]; omega), Option.bind_some, e48, add64 (by omega)]
      exact g
theorem wr_j1 (E : List Int) (hE : E.length = 78) (hd : Dgt E) : code_Write.j1 4000 (E ++ [0, 0]) = some (tx (E ++ [ckN E / 10, ckN E % 10])) := by
  have hcb := ckN_bound E
  have h1 : code_digits_check 4000 (E ++ [0, 0]) = some (ckN E / 10, ckN E % 10) := by
    rw [check_eq (E ++ [0, 0]) (by simp [hE]) (fun x hx => by
      rcases List.mem_append.1 hx with e | e
      · exact hd x e
      · simp at e; omega), ckN_app E _ hE]
  have h2 : set? (E ++ [0, 0]) 78 (ckN E / 10) = some (E ++ [ckN E / 10, 0]) := set_mid E 0 (ckN E / 10) [0] 78 hE
  have h3 : set? (E ++ [ckN E / 10, 0]) 79 (ckN E % 10) = some (E ++ [ckN E / 10, ckN E % 10]) := by
    have := set_mid (E ++ [ckN E / 10]) 0 (ckN E % 10) [] 79 (by simp [hE])
    simpa using this
  have h4 := wr_l1 (E ++ [ckN E / 10, ckN E % 10]) (by simp [hE]) (fun x hx => by
      rcases List.mem_append.1 hx with e | e
      · exact hd x e
      · simp at e; omega) 80 0 4000 false (by omega) (by omega)
  have h5 : (List.range (0 + (0 - 1) / 5)).map (txt (E ++ [ckN E / 10, ckN E % 10])) = [] := rfl
  rw [h5] at h4
  unfold code_Write.j1
  rw [h1, Option.bind_some, h2, Option.bind_some, h3, Option.bind_some]
  exact h4
theorem wr_l2 : ∀ (m i n : Nat) (q E : List Int), i + m = 78 → m < n → q.length = 32 → Byt q → E.length = i → Dgt E →
    code_Write.l2 4000 n (i : Int) q (List.replicate m 0 ++ (E ++ [0, 0])) = code_Write.j1 4000 (wrD m q E ++ [0, 0]) := by
  intro m
  induction m with
  | zero =>
    intro i n q E hi hn hq hb hE hd
    obtain ⟨n, rfl⟩ : ∃ q, n = q + 1 := ⟨n - 1, by omega⟩
    rw [code_Write.l2, if_neg (by simp; omega)]; rfl
  | succ m ih =>
    intro i n q E hi hn hq hb hE hd
    obtain ⟨n, rfl⟩ : ∃ q, n = q + 1 := ⟨n - 1, by omega⟩
    have hr := div_rest (b := 256) (f := 10) (by omega) q 0 (by omega)
    have g := ih (i + 1) n (divD 256 10 0 q).2 ((divD 256 10 0 q).1 :: E) (by omega) (by omega) (by rw [div_len]; exact hq) hb.div (by simp [hE]) (fun x hx => by
      rcases List.mem_cons.1 hx with e | e
      · rw [e]; exact hr
      · exact hd x e)
    have es : isub .i64 77 (i : Int) = (m : Int) := by rw [sub64 (by omega)]; omega
    have erep : List.replicate (m + 1) (0 : Int) ++ (E ++ [0, 0]) = List.replicate m 0 ++ 0 :: (E ++ [0, 0]) := by rw [List.replicate_succ', List.append_assoc]; rfl
    rw [code_Write.l2, if_pos (by simp; omega), by10_eq q hq hb, Option.bind_some, es, if_pos (by omega), erep, set_mid _ _ _ _ m (by simp), Option.bind_some, add64 (by omega)]
    exact g
theorem Write_eq (k : List Int) (hk : k.length = 32) (hb : Byt k) : code_Write 4000 k = some (tx (cod k)) := by
  have h := wr_l2 78 0 4000 k [] (by omega) (by omega) hk hb rfl (fun x hx => by cases hx)
  have e : List.replicate 78 (0 : Int) ++ ([] ++ [0, 0]) = List.replicate 80 0 := rfl
  rw [e] at h
  unfold code_Write
  have h' : code_Write.l2 4000 4000 0 k (List.replicate 80 0) = code_Write.j1 4000 (digs k ++ [0, 0]) := h
  rw [h', wr_j1 _ (digs_len k) (digs_dgt k)]
  rfl

theorem cod_len (k : List Int) : (cod k).length = 80 := by unfold cod; rw [List.length_append, digs_len]; rfl
theorem cod_dgt (k : List Int) : Dgt (cod k) := fun x hx => by
  have hcb := ckN_bound (digs k)
  unfold cod at hx
  rcases List.mem_append.1 hx with e | e
  · exact digs_dgt k x e
  · simp at e; omega
theorem tx_len (D : List Int) : (tx D).length = 95 := by unfold tx; simp
theorem tx_getD (D : List Int) (j : Nat) (h : j < 95) : (tx D).getD j 0 = txt D j := by
  rw [getD_at (by rw [tx_len]; exact h)]; unfold tx; simp
theorem Dgt.getD {D : List Int} (h : Dgt D) (i : Nat) : 0 ≤ D.getD i 0 ∧ D.getD i 0 < 10 := by
  by_cases c : i < D.length
  · rw [getD_at c]; exact h _ (List.getElem_mem c)
  · rw [List.getD_eq_getElem?_getD, List.getElem?_eq_none (by omega)]; simp
theorem tx_byt {D : List Int} (h : Dgt D) : Byt (tx D) := fun x hx => by
  unfold tx at hx
  obtain ⟨j, _, e⟩ := List.mem_map.1 hx
  have := h.getD (j - j / 6)
  unfold txt at e
  split at e <;> omega
theorem tx_fmt {D : List Int} (h : Dgt D) : ∀ i, i ≤ 95 → fmtS (tx D) i = true
  | 0, _ => rfl
  | i + 1, hi => by
    unfold fmtS fitS
    have := h.getD (i - i / 6)
    rw [tx_fmt h i (by omega), tx_getD D i (by omega), Bool.true_and]
    unfold txt
    by_cases c : i % 6 = 5
    · rw [if_pos c, if_pos c]; rfl
    · rw [if_neg c, if_neg c, decide_eq_true (by omega), decide_eq_true (by omega)]; rfl
theorem tx_dgs {D : List Int} (hD : D.length = 80) : ∀ i, i ≤ 95 → dgs (tx D) i = D.take (i - i / 6)
  | 0, _ => rfl
  | i + 1, hi => by
    unfold dgs
    rw [tx_dgs hD i (by omega), tx_getD D i (by omega)]
    unfold txt
    by_cases c : i % 6 = 5
    · rw [if_pos c, show i + 1 - (i + 1) / 6 = i - i / 6 by omega]
    · have hj : i - i / 6 < D.length := by omega
      rw [if_neg c, if_neg c, show i + 1 - (i + 1) / 6 = i - i / 6 + 1 by omega, List.take_add_one, List.getElem?_eq_getElem hj, getD_at hj, show 48 + D[i - i / 6] - 48 = D[i - i / 6] by omega]; rfl
theorem rdK_val : ∀ (D k : List Int), k.length = 32 → Byt k → Dgt D → ∀ k', rdK D k = some k' → k'.length = 32 ∧ Byt k' ∧ vl 256 k' = vl 256 k * 10 ^ D.length + vl 10 D
  | [], k, hk, hb, _, k', h => by
    cases h
    exact ⟨hk, hb, by simp [vl]⟩
  | d :: D, k, hk, hb, hd, k', h => by
    unfold rdK at h
    split at h
    · rename_i c
      obtain ⟨a, b, e⟩ := rdK_val D (mulD 10 256 d k).2 (by rw [mul_len]; exact hk) (mul_dig (by omega) k) (fun x hx => hd x (by simp [hx])) k' h
      refine ⟨a, b, ?_⟩
      have hm := mul_val 10 256 d (by omega) k
      rw [c, Int.zero_mul, Int.zero_add] at hm
      rw [e, ← hm, vl_cons, List.length_cons, Int.add_mul, Int.pow_succ, Int.add_assoc, Int.mul_comm 10, Int.mul_assoc, Int.mul_comm (10 ^ D.length) 10]
    · cases h
theorem rdK_ok : ∀ (D k : List Int), k.length = 32 → Byt k → Dgt D → vl 256 k * 10 ^ D.length + vl 10 D < 256 ^ 32 → ∃ k', rdK D k = some k'
  | [], k, _, _, _, _ => ⟨k, rfl⟩
  | d :: D, k, hk, hb, hd, h => by
    have hm := mul_val 10 256 d (by omega) k
    have hdd := hd d (by simp)
    have hc := mul_carry (f := 10) (b := 256) (by omega) (by omega) hdd k hb
    have hv := vl_nonneg (b := 256) (by omega) _ (fun x hx => (mul_dig (f := 10) (b := 256) (c := d) (by omega) k x hx).1)
    have hw : 0 ≤ vl 10 D := vl_nonneg (by omega) D (fun x hx => (hd x (by simp [hx])).1)
    have e0 : vl 256 k * 10 ^ (d :: D).length + vl 10 (d :: D) = (10 * vl 256 k + d) * 10 ^ D.length + vl 10 D := by
      rw [vl_cons, List.length_cons, Int.add_mul, Int.pow_succ, Int.add_assoc, Int.mul_comm 10, Int.mul_assoc, Int.mul_comm (10 ^ D.length) 10]
    rw [e0, hm, hk] at h
    have hp : 0 < (10 : Int) ^ D.length := Int.pow_pos (by omega)
    have c : (mulD 10 256 d k).1 = 0 := by
      generalize (mulD 10 256 d k).1 = C at hc h
      generalize (mulD 10 256 d k).2 = K at hv h
      have s0 : 0 < (256 : Int) ^ 32 := by decide +kernel
      generalize (256 : Int) ^ 32 = S at h s0
      rcases Int.lt_or_le C 1 with q | q
      · omega
      · exfalso
        have h1 : 1 * S ≤ C * S := Int.mul_le_mul_of_nonneg_right q (by omega)
        have h2 : (C * S + vl 256 K) * 1 ≤ (C * S + vl 256 K) * 10 ^ D.length := Int.mul_le_mul_of_nonneg_left (by omega) (by omega)
        omega
    rw [c, Int.zero_mul, Int.zero_add] at h
    obtain ⟨k', hk'⟩ := rdK_ok D (mulD 10 256 d k).2 (by rw [mul_len]; exact hk) (mul_dig (by omega) k) (fun x hx => hd x (by simp [hx])) h
    exact ⟨k', by unfold rdK; rw [if_pos c]; exact hk'⟩
theorem vl_zero (b : Int) : ∀ n, vl b (List.replicate n 0) = 0
  | 0 => rfl
  | n + 1 => by rw [List.replicate_succ, vl_cons, vl_zero b n]; simp
theorem cod_take (k : List Int) : (cod k).take 78 = digs k := by unfold cod; rw [List.take_append_of_le_length (by rw [digs_len]; omega), List.take_of_length_le (by rw [digs_len]; omega)]
theorem cod_ck (k : List Int) : ckOk (cod k) = true := by
  have h : ckN (cod k) = ckN (digs k) := ckN_app _ _ (digs_len k)
  unfold ckOk
  rw [h]
  have h8 : (cod k).getD 78 0 = ckN (digs k) / 10 := by unfold cod; rw [List.getD_eq_getElem?_getD, List.getElem?_append_right (by rw [digs_len]; omega), digs_len]; rfl
  have h9 : (cod k).getD 79 0 = ckN (digs k) % 10 := by unfold cod; rw [List.getD_eq_getElem?_getD, List.getElem?_append_right (by rw [digs_len]; omega), digs_len]; rfl
  rw [h8, h9, decide_eq_true rfl, decide_eq_true rfl]; rfl
theorem read_tx (D : List Int) (hD : D.length = 80) (hd : Dgt D) : readR (tx D) = if ckOk D = true then rdR (rdK (D.take 78) (List.replicate 32 0)) else (Z32, 2) := by
  unfold readR
  rw [if_pos ⟨tx_len D, tx_fmt hd 95 (by omega)⟩, tx_dgs hD 95 (by omega), show 95 - 95 / 6 = 80 from rfl, List.take_of_length_le (show D.length ≤ 80 by omega)]
theorem read_write (k : List Int) (hk : k.length = 32) (hb : Byt k) : readR (tx (cod k)) = (k, 0) := by
  rw [read_tx _ (cod_len k) (cod_dgt k), if_pos (cod_ck k), cod_take]
  have hv := digs_val k hk hb
  have h2 := vl_lt (b := 256) (by omega) k hb
  rw [hk] at h2
  have h0 : vl 256 (List.replicate 32 0) * 10 ^ (digs k).length + vl 10 (digs k) = vl 256 k := by rw [vl_zero, Int.zero_mul, Int.zero_add, hv]
  obtain ⟨k', h⟩ := rdK_ok (digs k) (List.replicate 32 0) (by simp) rep_byt (digs_dgt k) (by rw [h0]; exact h2)
  obtain ⟨a, b, e⟩ := rdK_val (digs k) (List.replicate 32 0) (by simp) rep_byt (digs_dgt k) k' h
  rw [h0] at e
  rw [h, vl_inj (by omega) k' k (by omega) b hb e]
  rfl

end Go.Proofs.Pure
