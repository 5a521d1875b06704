/- Reading a code: both programs find the same. No program in sight. -/
import Derived.Test.YtankoeffbdnffaaDoorAVal
import Derived.Test.YtankoeffbdnffaaDoorAPure
namespace Go.Proofs.Pure
open Go Go.RowKit Go.Proofs.Kit
set_option linter.unusedVariables false
set_option linter.unusedSimpArgs false

theorem cbk (a b : Int) : (a == b) = decide (a = b) := by by_cases q : a = b <;> simp [q]
theorem at_mid {α : Type} (p : List α) (x : α) (q : List α) (m : Nat) (h : p.length = m) : at? (p ++ x :: q) (m : Int) = some x := by
  rw [at_get (by simp; omega)]
  congr 1
  rw [List.getElem_append_right (by omega)]
  simp [h]
theorem set_mid {α : Type} (p : List α) (x y : α) (q : List α) (m : Nat) (h : p.length = m) : set? (p ++ x :: q) (m : Int) y = some (p ++ y :: q) := by
  unfold set?
  rw [if_pos (by constructor <;> simp <;> omega), Int.toNat_natCast, List.set_append_right _ _ (by omega)]
  simp [h]
def Byt (l : List Int) : Prop := ∀ x ∈ l, 0 ≤ x ∧ x < 256
def Dgt (l : List Int) : Prop := ∀ x ∈ l, 0 ≤ x ∧ x < 10

theorem t10_l1 (L : List Int) (hL : L.length = 32) (hb : Byt L) (d : Int) (hd : 0 ≤ d ∧ d < 10) : ∀ (m n : Nat), m ≤ 32 → m < n →
    code_times10.l1 4000 n (mulD 10 256 d (L.drop m)).1 ((m : Int) - 1) (L.take m ++ (mulD 10 256 d (L.drop m)).2) = some (decide ((mulD 10 256 d L).1 = 0), (mulD 10 256 d L).2) := by
  intro m
  induction m with
  | zero =>
    intro n _ hn
    obtain ⟨n, rfl⟩ : ∃ q, n = q + 1 := ⟨n - 1, by omega⟩
    rw [code_times10.l1, if_neg (by simp), code_times10.j1, cbk]
    simp
  | succ m ih =>
    intro n hm hn
    obtain ⟨n, rfl⟩ : ∃ q, n = q + 1 := ⟨n - 1, by omega⟩
    have hml : m < L.length := by omega
    have hx := hb _ (List.getElem_mem hml)
    have hC := mul_carry (f := 10) (b := 256) (by omega) (by omega) hd (L.drop (m + 1)) (fun x hx => hb x (List.mem_of_mem_drop hx))
    have e0 : ((m + 1 : Nat) : Int) - 1 = (m : Int) := by omega
    have et : L.take (m + 1) = L.take m ++ [L[m]] := by rw [List.take_add_one, List.getElem?_eq_getElem hml]; rfl
    have htl : (L.take m).length = m := by rw [List.length_take]; omega
    have ed : mulD 10 256 d (L.drop m) = (((mulD 10 256 d (L.drop (m + 1))).1 + 10 * L[m]) / 256, (((mulD 10 256 d (L.drop (m + 1))).1 + 10 * L[m]) % 256) :: (mulD 10 256 d (L.drop (m + 1))).2) := by
      rw [List.drop_eq_getElem_cons hml]; rfl
    have g := ih n (by omega) (by omega)
    rw [ed] at g
    rw [code_times10.l1, e0, if_pos (by simp), if_pos (by omega), et, List.append_assoc]
    simp only [List.singleton_append]
    rw [at_mid _ _ _ m htl]
    simp only [Option.bind_some]
    rw [wi64 (show -9223372036854775808 ≤ L[m] ∧ L[m] < 9223372036854775808 by omega), mul64 (show -9223372036854775808 ≤ 10 * L[m] ∧ 10 * L[m] < 9223372036854775808 by omega), add64 (by omega), wu8, shr_def (by decide), if_pos (by omega), set_mid _ _ _ _ m htl, sub64 (by omega)]
    simp only [Option.bind_some]
    exact g
theorem t10_eq (L : List Int) (hL : L.length = 32) (hb : Byt L) (d : Int) (hd : 0 ≤ d ∧ d < 10) : code_times10 4000 L d = some (decide ((mulD 10 256 d L).1 = 0), (mulD 10 256 d L).2) := by
  unfold code_times10
  have := t10_l1 L hL hb d hd 32 4000 (by omega) (by omega)
  rw [List.drop_eq_nil_of_le (by omega), List.take_of_length_le (by omega)] at this
  rw [wi64 (by omega)]
  simpa [mulD] using this
def rdK : List Int → List Int → Option (List Int)
  | [], k => some k
  | d :: ds, k => if (mulD 10 256 d k).1 = 0 then rdK ds (mulD 10 256 d k).2 else none
def Z32 : List Int := [0, 0, 0, 0, 0, 0, 0, 0, 0, 0, 0, 0, 0, 0, 0, 0, 0, 0, 0, 0, 0, 0, 0, 0, 0, 0, 0, 0, 0, 0, 0, 0]
def rdR : Option (List Int) → List Int × Int
  | some k => (k, 0)
  | none => (Z32, 4)
theorem rd_l1 (D : List Int) (b : Bool) (hD : D.length = 80) (hd : Dgt D) : ∀ (m i n : Nat) (k : List Int), i + m = 78 → m < n → k.length = 32 → Byt k → code_Read.l1 4000 (D, b) n (i : Int) k = some (rdR (rdK ((D.take 78).drop i) k)) := by
  intro m
  induction m with
  | zero =>
    intro i n k hi hn hk hb
    obtain ⟨n, rfl⟩ : ∃ q, n = q + 1 := ⟨n - 1, by omega⟩
    rw [code_Read.l1, if_neg (by simp; omega), List.drop_eq_nil_of_le (by rw [List.length_take]; omega), code_Read.j1]; rfl
  | succ m ih =>
    intro i n k hi hn hk hb
    obtain ⟨n, rfl⟩ : ∃ q, n = q + 1 := ⟨n - 1, by omega⟩
    have hil : i < D.length := by omega
    have hdi := hd _ (List.getElem_mem hil)
    have ed : (D.take 78).drop i = D[i] :: (D.take 78).drop (i + 1) := by
      rw [List.drop_eq_getElem_cons (by rw [List.length_take]; omega), List.getElem_take]
    rw [code_Read.l1, if_pos (by simp; omega), if_pos (by constructor <;> simp <;> omega), at_get hil, ed]
    simp only [Option.bind_some, t10_eq k hk hb _ hdi]
    unfold rdK
    by_cases c : (mulD 10 256 D[i] k).1 = 0
    · rw [if_pos c, decide_eq_true c, if_neg (by simp), add64 (by omega), show (i : Int) + 1 = ((i + 1 : Nat) : Int) by omega]
      exact ih (i + 1) n _ (by omega) (by omega) (by rw [mul_len]; exact hk) (mul_dig (by omega) k)
    · rw [if_neg c, decide_eq_false c, if_pos (by simp)]
      rfl
def ckF (n : Int) (l : List Int) : Int := l.foldl (fun n d => (n * 10 + d) % 97) n
def ckN (D : List Int) : Int := 98 - (ckF 0 (D.take 78) * 100) % 97
theorem ckF_bound (l : List Int) : ∀ n : Int, 0 ≤ n ∧ n < 97 → 0 ≤ ckF n l ∧ ckF n l < 97 := by
  induction l with
  | nil => intro n h; exact h
  | cons x l ih => intro n h; exact ih _ ⟨Int.emod_nonneg _ (by omega), Int.emod_lt_of_pos _ (by omega)⟩
theorem ck_l1 (l : List Int) (hl : l.length ≤ 1000) (hd : Dgt l) : ∀ (m i n : Nat) (c : Int), i + m = l.length → m < n → 0 ≤ c ∧ c < 97 → code_digits_check.l1 4000 l n c (i : Int) = code_digits_check.j1 4000 (ckF c (l.drop i)) := by
  intro m
  induction m with
  | zero =>
    intro i n c hi hn hc
    obtain ⟨n, rfl⟩ : ∃ q, n = q + 1 := ⟨n - 1, by omega⟩
    rw [code_digits_check.l1, if_neg (by simp; omega), List.drop_eq_nil_of_le (by omega)]; rfl
  | succ m ih =>
    intro i n c hi hn hc
    obtain ⟨n, rfl⟩ : ∃ q, n = q + 1 := ⟨n - 1, by omega⟩
    have hil : i < l.length := by omega
    have hdi := hd _ (List.getElem_mem hil)
    rw [code_digits_check.l1, if_pos (by simp; omega), at_get hil, List.drop_eq_getElem_cons hil]
    simp only [Option.bind_some]
    rw [wi64 (by omega), mul64 (by omega), add64 (by omega), rem_pos (by omega), add64 (by omega), show (i : Int) + 1 = ((i + 1 : Nat) : Int) by omega, ih (i + 1) n _ (by omega) (by omega) ⟨Int.emod_nonneg _ (by omega), Int.emod_lt_of_pos _ (by omega)⟩, Int.mul_comm 10 c]
    rfl
theorem check_eq (D : List Int) (hD : D.length = 80) (hd : Dgt D) : code_digits_check 4000 D = some (ckN D / 10, ckN D % 10) := by
  have h0 := ckF_bound (D.take 78) 0 (by omega)
  unfold code_digits_check ckN
  have h1 : cut? D 0 78 = some (D.take 78) := cut_pre (l := D) (n := 78) (by omega)
  rw [h1]
  simp only [Option.bind_some]
  have h2 := ck_l1 (D.take 78) (by rw [List.length_take]; omega) (fun x hx => hd x (List.mem_of_mem_take hx)) 78 0 4000 0 (by rw [List.length_take]; omega) (by omega) (by omega)
  rw [show ((0 : Nat) : Int) = 0 from rfl, List.drop_zero] at h2
  rw [h2]
  generalize ckF 0 (D.take 78) = n at h0
  unfold code_digits_check.j1
  rw [mul64 (by omega), rem_pos (by omega), sub64 (by omega), quo64 (by omega) (by omega), rem_pos (by omega), Int.mul_comm 100 n]
  simp only [Option.bind_some]
  rw [wu8s (by omega), wu8s (by omega)]
theorem rcheck_eq (D : List Int) (hD : 78 ≤ D.length) (hl : D.length ≤ 1000) (hd : Dgt D) : cabalref27_Check 4000 D = some (ckN D) := by
  have key : ∀ (m i n : Nat) (c : Int), i + m = 78 → m < n → 0 ≤ c ∧ c < 97 → cabalref27_Check.l1 4000 D n c (i : Int) = cabalref27_Check.j1 4000 (ckF c ((D.take 78).drop i)) := by
    intro m
    induction m with
    | zero =>
      intro i n c hi hn hc
      obtain ⟨n, rfl⟩ : ∃ q, n = q + 1 := ⟨n - 1, by omega⟩
      rw [cabalref27_Check.l1, if_neg (by simp; omega), List.drop_eq_nil_of_le (by rw [List.length_take]; omega)]; rfl
    | succ m ih =>
      intro i n c hi hn hc
      obtain ⟨n, rfl⟩ : ∃ q, n = q + 1 := ⟨n - 1, by omega⟩
      have hil : i < D.length := by omega
      have hdi := hd _ (List.getElem_mem hil)
      have ed : (D.take 78).drop i = D[i] :: (D.take 78).drop (i + 1) := by
        rw [List.drop_eq_getElem_cons (by rw [List.length_take]; omega), List.getElem_take]
      rw [cabalref27_Check.l1, if_pos (by simp; omega), at_get hil, ed]
      simp only [Option.bind_some]
      rw [mul64 (by omega), add64 (by omega), rem_pos (by omega), add64 (by omega), show (i : Int) + 1 = ((i + 1 : Nat) : Int) by omega, ih (i + 1) n _ (by omega) (by omega) ⟨Int.emod_nonneg _ (by omega), Int.emod_lt_of_pos _ (by omega)⟩]
      rfl
  unfold cabalref27_Check ckN
  have h := key 78 0 4000 0 (by omega) (by omega) (by omega)
  rw [show ((0 : Nat) : Int) = 0 from rfl, List.drop_zero] at h
  have h0 := ckF_bound (D.take 78) 0 (by omega)
  rw [h]
  generalize ckF 0 (D.take 78) = n at h0
  unfold cabalref27_Check.j1
  rw [mul64 (by omega), rem_pos (by omega), sub64 (by omega)]
theorem ckN_bound (D : List Int) : 2 ≤ ckN D ∧ ckN D ≤ 98 := by
  unfold ckN
  have h1 : 0 ≤ (ckF 0 (D.take 78) * 100) % 97 := Int.emod_nonneg _ (by omega)
  have h2 : (ckF 0 (D.take 78) * 100) % 97 < 97 := Int.emod_lt_of_pos _ (by omega)
  omega

/-- does the i-th byte fit? -/
def fitS (s : List Int) (i : Nat) : Bool := if i % 6 = 5 then decide (s.getD i 0 = 32) else decide (48 ≤ s.getD i 0) && decide (s.getD i 0 ≤ 57)
def fmtS (s : List Int) : Nat → Bool
  | 0 => true
  | i + 1 => fmtS s i && fitS s i
def dgs (s : List Int) : Nat → List Int
  | 0 => []
  | i + 1 => if i % 6 = 5 then dgs s i else dgs s i ++ [s.getD i 0 - 48]
theorem dgs_len (s : List Int) : ∀ i, (dgs s i).length = i - i / 6
  | 0 => rfl
  | i + 1 => by
    unfold dgs
    have := dgs_len s i
    split
    · omega
    · rw [List.length_append, List.length_singleton]; omega
theorem dgs_dgt (s : List Int) : ∀ i, fmtS s i = true → Dgt (dgs s i)
  | 0, _ => fun x hx => by cases hx
  | i + 1, h => by
    unfold fmtS at h
    rw [Bool.and_eq_true] at h
    have ih := dgs_dgt s i h.1
    unfold dgs
    split
    · exact ih
    · rename_i c
      intro x hx
      rcases List.mem_append.1 hx with e | e
      · exact ih x e
      · have h2 := h.2
        unfold fitS at h2
        rw [if_neg c, Bool.and_eq_true, decide_eq_true_eq, decide_eq_true_eq] at h2
        have e := List.mem_singleton.1 e
        omega
theorem fmt_suf {s : List Int} : ∀ {i j : Nat}, fmtS s (i + j) = true → fmtS s i = true
  | i, 0, h => h
  | i, j + 1, h => by
    have h' : (fmtS s (i + j) && fitS s (i + j)) = true := h
    rw [Bool.and_eq_true] at h'
    exact fmt_suf h'.1
theorem getD_at {s : List Int} {i : Nat} (h : i < s.length) : s.getD i 0 = s[i] := by rw [List.getD_eq_getElem?_getD, List.getElem?_eq_getElem h]; rfl
theorem read_l1 (s : List Int) (hs : s.length = 95) (hb : Byt s) : ∀ (m i n : Nat), i + m = 95 → m < n → fmtS s i = true →
    ∃ r, code_read.l1 4000 s n (i : Int) (dgs s i ++ List.replicate (80 - (i - i / 6)) 0) = some r ∧ (fmtS s 95 = true → r = (dgs s 95, true)) ∧ (fmtS s 95 = false → r.2 = false) := by
  intro m
  induction m with
  | zero =>
    intro i n hi hn hf
    obtain ⟨n, rfl⟩ : ∃ q, n = q + 1 := ⟨n - 1, by omega⟩
    have : i = 95 := by omega
    subst this
    rw [code_read.l1, if_neg (by simp; omega), code_read.j1]
    exact ⟨_, rfl, fun _ => by simp, (fun h => by rw [hf] at h; cases h)⟩
  | succ m ih =>
    intro i n hi hn hf
    obtain ⟨n, rfl⟩ : ∃ q, n = q + 1 := ⟨n - 1, by omega⟩
    have hil : i < s.length := by omega
    have hbi := hb _ (List.getElem_mem hil)
    have hg := getD_at hil
    have er : irem (i : Int) 6 = ((i % 6 : Nat) : Int) := by rw [rem_pos (by omega)]; simp
    have hnext : iadd .i64 (i : Int) 1 = ((i + 1 : Nat) : Int) := by rw [add64 (by omega)]; omega
    have hlast : ∀ b, fitS s i = b → fmtS s (i + 1) = b := fun b h => by unfold fmtS; rw [hf, h]; cases b <;> rfl
    have hno : fitS s i = false → fmtS s 95 = false := fun h => by
      rw [Bool.eq_false_iff]
      intro hc
      have := fmt_suf (i := i + 1) (j := 95 - (i + 1)) (by rw [show i + 1 + (95 - (i + 1)) = 95 by omega]; exact hc)
      rw [hlast _ h] at this; cases this
    rw [code_read.l1, if_pos (by simp; omega), at_get hil, er, cbk]
    by_cases c : i % 6 = 5
    · rw [decide_eq_true (show ((i % 6 : Nat) : Int) = 5 by omega)]
      simp only [beq_self_eq_true, if_true, Option.bind_some]
      have hfi : fitS s i = decide (s[i] = 32) := by unfold fitS; rw [if_pos c, hg]
      by_cases w : s[i] = 32
      · rw [if_neg (by simp [w])]
        simp only [Bool.not_true, Bool.false_eq_true, if_false, Option.bind_some, code_read.j3, code_read.j2, hnext, er, cbk, beq_iff_eq]
        rw [decide_eq_true (show ((i % 6 : Nat) : Int) = 5 by omega)]
        simp only [Bool.not_true, Bool.false_eq_true, if_false]
        have g := ih (i + 1) n (by omega) (by omega) (hlast true (by rw [hfi]; exact decide_eq_true w))
        unfold dgs at g
        rw [if_pos c, show i + 1 - (i + 1) / 6 = i - i / 6 by omega] at g
        exact g
      · rw [if_pos (by simpa using w), code_read.j3, if_pos (by simpa using w)]
        exact ⟨_, rfl, (fun h => by rw [hno (by rw [hfi]; exact decide_eq_false w)] at h; cases h), fun _ => rfl⟩
    · rw [decide_eq_false (show ¬ ((i % 6 : Nat) : Int) = 5 by omega)]
      have hfi : fitS s i = (decide (48 ≤ s[i]) && decide (s[i] ≤ 57)) := by unfold fitS; rw [if_neg c, hg]
      simp only [beq_iff_eq, Bool.false_eq_true, if_false, Option.bind_some, Bool.not_false, if_true]
      by_cases w : 48 ≤ s[i] ∧ s[i] ≤ 57
      · rw [decide_eq_false (show ¬ s[i] < 48 by omega)]
        simp only [beq_self_eq_true, Bool.and_self, if_true, Option.bind_some, Bool.false_eq_true, if_false]
        rw [decide_eq_false (show ¬ s[i] > 57 by omega)]
        simp only [code_read.j3, code_read.j2, Bool.false_eq_true, if_false, er, cbk]
        rw [decide_eq_false (show ¬ ((i % 6 : Nat) : Int) = 5 by omega)]
        simp only [Bool.not_false, if_true, at_get hil, Option.bind_some]
        have eq6 : isub .i64 (i : Int) (iquo .i64 (i : Int) 6) = ((i - i / 6 : Nat) : Int) := by
          rw [quo64 (by omega) (by omega), sub64 (by omega)]; omega
        have es : isub .u8 s[i] 48 = s[i] - 48 := wu8s (by omega)
        have hdl := dgs_len s i
        have erep : List.replicate (80 - (i - i / 6)) (0 : Int) = 0 :: List.replicate (80 - (i + 1 - (i + 1) / 6)) 0 := by
          rw [show 80 - (i - i / 6) = (80 - (i + 1 - (i + 1) / 6)) + 1 by omega]; rfl
        rw [eq6, es, erep, if_pos (by omega), set_mid _ _ _ _ (i - i / 6) hdl]
        simp only [Option.bind_some, hnext]
        have g := ih (i + 1) n (by omega) (by omega) (hlast true (by rw [hfi, decide_eq_true w.1, decide_eq_true w.2]; rfl))
        unfold dgs at g
        rw [if_neg c, hg, List.append_assoc] at g
        exact g
      · have hbad : (if decide (s[i] < 48) = true then true else decide (s[i] > 57)) = true := by
          by_cases w2 : s[i] < 48
          · rw [if_pos (decide_eq_true w2)]
          · rw [if_neg (by simpa using w2)]; exact decide_eq_true (by omega)
        have hfb : fitS s i = false := by
          rw [hfi, ← Bool.decide_and]; exact decide_eq_false w
        by_cases w2 : s[i] < 48
        · rw [decide_eq_true w2]
          simp only [Option.bind_some, code_read.j3, if_true, Bool.true_eq_false, if_false]
          exact ⟨_, rfl, (fun h => by rw [hno hfb] at h; cases h), fun _ => rfl⟩
        · rw [decide_eq_false w2]
          simp only [beq_self_eq_true, Bool.and_self, Option.bind_some, if_true, Bool.false_eq_true, if_false]
          rw [decide_eq_true (show s[i] > 57 by omega), code_read.j3, if_pos rfl]
          exact ⟨_, rfl, (fun h => by rw [hno hfb] at h; cases h), fun _ => rfl⟩
def ckOk (D : List Int) : Bool := decide (D.getD 78 0 = ckN D / 10) && decide (D.getD 79 0 = ckN D % 10)
/-- what is read -/
def readR (s : List Int) : List Int × Int :=
  if s.length = 95 ∧ fmtS s 95 = true then (if ckOk (dgs s 95) = true then rdR (rdK ((dgs s 95).take 78) (List.replicate 32 0)) else (Z32, 2)) else (Z32, 4)
theorem rep_byt : Byt (List.replicate 32 0) := fun x hx => by rw [List.eq_of_mem_replicate hx]; omega
theorem Read_eq (s : List Int) (hs : s.length ≤ 1000) (hb : Byt s) : code_Read 4000 s = some (readR s) := by
  unfold code_Read code_read readR
  by_cases c : s.length = 95
  · rw [if_neg (by simp [c])]
    obtain ⟨r, h1, h2, h3⟩ := read_l1 s c hb 95 0 4000 (by omega) (by omega) rfl
    have h1' : code_read.l1 4000 s 4000 0 (List.replicate 80 0) = some r := h1
    rw [h1']
    simp only [Option.bind_some]
    cases hf : fmtS s 95 with
    | false =>
      rw [h3 hf]
      simp only [Bool.not_false, if_true, Bool.false_eq_true, and_false, if_false]
      rfl
    | true =>
      have hr := h2 hf
      have hdl : (dgs s 95).length = 80 := dgs_len s 95
      have hdd := dgs_dgt s 95 hf
      rw [hr]
      simp only [Bool.not_true, Bool.false_eq_true, if_false, Option.bind_some, c, true_and, if_true]
      have a78 : at? (dgs s 95) 78 = some (dgs s 95)[78] := at_get (l := dgs s 95) (i := 78) (by omega)
      have a79 : at? (dgs s 95) 79 = some (dgs s 95)[79] := at_get (l := dgs s 95) (i := 79) (by omega)
      rw [check_eq _ hdl hdd, a78, a79]
      simp only [Option.bind_some]
      have g78 := getD_at (s := dgs s 95) (i := 78) (by omega)
      have g79 := getD_at (s := dgs s 95) (i := 79) (by omega)
      unfold ckOk
      rw [g78, g79]
      have hl := rd_l1 (dgs s 95) true hdl hdd 78 0 4000 (List.replicate 32 0) (by omega) (by omega) (by simp) rep_byt
      rw [show ((0 : Nat) : Int) = 0 from rfl, List.drop_zero] at hl
      by_cases a : (dgs s 95)[78] = ckN (dgs s 95) / 10
      · rw [decide_eq_true a, if_pos (by simp [a])]
        simp only [Option.bind_some]
        by_cases b : (dgs s 95)[79] = ckN (dgs s 95) % 10
        · rw [decide_eq_true b, if_neg (by simp [a, b]), hl, Bool.and_self, if_pos rfl]
        · rw [decide_eq_false b, if_pos (by simp [a, b])]
          rfl
      · rw [decide_eq_false a]
        have : ((dgs s 95)[78] != ckN (dgs s 95) / 10) = true := by simpa using a
        rw [this]
        rfl
  · rw [if_pos (by simp; omega), if_neg (fun h => c h.1)]
    rfl

end Go.Proofs.Pure
