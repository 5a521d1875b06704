/- What is due, and what is lacking, of a right graph's beginning. No program in sight. -/
import Derived.Test.YtdlnfgpcnfbjiaaABehind
namespace Go.Proofs.Pure
open Go Go.RowKit Go.Proofs.Kit
set_option linter.unusedVariables false

def due (a b : List Int) (p : Int) : Bool :=
  if p < 0 ∨ 8 ≤ p then false else if b.getD p.toNat 0 = 0 then false else if b.getD p.toNat 0 ≠ a.getD p.toNat 0 + 1 then false else decide (le8 (b.set p.toNat (a.getD p.toNat 0)) a)

theorem due_eq {a b : List Int} (p : Int) (ha : Clock a) (hb : Clock b) : clock_Due 4000 a b p = some (due a b p) := by
  unfold clock_Due due
  by_cases h0 : p < 0 ∨ 8 ≤ p
  · have e : (if decide (p < 0) = true then true else decide (p ≥ 8)) = true := by
      rcases h0 with h | h
      · simp [h]
      · simp [h]
    simp only [e, Option.bind_some, if_pos h0]
    simp
  · obtain ⟨i, rfl⟩ : ∃ i : Nat, p = i := ⟨p.toNat, by omega⟩
    have hi : i < 8 := by omega
    have hix : (0 : Int) ≤ (i : Int) ∧ (i : Int) < 8 := by omega
    have e : (if decide ((i : Int) < 0) = true then true else decide ((i : Int) ≥ 8)) = false := by simp; omega
    have ea : at? a (i : Int) = some (a.getD i 0) := at?_len (by rw [ha.len]; omega) 0
    have eb : at? b (i : Int) = some (b.getD i 0) := at?_len (by rw [hb.len]; omega) 0
    have hs : ∀ y : Int, set? b (i : Int) y = some (b.set i y) := by
      intro y; unfold set?; simp; rw [hb.len]; omega
    have ra := ha.rng (a.getD i 0) (by rw [List.getD_eq_getElem?_getD, List.getElem?_eq_getElem (by rw [ha.len]; omega)]; simp)
    have rb := hb.rng (b.getD i 0) (by rw [List.getD_eq_getElem?_getD, List.getElem?_eq_getElem (by rw [hb.len]; omega)]; simp)
    have hc : Clock (b.set i (a.getD i 0)) := ⟨by simp [hb.len], fun x hx => by
      rcases List.mem_or_eq_of_mem_set hx with h | h
      · exact hb.rng x h
      · subst h; exact ra⟩
    have hwin := within_eq 4000 (by omega) hc ha
    simp only [e, Option.bind_some, if_neg h0, ea, eb, hs, hix, and_self, implies_true, if_true, Int.toNat_natCast, hwin]
    generalize decide (le8 (b.set i (a.getD i 0)) a) = q
    generalize b.getD i 0 = B at *
    generalize a.getD i 0 = A at *
    by_cases hz : B = 0
    · subst hz; simp
    · have hw : isub .u32 B 1 = B - 1 := by unfold isub; rw [IntKind.wrap_u32]; omega
      by_cases hq : B = A + 1
      · subst hq
        have h2 : A + 1 - 1 = A := by omega
        rw [h2] at hw
        simp [hz, hw]
      · have h2 : ¬ (B - 1 = A) := by omega
        simp [hz, hw, h2, hq]


/-! #### a right graph's beginning -/
theorem rightL_of {p : List api_Node} : ∀ (m j : Nat), (∀ (i : Nat) (h : i < p.length), j ≤ i → i < j + m → fitB (p.take i) p[i] = true) → rightL p j m = true := by
  intro m
  induction m with
  | zero => intro j _; rfl
  | succ m ih =>
    intro j h
    unfold rightL
    rw [ih (j + 1) (fun i hi h1 h2 => h i hi (by omega) (by omega)), Bool.and_true]
    by_cases c : j < p.length
    · rw [List.getElem?_eq_getElem c]
      exact h j c (by omega) (by omega)
    · rw [List.getElem?_eq_none (by omega)]
theorem right_take {p : List api_Node} (hr : rightG p = true) (t : Nat) : rightG (p.take t) = true := by
  have hl := right_len hr
  have hr2 := hr
  unfold rightG at hr2
  rw [Bool.and_eq_true] at hr2
  unfold rightG
  rw [Bool.and_eq_true]
  refine ⟨decide_eq_true (by rw [List.length_take]; omega), rightL_of _ _ (fun i hi h1 h2 => ?_)⟩
  have hi2 := hi
  rw [List.length_take] at hi2
  have := rightL_at _ _ hr2.2 i (by omega) (by omega) (by omega)
  rw [List.getElem_take, List.take_take, Nat.min_eq_left (by omega)]
  exact this

theorem auth_take (p : List api_Node) (t : Nat) (v : Int) (h : 0 ≤ v ∧ v < t) : auth (p.take t) v = auth p v := by
  unfold auth
  rw [List.getElem?_take_of_lt (by omega)]
theorem cntL_take (p : List api_Node) (t : Nat) (l : List Int) : ∀ y, (∀ v ∈ l, 0 ≤ v ∧ v < t) → cntL (p.take t) y l = cntL p y l := by
  induction l with
  | nil => intro y _; rfl
  | cons v l ih =>
    intro y h
    unfold cntL
    rw [auth_take p t v (h v (by simp)), ih _ (fun w hw => h w (by simp [hw]))]
/-- how many of each member's nodes are among the first t -/
def pre (p : List api_Node) (t : Nat) : List Int := cntL p Z8 (coll (fun j => decide (j < t)) 0 p.length)
theorem upto_coll (t n : Nat) (h : t ≤ n) : coll (fun j => decide (j < t)) 0 n = upto 0 t := by
  obtain ⟨k, rfl⟩ : ∃ k, n = t + k := ⟨n - t, by omega⟩
  rw [coll_add, coll_none _ k (0 + t) (fun j h1 h2 => decide_eq_false (by omega)), List.append_nil]
  exact coll_congr _ _ _ _ (fun j h1 h2 => decide_eq_true (by omega))
theorem all_take (p : List api_Node) (hf : Few p) (hr : rightG p = true) (t : Nat) (ht : t ≤ p.length) : clock_All 4000 (p.take t) = some (pre p t, 0) := by
  have hl : (p.take t).length = t := by rw [List.length_take]; omega
  rw [all_eq _ (hf.take t) (right_take hr t), hl]
  unfold pre
  rw [upto_coll t p.length ht, cntL_take p t _ _ (fun v hv => by
    obtain ⟨j, h1, _, h3, _⟩ := (coll_mem _ _ _ _).1 hv
    omega)]
theorem pre_get {p : List api_Node} (hr : rightG p = true) (t a : Nat) (ha : a < 8) : (pre p t).getD a 0 = (num (fun j => decide (j < t) && auth p (j : Int) == (a : Int)) 0 p.length : Int) := by
  unfold pre
  rw [cntL_get (right_auth hr) _ a ha _ _ _ rfl, Z8_get a ha, Int.zero_add]
theorem pre_clock {p : List api_Node} (hr : rightG p = true) (hf : Few p) (t : Nat) : Clock (pre p t) := by
  have := hf.len
  exact (cntL_small (right_auth hr) _ 0 Z8 small0).clock (by have := coll_len (fun j => decide (j < t)) p.length 0; omega)
theorem num_zero (m : Nat) : ∀ i, num (fun _ => false) i m = 0 := by
  induction m with
  | zero => intro i; rfl
  | succ m ih => intro i; unfold num; rw [ih]; rfl
theorem num_one (f : Nat → Bool) (m : Nat) : ∀ i x, i ≤ x → x < i + m → f x = false → num (fun j => decide (j = x) || f j) i m = num f i m + 1 := by
  induction m with
  | zero => intro i x h1 h2; omega
  | succ m ih =>
    intro i x h1 h2 h3
    unfold num
    by_cases c : i = x
    · subst c
      rw [h3, num_congr (fun j => decide (j = i) || f j) f m (i + 1) (fun j g1 g2 => by rw [decide_eq_false (by omega), Bool.false_or])]
      simp; omega
    · rw [ih (i + 1) x (by omega) (by omega) h3, decide_eq_false c, Bool.false_or]; omega

/-- what is due -/
theorem due_iff {p : List api_Node} (hf : Few p) (hr : rightG p = true) (t i : Nat) (ht : t ≤ p.length) (hi : i < p.length) : due (pre p t) (clk p i) (auth p (i : Int)) = true ↔ t ≤ i ∧ ∀ u, Beh p u i → u < t := by
  have hau := auth_rng (right_auth hr) (i : Int)
  obtain ⟨q, hq⟩ : ∃ q : Nat, auth p (i : Int) = q := ⟨(auth p (i : Int)).toNat, by omega⟩
  have hq8 : q < 8 := by omega
  have hB := clk_get hr i hi
  have hA := pre_get hr t
  have hclen := (clk_clock hr hf i hi).len
  have hd : due (pre p t) (clk p i) (auth p (i : Int)) = true ↔ ((clk p i).getD q 0 = (pre p t).getD q 0 + 1 ∧ ∀ r, r < 8 → r ≠ q → (clk p i).getD r 0 ≤ (pre p t).getD r 0) := by
    have set_get : ∀ r, r < 8 → ((clk p i).set q ((pre p t).getD q 0)).getD r 0 = if q = r then (pre p t).getD q 0 else (clk p i).getD r 0 := fun r hr8 => by
      rw [List.getD_eq_getElem?_getD, List.getElem?_set]
      by_cases c : q = r
      · subst c; rw [if_pos rfl, if_pos rfl, if_pos (by omega)]; rfl
      · rw [if_neg c, if_neg c, ← List.getD_eq_getElem?_getD]
    unfold due
    rw [hq, if_neg (by omega), Int.toNat_natCast]
    constructor
    · intro h
      by_cases c0 : (clk p i).getD q 0 = 0
      · rw [if_pos c0] at h; cases h
      rw [if_neg c0] at h
      by_cases c1 : (clk p i).getD q 0 = (pre p t).getD q 0 + 1
      · rw [if_neg (by simpa using c1)] at h
        refine ⟨c1, fun r hr8 hrq => ?_⟩
        have := of_decide_eq_true h r hr8
        rw [set_get r hr8, if_neg (fun e => hrq e.symm)] at this
        exact this
      · rw [if_pos c1] at h; cases h
    · rintro ⟨c1, c2⟩
      have hn : 0 ≤ (pre p t).getD q 0 := by rw [hA q hq8]; omega
      rw [if_neg (by omega), if_neg (by simpa using c1)]
      refine decide_eq_true (fun r hr8 => ?_)
      rw [set_get r hr8]
      by_cases c : q = r
      · subst c; rw [if_pos rfl]; exact Int.le_refl _
      · rw [if_neg c]; exact c2 r hr8 (fun e => c e.symm)
  rw [hd, hB q hq8, hA q hq8]
  have own1 : num (fun j => inH p i j && auth p (j : Int) == (q : Int)) 0 p.length = num (fun j => behB p j i && auth p (j : Int) == (q : Int)) 0 p.length + 1 := by
    rw [← num_one _ p.length 0 i (by omega) (by omega) (show (behB p i i && auth p (i : Int) == (q : Int)) = false by
      rw [Bool.and_eq_false_iff]; left
      rw [Bool.eq_false_iff]
      intro g
      have := (beh_lt hr ((behB_iff hi).1 g)).1; omega)]
    apply num_congr
    intro j _ _
    by_cases c : j = i
    · subst c
      have : inH p j j = true := (inH_iff hi j).2 (.inl rfl)
      rw [this, hq]; simp
    · have : inH p i j = behB p j i := by
        rw [Bool.eq_iff_iff, inH_iff hi, behB_iff hi]
        exact ⟨fun h => h.resolve_left c, .inr⟩
      rw [this, decide_eq_false c, Bool.false_or]
  constructor
  · rintro ⟨h1, h2⟩
    have hti : t ≤ i := by
      by_cases c : t ≤ i
      · exact c
      · exfalso
        have := num_le (fun j => inH p i j && auth p (j : Int) == (q : Int)) (fun j => decide (j < t) && auth p (j : Int) == (q : Int)) p.length 0 (fun j _ _ g => by
          simp only [Bool.and_eq_true, beq_iff_eq] at g ⊢
          refine ⟨decide_eq_true ?_, g.2⟩
          rcases (inH_iff hi j).1 g.1 with e | e
          · omega
          · have := (beh_lt hr e).1; omega)
        omega
    refine ⟨hti, fun u hu => ?_⟩
    by_cases c : u < t
    · exact c
    · exfalso
      have hul := (beh_lt hr hu).1
      have hau2 := auth_rng (right_auth hr) (u : Int)
      obtain ⟨r, hrr⟩ : ∃ r : Nat, auth p (u : Int) = r := ⟨(auth p (u : Int)).toNat, by omega⟩
      have lt := num_lt (fun j => decide (j < t) && auth p (j : Int) == (r : Int)) (fun j => behB p j i && auth p (j : Int) == (r : Int)) p.length 0 (fun j _ hj g => by
        simp only [Bool.and_eq_true, beq_iff_eq, decide_eq_true_eq] at g ⊢
        refine ⟨(behB_iff hi).2 ?_, g.2⟩
        exact beh_trans hr i i j u (Nat.le_refl _) (beh_own hr j u (by omega) (by omega) (by rw [g.2, hrr])) hu) ⟨u, by omega, by omega, by
          rw [decide_eq_false c, Bool.false_and], by
          simp only [Bool.and_eq_true, beq_iff_eq]
          exact ⟨(behB_iff hi).2 hu, hrr⟩⟩
      by_cases e : r = q
      · subst e
        omega
      · have h3 := h2 r (by omega) e
        rw [hB r (by omega), hA r (by omega)] at h3
        have := num_le (fun j => behB p j i && auth p (j : Int) == (r : Int)) (fun j => inH p i j && auth p (j : Int) == (r : Int)) p.length 0 (fun j _ _ g => by
          simp only [Bool.and_eq_true, beq_iff_eq] at g ⊢
          exact ⟨(inH_iff hi j).2 (.inr ((behB_iff hi).1 g.1)), g.2⟩)
        omega
  · rintro ⟨h1, h2⟩
    constructor
    · rw [own1, num_congr (fun j => behB p j i && auth p (j : Int) == (q : Int)) (fun j => decide (j < t) && auth p (j : Int) == (q : Int)) p.length 0 (fun j _ hj => by
        rw [Bool.eq_iff_iff]
        simp only [Bool.and_eq_true, beq_iff_eq, decide_eq_true_eq]
        constructor
        · rintro ⟨g1, g2⟩; exact ⟨h2 j ((behB_iff hi).1 g1), g2⟩
        · rintro ⟨g1, g2⟩; exact ⟨(behB_iff hi).2 (beh_own hr j i hi (by omega) (by rw [g2, hq])), g2⟩)]
      omega
    · intro r hr8 hrq
      rw [hB r hr8, hA r hr8]
      have := num_le (fun j => inH p i j && auth p (j : Int) == (r : Int)) (fun j => decide (j < t) && auth p (j : Int) == (r : Int)) p.length 0 (fun j _ _ g => by
        simp only [Bool.and_eq_true, beq_iff_eq] at g ⊢
        refine ⟨decide_eq_true ?_, g.2⟩
        rcases (inH_iff hi j).1 g.1 with e | e
        · exfalso; apply hrq; have := g.2; rw [e, hq] at this; omega
        · exact h2 j e)
      omega

/-! #### what is lacking -/
def lackL (a b : List Int) : Nat → Nat → List api_Span
  | _, 0 => []
  | i, m + 1 => if a.getD i 0 < b.getD i 0 then ⟨(i : Int), a.getD i 0 + 1, b.getD i 0⟩ :: lackL a b (i + 1) m else lackL a b (i + 1) m
theorem lackL_len (a b : List Int) (m : Nat) : ∀ i, (lackL a b i m).length ≤ m := by
  induction m with
  | zero => intro i; simp [lackL]
  | succ m ih => intro i; unfold lackL; have := ih (i + 1); split <;> simp <;> omega
theorem lacks_l1 {a b : List Int} (ha : Clock a) (hb : Clock b) (hs : ∀ i, i < 8 → a.getD i 0 < 4294967295) : ∀ (m i n : Nat) (y : List api_Span), i + m = 8 → m < n → y.length ≤ i → clock_Lacks.l1 4000 b a n (i : Int) y = some (y ++ lackL a b i m) := by
  have hL : (1000000 : Nat) ≤ lim := by unfold lim; omega
  intro m
  induction m with
  | zero =>
    intro i n y hi hn hy
    obtain ⟨n, rfl⟩ : ∃ q, n = q + 1 := ⟨n - 1, by omega⟩
    rw [clock_Lacks.l1, if_neg (by simp; omega)]; simp [clock_Lacks.j1, lackL]
  | succ m ih =>
    intro i n y hi hn hy
    obtain ⟨n, rfl⟩ : ∃ q, n = q + 1 := ⟨n - 1, by omega⟩
    have hix : (0 : Int) ≤ (i : Int) ∧ (i : Int) < 8 := by omega
    have h0 : at? a (i : Int) = some (a.getD i 0) := at?_len (by rw [ha.len]; omega) 0
    have h1 : at? b (i : Int) = some (b.getD i 0) := at?_len (by rw [hb.len]; omega) 0
    have ra := ha.rng (a.getD i 0) (by rw [List.getD_eq_getElem?_getD, List.getElem?_eq_getElem (by rw [ha.len]; omega)]; simp)
    have hnext : iadd .i64 (i : Int) 1 = ((i + 1 : Nat) : Int) := by rw [add64 (by omega)]; omega
    have hs1 := hs i (by omega)
    rw [clock_Lacks.l1, if_pos (by simp; omega)]
    simp only [if_pos hix, h0, h1, Option.bind_some, clock_Lacks.j2, hnext]
    unfold lackL
    by_cases c : a.getD i 0 < b.getD i 0
    · rw [if_pos (decide_eq_true c), if_pos (by simp; omega), if_pos c, ih (i + 1) n _ (by omega) (by omega) (by simp; omega), add32 (by omega)]
      simp
    · rw [if_neg (by simpa using c), if_neg c]
      exact ih (i + 1) n _ (by omega) (by omega) (by omega)
def sumS : List api_Span → Int
  | [] => 0
  | s :: l => (s.To - s.From + 1) + sumS l
def gap (a b : List Int) : Nat → Nat → Int
  | _, 0 => 0
  | i, m + 1 => (b.getD i 0 - a.getD i 0) + gap a b (i + 1) m
theorem sumS_lack {a b : List Int} (m : Nat) : ∀ i, (∀ j, i ≤ j → j < i + m → a.getD j 0 ≤ b.getD j 0) → sumS (lackL a b i m) = gap a b i m := by
  induction m with
  | zero => intro i _; rfl
  | succ m ih =>
    intro i h
    have e := ih (i + 1) (fun j h1 h2 => h j (by omega) (by omega))
    have h0 := h i (by omega) (by omega)
    unfold lackL gap
    by_cases c : a.getD i 0 < b.getD i 0
    · rw [if_pos c]; unfold sumS; rw [e]; show b.getD i 0 - (a.getD i 0 + 1) + 1 + _ = _; omega
    · rw [if_neg c, e]; omega
theorem gap8 (a b : List Int) : gap a b 0 8 = (b.getD 0 0 - a.getD 0 0) + ((b.getD 1 0 - a.getD 1 0) + ((b.getD 2 0 - a.getD 2 0) + ((b.getD 3 0 - a.getD 3 0) + ((b.getD 4 0 - a.getD 4 0) + ((b.getD 5 0 - a.getD 5 0) + ((b.getD 6 0 - a.getD 6 0) + ((b.getD 7 0 - a.getD 7 0) + 0))))))) := rfl
def sum8 (y : List Int) : Int := gap Z8 y 0 8
theorem sum8_eq (y : List Int) : sum8 y = y.getD 0 0 + y.getD 1 0 + y.getD 2 0 + y.getD 3 0 + y.getD 4 0 + y.getD 5 0 + y.getD 6 0 + y.getD 7 0 := by
  unfold sum8
  rw [gap8, Z8_get 0 (by omega), Z8_get 1 (by omega), Z8_get 2 (by omega), Z8_get 3 (by omega), Z8_get 4 (by omega), Z8_get 5 (by omega), Z8_get 6 (by omega), Z8_get 7 (by omega)]; omega
theorem gap_sum (a b : List Int) : gap a b 0 8 = sum8 b - sum8 a := by
  rw [sum8_eq, sum8_eq, gap8]; omega
theorem sum8_add {y : List Int} (hy : y.length = 8) (a : Int) (ha : 0 ≤ a ∧ a < 8) : sum8 (addA y a) = sum8 y + 1 := by
  obtain ⟨a, rfl⟩ : ∃ m : Nat, a = m := ⟨a.toNat, by omega⟩
  rw [sum8_eq, sum8_eq]
  simp only [addA_get hy a (by omega)]
  have : a = 0 ∨ a = 1 ∨ a = 2 ∨ a = 3 ∨ a = 4 ∨ a = 5 ∨ a = 6 ∨ a = 7 := by omega
  rcases this with h | h | h | h | h | h | h | h <;> subst h <;> simp <;> omega
theorem sum8_cnt {p : List api_Node} (ha : Auth p) (l : List Int) : ∀ y : List Int, y.length = 8 → sum8 (cntL p y l) = sum8 y + l.length := by
  induction l with
  | nil => intro y _; simp [cntL]
  | cons v l ih =>
    intro y hy
    unfold cntL
    rw [ih _ (by unfold addA; rw [List.length_set]; exact hy), sum8_add hy _ (auth_rng ha v), List.length_cons]; omega
theorem upto_len (m : Nat) : ∀ i, (upto i m).length = m := by
  induction m with
  | zero => intro i; rfl
  | succ m ih => intro i; rw [upto_succ, List.length_cons, ih]
theorem sum8_pre {p : List api_Node} (hr : rightG p = true) (t : Nat) (ht : t ≤ p.length) : sum8 (pre p t) = t := by
  unfold pre
  rw [sum8_cnt (right_auth hr) _ _ rfl, upto_coll t p.length ht, upto_len]
  have : sum8 Z8 = 0 := by decide
  omega

end Go.Proofs.Pure
