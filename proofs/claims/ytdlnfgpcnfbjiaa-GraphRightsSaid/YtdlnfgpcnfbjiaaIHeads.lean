/- A graph's heads: both programs find the same. No program in sight. -/
import Derived.Test.YtdlnfgpcnfbjiaaISort
namespace Go.Proofs.Pure
open Go Go.RowKit Go.Proofs.Kit
set_option linter.unusedVariables false

/-- the names of those that a test lets through -/
def hl (f : Nat → Bool) : Nat → List api_Node → List (List Int)
  | _, [] => []
  | i, x :: l => if f i = true then x.Id :: hl f (i + 1) l else hl f (i + 1) l
theorem hl_cons (f : Nat → Bool) (i : Nat) (x : api_Node) (l : List api_Node) : hl f i (x :: l) = if f i = true then x.Id :: hl f (i + 1) l else hl f (i + 1) l := rfl
theorem hl_len (f : Nat → Bool) (l : List api_Node) : ∀ i, (hl f i l).length ≤ l.length := by
  induction l with
  | nil => intro i; simp [hl]
  | cons x l ih => intro i; unfold hl; have := ih (i + 1); split <;> simp <;> omega
theorem hl_congr (f g : Nat → Bool) (l : List api_Node) : ∀ i, (∀ j, f j = g j) → hl f i l = hl g i l := by
  intro i h
  have : f = g := funext h
  rw [this]
theorem hl_mem (f : Nat → Bool) (l : List api_Node) : ∀ (i : Nat) (z : List Int), z ∈ hl f i l ↔ ∃ j, ∃ h : j < l.length, f (i + j) = true ∧ l[j].Id = z := by
  induction l with
  | nil => intro i z; simp [hl]
  | cons x l ih =>
    intro i z
    have e : (∃ j, ∃ h : j < (x :: l).length, f (i + j) = true ∧ (x :: l)[j].Id = z) ↔ (f i = true ∧ x.Id = z) ∨ ∃ j, ∃ h : j < l.length, f (i + 1 + j) = true ∧ l[j].Id = z := by
      constructor
      · rintro ⟨j, h, g1, g2⟩
        cases j with
        | zero => exact .inl ⟨g1, g2⟩
        | succ j => exact .inr ⟨j, by simpa using h, by rw [show i + 1 + j = i + (j + 1) by omega]; exact g1, g2⟩
      · rintro (⟨g1, g2⟩ | ⟨j, h, g1, g2⟩)
        · exact ⟨0, by simp, g1, g2⟩
        · exact ⟨j + 1, by simpa using h, by rw [show i + (j + 1) = i + 1 + j by omega]; exact g1, g2⟩
    rw [e, ← ih, hl_cons]
    by_cases h : f i = true
    · rw [if_pos h, List.mem_cons]
      constructor
      · rintro (q | q)
        · exact .inl ⟨h, q.symm⟩
        · exact .inr q
      · rintro (⟨_, q⟩ | q)
        · exact .inl q.symm
        · exact .inr q
    · rw [if_neg h]
      constructor
      · exact .inr
      · rintro (⟨q, _⟩ | q)
        · exact absurd q h
        · exact q

/-- node j lies behind no node -/
def isH (p : List api_Node) (j : Nat) : Bool := !p.any (fun x => x.Past.contains (j : Int))
def headsU (p : List api_Node) : List (List Int) := hl (isH p) 0 p

theorem heads_l1 (p : List api_Node) (hp : p.length ≤ 200) (y : List (Int × Bool)) : ∀ (m i n : Nat) (acc : List (List Int)), i + m = p.length → m < n → acc.length ≤ i → graph_Heads.l1 4000 p y n (i : Int) acc = graph_Heads.j2 4000 (acc ++ hl (fun j => !mget y (j : Int)) i (p.drop i)) := by
  have hL : (1000000 : Nat) ≤ lim := by unfold lim; omega
  intro m
  induction m with
  | zero =>
    intro i n acc hi hm ha
    obtain ⟨n, rfl⟩ : ∃ q, n = q + 1 := ⟨n - 1, by omega⟩
    rw [graph_Heads.l1, if_neg (by simp; omega), List.drop_eq_nil_of_le (by omega)]; simp [hl]
  | succ m ih =>
    intro i n acc hi hm ha
    obtain ⟨n, rfl⟩ : ∃ q, n = q + 1 := ⟨n - 1, by omega⟩
    have hil : i < p.length := by omega
    have hnext : iadd .i64 (i : Int) 1 = ((i + 1 : Nat) : Int) := by rw [add64 (by omega)]; omega
    rw [graph_Heads.l1, if_pos (by simp; omega), at_get hil, List.drop_eq_getElem_cons hil]
    simp only [Option.bind_some, graph_Heads.j3, hnext]
    unfold hl
    by_cases h : (!mget y (i : Int)) = true
    · rw [if_pos h, if_pos (by simp; omega), if_pos h, ih (i + 1) n _ (by omega) (by omega) (by simp; omega)]
      simp
    · rw [if_neg h, if_neg h]
      exact ih (i + 1) n _ (by omega) (by omega) (by omega)
theorem heads_l3 (x : api_Node) (hx : x.Past.length ≤ 200) (y : Int) (L : Int → List (Int × Bool) → Option (List (List Int))) : ∀ (m i n : Nat) (s : List (Int × Bool)), i + m = x.Past.length → m < n →
    ∃ s2, graph_Heads.l3 4000 x y L n (i : Int) s = L (iadd .i64 y 1) s2 ∧ ∀ j : Int, mget s2 j = (mget s j || (x.Past.drop i).contains j) := by
  intro m
  induction m with
  | zero =>
    intro i n s hi hm
    obtain ⟨n, rfl⟩ : ∃ q, n = q + 1 := ⟨n - 1, by omega⟩
    rw [graph_Heads.l3, if_neg (by simp; omega), List.drop_eq_nil_of_le (by omega)]
    exact ⟨s, rfl, fun j => by simp⟩
  | succ m ih =>
    intro i n s hi hm
    obtain ⟨n, rfl⟩ : ∃ q, n = q + 1 := ⟨n - 1, by omega⟩
    have hil : i < x.Past.length := by omega
    have hnext : iadd .i64 (i : Int) 1 = ((i + 1 : Nat) : Int) := by rw [add64 (by omega)]; omega
    rw [graph_Heads.l3, if_pos (by simp; omega), at_get hil, List.drop_eq_getElem_cons hil]
    simp only [Option.bind_some, hnext]
    obtain ⟨s2, h1, h2⟩ := ih (i + 1) n (mput s x.Past[i] true) (by omega) (by omega)
    refine ⟨s2, h1, fun j => ?_⟩
    rw [h2, mget_mput, List.contains_cons]
    by_cases h : x.Past[i] = j
    · simp [h]
    · have h3 : (j == x.Past[i]) = false := by simp; exact fun e => h e.symm
      rw [if_neg h, h3, Bool.false_or]
theorem heads_l2 (p : List api_Node) (hp : p.length ≤ 200) (hs : Short p) : ∀ (m i n : Nat) (s : List (Int × Bool)), i + m = p.length → m < n →
    ∃ s2, graph_Heads.l2 4000 p n (i : Int) s = graph_Heads.j1 4000 p s2 ∧ ∀ j : Int, mget s2 j = (mget s j || (p.drop i).any (fun x => x.Past.contains j)) := by
  intro m
  induction m with
  | zero =>
    intro i n s hi hm
    obtain ⟨n, rfl⟩ : ∃ q, n = q + 1 := ⟨n - 1, by omega⟩
    rw [graph_Heads.l2, if_neg (by simp; omega), List.drop_eq_nil_of_le (by omega)]
    exact ⟨s, rfl, fun j => by simp⟩
  | succ m ih =>
    intro i n s hi hm
    obtain ⟨n, rfl⟩ : ∃ q, n = q + 1 := ⟨n - 1, by omega⟩
    have hil : i < p.length := by omega
    have hx := hs _ (List.getElem_mem hil)
    have hnext : iadd .i64 (i : Int) 1 = ((i + 1 : Nat) : Int) := by rw [add64 (by omega)]; omega
    rw [graph_Heads.l2, if_pos (by simp; omega), at_get hil, List.drop_eq_getElem_cons hil]
    simp only [Option.bind_some]
    obtain ⟨s1, h1, h2⟩ := heads_l3 p[i] hx (i : Int) (graph_Heads.l2 4000 p n) p[i].Past.length 0 4000 s (by omega) (by omega)
    rw [show ((0 : Nat) : Int) = 0 from rfl] at h1
    rw [List.drop_zero] at h2
    obtain ⟨s2, g1, g2⟩ := ih (i + 1) n s1 (by omega) (by omega)
    refine ⟨s2, by rw [h1, hnext, g1], fun j => ?_⟩
    rw [g2, h2, List.any_cons, Bool.or_assoc]

def numH (f : Nat → Bool) : Nat → Nat → Nat
  | _, 0 => 0
  | i, m + 1 => (if f i = true then 1 else 0) + numH f (i + 1) m
theorem numH_succ (f : Nat → Bool) (i m : Nat) : numH f i (m + 1) = (if f i = true then 1 else 0) + numH f (i + 1) m := rfl
theorem hl_num (f : Nat → Bool) (l : List api_Node) : ∀ i, (hl f i l).length = numH f i l.length := by
  induction l with
  | nil => intro i; rfl
  | cons x l ih =>
    intro i
    unfold hl
    rw [List.length_cons]
    unfold numH
    by_cases h : f i = true
    · rw [if_pos h, if_pos h, List.length_cons, ih]; omega
    · rw [if_neg h, if_neg h, ih]; omega
theorem numH_zero (f : Nat → Bool) (m : Nat) : ∀ i, (∀ j, i ≤ j → j < i + m → f j = false) → numH f i m = 0 := by
  induction m with
  | zero => intro i _; rfl
  | succ m ih => intro i h; unfold numH; rw [h i (by omega) (by omega), ih (i + 1) (fun j h1 h2 => h j (by omega) (by omega))]; rfl
theorem numH_one (f : Nat → Bool) (m : Nat) : ∀ i, (∀ j k, i ≤ j → j < k → k < i + m → ¬ (f j = true ∧ f k = true)) → numH f i m ≤ 1 := by
  induction m with
  | zero => intro i _; exact Nat.zero_le _
  | succ m ih =>
    intro i h
    have := ih (i + 1) (fun j k h1 h2 h3 => h j k (by omega) h2 (by omega))
    unfold numH
    by_cases c : f i = true
    · rw [numH_zero f m (i + 1) (fun j h1 h2 => by
        rw [Bool.eq_false_iff]; intro g; exact h i j (by omega) (by omega) (by omega) ⟨c, g⟩), if_pos c]; omega
    · rw [if_neg c]; omega
def sumH (f : Nat → Bool) (a : Nat → Nat) (i m : Nat) : Nat → Nat
  | 0 => 0
  | c + 1 => numH (fun j => f j && decide (a j = c)) i m + sumH f a i m c
theorem sumH_succ (f : Nat → Bool) (a : Nat → Nat) (i m : Nat) : ∀ c, sumH f a i (m + 1) c = (if f i = true ∧ a i < c then 1 else 0) + sumH f a (i + 1) m c := by
  intro c
  induction c with
  | zero => simp [sumH]
  | succ c ih =>
    unfold sumH
    rw [ih]
    have e : numH (fun j => f j && decide (a j = c)) i (m + 1) = (if (f i && decide (a i = c)) = true then 1 else 0) + numH (fun j => f j && decide (a j = c)) (i + 1) m := rfl
    rw [e]
    by_cases h : f i = true
    · by_cases q : a i = c
      · have : ¬ a i < c := by omega
        have : a i < c + 1 := by omega
        simp [h, q]; omega
      · by_cases q2 : a i < c
        · have : a i < c + 1 := by omega
          simp [h, q, q2, this]; omega
        · have : ¬ a i < c + 1 := by omega
          simp [h, q, q2, this]
    · simp [h]
theorem num_sum (f : Nat → Bool) (a : Nat → Nat) (c : Nat) (m : Nat) : ∀ i, (∀ j, i ≤ j → j < i + m → a j < c) → numH f i m = sumH f a i m c := by
  induction m with
  | zero =>
    intro i _
    have : ∀ c, sumH f a i 0 c = 0 := by
      intro c
      induction c with
      | zero => rfl
      | succ c ih => unfold sumH; rw [ih]; rfl
    rw [this]; rfl
  | succ m ih =>
    intro i h
    rw [sumH_succ, ← ih (i + 1) (fun j h1 h2 => h j (by omega) (by omega))]
    have := h i (by omega) (by omega)
    rw [numH_succ]
    by_cases g : f i = true
    · rw [if_pos g, if_pos ⟨g, this⟩]
    · rw [if_neg g, if_neg (fun q => g q.1)]
theorem sumH_le (f : Nat → Bool) (a : Nat → Nat) (i m : Nat) (h : ∀ c, numH (fun j => f j && decide (a j = c)) i m ≤ 1) : ∀ c, sumH f a i m c ≤ c := by
  intro c
  induction c with
  | zero => exact Nat.le_refl _
  | succ c ih => unfold sumH; have := h c; omega
theorem isH_iff {p : List api_Node} {j : Nat} : isH p j = true ↔ ∀ v, ¬ Beh p j v := by
  unfold isH
  rw [Bool.not_eq_true', Bool.eq_false_iff]
  constructor
  · rintro h v ⟨hv, hm⟩
    exact h (List.any_eq_true.2 ⟨p[v], List.getElem_mem hv, by simpa using hm⟩)
  · intro h g
    obtain ⟨x, hx, hm⟩ := List.any_eq_true.1 g
    obtain ⟨v, hv, e⟩ := List.mem_iff_getElem.1 hx
    exact h v ⟨hv, by rw [e]; simpa using hm⟩
theorem heads_few {p : List api_Node} (hr : rightG p = true) : (headsU p).length ≤ 8 := by
  unfold headsU
  rw [hl_num]
  have ha : ∀ j, 0 ≤ j → j < 0 + p.length → (auth p (j : Int)).toNat < 8 := fun j _ hj => by
    have hj2 : j < p.length := by omega
    rw [auth_at j hj2]
    have := (right_at hr j hj2).author
    omega
  rw [num_sum (isH p) (fun j => (auth p (j : Int)).toNat) 8 p.length 0 ha]
  refine sumH_le _ _ _ _ (fun c => numH_one _ _ _ (fun j k h1 h2 h3 => ?_)) 8
  rintro ⟨g1, g2⟩
  simp only [Bool.and_eq_true, decide_eq_true_eq] at g1 g2
  have hk : k < p.length := by omega
  have hj : j < p.length := by omega
  refine isH_iff.1 g1.1 k (beh_own hr j k hk h2 ?_)
  have r1 := (right_at hr j hj).author
  have r2 := (right_at hr k hk).author
  rw [auth_at j hj, auth_at k hk] at *
  omega
/-- names are all different -/
theorem fnd_neg {id : List Int} {l : List api_Node} (h : fnd id 0 l < 0) : ∀ x ∈ l, x.Id ≠ id := by
  have key : ∀ (l : List api_Node) (i : Nat), fnd id i l < 0 → ∀ x ∈ l, x.Id ≠ id := by
    intro l
    induction l with
    | nil => intro i _ x hx; cases hx
    | cons y l ih =>
      intro i h x hx
      unfold fnd at h
      by_cases c : y.Id = id
      · rw [if_pos c] at h; omega
      · rw [if_neg c] at h
        rcases List.mem_cons.1 hx with e | e
        · rw [e]; exact c
        · exact ih (i + 1) h x e
  exact key l 0 h
theorem ids_ne {p : List api_Node} (hr : rightG p = true) (i j : Nat) (hi : i < p.length) (hj : j < p.length) (h : i ≠ j) : p[i].Id ≠ p[j].Id := by
  have key : ∀ i j (hi : i < p.length) (hj : j < p.length), i < j → p[i].Id ≠ p[j].Id := fun i j hi hj h => by
    have := fnd_neg (right_at hr j hj).new p[i] (List.mem_iff_getElem.2 ⟨i, by rw [List.length_take]; omega, by rw [List.getElem_take]⟩)
    exact this
  rcases Nat.lt_or_gt_of_ne h with g | g
  · exact key i j hi hj g
  · exact fun e => key j i hj hi g e.symm
theorem hl_nodup {p : List api_Node} (hr : rightG p = true) (f : Nat → Bool) : ∀ (m i : Nat), i + m = p.length → (hl f i (p.drop i)).Nodup := by
  intro m
  induction m with
  | zero => intro i hi; rw [List.drop_eq_nil_of_le (by omega)]; exact List.nodup_nil
  | succ m ih =>
    intro i hi
    have hil : i < p.length := by omega
    rw [List.drop_eq_getElem_cons hil]
    unfold hl
    split
    · refine List.nodup_cons.2 ⟨fun q => ?_, ih (i + 1) (by omega)⟩
      obtain ⟨j, hj, _, e⟩ := (hl_mem _ _ _ _).1 q
      rw [List.length_drop] at hj
      rw [List.getElem_drop] at e
      exact ids_ne hr (i + 1 + j) i (by omega) hil (by omega) e
    · exact ih (i + 1) (by omega)

def Ids32 (p : List api_Node) : Prop := ∀ x ∈ p, x.Id.length = 32
theorem headsU_len {p : List api_Node} (h : Ids32 p) : ∀ z ∈ headsU p, z.length = 32 := fun z hz => by
  obtain ⟨j, hj, _, e⟩ := (hl_mem _ _ _ _).1 hz
  rw [← e]; exact h _ (List.getElem_mem hj)
/-- the heads, in order -/
def headsL (p : List api_Node) : List (List Int) := putAll [] (headsU p)
theorem heads_eq (p : List api_Node) (hf : Few p) (hi : Ids32 p) : graph_Heads 4000 p = some (if rightG p = true then headsL p else []) := by
  have hlen := hf.len
  unfold graph_Heads
  rw [right_eq p hf]
  cases hr : rightG p with
  | false => rfl
  | true =>
    simp only [Option.bind_some, Bool.not_true, Bool.false_eq_true, if_false, if_true]
    obtain ⟨s2, h1, h2⟩ := heads_l2 p (by omega) hf.short p.length 0 4000 [] (by omega) (by omega)
    rw [show ((0 : Nat) : Int) = 0 from rfl] at h1
    rw [List.drop_zero] at h2
    have h3 := heads_l1 p (by omega) s2 p.length 0 4000 [] (by omega) (by omega) (by simp)
    rw [show ((0 : Nat) : Int) = 0 from rfl, List.drop_zero, List.nil_append] at h3
    have e : hl (fun j => !mget s2 (j : Int)) 0 p = headsU p := hl_congr _ _ _ _ (fun j => by rw [h2]; simp [mget, isH])
    rw [h1, graph_Heads.j1, h3, e, graph_Heads.j2, sortf_eq _ (by have := heads_few hr; omega) (headsU_len hi) (by have := hl_nodup hr (isH p) p.length 0 (by omega); rw [List.drop_zero] at this; exact this)]
    rfl


end Go.Proofs.Pure
