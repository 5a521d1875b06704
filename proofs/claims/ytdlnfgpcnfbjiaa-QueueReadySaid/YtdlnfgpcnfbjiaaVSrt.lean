/- Rows of keys, exchanged and put in order: the theory. No program in sight. -/
import Derived.Test.YtdlnfgpcnfbjiaaVSort
namespace Go.Proofs.Pure
open Go Go.RowKit Go.Proofs.Kit
set_option linter.unusedVariables false

abbrev KeyRow := List (List Int)
/-- what stands at a place -/
def gk (l : KeyRow) (i : Nat) : List Int := l.getD i []
theorem gk_eq {l : KeyRow} {i : Nat} (h : i < l.length) : gk l i = l[i] := by unfold gk; simp [List.getD, h]
theorem gk_set (l : KeyRow) (i : Nat) (v : List Int) (h : i < l.length) (t : Nat) : gk (l.set i v) t = if t = i then v else gk l t := by
  unfold gk
  rw [List.getD_eq_getElem?_getD, List.getElem?_set]
  by_cases e : i = t
  · subst e; rw [if_pos rfl, if_pos h, if_pos rfl]; rfl
  · rw [if_neg e, if_neg (fun q => e q.symm), List.getD_eq_getElem?_getD]
/-- two places exchanged -/
def swp (l : KeyRow) (i j : Nat) : KeyRow := (l.set i (gk l j)).set j (gk l i)
theorem swp_len (l : KeyRow) (i j : Nat) : (swp l i j).length = l.length := by unfold swp; simp
theorem gk_swp {l : KeyRow} {i j : Nat} (hi : i < l.length) (hj : j < l.length) (t : Nat) : gk (swp l i j) t = if t = j then gk l i else if t = i then gk l j else gk l t := by
  unfold swp
  rw [gk_set _ _ _ (by simpa using hj), gk_set _ _ _ hi]
theorem swp_perm {l : KeyRow} {i j : Nat} (hi : i < l.length) (hj : j < l.length) : (swp l i j).Perm l := by
  unfold swp
  rw [gk_eq hi, gk_eq hj]
  exact List.set_set_perm hi hj

/-- reached by exchanges between a and b -/
inductive Sw (a b : Nat) (l : KeyRow) : KeyRow → Prop
  | refl : Sw a b l l
  | snoc {m : KeyRow} (i j : Nat) : Sw a b l m → a ≤ i → i < b → a ≤ j → j < b → b ≤ l.length → Sw a b l (swp m i j)
theorem Sw.len {a b : Nat} {l m : KeyRow} (h : Sw a b l m) : m.length = l.length := by
  induction h with
  | refl => rfl
  | snoc i j _ _ _ _ _ _ ih => rw [swp_len, ih]
theorem Sw.trans {a b : Nat} {l m n : KeyRow} (h : Sw a b l m) (g : Sw a b m n) : Sw a b l n := by
  induction g with
  | refl => exact h
  | snoc i j _ h1 h2 h3 h4 h5 ih => exact .snoc i j ih h1 h2 h3 h4 (by rw [← h.len]; exact h5)
theorem Sw.mono {a b a' b' : Nat} {l m : KeyRow} (h : Sw a b l m) (ha : a' ≤ a) (hb : b ≤ b') (hl : b' ≤ l.length) : Sw a' b' l m := by
  induction h with
  | refl => exact .refl
  | snoc i j _ h1 h2 h3 h4 h5 ih => exact .snoc i j ih (by omega) (by omega) (by omega) (by omega) hl
theorem Sw.perm {a b : Nat} {l m : KeyRow} (h : Sw a b l m) : m.Perm l := by
  induction h with
  | refl => exact .refl _
  | snoc i j h h1 h2 h3 h4 h5 ih => have := h.len; exact (swp_perm (by omega) (by omega)).trans ih
theorem Sw.out {a b : Nat} {l m : KeyRow} (h : Sw a b l m) {t : Nat} (ht : t < a ∨ b ≤ t) : gk m t = gk l t := by
  induction h with
  | refl => rfl
  | snoc i j h h1 h2 h3 h4 h5 ih => have := h.len; rw [gk_swp (by omega) (by omega), if_neg (by omega), if_neg (by omega), ih]
theorem Sw.all {a b : Nat} {l m : KeyRow} (h : Sw a b l m) {P : List Int → Prop} (hp : ∀ t, a ≤ t → t < b → P (gk l t)) : ∀ t, a ≤ t → t < b → P (gk m t) := by
  induction h with
  | refl => exact hp
  | snoc i j h h1 h2 h3 h4 h5 ih =>
    intro t t1 t2
    have := h.len
    rw [gk_swp (by omega) (by omega)]
    split
    · exact ih i h1 h2
    · split
      · exact ih j h3 h4
      · exact ih t t1 t2

/-- all are keys -/
def Ks (l : KeyRow) : Prop := ∀ t, t < l.length → (gk l t).length = 32
theorem Ks.of {l : KeyRow} (h : ∀ z ∈ l, z.length = 32) : Ks l := fun t ht => by rw [gk_eq ht]; exact h _ (List.getElem_mem ht)
theorem Ks.mem {l : KeyRow} (h : Ks l) : ∀ z ∈ l, z.length = 32 := fun z hz => by
  obtain ⟨t, ht, rfl⟩ := List.mem_iff_getElem.1 hz
  rw [← gk_eq ht]; exact h t ht
theorem Ks.sw {a b : Nat} {l m : KeyRow} (h : Ks l) (g : Sw a b l m) : Ks m := Ks.of (fun z hz => h.mem z (g.perm.mem_iff.1 hz))
/-- at most -/
def kle (x y : List Int) : Prop := x = y ∨ ltK x y = true
theorem kle.refl (x : List Int) : kle x x := .inl rfl
theorem kle.of {x y : List Int} (hx : x.length = y.length) (h : ltK y x = false) : kle x y := by
  by_cases e : x = y
  · exact .inl e
  · rcases ltK_tri hx e with g | g
    · exact .inr g
    · rw [g] at h; cases h
theorem kle.trans {x y z : List Int} (h : kle x y) (g : kle y z) : kle x z := by
  rcases h with rfl | h
  · exact g
  · rcases g with rfl | g
    · exact .inr h
    · exact .inr (ltK_trans h g)
theorem kle.anti {x y : List Int} (h : kle x y) (g : ltK y x = true) : False := by
  rcases h with rfl | h
  · have := ltK_asym g; rw [g] at this; cases this
  · have := ltK_asym g; rw [h] at this; cases this
/-- in order between a and b -/
def Srt (a b : Nat) (l : KeyRow) : Prop := ∀ i j, a ≤ i → i < j → j < b → kle (gk l i) (gk l j)
/-- a key at most as great as all stands ahead -/
def Lwb (a b : Nat) (l : KeyRow) : Prop := a = 0 ∨ ∀ t, a ≤ t → t < b → kle (gk l (a - 1)) (gk l t)
theorem Lwb.sw {a b : Nat} {l m : KeyRow} (h : Lwb a b l) (g : Sw a b l m) : Lwb a b m := by
  rcases h with h | h
  · exact .inl h
  · by_cases a0 : a = 0
    · exact .inl a0
    · refine .inr (fun t t1 t2 => ?_)
      rw [g.out (t := a - 1) (.inl (by omega))]
      exact g.all (P := fun x => kle (gk l (a - 1)) x) h t t1 t2
/-- in order but for the place j, which may be too small -/
def SrtBut (a b j : Nat) (l : KeyRow) : Prop := ∀ p q, a ≤ p → p < q → q < b → q ≠ j → kle (gk l p) (gk l q)
theorem SrtBut.done {a b j : Nat} {l : KeyRow} (h : SrtBut a b j l) (g : j ≤ a ∨ kle (gk l (j - 1)) (gk l j)) : Srt a b l := by
  intro p q h1 h2 h3
  by_cases e : q = j
  · subst e
    rcases g with g | g
    · omega
    · by_cases e2 : p = q - 1
      · rw [e2]; exact g
      · exact (h p (q - 1) h1 (by omega) (by omega) (by omega)).trans g
  · exact h p q h1 h2 h3 e
theorem SrtBut.step {a b j : Nat} {l : KeyRow} (h : SrtBut a b j l) (hj : a < j) (hb : j < b) (hl : b ≤ l.length) (g : ltK (gk l j) (gk l (j - 1)) = true) : SrtBut a b (j - 1) (swp l j (j - 1)) := by
  intro p q h1 h2 h3 h4
  rw [gk_swp (by omega) (by omega), gk_swp (by omega) (by omega)]
  by_cases q1 : q = j
  · subst q1
    rw [if_neg (show ¬ q = q - 1 by omega), if_pos rfl]
    by_cases p1 : p = q - 1
    · rw [if_pos p1]; exact .inr g
    · rw [if_neg p1, if_neg (by omega)]
      exact h p (q - 1) h1 (by omega) (by omega) (by omega)
  · rw [if_neg h4, if_neg q1]
    by_cases p1 : p = j - 1
    · rw [if_pos p1]; exact h j q (by omega) (by omega) h3 q1
    · rw [if_neg p1]
      by_cases p2 : p = j
      · rw [if_pos p2]; exact h (j - 1) q (by omega) (by omega) h3 q1
      · rw [if_neg p2]; exact h p q h1 h2 h3 q1
theorem Srt.but {a i : Nat} {l : KeyRow} (h : Srt a i l) : SrtBut a (i + 1) i l := fun p q h1 h2 h3 h4 => h p q h1 h2 (by omega)
theorem Srt.one (a : Nat) (l : KeyRow) : Srt a (a + 1) l := fun i j h1 h2 h3 => by omega
theorem Srt.small {a b : Nat} (h : b ≤ a + 1) (l : KeyRow) : Srt a b l := fun i j h1 h2 h3 => by omega
theorem Srt.congr {a b : Nat} {l m : KeyRow} (h : Srt a b l) (e : ∀ t, a ≤ t → t < b → gk m t = gk l t) : Srt a b m := fun i j h1 h2 h3 => by
  rw [e i h1 (by omega), e j (by omega) h3]; exact h i j h1 h2 h3
theorem Srt.snoc {a i : Nat} {l : KeyRow} (h : Srt a i l) (hi : a < i) (g : kle (gk l (i - 1)) (gk l i)) : Srt a (i + 1) l := fun p q h1 h2 h3 => by
  by_cases e : q = i
  · subst e
    by_cases e2 : p = q - 1
    · rw [e2]; exact g
    · exact (h p (q - 1) h1 (by omega) (by omega)).trans g
  · exact h p q h1 h2 (by omega)
/-- two parts in order, and each of the one at most each of the other -/
theorem Srt.join {a c b : Nat} {l : KeyRow} (h : Srt a c l) (g : Srt c b l) (hh : ∀ p q, a ≤ p → p < c → c ≤ q → q < b → kle (gk l p) (gk l q)) : Srt a b l := fun p q h1 h2 h3 => by
  by_cases e : q < c
  · exact h p q h1 h2 e
  · by_cases e2 : c ≤ p
    · exact g p q e2 h2 h3
    · exact hh p q h1 (by omega) (by omega) h3

def HeapP (f lo n : Nat) (l : KeyRow) : Prop := ∀ p c, lo ≤ p → (c = 2 * p + 1 ∨ c = 2 * p + 2) → c < n → kle (gk l (f + c)) (gk l (f + p))
/-- right but at the root r; what stands below r is at most what stands above it -/
def HeapBut (f lo n r : Nat) (l : KeyRow) : Prop := (∀ p c, lo ≤ p → p ≠ r → (c = 2 * p + 1 ∨ c = 2 * p + 2) → c < n → kle (gk l (f + c)) (gk l (f + p))) ∧
  (∀ p c, lo ≤ p → (r = 2 * p + 1 ∨ r = 2 * p + 2) → (c = 2 * r + 1 ∨ c = 2 * r + 2) → c < n → kle (gk l (f + c)) (gk l (f + p)))
theorem HeapBut.done {f lo n r : Nat} {l : KeyRow} (h : HeapBut f lo n r l) (g : ∀ c, (c = 2 * r + 1 ∨ c = 2 * r + 2) → c < n → kle (gk l (f + c)) (gk l (f + r))) : HeapP f lo n l := fun p c h1 h2 h3 => by
  by_cases e : p = r
  · subst e; exact g c h2 h3
  · exact h.1 p c h1 e h2 h3
/-- a step down: c the greater child -/
theorem HeapBut.step {f lo n r c : Nat} {l : KeyRow} (h : HeapBut f lo n r l) (hr : lo ≤ r) (hc : c = 2 * r + 1 ∨ c = 2 * r + 2) (hcn : c < n) (hl : f + n ≤ l.length)
    (hg : ∀ d, (d = 2 * r + 1 ∨ d = 2 * r + 2) → d < n → kle (gk l (f + d)) (gk l (f + c))) (hlt : kle (gk l (f + r)) (gk l (f + c))) : HeapBut f lo n c (swp l (f + r) (f + c)) := by
  have ei : f + r < l.length := by omega
  have ej : f + c < l.length := by omega
  refine ⟨fun p d h1 h2 h3 h4 => ?_, fun p d h1 h2 h3 h4 => ?_⟩
  · rw [gk_swp ei ej, gk_swp ei ej]
    by_cases pr : p = r
    · subst pr
      rw [if_neg (show ¬ f + p = f + c by omega), if_pos rfl]
      by_cases dc : d = c
      · rw [if_pos (by omega)]; exact hlt
      · rw [if_neg (by omega), if_neg (by omega)]; exact hg d h3 h4
    · rw [if_neg (show ¬ f + p = f + c by omega), if_neg (show ¬ f + p = f + r by omega)]
      by_cases dc : d = c
      · omega
      · rw [if_neg (by omega)]
        by_cases dr : d = r
        · subst dr; rw [if_pos rfl]; exact h.2 p c h1 h3 hc hcn
        · rw [if_neg (by omega)]; exact h.1 p d h1 pr h3 h4
  · have pr : p = r := by omega
    subst pr
    rw [gk_swp ei ej, gk_swp ei ej, if_neg (by omega), if_neg (by omega), if_neg (by omega), if_pos rfl]
    exact h.1 c d (by omega) (by omega) h3 h4
theorem HeapP.max {f n : Nat} {l : KeyRow} (h : HeapP f 0 n l) : ∀ t, t < n → kle (gk l (f + t)) (gk l f) := by
  intro t
  induction t using Nat.strongRecOn with
  | ind t ih =>
    intro ht
    by_cases e : t = 0
    · subst e; exact .refl _
    · exact (h ((t - 1) / 2) t (by omega) (by omega) ht).trans (ih ((t - 1) / 2) (by omega) (by omega))

def dd1 (x : List Int) : KeyRow → KeyRow
  | [] => []
  | y :: l => if y = x then dd1 x l else y :: dd1 y l
def dd : KeyRow → KeyRow
  | [] => []
  | x :: l => x :: dd1 x l
theorem dd1_mem (x : List Int) (l : KeyRow) (z : List Int) : z = x ∨ z ∈ dd1 x l ↔ z = x ∨ z ∈ l := by
  induction l generalizing x with
  | nil => simp [dd1]
  | cons y l ih =>
    unfold dd1
    by_cases e : y = x
    · subst e
      rw [if_pos rfl, ih]; simp
    · rw [if_neg e, List.mem_cons, ih y, List.mem_cons]
theorem dd_mem (l : KeyRow) (z : List Int) : z ∈ dd l ↔ z ∈ l := by
  cases l with
  | nil => rfl
  | cons x l => show z ∈ x :: dd1 x l ↔ _; rw [List.mem_cons, dd1_mem, List.mem_cons]
theorem dd1_sorted (x : List Int) (l : KeyRow) (h : (x :: l).Pairwise kle) : Sorted (x :: dd1 x l) := by
  induction l generalizing x with
  | nil => exact List.pairwise_singleton _ _
  | cons y l ih =>
    obtain ⟨h1, h2⟩ := List.pairwise_cons.1 h
    unfold dd1
    by_cases e : y = x
    · subst e; rw [if_pos rfl]; exact ih y h2
    · rw [if_neg e]
      have hxy : ltK x y = true := by
        rcases h1 y (by simp) with q | q
        · exact absurd q.symm e
        · exact q
      have g := ih y h2
      refine List.pairwise_cons.2 ⟨fun z hz => ?_, g⟩
      rcases List.mem_cons.1 hz with q | q
      · rw [q]; exact hxy
      · exact ltK_trans hxy ((List.pairwise_cons.1 g).1 z q)
theorem dd_sorted (l : KeyRow) (h : l.Pairwise kle) : Sorted (dd l) := by
  cases l with
  | nil => exact List.Pairwise.nil
  | cons x l => exact dd1_sorted x l h
theorem ltK_irr (x : List Int) : ltK x x = false := by
  rw [Bool.eq_false_iff]; intro h; exact cmp_irr x (ltK_iff.1 h)
theorem sorted_eq : ∀ (l m : KeyRow), Sorted l → Sorted m → (∀ z, z ∈ l ↔ z ∈ m) → l = m
  | [], [], _, _, _ => rfl
  | [], y :: m, _, _, h => absurd ((h y).2 (by simp)) (by simp)
  | x :: l, [], _, _, h => absurd ((h x).1 (by simp)) (by simp)
  | x :: l, y :: m, hl, hm, h => by
    obtain ⟨l1, l2⟩ := List.pairwise_cons.1 hl
    obtain ⟨m1, m2⟩ := List.pairwise_cons.1 hm
    have e : x = y := by
      rcases List.mem_cons.1 ((h x).1 (by simp)) with q | q
      · exact q
      · rcases List.mem_cons.1 ((h y).2 (by simp)) with p | p
        · exact p.symm
        · have a := l1 y p
          have b := m1 x q
          rw [ltK_asym a] at b; cases b
    subst e
    congr 1
    refine sorted_eq l m l2 m2 (fun z => ⟨fun hz => ?_, fun hz => ?_⟩)
    · rcases List.mem_cons.1 ((h z).1 (by simp [hz])) with q | q
      · subst q; have := l1 z hz; rw [ltK_irr] at this; cases this
      · exact q
    · rcases List.mem_cons.1 ((h z).2 (by simp [hz])) with q | q
      · subst q; have := m1 z hz; rw [ltK_irr] at this; cases this
      · exact q
theorem Srt.pw {l : KeyRow} (h : Srt 0 l.length l) : l.Pairwise kle := by
  rw [List.pairwise_iff_getElem]
  intro i j hi hj hij
  rw [← gk_eq hi, ← gk_eq hj]
  exact h i j (by omega) hij hj
/-- the document's way: each in its place, once -/
def putk (l : KeyRow) (x : List Int) : KeyRow := if x ∈ l then l else insB x l
theorem putk_mem (l : KeyRow) (x z : List Int) : z ∈ putk l x ↔ z = x ∨ z ∈ l := by
  unfold putk
  by_cases h : x ∈ l
  · rw [if_pos h]; exact ⟨.inr, fun q => q.elim (fun e => e ▸ h) id⟩
  · rw [if_neg h, insB_mem]
theorem putk_sorted (l : KeyRow) (x : List Int) (hx : x.length = 32) (hl : ∀ z ∈ l, z.length = 32) (h : Sorted l) : Sorted (putk l x) := by
  unfold putk
  by_cases q : x ∈ l
  · rw [if_pos q]; exact h
  · rw [if_neg q]; exact insB_sorted x hx l h hl q
theorem fold_mem (w : KeyRow) : ∀ (l : KeyRow) (z : List Int), z ∈ w.foldl putk l ↔ z ∈ l ∨ z ∈ w := by
  induction w with
  | nil => intro l z; simp
  | cons x w ih => intro l z; rw [List.foldl_cons, ih, putk_mem, List.mem_cons]; grind
theorem fold_sorted (w : KeyRow) (hw : ∀ z ∈ w, z.length = 32) : ∀ (l : KeyRow), (∀ z ∈ l, z.length = 32) → Sorted l → Sorted (w.foldl putk l) := by
  induction w with
  | nil => intro l _ h; exact h
  | cons x w ih =>
    intro l hl h
    rw [List.foldl_cons]
    refine ih (fun z hz => hw z (by simp [hz])) _ (fun z hz => ?_) (putk_sorted l x (hw x (by simp)) hl h)
    rcases (putk_mem l x z).1 hz with q | q
    · rw [q]; exact hw x (by simp)
    · exact hl z q
/-- put in order and each once, both ways -/
theorem dd_fold {w m : KeyRow} (hp : m.Perm w) (hm : m.Pairwise kle) (hw : ∀ z ∈ w, z.length = 32) : dd m = w.foldl putk [] := by
  refine sorted_eq _ _ (dd_sorted m hm) (fold_sorted w hw [] (by simp) List.Pairwise.nil) (fun z => ?_)
  rw [dd_mem, fold_mem, hp.mem_iff]; simp

end Go.Proofs.Pure
