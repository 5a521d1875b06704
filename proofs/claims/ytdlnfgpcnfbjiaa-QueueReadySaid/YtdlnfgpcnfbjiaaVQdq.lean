/- The program's sort: each of its parts exchanges places alone, and puts in order. No program in sight. -/
import Derived.Test.YtdlnfgpcnfbjiaaVSrt
namespace Go.Proofs.Pure
open Go Go.RowKit Go.Proofs.Kit
set_option linter.unusedVariables false
set_option linter.unusedSimpArgs false

theorem cmpW (k : Nat) {a b : List Int} (ha : a.length = 32) (hb : b.length = 32) : queue_Wanted_1 k a b = some (cmpB a b) := by
  unfold queue_Wanted_1; simp [cut32k ha, cut32k hb, bytes_Compare]
theorem at_gk {l : KeyRow} {i : Nat} (h : i < l.length) : at? l (i : Int) = some (gk l i) := by rw [at_get h, gk_eq h]
theorem swap_step {β : Type} {y : KeyRow} {P Q : Int} {p q : Nat} (eP : P = p) (eQ : Q = q) (hp : p < y.length) (hq : q < y.length) (K : KeyRow → Option β) :
    (if (0 ≤ Q ∧ Q < y.length) then ((at? y Q).bind fun x1 => if (0 ≤ P ∧ P < y.length) then ((at? y P).bind fun x2 => if (0 ≤ P ∧ P < y.length) then ((set? y P x1).bind fun x3 => if (0 ≤ Q ∧ Q < x3.length) then ((set? x3 Q x2).bind fun x4 => K x4) else none) else none) else none) else none) = K (swp y p q) := by
  subst eP; subst eQ
  rw [if_pos ⟨by omega, by omega⟩, at_gk hq, Option.bind_some, if_pos ⟨by omega, by omega⟩, at_gk hp, Option.bind_some, if_pos ⟨by omega, by omega⟩]
  have s1 : set? y (p : Int) (gk y q) = some (y.set p (gk y q)) := by unfold set?; rw [if_pos ⟨by omega, by omega⟩]; rfl
  have s2 : set? (y.set p (gk y q)) (q : Int) (gk y p) = some (swp y p q) := by unfold set?; rw [if_pos ⟨by omega, by simp; omega⟩]; rfl
  rw [s1, Option.bind_some, if_pos ⟨by omega, by simp; omega⟩, s2, Option.bind_some]
theorem cmp_step {β : Type} {y : KeyRow} {P Q : Int} {p q : Nat} (k : Nat) (hk : Ks y) (eP : P = p) (eQ : Q = q) (hp : p < y.length) (hq : q < y.length) (K : Int → Option β) :
    (if (0 ≤ P ∧ P < y.length) then ((at? y P).bind fun x1 => if (0 ≤ Q ∧ Q < y.length) then ((at? y Q).bind fun x2 => (queue_Wanted_1 k x1 x2).bind fun x3 => K x3) else none) else none) = K (cmpB (gk y p) (gk y q)) := by
  subst eP; subst eQ
  rw [if_pos ⟨by omega, by omega⟩, at_gk hp, Option.bind_some, if_pos ⟨by omega, by omega⟩, at_gk hq, Option.bind_some, cmpW k (hk p hp) (hk q hq), Option.bind_some]
theorem gcmp {β : Type} {b : Bool} {y : KeyRow} {P Q : Int} {p q : Nat} (k : Nat) (hk : Ks y) (h : b = true → P = p ∧ Q = q ∧ p < y.length ∧ q < y.length) {z1 z2 : List Int} (K : Int → Option β) :
    (if (b == true) = true → (0 ≤ P ∧ P < y.length) then ((if (b == true) = true then at? y P else some z1).bind fun x1 => if (b == true) = true → (0 ≤ Q ∧ Q < y.length) then ((if (b == true) = true then at? y Q else some z2).bind fun x2 => (if (b == true) = true then queue_Wanted_1 k x1 x2 else some (0 : Int)).bind fun x3 => K x3) else none) else none) = K (if b then cmpB (gk y p) (gk y q) else 0) := by
  cases b with
  | false => simp
  | true =>
    obtain ⟨rfl, rfl, hp, hq⟩ := h rfl
    rw [if_pos (fun _ => ⟨by omega, by omega⟩), if_pos (by rfl), at_gk hp, Option.bind_some, if_pos (fun _ => ⟨by omega, by omega⟩), if_pos (by rfl), at_gk hq, Option.bind_some, if_pos (by rfl), cmpW k (hk p hp) (hk q hq), Option.bind_some]
    rfl
theorem sub1 {j : Nat} (h : 0 < j) (h2 : j ≤ 100000) : isub .i64 (j : Int) 1 = ((j - 1 : Nat) : Int) := by rw [sub64 (by omega)]; omega
theorem add1 {j : Nat} (h2 : j ≤ 100000) : iadd .i64 (j : Int) 1 = ((j + 1 : Nat) : Int) := by rw [add64 (by omega)]; omega
theorem subN {i j : Nat} (h : j ≤ i) (h2 : i ≤ 100000) : isub .i64 (i : Int) (j : Int) = ((i - j : Nat) : Int) := by rw [sub64 (by omega)]; omega
theorem addN {i j : Nat} (h1 : i ≤ 100000) (h2 : j ≤ 100000) : iadd .i64 (i : Int) (j : Int) = ((i + j : Nat) : Int) := by rw [add64 (by omega)]; omega
theorem mul2 {i : Nat} (h : i ≤ 100000) : imul .i64 (2 : Int) (i : Int) = ((2 * i : Nat) : Int) := by rw [mul64 (by omega)]; omega
theorem dlt (x y : List Int) : decide (cmpB x y < 0) = ltK x y := rfl
theorem Ks.kle {l : KeyRow} (hk : Ks l) {i j : Nat} (hi : i < l.length) (hj : j < l.length) (h : ltK (gk l i) (gk l j) = false) : kle (gk l j) (gk l i) := kle.of (by rw [hk i hi, hk j hj]) h
def Sorts (f : Option KeyRow) (a b : Nat) (l : KeyRow) : Prop := ∃ m, f = some m ∧ Sw a b l m ∧ Srt a b m

theorem is_l2 (k a i : Nat) (L : Int → KeyRow → Option KeyRow) : ∀ (n j : Nat) (l : KeyRow), a ≤ j → j ≤ i → i < l.length → l.length ≤ 1000 → Ks l → j < n + a → SrtBut a (i + 1) j l →
    ∃ m, slices_insertionSortW.l2 k (a : Int) (i : Int) L n (j : Int) l = L (iadd .i64 (i : Int) 1) m ∧ Sw a (i + 1) l m ∧ Srt a (i + 1) m := by
  intro n
  induction n with
  | zero => intro j l h1 h2 h3 h4 h5 h6 h7; omega
  | succ n ih =>
    intro j l h1 h2 h3 h4 h5 h6 h7
    rw [slices_insertionSortW.l2, gcmp (p := j) (q := j - 1) k h5 (fun hb => by have := of_decide_eq_true hb; exact ⟨rfl, sub1 (by omega) (by omega), by omega, by omega⟩)]
    by_cases c : a < j
    · have ec : decide ((j : Int) > (a : Int)) = true := decide_eq_true (by omega)
      rw [ec, if_pos rfl, if_pos rfl, dlt]
      cases hc : ltK (gk l j) (gk l (j - 1)) with
      | true =>
        rw [if_pos rfl, swap_step (p := j) (q := j - 1) rfl (sub1 (by omega) (by omega)) (by omega) (by omega), sub1 (by omega) (by omega)]
        have hsw : Sw a (i + 1) l (swp l j (j - 1)) := .snoc j (j - 1) .refl (by omega) (by omega) (by omega) (by omega) (by omega)
        obtain ⟨m, e, g1, g2⟩ := ih (j - 1) (swp l j (j - 1)) (by omega) (by omega) (by rw [swp_len]; omega) (by rw [swp_len]; omega) (h5.sw hsw) (by omega) (h7.step c (by omega) (by omega) hc)
        exact ⟨m, e, hsw.trans g1, g2⟩
      | false =>
        rw [if_neg (by decide)]
        exact ⟨l, rfl, .refl, h7.done (.inr (h5.kle (by omega) (by omega) hc))⟩
    · have ec : decide ((j : Int) > (a : Int)) = false := decide_eq_false (by omega)
      rw [ec, if_neg (by simp)]
      exact ⟨l, rfl, .refl, h7.done (.inl (by omega))⟩
theorem is_l1 (k a b : Nat) : ∀ (n i : Nat) (l : KeyRow), a < i → b ≤ l.length → l.length ≤ 1000 → 1000 < k → Ks l → b - i < n → Srt a i l → Sorts (slices_insertionSortW.l1 k (b : Int) (a : Int) n (i : Int) l) a b l := by
  intro n
  induction n with
  | zero =>
    intro i l h1 h2 h3 h4 h5 h6 h7; omega
  | succ n ih =>
    intro i l h1 h2 h3 h4 h5 h6 h7
    rw [slices_insertionSortW.l1]
    by_cases c : i < b
    · rw [if_pos (decide_eq_true (by omega))]
      obtain ⟨m, e, g1, g2⟩ := is_l2 k a i (slices_insertionSortW.l1 k (b : Int) (a : Int) n) k i l (by omega) (by omega) (by omega) h3 h5 (by omega) h7.but
      rw [e, add1 (by omega)]
      obtain ⟨r, e2, g3, g4⟩ := ih (i + 1) m (by omega) (by rw [g1.len]; exact h2) (by rw [g1.len]; exact h3) h4 (h5.sw g1) (by omega) g2
      exact ⟨r, e2, (g1.mono (by omega) (by omega) h2).trans g3, g4⟩
    · rw [if_neg (by simp; omega)]
      exact ⟨l, rfl, .refl, fun p q h1 h2 h3 => h7 p q h1 h2 (by omega)⟩
theorem is_ok (k a b : Nat) (l : KeyRow) (h2 : b ≤ l.length) (h3 : l.length ≤ 1000) (h4 : 1000 < k) (h5 : Ks l) (hab : a ≤ b) : Sorts (slices_insertionSortW k l (a : Int) (b : Int)) a b l := by
  unfold slices_insertionSortW
  rw [add1 (by omega)]
  exact is_l1 k a b k (a + 1) l (by omega) h2 h3 h4 h5 (by omega) (.one a l)

theorem sd_j1 (k f lo hi r c : Nat) (l : KeyRow) (L : Int → KeyRow → Option KeyRow) (h1 : f + hi ≤ l.length) (h2 : l.length ≤ 1000) (h5 : Ks l) (hr : lo ≤ r) (hc : c = 2 * r + 1 ∨ c = 2 * r + 2) (hcn : c < hi)
    (hb : HeapBut f lo hi r l) (hg : ∀ d, (d = 2 * r + 1 ∨ d = 2 * r + 2) → d < hi → kle (gk l (f + d)) (gk l (f + c)))
    (hL : ∀ m, Sw f (f + hi) l m → HeapBut f lo hi c m → ∃ r, L (c : Int) m = some r ∧ Sw f (f + hi) m r ∧ HeapP f lo hi r) :
    ∃ m, slices_siftDownW.j1 k (f : Int) (r : Int) l L (c : Int) = some m ∧ Sw f (f + hi) l m ∧ HeapP f lo hi m := by
  have e1 : iadd .i64 (f : Int) (r : Int) = ((f + r : Nat) : Int) := addN (by omega) (by omega)
  have e2 : iadd .i64 (f : Int) (c : Int) = ((f + c : Nat) : Int) := addN (by omega) (by omega)
  unfold slices_siftDownW.j1
  rw [cmp_step (p := f + r) (q := f + c) k h5 e1 e2 (by omega) (by omega), dlt]
  cases hlt : ltK (gk l (f + r)) (gk l (f + c)) with
  | false =>
    rw [if_pos (by rfl)]
    exact ⟨l, rfl, .refl, hb.done (fun d h3 h4 => (hg d h3 h4).trans (h5.kle (by omega) (by omega) hlt))⟩
  | true =>
    rw [if_neg (by decide), swap_step (p := f + r) (q := f + c) e1 e2 (by omega) (by omega)]
    have hsw : Sw f (f + hi) l (swp l (f + r) (f + c)) := .snoc (f + r) (f + c) .refl (by omega) (by omega) (by omega) (by omega) (by omega)
    obtain ⟨m, g1, g2, g3⟩ := hL _ hsw (hb.step hr hc hcn (by omega) hg (.inr hlt))
    exact ⟨m, g1, hsw.trans g2, g3⟩
theorem sd_l1 (k f lo hi : Nat) : ∀ (n r : Nat) (l : KeyRow), f + hi ≤ l.length → l.length ≤ 1000 → Ks l → lo ≤ r → r < hi + 1 → hi < n + r → HeapBut f lo hi r l →
    ∃ m, slices_siftDownW.l1 k (hi : Int) (f : Int) n (r : Int) l = some m ∧ Sw f (f + hi) l m ∧ HeapP f lo hi m := by
  intro n
  induction n with
  | zero => intro r l h1 h2 h3 h4 h5 h6 h7; omega
  | succ n ih =>
    intro r l h1 h2 h3 h4 h5 h6 h7
    have e0 : iadd .i64 (imul .i64 (2 : Int) (r : Int)) 1 = ((2 * r + 1 : Nat) : Int) := by rw [mul2 (by omega), add1 (by omega)]
    rw [slices_siftDownW.l1, e0]
    by_cases c : hi ≤ 2 * r + 1
    · rw [if_pos (decide_eq_true (by omega))]
      exact ⟨l, rfl, .refl, h7.done (fun d h3 h4 => by omega)⟩
    · rw [if_neg (by simp; omega), Option.bind_some, add1 (by omega)]
      have e1 : iadd .i64 (f : Int) ((2 * r + 1 : Nat) : Int) = ((f + (2 * r + 1) : Nat) : Int) := addN (by omega) (by omega)
      have e2 : iadd .i64 ((f + (2 * r + 1) : Nat) : Int) 1 = ((f + (2 * r + 2) : Nat) : Int) := by rw [add1 (by omega)]; congr 1
      rw [e1, e2]
      simp only [Option.bind_some]
      rw [gcmp (p := f + (2 * r + 1)) (q := f + (2 * r + 2)) k h3 (fun hb => by have := of_decide_eq_true hb; exact ⟨rfl, rfl, by omega, by omega⟩)]
      have fin : ∀ c, (c = 2 * r + 1 ∨ c = 2 * r + 2) → c < hi → (∀ d, (d = 2 * r + 1 ∨ d = 2 * r + 2) → d < hi → kle (gk l (f + d)) (gk l (f + c))) →
          ∃ m, slices_siftDownW.j1 k (f : Int) (r : Int) l (slices_siftDownW.l1 k (hi : Int) (f : Int) n) (c : Int) = some m ∧ Sw f (f + hi) l m ∧ HeapP f lo hi m := fun c h8 h9 h10 =>
        sd_j1 k f lo hi r c l _ h1 h2 h3 h4 h8 h9 h7 h10 (fun m g1 g2 => ih c m (by rw [g1.len]; exact h1) (by rw [g1.len]; exact h2) (h3.sw g1) (by omega) (by omega) (by omega) g2)
      by_cases c2 : 2 * r + 2 < hi
      · have ec : decide (((2 * r + 1 + 1 : Nat) : Int) < (hi : Int)) = true := decide_eq_true (by omega)
        rw [ec, if_pos rfl, if_pos rfl, dlt]
        cases hlt : ltK (gk l (f + (2 * r + 1))) (gk l (f + (2 * r + 2))) with
        | true =>
          rw [if_pos rfl]
          exact fin (2 * r + 2) (.inr rfl) c2 (fun d h8 h9 => by
            rcases h8 with e | e
            · rw [e]; exact .inr hlt
            · rw [e]; exact .refl _)
        | false =>
          rw [if_neg (by decide)]
          exact fin (2 * r + 1) (.inl rfl) (by omega) (fun d h8 h9 => by
            rcases h8 with e | e
            · rw [e]; exact .refl _
            · rw [e]; exact h3.kle (by omega) (by omega) hlt)
      · have ec : decide (((2 * r + 1 + 1 : Nat) : Int) < (hi : Int)) = false := decide_eq_false (by omega)
        rw [ec, if_neg (by simp)]
        exact fin (2 * r + 1) (.inl rfl) (by omega) (fun d h8 h9 => by
          rcases h8 with e | e
          · rw [e]; exact .refl _
          · omega)
theorem sd_ok (k f lo hi : Nat) (l : KeyRow) (h1 : f + hi ≤ l.length) (h2 : l.length ≤ 1000) (hk : 1000 < k) (h3 : Ks l) (h4 : lo ≤ hi) (h7 : HeapBut f lo hi lo l) :
    ∃ m, slices_siftDownW k l (lo : Int) (hi : Int) (f : Int) = some m ∧ Sw f (f + hi) l m ∧ HeapP f lo hi m := by
  unfold slices_siftDownW
  exact sd_l1 k f lo hi k lo l h1 h2 h3 (Nat.le_refl _) (by omega) (by omega) h7
theorem hs_l1 (k a b : Nat) (hab : a ≤ b) : ∀ (n t : Nat) (l : KeyRow), a + t ≤ b → b ≤ l.length → l.length ≤ 1000 → 1000 < k → Ks l → t < n → HeapP a 0 t l → Srt (a + t) b l → (∀ p q, p < t → a + t ≤ q → q < b → kle (gk l (a + p)) (gk l q)) →
    Sorts (slices_heapSortW.l1 k (a : Int) n ((t : Int) - 1) l) a b l := by
  intro n
  induction n with
  | zero => intro t l h1 h2 h3 h4 h5 h6; omega
  | succ n ih =>
    intro t l h1 h2 h3 h4 h5 h6 h7 h8 h9
    rw [slices_heapSortW.l1]
    by_cases c : t = 0
    · subst c
      rw [if_neg (by decide)]
      exact ⟨l, rfl, .refl, h8⟩
    · obtain ⟨t, rfl⟩ : ∃ q, t = q + 1 := ⟨t - 1, by omega⟩
      have e0 : (((t + 1 : Nat) : Int) - 1) = (t : Int) := by omega
      rw [e0, if_pos (decide_eq_true (by omega))]
      have e1 : iadd .i64 (a : Int) (t : Int) = ((a + t : Nat) : Int) := addN (by omega) (by omega)
      rw [swap_step (p := a) (q := a + t) rfl e1 (by omega) (by omega)]
      have hsw : Sw a b l (swp l a (a + t)) := .snoc a (a + t) .refl (by omega) (by omega) (by omega) (by omega) (by omega)
      have gs := gk_swp (l := l) (i := a) (j := a + t) (by omega) (by omega)
      have hbut : HeapBut a 0 t 0 (swp l a (a + t)) := ⟨fun p d g1 g2 g3 g4 => by
        rw [gs, gs, if_neg (by omega), if_neg (by omega), if_neg (by omega), if_neg (by omega)]
        exact h7 p d g1 g3 (by omega), fun p d g1 g2 => by omega⟩
      obtain ⟨m, em, g1, g2⟩ := sd_ok k a 0 t (swp l a (a + t)) (by rw [swp_len]; omega) (by rw [swp_len]; omega) h4 (h5.sw hsw) (by omega) hbut
      rw [show ((0 : Nat) : Int) = 0 from rfl] at em
      rw [em, Option.bind_some, sub64 (by omega)]
      have lm := g1.len
      rw [swp_len] at lm
      have mt : gk m (a + t) = gk l a := by rw [g1.out (.inr (by omega)), gs, if_pos rfl]
      have mo : ∀ q, a + t < q → gk m q = gk l q := fun q hq => by rw [g1.out (.inr (by omega)), gs, if_neg (by omega), if_neg (by omega)]
      have hmax := h7.max
      have key : ∀ q, a + t ≤ q → q < b → ∀ p, p < t → kle (gk m (a + p)) (gk m q) := fun q q1 q2 p hp => by
        have := g1.all (P := fun x => kle x (gk m q)) (fun s s1 s2 => by
          rw [gs, if_neg (by omega)]
          by_cases e : s = a
          · rw [if_pos e]
            by_cases eq : q = a + t
            · rw [eq, mt]; exact hmax t (by omega)
            · rw [mo q (by omega)]; exact h9 t q (by omega) (by omega) q2
          · rw [if_neg e]
            obtain ⟨d, rfl⟩ : ∃ d, s = a + d := ⟨s - a, by omega⟩
            by_cases eq : q = a + t
            · rw [eq, mt]; exact hmax d (by omega)
            · rw [mo q (by omega)]; exact h9 d q (by omega) (by omega) q2) (a + p) (by omega) (by omega)
        exact this
      obtain ⟨r, e2, g3, g4⟩ := ih t m (by omega) (by omega) (by omega) h4 ((h5.sw hsw).sw g1) (by omega) g2 (fun p q p1 p2 p3 => by
        rw [mo q (by omega)]
        by_cases e : p = a + t
        · rw [e, mt]
          have := h9 0 q (by omega) (by omega) p3
          rw [Nat.add_zero] at this
          exact this
        · rw [mo p (by omega)]; exact h8 p q (by omega) p2 p3) (fun p q hp q1 q2 => key q q1 q2 p hp)
      exact ⟨r, e2, hsw.trans ((g1.mono (by omega) (by omega) (by rw [swp_len]; omega)).trans g3), g4⟩
theorem hs_l2 (k a b : Nat) (hab : a ≤ b) : ∀ (n t : Nat) (l : KeyRow), t ≤ b - a → b ≤ l.length → l.length ≤ 1000 → 1000 < k → Ks l → t < n → HeapP a t (b - a) l →
    ∃ m, slices_heapSortW.l2 k (b : Int) (a : Int) n ((t : Int) - 1) l = slices_heapSortW.j1 k (a : Int) (b : Int) m ∧ Sw a b l m ∧ HeapP a 0 (b - a) m := by
  intro n
  induction n with
  | zero => intro t l h1 h2 h3 h4 h5 h6; omega
  | succ n ih =>
    intro t l h1 h2 h3 h4 h5 h6 h7
    rw [slices_heapSortW.l2]
    by_cases c : t = 0
    · subst c
      rw [if_neg (by decide)]
      exact ⟨l, rfl, .refl, h7⟩
    · obtain ⟨t, rfl⟩ : ∃ q, t = q + 1 := ⟨t - 1, by omega⟩
      have e0 : (((t + 1 : Nat) : Int) - 1) = (t : Int) := by omega
      rw [e0, if_pos (decide_eq_true (by omega)), subN (by omega) (by omega)]
      obtain ⟨m, em, g1, g2⟩ := sd_ok k a t (b - a) l (by omega) h3 h4 h5 (by omega) ⟨fun p d g1 g2 g3 g4 => h7 p d (by omega) g3 g4, fun p d g1 g2 => by omega⟩
      rw [em, Option.bind_some, sub64 (by omega)]
      have g1' : Sw a b l m := g1.mono (by omega) (by omega) (by omega)
      obtain ⟨r, e2, g3, g4⟩ := ih t m (by omega) (by rw [g1.len]; exact h2) (by rw [g1.len]; exact h3) h4 (h5.sw g1) (by omega) g2
      exact ⟨r, e2, g1'.trans g3, g4⟩
theorem hs_ok (k a b : Nat) (l : KeyRow) (hab : a < b) (h2 : b ≤ l.length) (h3 : l.length ≤ 1000) (h4 : 1000 < k) (h5 : Ks l) : Sorts (slices_heapSortW k l (a : Int) (b : Int)) a b l := by
  unfold slices_heapSortW
  have e1 : iquo .i64 (isub .i64 (isub .i64 (b : Int) (a : Int)) 1) 2 = ((((b - a - 1) / 2 + 1 : Nat) : Int) - 1) := by
    rw [subN (by omega) (by omega), sub1 (by omega) (by omega), quo64 (by omega) (by omega)]; omega
  rw [e1]
  obtain ⟨m, em, g1, g2⟩ := hs_l2 k a b (by omega) k ((b - a - 1) / 2 + 1) l (by omega) h2 h3 h4 h5 (by omega) (fun p c q1 q2 q3 => by omega)
  rw [em]
  unfold slices_heapSortW.j1
  have e2 : isub .i64 (isub .i64 (b : Int) (a : Int)) 1 = (((b - a : Nat) : Int) - 1) := by rw [subN (by omega) (by omega), sub64 (by omega)]
  rw [e2]
  have lm := g1.len
  obtain ⟨r, er, g3, g4⟩ := hs_l1 k a b (by omega) k (b - a) m (by omega) (by omega) (by omega) h4 (h5.sw g1) (by omega) g2 (.small (by omega) m) (fun p q h1 h2 h3 => by omega)
  exact ⟨r, er, g1.trans g3, g4⟩

theorem rr_l1 (k a b : Nat) : ∀ (n i j : Nat) (l : KeyRow), a ≤ i → j < b → b ≤ l.length → l.length ≤ 1000 → j - i < n → ∃ m, slices_reverseRangeW.l1 k n (i : Int) (j : Int) l = some m ∧ Sw a b l m := by
  intro n
  induction n with
  | zero => intro i j l h1 h2 h3 h4 h5; omega
  | succ n ih =>
    intro i j l h1 h2 h3 h4 h5
    rw [slices_reverseRangeW.l1]
    by_cases c : i < j
    · rw [if_pos (decide_eq_true (by omega)), swap_step (p := i) (q := j) rfl rfl (by omega) (by omega), add1 (by omega), sub1 (by omega) (by omega)]
      have hsw : Sw a b l (swp l i j) := .snoc i j .refl (by omega) (by omega) (by omega) (by omega) (by omega)
      obtain ⟨m, e, g⟩ := ih (i + 1) (j - 1) (swp l i j) (by omega) (by omega) (by rw [swp_len]; exact h3) (by rw [swp_len]; exact h4) (by omega)
      exact ⟨m, e, hsw.trans g⟩
    · rw [if_neg (by simp; omega)]
      exact ⟨l, rfl, .refl⟩
theorem rr_ok (k a b : Nat) (l : KeyRow) (hab : a < b) (h2 : b ≤ l.length) (h3 : l.length ≤ 1000) (h4 : 1000 < k) : ∃ m, slices_reverseRangeW k l (a : Int) (b : Int) = some m ∧ Sw a b l m := by
  unfold slices_reverseRangeW
  rw [sub1 (by omega) (by omega)]
  exact rr_l1 k a b k a (b - 1) l (Nat.le_refl _) (by omega) h2 h3 (by omega)
theorem o2_ok (k : Nat) (l : KeyRow) (hk : Ks l) (p q : Nat) (s : Int) (hp : p < l.length) (hq : q < l.length) : ∃ s', slices_order2W k l (p : Int) (q : Int) s = some ((p : Int), (q : Int), s') ∨ slices_order2W k l (p : Int) (q : Int) s = some ((q : Int), (p : Int), s') := by
  unfold slices_order2W
  rw [at_gk hq, Option.bind_some, at_gk hp, Option.bind_some, cmpW k (hk q hq) (hk p hp), Option.bind_some]
  by_cases c : decide (cmpB (gk l q) (gk l p) < 0) = true
  · exact ⟨_, .inr (by rw [if_pos c])⟩
  · exact ⟨_, .inl (by rw [if_neg c])⟩
theorem md_ok (k : Nat) (l : KeyRow) (hk : Ks l) (p q r : Nat) (s : Int) (hp : p < l.length) (hq : q < l.length) (hr : r < l.length) : ∃ (x : Nat) (s' : Int), slices_medianW k l (p : Int) (q : Int) (r : Int) s = some ((x : Int), s') ∧ (x = p ∨ x = q ∨ x = r) := by
  unfold slices_medianW
  have key : ∀ (p q r : Nat) (s : Int), p < l.length → q < l.length → r < l.length → ∃ (x : Nat) (s' : Int), ((slices_order2W k l (q : Int) (r : Int) s).bind fun x2 => (slices_order2W k l (p : Int) x2.1 x2.2.2).bind fun x3 => some (x3.2.1, x3.2.2)) = some ((x : Int), s') ∧ (x = p ∨ x = q ∨ x = r) := by
    intro p q r s hp hq hr
    obtain ⟨s2, e | e⟩ := o2_ok k l hk q r s hq hr
    · rw [e, Option.bind_some]
      obtain ⟨s3, e | e⟩ := o2_ok k l hk p q s2 hp hq
      · simp only [e, Option.bind_some]; exact ⟨q, _, rfl, .inr (.inl rfl)⟩
      · simp only [e, Option.bind_some]; exact ⟨p, _, rfl, .inl rfl⟩
    · rw [e, Option.bind_some]
      obtain ⟨s3, e | e⟩ := o2_ok k l hk p r s2 hp hr
      · simp only [e, Option.bind_some]; exact ⟨r, _, rfl, .inr (.inr rfl)⟩
      · simp only [e, Option.bind_some]; exact ⟨p, _, rfl, .inl rfl⟩
  obtain ⟨s1, e | e⟩ := o2_ok k l hk p q s hp hq
  · rw [e, Option.bind_some]; exact key p q r s1 hp hq hr
  · rw [e, Option.bind_some]
    obtain ⟨x, s', e2, h⟩ := key q p r s1 hq hp hr
    exact ⟨x, s', e2, by omega⟩
theorem ma_ok (k : Nat) (l : KeyRow) (hk : Ks l) (p : Nat) (s : Int) (hp : 0 < p) (hq : p + 1 < l.length) (h3 : l.length ≤ 1000) : ∃ (x : Nat) (s' : Int), slices_medianAdjacentW k l (p : Int) s = some ((x : Int), s') ∧ p ≤ x + 1 ∧ x ≤ p + 1 := by
  unfold slices_medianAdjacentW
  rw [sub1 hp (by omega), add1 (by omega)]
  obtain ⟨x, s', e, h⟩ := md_ok k l hk (p - 1) p (p + 1) s (by omega) (by omega) (by omega)
  exact ⟨x, s', by rw [e, Option.bind_some], by omega, by omega⟩
theorem cp_ok (k a b : Nat) (l : KeyRow) (hab : a + 12 < b) (h2 : b ≤ l.length) (h3 : l.length ≤ 1000) (h5 : Ks l) : ∃ (p : Nat) (h : Int), slices_choosePivotW k l (a : Int) (b : Int) = some ((p : Int), h) ∧ a ≤ p ∧ p < b := by
  have fin : ∀ (p : Nat) (s : Int), a ≤ p → p < b → ∃ (q : Nat) (h : Int), slices_choosePivotW.j1 k (p : Int) s = some ((q : Int), h) ∧ a ≤ q ∧ q < b := fun p s g1 g2 => by
    unfold slices_choosePivotW.j1
    split
    · exact ⟨p, _, rfl, g1, g2⟩
    · split
      · exact ⟨p, _, rfl, g1, g2⟩
      · exact ⟨p, _, rfl, g1, g2⟩
  have fin2 : ∀ (x y z : Nat) (s : Int), a ≤ x → x < b → a ≤ y → y < b → a ≤ z → z < b → ∃ (q : Nat) (h : Int), slices_choosePivotW.j2 k l (x : Int) (y : Int) (z : Int) s = some ((q : Int), h) ∧ a ≤ q ∧ q < b := fun x y z s g1 g2 g3 g4 g5 g6 => by
    unfold slices_choosePivotW.j2
    obtain ⟨p, s', e, h⟩ := md_ok k l h5 x y z s (by omega) (by omega) (by omega)
    rw [e, Option.bind_some]
    exact fin p s' (by omega) (by omega)
  unfold slices_choosePivotW
  rw [subN (by omega) (by omega)]
  have q4 : iquo .i64 ((b - a : Nat) : Int) 4 = (((b - a) / 4 : Nat) : Int) := by rw [quo64 (by omega) (by omega)]; omega
  have ex : ∀ c : Nat, c ≤ 3 → iadd .i64 (a : Int) (imul .i64 (((b - a) / 4 : Nat) : Int) (c : Int)) = ((a + (b - a) / 4 * c : Nat) : Int) := fun c hc => by
    have e1 : ((((b - a) / 4 : Nat) : Int) * (c : Int)) = (((b - a) / 4 * c : Nat) : Int) := by rw [Int.natCast_mul]
    have e2 : (b - a) / 4 * c ≤ 1000 := by
      have : (b - a) / 4 * c ≤ (b - a) / 4 * 3 := Nat.mul_le_mul_left _ hc
      omega
    rw [mul64 (by rw [e1]; omega), e1, addN (by omega) (by omega)]
  have x1 := ex 1 (by omega)
  have x2 := ex 2 (by omega)
  have x3 := ex 3 (by omega)
  rw [show ((1 : Nat) : Int) = 1 from rfl] at x1
  rw [show ((2 : Nat) : Int) = 2 from rfl] at x2
  rw [show ((3 : Nat) : Int) = 3 from rfl] at x3
  rw [q4, x1, x2, x3, Option.bind_some, Option.bind_some, Option.bind_some, if_pos (decide_eq_true (by omega))]
  by_cases c : 50 ≤ b - a
  · rw [if_pos (decide_eq_true (by omega))]
    obtain ⟨y1, s1, e1, g1, g2⟩ := ma_ok k l h5 (a + (b - a) / 4 * 1) 0 (by omega) (by omega) h3
    rw [e1, Option.bind_some]
    obtain ⟨y2, s2, e2, g3, g4⟩ := ma_ok k l h5 (a + (b - a) / 4 * 2) s1 (by omega) (by omega) h3
    rw [e2, Option.bind_some]
    obtain ⟨y3, s3, e3, g5, g6⟩ := ma_ok k l h5 (a + (b - a) / 4 * 3) s2 (by omega) (by omega) h3
    rw [e3, Option.bind_some]
    exact fin2 y1 y2 y3 s3 (by omega) (by omega) (by omega) (by omega) (by omega) (by omega)
  · rw [if_neg (by simp; omega)]
    exact fin2 _ _ _ 0 (by omega) (by omega) (by omega) (by omega) (by omega) (by omega)

theorem iand_le (x : Int) (y : Nat) (hy : y < 18446744073709551616) : ∃ z : Nat, iand .u64 x (y : Int) = (z : Int) ∧ z ≤ y := by
  have h2 : (BitVec.ofInt IntKind.u64.bits x &&& BitVec.ofInt IntKind.u64.bits (y : Int)).toNat ≤ y := by
    show (BitVec.ofInt 64 x &&& BitVec.ofInt 64 (y : Int)).toNat ≤ y
    rw [BitVec.toNat_and, BitVec.ofInt_natCast, BitVec.toNat_ofNat, Nat.mod_eq_of_lt (by omega)]
    exact Nat.and_le_right
  exact ⟨_, wu64s ⟨by omega, by omega⟩, h2⟩
theorem np_all : ∀ n : Fin 200, 8 ≤ n.val → ∃ m : Fin 400, slices_nextPowerOfTwo 0 (n.val : Int) = some (m.val : Int) ∧ 1 ≤ m.val ∧ m.val ≤ 2 * n.val := by
  have key : ∀ n : Fin 200, 8 ≤ n.val → ((slices_nextPowerOfTwo 0 (n.val : Int)).any fun x => decide (1 ≤ x ∧ x ≤ 2 * (n.val : Int))) = true := by decide +kernel
  intro n hn
  have := key n hn
  cases e : slices_nextPowerOfTwo 0 (n.val : Int) with
  | none => rw [e] at this; cases this
  | some x =>
    rw [e] at this
    have h : 1 ≤ x ∧ x ≤ 2 * (n.val : Int) := by simpa using this
    exact ⟨⟨x.toNat, by have := n.isLt; omega⟩, by simp; omega, by simp; omega, by simp; omega⟩
theorem np_ok (k n : Nat) (h1 : 8 ≤ n) (h2 : n < 200) : ∃ m : Nat, slices_nextPowerOfTwo k (n : Int) = some (m : Int) ∧ 1 ≤ m ∧ m ≤ 2 * n := by
  obtain ⟨m, e, g1, g2⟩ := np_all ⟨n, h2⟩ h1
  exact ⟨m.val, e, g1, g2⟩
theorem bp_l1 (k a b mo : Nat) (hab : a + 8 ≤ b) (hm1 : 1 ≤ mo) (hm2 : mo ≤ 2 * (b - a)) : ∀ (n i : Nat) (r : Int) (l : KeyRow), a ≤ i → i ≤ a + (b - a) / 4 * 2 + 2 → b ≤ l.length → l.length ≤ 1000 → a + (b - a) / 4 * 2 + 2 - i < n →
    ∃ m, slices_breakPatternsW.l1 k (a : Int) (b : Int) (mo : Int) n (i : Int) r l = some m ∧ Sw a b l m := by
  intro n
  induction n with
  | zero => intro i r l h1 h2 h3 h4 h5; omega
  | succ n ih =>
    intro i r l h1 h2 h3 h4 h5
    have q4 : iquo .i64 ((b - a : Nat) : Int) 4 = (((b - a) / 4 : Nat) : Int) := by rw [quo64 (by omega) (by omega)]; omega
    have x2 : iadd .i64 (a : Int) (imul .i64 (((b - a) / 4 : Nat) : Int) 2) = ((a + (b - a) / 4 * 2 : Nat) : Int) := by rw [mul64 (by omega), add64 (by omega)]; omega
    rw [slices_breakPatternsW.l1, subN (by omega) (by omega), q4, x2, Option.bind_some, add1 (by omega)]
    by_cases c : i ≤ a + (b - a) / 4 * 2 + 1
    · rw [if_pos (decide_eq_true (by omega))]
      have ex : ∃ v, slices_xorshift_Next k r = some v := ⟨_, rfl⟩
      obtain ⟨v, ev⟩ := ex
      rw [ev, Option.bind_some]
      have em : isub .u64 (mo : Int) 1 = ((mo - 1 : Nat) : Int) := by
        show IntKind.wrap .u64 _ = _
        rw [wu64s (by omega)]; omega
      obtain ⟨z, ez, hz⟩ := iand_le v.1 (mo - 1) (by omega)
      rw [em, ez, wi64 (by omega), Option.bind_some]
      have step : ∀ o : Nat, o < b - a → ∃ m, slices_breakPatternsW.j1 k (a : Int) l (i : Int) v (slices_breakPatternsW.l1 k (a : Int) (b : Int) (mo : Int) n) (o : Int) = some m ∧ Sw a b l m := fun o ho => by
        unfold slices_breakPatternsW.j1
        rw [swap_step (p := i) (q := a + o) rfl (addN (by omega) (by omega)) (by omega) (by omega), add1 (by omega)]
        have hsw : Sw a b l (swp l i (a + o)) := .snoc i (a + o) .refl (by omega) (by omega) (by omega) (by omega) (by omega)
        obtain ⟨m, e, g⟩ := ih (i + 1) v.2 (swp l i (a + o)) (by omega) (by omega) (by rw [swp_len]; exact h3) (by rw [swp_len]; exact h4) (by omega)
        exact ⟨m, e, hsw.trans g⟩
      by_cases c2 : b - a ≤ z
      · rw [if_pos (decide_eq_true (by omega)), Option.bind_some, subN (by omega) (by omega)]
        exact step (z - (b - a)) (by omega)
      · rw [if_neg (by simp; omega)]
        exact step z (by omega)
    · rw [if_neg (by simp; omega)]
      exact ⟨l, rfl, .refl⟩
theorem bp_ok (k a b : Nat) (l : KeyRow) (hab : a + 8 ≤ b) (h2 : b ≤ l.length) (h3 : l.length < 200) (h4 : 1000 < k) : ∃ m, slices_breakPatternsW k l (a : Int) (b : Int) = some m ∧ Sw a b l m := by
  unfold slices_breakPatternsW
  have q4 : iquo .i64 ((b - a : Nat) : Int) 4 = (((b - a) / 4 : Nat) : Int) := by rw [quo64 (by omega) (by omega)]; omega
  have x2 : iadd .i64 (a : Int) (imul .i64 (((b - a) / 4 : Nat) : Int) 2) = ((a + (b - a) / 4 * 2 : Nat) : Int) := by rw [mul64 (by omega), add64 (by omega)]; omega
  obtain ⟨mo, em, g1, g2⟩ := np_ok k (b - a) (by omega) (by omega)
  rw [subN (by omega) (by omega), if_pos (decide_eq_true (by omega)), em, Option.bind_some, q4, x2, Option.bind_some, sub1 (by omega) (by omega)]
  exact bp_l1 k a b mo hab g1 g2 k _ _ l (by omega) (by omega) h2 (by omega) (by omega)

theorem pi_l2 (k b c3 : Nat) (a i : Nat) (L : Int → Int → KeyRow → Option (Bool × KeyRow)) : ∀ (n j : Nat) (l : KeyRow), a ≤ i → i < j → b ≤ l.length → l.length ≤ 1000 → Ks l → b - j < n → Srt a i l →
    ∃ m, slices_partialInsertionSortW.l2 k (b : Int) (c3 : Int) (i : Int) L n (j : Int) l = L (i : Int) (iadd .i64 (c3 : Int) 1) m ∧ Sw a b l m ∧ Srt a i m := by
  intro n
  induction n with
  | zero => intro j l h1 h2 h3 h4 h5 h6; omega
  | succ n ih =>
    intro j l h1 h2 h3 h4 h5 h6 h7
    rw [slices_partialInsertionSortW.l2]
    by_cases c : j < b
    · rw [if_pos (decide_eq_true (by omega)), cmp_step (p := j) (q := j - 1) k h5 rfl (sub1 (by omega) (by omega)) (by omega) (by omega), dlt]
      cases hc : ltK (gk l j) (gk l (j - 1)) with
      | false => rw [if_pos (by rfl)]; exact ⟨l, rfl, .refl, h7⟩
      | true =>
        rw [if_neg (by decide), swap_step (p := j) (q := j - 1) rfl (sub1 (by omega) (by omega)) (by omega) (by omega), add1 (by omega)]
        have hsw : Sw a b l (swp l j (j - 1)) := .snoc j (j - 1) .refl (by omega) (by omega) (by omega) (by omega) (by omega)
        obtain ⟨m, e, g1, g2⟩ := ih (j + 1) (swp l j (j - 1)) h1 (by omega) (by rw [swp_len]; exact h3) (by rw [swp_len]; exact h4) (h5.sw hsw) (by omega) (h7.congr (fun t t1 t2 => by rw [gk_swp (by omega) (by omega), if_neg (by omega), if_neg (by omega)]))
        exact ⟨m, e, hsw.trans g1, g2⟩
    · rw [if_neg (by simp; omega)]
      exact ⟨l, rfl, .refl, h7⟩
theorem pi_j4 (k b c3 : Nat) (a i : Nat) (L : Int → Int → KeyRow → Option (Bool × KeyRow)) (l : KeyRow) (h1 : a ≤ i) (h2 : i ≤ b) (h3 : b ≤ l.length) (h4 : l.length ≤ 1000) (hk : 1000 < k) (h5 : Ks l) (h7 : Srt a i l) :
    ∃ m, slices_partialInsertionSortW.j4 k (b : Int) (i : Int) (c3 : Int) L l = L (i : Int) (iadd .i64 (c3 : Int) 1) m ∧ Sw a b l m ∧ Srt a i m := by
  unfold slices_partialInsertionSortW.j4
  split
  · rw [add1 (by omega)]
    exact pi_l2 k b c3 a i L k (i + 1) l h1 (by omega) h3 h4 h5 (by omega) h7
  · exact ⟨l, rfl, .refl, h7⟩
theorem pi_l3 (k b c3 : Nat) (a i : Nat) (L : Int → Int → KeyRow → Option (Bool × KeyRow)) : ∀ (n j : Nat) (l : KeyRow), a ≤ j → j < i → i < b → b ≤ l.length → l.length ≤ 1000 → Ks l → Lwb a b l → j < n → SrtBut a i j l →
    ∃ m, slices_partialInsertionSortW.l3 k (b : Int) (i : Int) (c3 : Int) L n (j : Int) l = slices_partialInsertionSortW.j4 k (b : Int) (i : Int) (c3 : Int) L m ∧ Sw a b l m ∧ Srt a i m := by
  intro n
  induction n with
  | zero => intro j l h1 h2 h3 h4 h5 h6 h7 h8; omega
  | succ n ih =>
    intro j l h1 h2 h3 h4 h5 h6 h7 h8 h9
    rw [slices_partialInsertionSortW.l3]
    by_cases c : 1 ≤ j
    · rw [if_pos (decide_eq_true (by omega)), cmp_step (p := j) (q := j - 1) k h6 rfl (sub1 (by omega) (by omega)) (by omega) (by omega), dlt]
      cases hc : ltK (gk l j) (gk l (j - 1)) with
      | false => rw [if_pos (by rfl)]; exact ⟨l, rfl, .refl, h9.done (.inr (h6.kle (by omega) (by omega) hc))⟩
      | true =>
        have haj : a < j := by
          apply Classical.byContradiction
          intro hn
          have e : j = a := by omega
          subst e
          rcases h7 with q | q
          · omega
          · exact (q j (Nat.le_refl _) (by omega)).anti hc
        rw [if_neg (by decide), swap_step (p := j) (q := j - 1) rfl (sub1 (by omega) (by omega)) (by omega) (by omega), sub1 (by omega) (by omega)]
        have hsw : Sw a b l (swp l j (j - 1)) := .snoc j (j - 1) .refl (by omega) (by omega) (by omega) (by omega) (by omega)
        obtain ⟨m, e, g1, g2⟩ := ih (j - 1) (swp l j (j - 1)) (by omega) (by omega) h3 (by rw [swp_len]; exact h4) (by rw [swp_len]; exact h5) (h6.sw hsw) (h7.sw hsw) (by omega) (h9.step haj h2 (by omega) hc)
        exact ⟨m, e, hsw.trans g1, g2⟩
    · rw [if_neg (by simp; omega)]
      exact ⟨l, rfl, .refl, h9.done (.inl (by omega))⟩
theorem pi_j3 (k b c3 : Nat) (a i : Nat) (L : Int → Int → KeyRow → Option (Bool × KeyRow)) (l : KeyRow) (h1 : a < i) (h2 : i ≤ b) (h3 : b ≤ l.length) (h4 : l.length ≤ 1000) (hk : 1000 < k) (h5 : Ks l) (h6 : Lwb a b l) (h7 : Srt a i l) (h8 : i < b → ltK (gk l i) (gk l (i - 1)) = true)
    (hL : ∀ m, Sw a b l m → Srt a i m → ∃ ok r, L (i : Int) (iadd .i64 (c3 : Int) 1) m = some (ok, r) ∧ Sw a b m r ∧ (ok = true → Srt a b r)) :
    ∃ ok m, slices_partialInsertionSortW.j3 k (b : Int) l (a : Int) (c3 : Int) L (i : Int) = some (ok, m) ∧ Sw a b l m ∧ (ok = true → Srt a b m) := by
  unfold slices_partialInsertionSortW.j3
  by_cases c : i = b
  · rw [if_pos (by simp [c])]
    exact ⟨true, l, rfl, .refl, fun _ => by rw [← c]; exact h7⟩
  · rw [if_neg (by simp; omega), subN (by omega) (by omega)]
    by_cases c2 : b - a < 50
    · rw [if_pos (decide_eq_true (by omega))]
      exact ⟨false, l, rfl, .refl, fun h => by cases h⟩
    · rw [if_neg (by simp; omega), swap_step (p := i) (q := i - 1) rfl (sub1 (by omega) (by omega)) (by omega) (by omega), subN (by omega) (by omega), sub1 (by omega) (by omega)]
      have hsw : Sw a b l (swp l i (i - 1)) := .snoc i (i - 1) .refl (by omega) (by omega) (by omega) (by omega) (by omega)
      have hlt := h8 (by omega)
      have fin : ∀ m, Sw a b l m → Srt a i m → ∃ ok r, slices_partialInsertionSortW.j4 k (b : Int) (i : Int) (c3 : Int) L m = some (ok, r) ∧ Sw a b l r ∧ (ok = true → Srt a b r) := fun m g1 g2 => by
        have lm := g1.len
        obtain ⟨m2, e2, g3, g4⟩ := pi_j4 k b c3 a i L m (by omega) h2 (by omega) (by omega) hk (h5.sw g1) g2
        obtain ⟨ok, r, e3, g5, g6⟩ := hL m2 (g1.trans g3) g4
        exact ⟨ok, r, e2.trans e3, (g1.trans g3).trans g5, g6⟩
      by_cases c3' : 2 ≤ i - a
      · rw [if_pos (decide_eq_true (by omega))]
        obtain ⟨m, e, g1, g2⟩ := pi_l3 k b c3 a i L k (i - 1) (swp l i (i - 1)) (by omega) (by omega) (by omega) (by rw [swp_len]; exact h3) (by rw [swp_len]; exact h4) (h5.sw hsw) (h6.sw hsw) (by omega) (fun p q p1 p2 p3 p4 => by
          rw [gk_swp (by omega) (by omega), gk_swp (by omega) (by omega), if_neg (by omega), if_neg (by omega), if_neg (by omega), if_neg (by omega)]
          exact h7 p q p1 p2 p3)
        obtain ⟨ok, r, e2, g3, g4⟩ := fin m (hsw.trans g1) g2
        exact ⟨ok, r, e.trans e2, g3, g4⟩
      · rw [if_neg (by simp; omega)]
        exact fin _ hsw (.small (by omega) _)
theorem pi_l4 (k b c3 : Nat) (a : Nat) (L : Int → Int → KeyRow → Option (Bool × KeyRow)) (l : KeyRow) (h3 : b ≤ l.length) (h4 : l.length ≤ 1000) (h5 : Ks l) : ∀ (n i : Nat), a < i → i ≤ b → b - i < n → Srt a i l →
    ∃ j : Nat, slices_partialInsertionSortW.l4 k (b : Int) l (a : Int) (c3 : Int) L n (i : Int) = slices_partialInsertionSortW.j3 k (b : Int) l (a : Int) (c3 : Int) L (j : Int) ∧ i ≤ j ∧ j ≤ b ∧ Srt a j l ∧ (j < b → ltK (gk l j) (gk l (j - 1)) = true) := by
  intro n
  induction n with
  | zero => intro i h1 h2 h6; omega
  | succ n ih =>
    intro i h1 h2 h6 h7
    rw [slices_partialInsertionSortW.l4, gcmp (p := i) (q := i - 1) k h5 (fun hb => by have := of_decide_eq_true hb; exact ⟨rfl, sub1 (by omega) (by omega), by omega, by omega⟩)]
    by_cases c : i < b
    · have ec : decide ((i : Int) < (b : Int)) = true := decide_eq_true (by omega)
      rw [ec, if_pos rfl, if_pos rfl, dlt]
      cases hc : ltK (gk l i) (gk l (i - 1)) with
      | false =>
        rw [if_pos (by rfl), add1 (by omega)]
        obtain ⟨j, e, g1, g2, g3⟩ := ih (i + 1) (by omega) (by omega) (by omega) (h7.snoc h1 (h5.kle (by omega) (by omega) hc))
        exact ⟨j, e, by omega, g2, g3⟩
      | true =>
        rw [if_neg (by decide)]
        exact ⟨i, rfl, Nat.le_refl _, h2, h7, fun _ => hc⟩
    · have ec : decide ((i : Int) < (b : Int)) = false := decide_eq_false (by omega)
      rw [ec, if_neg (by simp)]
      exact ⟨i, rfl, Nat.le_refl _, h2, h7, fun h => absurd h c⟩
theorem pi_l1 (k a b : Nat) (hk : 1000 < k) : ∀ (n i c : Nat) (l : KeyRow), a < i → i ≤ b → b ≤ l.length → l.length ≤ 1000 → Ks l → Lwb a b l → Srt a i l → c ≤ 5 → 5 - c < n →
    ∃ ok m, slices_partialInsertionSortW.l1 k (b : Int) (a : Int) n (i : Int) (c : Int) l = some (ok, m) ∧ Sw a b l m ∧ (ok = true → Srt a b m) := by
  intro n
  induction n with
  | zero => intro i c l h1 h2 h3 h4 h5 h6 h7 h8 h9; omega
  | succ n ih =>
    intro i c l h1 h2 h3 h4 h5 h6 h7 h8 h9
    rw [slices_partialInsertionSortW.l1]
    by_cases cc : c < 5
    · rw [if_pos (decide_eq_true (by omega))]
      obtain ⟨j, e, g1, g2, g3, g4⟩ := pi_l4 k b c a (slices_partialInsertionSortW.l1 k (b : Int) (a : Int) n) l h3 h4 h5 k i h1 h2 (by omega) h7
      rw [e]
      exact pi_j3 k b c a j _ l (by omega) g2 h3 h4 hk h5 h6 g3 g4 (fun m s1 s2 => by
        rw [add1 (by omega)]
        exact ih j (c + 1) m (by omega) g2 (by rw [s1.len]; exact h3) (by rw [s1.len]; exact h4) (h5.sw s1) (h6.sw s1) s2 (by omega) (by omega))
    · rw [if_neg (by simp; omega)]
      exact ⟨false, l, rfl, .refl, fun h => by cases h⟩
theorem pi_ok (k a b : Nat) (l : KeyRow) (hab : a < b) (h3 : b ≤ l.length) (h4 : l.length ≤ 1000) (hk : 1000 < k) (h5 : Ks l) (h6 : Lwb a b l) : ∃ ok m, slices_partialInsertionSortW k l (a : Int) (b : Int) = some (ok, m) ∧ Sw a b l m ∧ (ok = true → Srt a b m) := by
  unfold slices_partialInsertionSortW
  rw [add1 (by omega)]
  exact pi_l1 k a b hk k (a + 1) 0 l (by omega) (by omega) h3 h4 h5 h6 (.one a l) (by omega) (by omega)

theorem pe_l2 (k a i : Nat) (l : KeyRow) (L : Int → Int → KeyRow → Option (Int × KeyRow)) (h5 : Ks l) (h4 : l.length ≤ 1000) (ha : a < i) : ∀ (n j : Nat), i ≤ j + 1 → j < l.length → j + 1 - i < n →
    ∃ j' : Nat, slices_partitionEqualW.l2 k (i : Int) (a : Int) l L n (j : Int) = slices_partitionEqualW.j3 k (i : Int) l L (j' : Int) ∧ i ≤ j' + 1 ∧ j' ≤ j ∧ (∀ t, j' < t → t ≤ j → ltK (gk l a) (gk l t) = true) ∧ (i ≤ j' → ltK (gk l a) (gk l j') = false) := by
  intro n
  induction n with
  | zero =>
    intro j h1 h2 h3; omega
  | succ n ih =>
    intro j h1 h2 h3
    rw [slices_partitionEqualW.l2, gcmp (p := a) (q := j) k h5 (fun hb => by have := of_decide_eq_true hb; exact ⟨rfl, rfl, by omega, by omega⟩)]
    by_cases c : i ≤ j
    · have ec : decide ((i : Int) ≤ (j : Int)) = true := decide_eq_true (by omega)
      rw [ec, if_pos rfl, if_pos rfl, dlt]
      cases hc : ltK (gk l a) (gk l j) with
      | true =>
        rw [if_pos rfl, sub1 (by omega) (by omega)]
        obtain ⟨j', e, g1, g2, g3, g4⟩ := ih (j - 1) (by omega) (by omega) (by omega)
        refine ⟨j', e, g1, by omega, fun t t1 t2 => ?_, g4⟩
        by_cases et : t = j
        · rw [et]; exact hc
        · exact g3 t t1 (by omega)
      | false =>
        rw [if_neg (by decide)]
        exact ⟨j, rfl, h1, Nat.le_refl _, fun t t1 t2 => by omega, fun _ => hc⟩
    · have ec : decide ((i : Int) ≤ (j : Int)) = false := decide_eq_false (by omega)
      rw [ec, if_neg (by simp)]
      exact ⟨j, rfl, h1, Nat.le_refl _, fun t t1 t2 => by omega, fun h => absurd h c⟩
theorem pe_l3 (k a j : Nat) (l : KeyRow) (L : Int → Int → KeyRow → Option (Int × KeyRow)) (h5 : Ks l) (h4 : l.length ≤ 1000) (hj : j < l.length) (hk : 1000 < k) : ∀ (n i : Nat), a < i → i ≤ j + 1 → j + 1 - i < n →
    ∃ i' : Nat, slices_partitionEqualW.l3 k (j : Int) (a : Int) l L n (i : Int) = slices_partitionEqualW.l2 k (i' : Int) (a : Int) l L k (j : Int) ∧ i ≤ i' ∧ i' ≤ j + 1 ∧ (∀ t, i ≤ t → t < i' → kle (gk l t) (gk l a)) ∧ (i' ≤ j → ltK (gk l a) (gk l i') = true) := by
  intro n
  induction n with
  | zero => intro i h1 h2 h3; omega
  | succ n ih =>
    intro i h1 h2 h3
    rw [slices_partitionEqualW.l3, gcmp (p := a) (q := i) k h5 (fun hb => by have := of_decide_eq_true hb; exact ⟨rfl, rfl, by omega, by omega⟩)]
    by_cases c : i ≤ j
    · have ec : decide ((i : Int) ≤ (j : Int)) = true := decide_eq_true (by omega)
      rw [ec, if_pos rfl, if_pos rfl, dlt]
      cases hc : ltK (gk l a) (gk l i) with
      | false =>
        rw [if_pos (by rfl), add1 (by omega)]
        obtain ⟨i', e, g1, g2, g3, g4⟩ := ih (i + 1) (by omega) (by omega) (by omega)
        refine ⟨i', e, by omega, g2, fun t t1 t2 => ?_, g4⟩
        by_cases et : t = i
        · rw [et]; exact h5.kle (by omega) (by omega) hc
        · exact g3 t (by omega) t2
      | true =>
        rw [if_neg (by decide)]
        exact ⟨i, rfl, Nat.le_refl _, h2, fun t t1 t2 => by omega, fun _ => hc⟩
    · have ec : decide ((i : Int) ≤ (j : Int)) = false := decide_eq_false (by omega)
      rw [ec, if_neg (by simp)]
      exact ⟨i, rfl, Nat.le_refl _, h2, fun t t1 t2 => by omega, fun h => absurd h c⟩
theorem pe_l1 (k a b : Nat) (hk : 1000 < k) : ∀ (n i j : Nat) (l : KeyRow), a < i → i ≤ j + 1 → j < b → b ≤ l.length → l.length ≤ 1000 → Ks l → j + 1 - i < n →
    (∀ t, a < t → t < i → kle (gk l t) (gk l a)) → (∀ t, j < t → t < b → ltK (gk l a) (gk l t) = true) →
    ∃ (mid : Nat) (m : KeyRow), slices_partitionEqualW.l1 k (a : Int) n (i : Int) (j : Int) l = some ((mid : Int), m) ∧ Sw (a + 1) b l m ∧ a < mid ∧ mid ≤ b ∧ (∀ t, a ≤ t → t < mid → kle (gk m t) (gk l a)) ∧ (∀ t, mid ≤ t → t < b → ltK (gk l a) (gk m t) = true) := by
  intro n
  induction n with
  | zero => intro i j l h1 h2 h3 h4 h5 h6 h7; omega
  | succ n ih =>
    intro i j l h1 h2 h3 h4 h5 h6 h7 h8 h9
    rw [slices_partitionEqualW.l1]
    obtain ⟨i', e1, a1, a2, a3, a4⟩ := pe_l3 k a j l (slices_partitionEqualW.l1 k (a : Int) n) h6 h5 (by omega) hk k i h1 h2 (by omega)
    obtain ⟨j', e2, b1, b2, b3, b4⟩ := pe_l2 k a i' l (slices_partitionEqualW.l1 k (a : Int) n) h6 h5 (by omega) k j a2 (by omega) (by omega)
    rw [e1, e2]
    unfold slices_partitionEqualW.j3
    have l8 : ∀ t, a < t → t < i' → kle (gk l t) (gk l a) := fun t t1 t2 => by
      by_cases c : t < i
      · exact h8 t t1 c
      · exact a3 t (by omega) t2
    have l9 : ∀ t, j' < t → t < b → ltK (gk l a) (gk l t) = true := fun t t1 t2 => by
      by_cases c : t ≤ j
      · exact b3 t t1 c
      · exact h9 t (by omega) t2
    by_cases c : j' < i'
    · rw [if_pos (decide_eq_true (by omega))]
      unfold slices_partitionEqualW.j1
      refine ⟨i', l, rfl, .refl, by omega, by omega, fun t t1 t2 => ?_, fun t t1 t2 => l9 t (by omega) t2⟩
      by_cases et : t = a
      · rw [et]; exact .refl _
      · exact l8 t (by omega) t2
    · have q1 := a4 (by omega)
      have q2 := b4 (by omega)
      have ne : i' ≠ j' := fun e => by rw [e, q2] at q1; cases q1
      rw [if_neg (by simp; omega), swap_step (p := i') (q := j') rfl rfl (by omega) (by omega), add1 (by omega), sub1 (by omega) (by omega)]
      have gs := gk_swp (l := l) (i := i') (j := j') (by omega) (by omega)
      have ga : gk (swp l i' j') a = gk l a := by rw [gs, if_neg (by omega), if_neg (by omega)]
      have hsw : Sw (a + 1) b l (swp l i' j') := .snoc i' j' .refl (by omega) (by omega) (by omega) (by omega) (by omega)
      obtain ⟨mid, m, e3, g1, g2, g3, g4, g5⟩ := ih (i' + 1) (j' - 1) (swp l i' j') (by omega) (by omega) (by omega) (by rw [swp_len]; exact h4) (by rw [swp_len]; exact h5) (h6.sw hsw) (by omega) (fun t t1 t2 => by
          rw [ga, gs, if_neg (by omega)]
          by_cases et : t = i'
          · rw [if_pos et]; exact h6.kle (by omega) (by omega) q2
          · rw [if_neg et]; exact l8 t t1 (by omega)) (fun t t1 t2 => by
          rw [ga, gs]
          by_cases et : t = j'
          · rw [if_pos et]; exact q1
          · rw [if_neg et, if_neg (by omega)]; exact l9 t (by omega) t2)
      rw [ga] at g4 g5
      exact ⟨mid, m, e3, hsw.trans g1, g2, g3, g4, g5⟩
theorem pe_ok (k a b p : Nat) (l : KeyRow) (hap : a ≤ p) (hpb : p < b) (h3 : b ≤ l.length) (h4 : l.length ≤ 1000) (hk : 1000 < k) (h5 : Ks l) :
    ∃ (mid : Nat) (m : KeyRow), slices_partitionEqualW k l (a : Int) (b : Int) (p : Int) = some ((mid : Int), m) ∧ Sw a b l m ∧ a < mid ∧ mid ≤ b ∧ (∀ t, a ≤ t → t < mid → kle (gk m t) (gk l p)) ∧ (∀ t, mid ≤ t → t < b → ltK (gk l p) (gk m t) = true) := by
  unfold slices_partitionEqualW
  rw [swap_step (p := a) (q := p) rfl rfl (by omega) (by omega), add1 (by omega), sub1 (by omega) (by omega)]
  have hsw : Sw a b l (swp l a p) := .snoc a p .refl (by omega) (by omega) (by omega) (by omega) (by omega)
  have ga : gk (swp l a p) a = gk l p := by
    rw [gk_swp (by omega) (by omega)]
    by_cases e : a = p
    · rw [if_pos e, e]
    · rw [if_neg e, if_pos rfl]
  obtain ⟨mid, m, e, g1, g2, g3, g4, g5⟩ := pe_l1 k a b hk k (a + 1) (b - 1) (swp l a p) (by omega) (by omega) (by omega) (by rw [swp_len]; exact h3) (by rw [swp_len]; exact h4) (h5.sw hsw) (by omega) (fun t t1 t2 => by omega) (fun t t1 t2 => by omega)
  rw [ga] at g4 g5
  exact ⟨mid, m, e, hsw.trans (g1.mono (by omega) (Nat.le_refl _) (by rw [swp_len]; exact h3)), g2, g3, g4, g5⟩

/-- parted at mid -/
def Parted (a mid b : Nat) (m : KeyRow) : Prop := (∀ t, a ≤ t → t < mid → kle (gk m t) (gk m mid)) ∧ ∀ t, mid < t → t < b → kle (gk m mid) (gk m t)
theorem parted_of (a b j : Nat) (l : KeyRow) (ha : a ≤ j) (hj : j < b) (h3 : b ≤ l.length) (h8 : ∀ t, a < t → t ≤ j → ltK (gk l t) (gk l a) = true) (h9 : ∀ t, j < t → t < b → kle (gk l a) (gk l t)) : Parted a j b (swp l j a) := by
  have gs := gk_swp (l := l) (i := j) (j := a) (by omega) (by omega)
  have gj : gk (swp l j a) j = gk l a := by
    rw [gs]
    by_cases e : j = a
    · rw [if_pos e, e]
    · rw [if_neg e, if_pos rfl]
  refine ⟨fun t t1 t2 => ?_, fun t t1 t2 => ?_⟩
  · rw [gj, gs]
    by_cases e : t = a
    · rw [if_pos e]; exact .inr (h8 j (by omega) (Nat.le_refl _))
    · rw [if_neg e, if_neg (by omega)]; exact .inr (h8 t (by omega) (by omega))
  · rw [gj, gs, if_neg (by omega), if_neg (by omega)]
    exact h9 t t1 t2
theorem pt_l2 (k a i : Nat) (l : KeyRow) (L : Int → Int → KeyRow → Option (Int × Bool × KeyRow)) (h5 : Ks l) (h4 : l.length ≤ 1000) (ha : a < i) : ∀ (n j : Nat), i ≤ j + 1 → j < l.length → j + 1 - i < n →
    ∃ j' : Nat, slices_partitionW.l2 k (i : Int) l (a : Int) L n (j : Int) = slices_partitionW.j5 k (i : Int) (a : Int) l L (j' : Int) ∧ i ≤ j' + 1 ∧ j' ≤ j ∧ (∀ t, j' < t → t ≤ j → kle (gk l a) (gk l t)) ∧ (i ≤ j' → ltK (gk l j') (gk l a) = true) := by
  intro n
  induction n with
  | zero => intro j h1 h2 h3; omega
  | succ n ih =>
    intro j h1 h2 h3
    rw [slices_partitionW.l2, gcmp (p := j) (q := a) k h5 (fun hb => by have := of_decide_eq_true hb; exact ⟨rfl, rfl, by omega, by omega⟩)]
    by_cases c : i ≤ j
    · have ec : decide ((i : Int) ≤ (j : Int)) = true := decide_eq_true (by omega)
      rw [ec, if_pos rfl, if_pos rfl, dlt]
      cases hc : ltK (gk l j) (gk l a) with
      | false =>
        rw [if_pos (by rfl), sub1 (by omega) (by omega)]
        obtain ⟨j', e, g1, g2, g3, g4⟩ := ih (j - 1) (by omega) (by omega) (by omega)
        refine ⟨j', e, g1, by omega, fun t t1 t2 => ?_, g4⟩
        by_cases et : t = j
        · rw [et]; exact h5.kle (by omega) (by omega) hc
        · exact g3 t t1 (by omega)
      | true =>
        rw [if_neg (by decide)]
        exact ⟨j, rfl, h1, Nat.le_refl _, fun t t1 t2 => by omega, fun _ => hc⟩
    · have ec : decide ((i : Int) ≤ (j : Int)) = false := decide_eq_false (by omega)
      rw [ec, if_neg (by simp)]
      exact ⟨j, rfl, h1, Nat.le_refl _, fun t t1 t2 => by omega, fun h => absurd h c⟩
theorem pt_l3 (k a j : Nat) (l : KeyRow) (L : Int → Int → KeyRow → Option (Int × Bool × KeyRow)) (h5 : Ks l) (h4 : l.length ≤ 1000) (hj : j < l.length) : ∀ (n i : Nat), a < i → i ≤ j + 1 → j + 1 - i < n →
    ∃ i' : Nat, slices_partitionW.l3 k (j : Int) l (a : Int) L n (i : Int) = slices_partitionW.l2 k (i' : Int) l (a : Int) L k (j : Int) ∧ i ≤ i' ∧ i' ≤ j + 1 ∧ (∀ t, i ≤ t → t < i' → ltK (gk l t) (gk l a) = true) ∧ (i' ≤ j → ltK (gk l i') (gk l a) = false) := by
  intro n
  induction n with
  | zero => intro i h1 h2 h3; omega
  | succ n ih =>
    intro i h1 h2 h3
    rw [slices_partitionW.l3, gcmp (p := i) (q := a) k h5 (fun hb => by have := of_decide_eq_true hb; exact ⟨rfl, rfl, by omega, by omega⟩)]
    by_cases c : i ≤ j
    · have ec : decide ((i : Int) ≤ (j : Int)) = true := decide_eq_true (by omega)
      rw [ec, if_pos rfl, if_pos rfl, dlt]
      cases hc : ltK (gk l i) (gk l a) with
      | true =>
        rw [if_pos rfl, add1 (by omega)]
        obtain ⟨i', e, g1, g2, g3, g4⟩ := ih (i + 1) (by omega) (by omega) (by omega)
        refine ⟨i', e, by omega, g2, fun t t1 t2 => ?_, g4⟩
        by_cases et : t = i
        · rw [et]; exact hc
        · exact g3 t (by omega) t2
      | false =>
        rw [if_neg (by decide)]
        exact ⟨i, rfl, Nat.le_refl _, h2, fun t t1 t2 => by omega, fun _ => hc⟩
    · have ec : decide ((i : Int) ≤ (j : Int)) = false := decide_eq_false (by omega)
      rw [ec, if_neg (by simp)]
      exact ⟨i, rfl, Nat.le_refl _, h2, fun t t1 t2 => by omega, fun h => absurd h c⟩
theorem pt_l4 (k a i : Nat) (l : KeyRow) (h5 : Ks l) (h4 : l.length ≤ 1000) (ha : a < i) : ∀ (n j : Nat), i ≤ j + 1 → j < l.length → j + 1 - i < n →
    ∃ j' : Nat, slices_partitionW.l4 k (i : Int) l (a : Int) n (j : Int) = slices_partitionW.j2 k (i : Int) (a : Int) l (j' : Int) ∧ i ≤ j' + 1 ∧ j' ≤ j ∧ (∀ t, j' < t → t ≤ j → kle (gk l a) (gk l t)) ∧ (i ≤ j' → ltK (gk l j') (gk l a) = true) := by
  intro n
  induction n with
  | zero => intro j h1 h2 h3; omega
  | succ n ih =>
    intro j h1 h2 h3
    rw [slices_partitionW.l4, gcmp (p := j) (q := a) k h5 (fun hb => by have := of_decide_eq_true hb; exact ⟨rfl, rfl, by omega, by omega⟩)]
    by_cases c : i ≤ j
    · have ec : decide ((i : Int) ≤ (j : Int)) = true := decide_eq_true (by omega)
      rw [ec, if_pos rfl, if_pos rfl, dlt]
      cases hc : ltK (gk l j) (gk l a) with
      | false =>
        rw [if_pos (by rfl), sub1 (by omega) (by omega)]
        obtain ⟨j', e, g1, g2, g3, g4⟩ := ih (j - 1) (by omega) (by omega) (by omega)
        refine ⟨j', e, g1, by omega, fun t t1 t2 => ?_, g4⟩
        by_cases et : t = j
        · rw [et]; exact h5.kle (by omega) (by omega) hc
        · exact g3 t t1 (by omega)
      | true =>
        rw [if_neg (by decide)]
        exact ⟨j, rfl, h1, Nat.le_refl _, fun t t1 t2 => by omega, fun _ => hc⟩
    · have ec : decide ((i : Int) ≤ (j : Int)) = false := decide_eq_false (by omega)
      rw [ec, if_neg (by simp)]
      exact ⟨j, rfl, h1, Nat.le_refl _, fun t t1 t2 => by omega, fun h => absurd h c⟩
theorem pt_l5 (k a b : Nat) (l : KeyRow) (h5 : Ks l) (h4 : l.length ≤ 1000) (hb0 : 0 < b) (hb : b ≤ l.length) : ∀ (n i : Nat), a < i → i ≤ b → b - i < n →
    ∃ i' : Nat, slices_partitionW.l5 k (b : Int) l (a : Int) n (i : Int) = slices_partitionW.l4 k (i' : Int) l (a : Int) k ((b - 1 : Nat) : Int) ∧ i ≤ i' ∧ i' ≤ b ∧ (∀ t, i ≤ t → t < i' → ltK (gk l t) (gk l a) = true) ∧ (i' < b → ltK (gk l i') (gk l a) = false) := by
  intro n
  induction n with
  | zero => intro i h1 h2 h3; omega
  | succ n ih =>
    intro i h1 h2 h3
    rw [slices_partitionW.l5, sub1 (by omega) (by omega), gcmp (p := i) (q := a) k h5 (fun hb => by have := of_decide_eq_true hb; exact ⟨rfl, rfl, by omega, by omega⟩)]
    by_cases c : i < b
    · have ec : decide ((i : Int) ≤ ((b - 1 : Nat) : Int)) = true := decide_eq_true (by omega)
      rw [ec, if_pos rfl, if_pos rfl, dlt, Option.bind_some]
      cases hc : ltK (gk l i) (gk l a) with
      | true =>
        rw [if_pos rfl, add1 (by omega)]
        obtain ⟨i', e, g1, g2, g3, g4⟩ := ih (i + 1) (by omega) (by omega) (by omega)
        refine ⟨i', e, by omega, g2, fun t t1 t2 => ?_, g4⟩
        by_cases et : t = i
        · rw [et]; exact hc
        · exact g3 t (by omega) t2
      | false =>
        rw [if_neg (by decide)]
        refine ⟨i, ?_, Nat.le_refl _, h2, fun t t1 t2 => by omega, fun _ => hc⟩
        unfold slices_partitionW.j1
        rw [sub1 (by omega) (by omega)]
    · have ec : decide ((i : Int) ≤ ((b - 1 : Nat) : Int)) = false := decide_eq_false (by omega)
      rw [ec, Option.bind_some, if_neg (by simp)]
      refine ⟨i, ?_, Nat.le_refl _, h2, fun t t1 t2 => by omega, fun h => absurd h c⟩
      unfold slices_partitionW.j1
      rw [sub1 (by omega) (by omega)]
theorem pt_l1 (k a b : Nat) (hk : 1000 < k) : ∀ (n i j : Nat) (l : KeyRow), a < i → i ≤ j + 1 → j < b → b ≤ l.length → l.length ≤ 1000 → Ks l → j + 1 - i < n →
    (∀ t, a < t → t < i → ltK (gk l t) (gk l a) = true) → (∀ t, j < t → t < b → kle (gk l a) (gk l t)) →
    ∃ (mid : Nat) (f : Bool) (m : KeyRow), slices_partitionW.l1 k (a : Int) n (i : Int) (j : Int) l = some ((mid : Int), f, m) ∧ Sw a b l m ∧ a ≤ mid ∧ mid < b ∧ Parted a mid b m := by
  intro n
  induction n with
  | zero => intro i j l h1 h2 h3 h4 h5 h6 h7; omega
  | succ n ih =>
    intro i j l h1 h2 h3 h4 h5 h6 h7 h8 h9
    rw [slices_partitionW.l1]
    obtain ⟨i', e1, a1, a2, a3, a4⟩ := pt_l3 k a j l (slices_partitionW.l1 k (a : Int) n) h6 h5 (by omega) k i h1 h2 (by omega)
    obtain ⟨j', e2, b1, b2, b3, b4⟩ := pt_l2 k a i' l (slices_partitionW.l1 k (a : Int) n) h6 h5 (by omega) k j a2 (by omega) (by omega)
    rw [e1, e2]
    unfold slices_partitionW.j5
    have l8 : ∀ t, a < t → t < i' → ltK (gk l t) (gk l a) = true := fun t t1 t2 => by
      by_cases c : t < i
      · exact h8 t t1 c
      · exact a3 t (by omega) t2
    have l9 : ∀ t, j' < t → t < b → kle (gk l a) (gk l t) := fun t t1 t2 => by
      by_cases c : t ≤ j
      · exact b3 t t1 c
      · exact h9 t (by omega) t2
    by_cases c : j' < i'
    · rw [if_pos (decide_eq_true (by omega))]
      unfold slices_partitionW.j3
      rw [swap_step (p := j') (q := a) rfl rfl (by omega) (by omega)]
      exact ⟨j', false, _, rfl, .snoc j' a .refl (by omega) (by omega) (by omega) (by omega) (by omega), by omega, by omega, parted_of a b j' l (by omega) (by omega) h4 (fun t t1 t2 => l8 t t1 (by omega)) l9⟩
    · have q1 := a4 (by omega)
      have q2 := b4 (by omega)
      have ne : i' ≠ j' := fun e => by rw [e, q2] at q1; cases q1
      rw [if_neg (by simp; omega), swap_step (p := i') (q := j') rfl rfl (by omega) (by omega), add1 (by omega), sub1 (by omega) (by omega)]
      have gs := gk_swp (l := l) (i := i') (j := j') (by omega) (by omega)
      have ga : gk (swp l i' j') a = gk l a := by rw [gs, if_neg (by omega), if_neg (by omega)]
      have hsw : Sw a b l (swp l i' j') := .snoc i' j' .refl (by omega) (by omega) (by omega) (by omega) (by omega)
      obtain ⟨mid, f, m, e3, g1, g2⟩ := ih (i' + 1) (j' - 1) (swp l i' j') (by omega) (by omega) (by omega) (by rw [swp_len]; exact h4) (by rw [swp_len]; exact h5) (h6.sw hsw) (by omega) (fun t t1 t2 => by
          rw [ga, gs, if_neg (by omega)]
          by_cases et : t = i'
          · rw [if_pos et]; exact q2
          · rw [if_neg et]; exact l8 t t1 (by omega)) (fun t t1 t2 => by
          rw [ga, gs]
          by_cases et : t = j'
          · rw [if_pos et]; exact h6.kle (by omega) (by omega) q1
          · rw [if_neg et, if_neg (by omega)]; exact l9 t (by omega) t2)
      exact ⟨mid, f, m, e3, hsw.trans g1, g2⟩
theorem pt_ok (k a b p : Nat) (l : KeyRow) (hap : a ≤ p) (hpb : p < b) (h3 : b ≤ l.length) (h4 : l.length ≤ 1000) (hk : 1000 < k) (h5 : Ks l) :
    ∃ (mid : Nat) (f : Bool) (m : KeyRow), slices_partitionW k l (a : Int) (b : Int) (p : Int) = some ((mid : Int), f, m) ∧ Sw a b l m ∧ a ≤ mid ∧ mid < b ∧ Parted a mid b m := by
  unfold slices_partitionW
  rw [swap_step (p := a) (q := p) rfl rfl (by omega) (by omega), add1 (by omega)]
  have hsw0 : Sw a b l (swp l a p) := .snoc a p .refl (by omega) (by omega) (by omega) (by omega) (by omega)
  have ll := swp_len l a p
  have hks := h5.sw hsw0
  generalize swp l a p = l at *
  obtain ⟨i, e1, a1, a2, a3, a4⟩ := pt_l5 k a b l hks (by omega) (by omega) (by omega) k (a + 1) (by omega) (by omega) (by omega)
  obtain ⟨j, e2, b1, b2, b3, b4⟩ := pt_l4 k a i l hks (by omega) (by omega) k (b - 1) (by omega) (by omega) (by omega)
  rw [e1, e2]
  unfold slices_partitionW.j2
  have l8 : ∀ t, a < t → t < i → ltK (gk l t) (gk l a) = true := fun t t1 t2 => a3 t (by omega) t2
  have l9 : ∀ t, j < t → t < b → kle (gk l a) (gk l t) := fun t t1 t2 => b3 t t1 (by omega)
  by_cases c : j < i
  · rw [if_pos (decide_eq_true (by omega)), swap_step (p := j) (q := a) rfl rfl (by omega) (by omega)]
    exact ⟨j, true, _, rfl, hsw0.trans (.snoc j a .refl (by omega) (by omega) (by omega) (by omega) (by omega)), by omega, by omega, parted_of a b j l (by omega) (by omega) (by omega) (fun t t1 t2 => l8 t t1 (by omega)) l9⟩
  · have q1 := a4 (by omega)
    have q2 := b4 (by omega)
    have ne : i ≠ j := fun e => by rw [e, q2] at q1; cases q1
    rw [if_neg (by simp; omega), swap_step (p := i) (q := j) rfl rfl (by omega) (by omega), add1 (by omega), sub1 (by omega) (by omega)]
    have gs := gk_swp (l := l) (i := i) (j := j) (by omega) (by omega)
    have ga : gk (swp l i j) a = gk l a := by rw [gs, if_neg (by omega), if_neg (by omega)]
    have hsw : Sw a b l (swp l i j) := .snoc i j .refl (by omega) (by omega) (by omega) (by omega) (by omega)
    obtain ⟨mid, f, m, e3, g1, g2⟩ := pt_l1 k a b hk k (i + 1) (j - 1) (swp l i j) (by omega) (by omega) (by omega) (by rw [swp_len]; omega) (by rw [swp_len]; omega) (hks.sw hsw) (by omega) (fun t t1 t2 => by
        rw [ga, gs, if_neg (by omega)]
        by_cases et : t = i
        · rw [if_pos et]; exact q2
        · rw [if_neg et]; exact l8 t t1 (by omega)) (fun t t1 t2 => by
        rw [ga, gs]
        by_cases et : t = j
        · rw [if_pos et]; exact hks.kle (by omega) (by omega) q1
        · rw [if_neg et, if_neg (by omega)]; exact l9 t (by omega) t2)
    exact ⟨mid, f, m, e3, hsw0.trans (hsw.trans g1), g2⟩

theorem join_part {a mid b : Nat} {m r : KeyRow} (hp : Parted a mid b m) (e : gk r mid = gk m mid) (hl : ∀ t, a ≤ t → t < mid → kle (gk r t) (gk m mid)) (hr : ∀ t, mid < t → t < b → kle (gk m mid) (gk r t)) (s1 : Srt a mid r) (s2 : Srt (mid + 1) b r) : Srt a b r := by
  intro p q h1 h2 h3
  rcases Nat.lt_trichotomy q mid with g | g | g
  · exact s1 p q h1 h2 g
  · rw [g, e]; exact hl p h1 (by omega)
  · rcases Nat.lt_trichotomy p mid with f | f | f
    · exact (hl p h1 f).trans (hr q g h3)
    · rw [f, e]; exact hr q g h3
    · exact s2 p q (by omega) h2 h3
theorem pq_j3 (k a b p : Nat) (lim : Int) (w1 w2 : Bool) (L : Int → Int → Int → Bool → Bool → KeyRow → Option KeyRow) (R : KeyRow → Int → Int → Int → Option KeyRow) (l : KeyRow) (hap : a ≤ p) (hpb : p < b) (h3 : b ≤ l.length) (h4 : l.length ≤ 1000) (hk : 1000 < k) (h5 : Ks l) (h6 : Lwb a b l)
    (hL : ∀ (a' b' : Nat) (lim : Int) (w1 w2 : Bool) (m : KeyRow), a ≤ a' → b' ≤ b → a' ≤ b' → b' - a' < b - a → m.length = l.length → Ks m → Lwb a' b' m → Sorts (L (a' : Int) (b' : Int) lim w1 w2 m) a' b' m)
    (hR : ∀ (a' b' : Nat) (lim : Int) (m : KeyRow), a ≤ a' → b' ≤ b → a' ≤ b' → b' - a' < b - a → m.length = l.length → Ks m → Lwb a' b' m → Sorts (R m (a' : Int) (b' : Int) lim) a' b' m) :
    Sorts (slices_pdqsortW.j3 k (a : Int) (p : Int) (b : Int) lim w1 w2 L R l) a b l := by
  unfold slices_pdqsortW.j3
  rw [gcmp (p := a - 1) (q := p) k h5 (fun hb => by have := of_decide_eq_true hb; exact ⟨sub1 (by omega) (by omega), rfl, by omega, by omega⟩)]
  have rest : Sorts ((slices_partitionW k l (a : Int) (b : Int) (p : Int)).bind fun x9 => if (decide ((isub .i64 x9.1 (a : Int)) < (isub .i64 (b : Int) x9.1))) = true then ((some ((decide ((isub .i64 x9.1 (a : Int)) ≥ (iquo .i64 (isub .i64 (b : Int) (a : Int)) (8 : Int)))))).bind fun x10 => (R x9.2.2 (a : Int) x9.1 lim).bind fun x11 => L (iadd .i64 x9.1 (1 : Int)) (b : Int) lim x10 x9.2.1 x11) else ((some ((decide ((isub .i64 (b : Int) x9.1) ≥ (iquo .i64 (isub .i64 (b : Int) (a : Int)) (8 : Int)))))).bind fun x12 => (R x9.2.2 (iadd .i64 x9.1 (1 : Int)) (b : Int) lim).bind fun x13 => L (a : Int) x9.1 lim x12 x9.2.1 x13)) a b l := by
    obtain ⟨mid, f, m, e, g1, g2, g3, g4⟩ := pt_ok k a b p l hap hpb h3 h4 hk h5
    rw [e, Option.bind_some]
    have lm := g1.len
    have km := h5.sw g1
    have wm := h6.sw g1
    have wl : ∀ r, Sw (mid + 1) b m r → Lwb a mid r := fun r hr => by
      rcases wm with q | q
      · exact .inl q
      · by_cases a0 : a = 0
        · exact .inl a0
        · exact .inr (fun t t1 t2 => by rw [hr.out (t := a - 1) (.inl (by omega)), hr.out (t := t) (.inl (by omega))]; exact q t t1 (by omega))
    have wr : ∀ r, Sw a mid m r → Lwb (mid + 1) b r := fun r hr => .inr (fun t t1 t2 => by
      rw [Nat.add_sub_cancel, hr.out (t := mid) (.inr (Nat.le_refl _)), hr.out (t := t) (.inr (by omega))]
      exact g4.2 t (by omega) t2)
    have ea : iadd .i64 (mid : Int) 1 = ((mid + 1 : Nat) : Int) := add1 (by omega)
    show Sorts (if decide (isub .i64 (mid : Int) (a : Int) < isub .i64 (b : Int) (mid : Int)) = true then _ else _) a b l
    split
    · rw [Option.bind_some]
      obtain ⟨r, er, r1, r2⟩ := hR a mid lim m (Nat.le_refl _) (by omega) g2 (by omega) lm km (wl m .refl)
      rw [er, Option.bind_some, ea]
      have lr := r1.len
      obtain ⟨z, ez, z1, z2⟩ := hL (mid + 1) b lim _ _ r (by omega) (Nat.le_refl _) (by omega) (by omega) (by omega) (km.sw r1) (wr r r1)
      refine ⟨z, ez, g1.trans ((r1.mono (Nat.le_refl _) (by omega) (by omega)).trans (z1.mono (by omega) (Nat.le_refl _) (by omega))), join_part g4 ?_ ?_ ?_ ?_ z2⟩
      · rw [z1.out (.inl (by omega)), r1.out (.inr (Nat.le_refl _))]
      · intro t t1 t2
        rw [z1.out (.inl (by omega))]
        exact r1.all (P := fun x => kle x (gk m mid)) g4.1 t t1 t2
      · intro t t1 t2
        exact z1.all (P := fun x => kle (gk m mid) x) (fun s s1 s2 => by rw [r1.out (.inr (by omega))]; exact g4.2 s (by omega) s2) t (by omega) t2
      · exact r2.congr (fun t t1 t2 => z1.out (.inl (by omega)))
    · rw [Option.bind_some, ea]
      obtain ⟨r, er, r1, r2⟩ := hR (mid + 1) b lim m (by omega) (Nat.le_refl _) (by omega) (by omega) lm km (wr m .refl)
      rw [er, Option.bind_some]
      have lr := r1.len
      obtain ⟨z, ez, z1, z2⟩ := hL a mid lim _ _ r (Nat.le_refl _) (by omega) g2 (by omega) (by omega) (km.sw r1) (wl r r1)
      refine ⟨z, ez, g1.trans ((r1.mono (by omega) (Nat.le_refl _) (by omega)).trans (z1.mono (Nat.le_refl _) (by omega) (by omega))), join_part g4 ?_ ?_ ?_ z2 ?_⟩
      · rw [z1.out (.inr (Nat.le_refl _)), r1.out (.inl (by omega))]
      · intro t t1 t2
        exact z1.all (P := fun x => kle x (gk m mid)) (fun s s1 s2 => by rw [r1.out (.inl (by omega))]; exact g4.1 s s1 s2) t t1 t2
      · intro t t1 t2
        rw [z1.out (.inr (by omega))]
        exact r1.all (P := fun x => kle (gk m mid) x) (fun s s1 s2 => g4.2 s (by omega) s2) t (by omega) t2
      · exact r2.congr (fun t t1 t2 => z1.out (.inr (by omega)))
  by_cases c : 0 < a
  · have ec : decide ((a : Int) > (0 : Int)) = true := decide_eq_true (by omega)
    rw [ec, if_pos rfl, if_pos rfl, dlt, Option.bind_some]
    cases hc : ltK (gk l (a - 1)) (gk l p) with
    | true => rw [if_neg (by decide)]; exact rest
    | false =>
      rw [if_pos (by rfl)]
      have hlow : ∀ t, a ≤ t → t < b → kle (gk l p) (gk l t) := fun t t1 t2 => by
        rcases h6 with q | q
        · omega
        · exact (h5.kle (by omega) (by omega) hc).trans (q t t1 t2)
      obtain ⟨mid, m, e, g1, g2, g3, g4, g5⟩ := pe_ok k a b p l hap hpb h3 h4 hk h5
      rw [e, Option.bind_some]
      have lm := g1.len
      have mlow : ∀ t, a ≤ t → t < b → kle (gk l p) (gk m t) := g1.all (P := fun x => kle (gk l p) x) hlow
      obtain ⟨z, ez, z1, z2⟩ := hL mid b lim w1 w2 m (by omega) (Nat.le_refl _) g3 (by omega) lm (h5.sw g1) (.inr (fun t t1 t2 => (g4 (mid - 1) (by omega) (by omega)).trans (.inr (g5 t t1 t2))))
      refine ⟨z, ez, g1.trans (z1.mono (by omega) (Nat.le_refl _) (by omega)), Srt.join (c := mid) (fun i j h1 h2 h3 => ?_) z2 (fun i j h1 h2 h3 h4 => ?_)⟩
      · rw [z1.out (.inl (by omega)), z1.out (.inl (by omega))]
        exact (g4 i h1 (by omega)).trans (mlow j (by omega) (by omega))
      · rw [z1.out (t := i) (.inl h2)]
        exact (g4 i h1 h2).trans (z1.all (P := fun x => kle (gk l p) x) (fun s s1 s2 => mlow s (by omega) s2) j h3 h4)
  · have ec : decide ((a : Int) > (0 : Int)) = false := decide_eq_false (by omega)
    rw [ec, Option.bind_some, if_neg (by simp)]
    exact rest
theorem pq_l1 (k d : Nat) (hk : 1000 < k) (R : KeyRow → Int → Int → Int → Option KeyRow)
    (hR : ∀ (a' b' : Nat) (lim : Int) (m : KeyRow), a' ≤ b' → b' - a' < d → b' ≤ m.length → m.length < 200 → Ks m → Lwb a' b' m → Sorts (R m (a' : Int) (b' : Int) lim) a' b' m) :
    ∀ (n a b : Nat) (lim : Int) (w1 w2 : Bool) (l : KeyRow), a ≤ b → b - a ≤ d → b ≤ l.length → l.length < 200 → Ks l → Lwb a b l → b - a < n → Sorts (slices_pdqsortW.l1 k R n (a : Int) (b : Int) lim w1 w2 l) a b l := by
  intro n
  induction n with
  | zero => intro a b lim w1 w2 l h1 h2 h3 h4 h5 h6 h7; omega
  | succ n ih =>
    intro a b lim w1 w2 l h1 h2 h3 h4 h5 h6 h7
    rw [slices_pdqsortW.l1, subN h1 (by omega)]
    by_cases c : b - a ≤ 12
    · rw [if_pos (decide_eq_true (by omega))]
      obtain ⟨m, e, g⟩ := is_ok k a b l h3 (by omega) hk h5 h1
      exact ⟨m, by rw [e]; rfl, g⟩
    · rw [if_neg (by simp; omega)]
      by_cases c0 : (lim == (0 : Int)) = true
      · rw [if_pos c0]
        obtain ⟨m, e, g⟩ := hs_ok k a b l (by omega) h3 (by omega) hk h5
        exact ⟨m, by rw [e]; rfl, g⟩
      · rw [if_neg c0]
        have j3 : ∀ (p : Nat) (lim : Int) (l : KeyRow), a ≤ p → p < b → b ≤ l.length → l.length < 200 → Ks l → Lwb a b l → Sorts (slices_pdqsortW.j3 k (a : Int) (p : Int) (b : Int) lim w1 w2 (slices_pdqsortW.l1 k R n) R l) a b l := fun p lim l hp1 hp2 h3 h4 h5 h6 =>
          pq_j3 k a b p lim w1 w2 _ R l hp1 hp2 h3 (by omega) hk h5 h6 (fun a' b' lim v1 v2 m q1 q2 q3 q4 q5 q6 q7 => ih a' b' lim v1 v2 m q3 (by omega) (by omega) (by omega) q6 q7 (by omega))
            (fun a' b' lim m q1 q2 q3 q4 q5 q6 q7 => hR a' b' lim m q3 (by omega) (by omega) (by omega) q6 q7)
        have j2 : ∀ (p : Nat) (lim h : Int) (l : KeyRow), a ≤ p → p < b → b ≤ l.length → l.length < 200 → Ks l → Lwb a b l → Sorts (slices_pdqsortW.j2 k w1 w2 (a : Int) (b : Int) lim (slices_pdqsortW.l1 k R n) R (p : Int) h l) a b l := fun p lim h l hp1 hp2 h3 h4 h5 h6 => by
          unfold slices_pdqsortW.j2
          by_cases cj : (if (if w1 then w2 else false) then (h == (1 : Int)) else false) = true
          · rw [if_pos cj]
            obtain ⟨ok, m, e, g1, g2⟩ := pi_ok k a b l (by omega) h3 (by omega) hk h5 h6
            have lm := g1.len
            rw [e, Option.bind_some]
            cases ok with
            | true => exact ⟨m, rfl, g1, g2 rfl⟩
            | false =>
              rw [if_neg (by simp)]
              obtain ⟨r, er, r1, r2⟩ := j3 p lim m hp1 hp2 (by omega) (by omega) (h5.sw g1) (h6.sw g1)
              exact ⟨r, er, g1.trans r1, r2⟩
          · rw [if_neg cj]
            exact j3 p lim l hp1 hp2 h3 h4 h5 h6
        have j1 : ∀ (lim : Int) (l : KeyRow), b ≤ l.length → l.length < 200 → Ks l → Lwb a b l → Sorts (slices_pdqsortW.j1 k (a : Int) (b : Int) w1 w2 (slices_pdqsortW.l1 k R n) R lim l) a b l := fun lim l h3 h4 h5 h6 => by
          unfold slices_pdqsortW.j1
          obtain ⟨p, h, e, p1, p2⟩ := cp_ok k a b l (by omega) h3 (by omega) h5
          rw [e, Option.bind_some]
          split
          · obtain ⟨m, em, g1⟩ := rr_ok k a b l (by omega) h3 (by omega) hk
            have lm := g1.len
            have ep : isub .i64 (isub .i64 (b : Int) 1) (isub .i64 (p : Int) (a : Int)) = ((b - 1 - (p - a) : Nat) : Int) := by
              rw [subN p1 (by omega), sub1 (by omega) (by omega), subN (by omega) (by omega)]
            rw [em, Option.bind_some, ep]
            obtain ⟨r, er, r1, r2⟩ := j2 (b - 1 - (p - a)) lim 1 m (by omega) (by omega) (by omega) (by omega) (h5.sw g1) (h6.sw g1)
            exact ⟨r, er, g1.trans r1, r2⟩
          · exact j2 p lim h l p1 p2 h3 h4 h5 h6
        by_cases cw : (!w1) = true
        · rw [if_pos cw]
          obtain ⟨m, em, g1⟩ := bp_ok k a b l (by omega) h3 h4 hk
          have lm := g1.len
          rw [em, Option.bind_some]
          obtain ⟨r, er, r1, r2⟩ := j1 (isub .i64 lim 1) m (by omega) (by omega) (h5.sw g1) (h6.sw g1)
          exact ⟨r, er, g1.trans r1, r2⟩
        · rw [if_neg cw]
          exact j1 lim l h3 h4 h5 h6
theorem pq_ok : ∀ (d k : Nat), 1001 + d < k → ∀ (a b : Nat) (lim : Int) (l : KeyRow), a ≤ b → b - a ≤ d → b ≤ l.length → l.length < 200 → Ks l → Lwb a b l → Sorts (slices_pdqsortW k l (a : Int) (b : Int) lim) a b l := by
  intro d
  induction d with
  | zero =>
    intro k hk a b lim l h1 h2 h3 h4 h5 h6
    obtain ⟨k, rfl⟩ : ∃ q, k = q + 1 := ⟨k - 1, by omega⟩
    rw [slices_pdqsortW]
    exact pq_l1 k 0 (by omega) _ (fun a' b' lim m q1 q2 => by omega) k a b lim true true l h1 h2 h3 h4 h5 h6 (by omega)
  | succ d ih =>
    intro k hk a b lim l h1 h2 h3 h4 h5 h6
    obtain ⟨k, rfl⟩ : ∃ q, k = q + 1 := ⟨k - 1, by omega⟩
    rw [slices_pdqsortW]
    exact pq_l1 k (d + 1) (by omega) _ (fun a' b' lim m q1 q2 q3 q4 q5 q6 => ih k (by omega) a' b' lim m q1 (by omega) q3 q4 q5 q6) k a b lim true true l h1 h2 h3 h4 h5 h6 (by omega)
theorem len_all : ∀ n : Fin 200, (math_bits_Len 4000 (IntKind.wrap .u64 (n.val : Int))).isSome = true := by decide +kernel
/-- all of a row in order -/
theorem sortW_eq (l : KeyRow) (hl : l.length < 200) (hk : ∀ z ∈ l, z.length = 32) : ∃ m, slices_SortFunc_api_Key_api_Key_queue_Wanted_1 4000 l = some m ∧ m.Perm l ∧ m.Pairwise kle := by
  unfold slices_SortFunc_api_Key_api_Key_queue_Wanted_1
  have hs := len_all ⟨l.length, hl⟩
  cases hv : math_bits_Len 4000 (IntKind.wrap .u64 (l.length : Int)) with
  | none => rw [hv] at hs; cases hs
  | some v =>
    rw [Option.bind_some]
    obtain ⟨m, e, g1, g2⟩ := pq_ok 200 4000 (by omega) 0 l.length v l (Nat.zero_le _) (by omega) (Nat.le_refl _) hl (Ks.of hk) (.inl rfl)
    rw [show ((0 : Nat) : Int) = 0 from rfl] at e
    rw [e]
    refine ⟨m, rfl, g1.perm, ?_⟩
    rw [← g1.len] at g2
    exact g2.pw

theorem dd1_snoc (x : List Int) (l : KeyRow) (y : List Int) : dd1 x (l ++ [y]) = dd1 x l ++ (if (x :: l).getLast? = some y then [] else [y]) := by
  induction l generalizing x with
  | nil =>
    show dd1 x [y] = _
    unfold dd1
    by_cases e : y = x
    · rw [if_pos e]; simp [dd1, e]
    · rw [if_neg e]; simp [dd1]; exact fun q => e q.symm
  | cons z l ih =>
    rw [List.cons_append, List.getLast?_cons_cons]
    unfold dd1
    by_cases e : z = x
    · subst e; rw [if_pos rfl, if_pos rfl, ih z]
    · rw [if_neg e, if_neg e, ih z]; rfl
theorem dd_snoc (l : KeyRow) (y : List Int) : dd (l ++ [y]) = dd l ++ (if l.getLast? = some y then [] else [y]) := by
  cases l with
  | nil => simp [dd, dd1]
  | cons x l =>
    show x :: dd1 x (l ++ [y]) = x :: dd1 x l ++ _
    rw [dd1_snoc]; rfl
theorem take_dd (l : KeyRow) (i : Nat) (h0 : 0 < i) (h : i < l.length) : dd (l.take (i + 1)) = dd (l.take i) ++ (if gk l (i - 1) = gk l i then [] else [gk l i]) := by
  rw [List.take_succ_eq_append_getElem h, dd_snoc, gk_eq h, gk_eq (show i - 1 < l.length by omega)]
  have e : (l.take i).getLast? = some l[i - 1] := by
    rw [List.getLast?_eq_getElem?, List.length_take, Nat.min_eq_left (by omega), List.getElem?_take, if_pos (by omega), List.getElem?_eq_getElem (by omega)]
  rw [e]
  simp
theorem co_l2 (k c : Nat) (l : KeyRow) (hl : l.length < 1000) (h0 : 0 < c) : ∀ (n j r : Nat) (m : KeyRow), c + j ≤ l.length → 0 < j → r < c + j → m.length = l.length → l.length - c - j < n → m.take r = dd (l.take (c + j)) → (∀ t, c + j - 1 ≤ t → t < l.length → gk m t = gk l t) →
    slices_Compact_api_Key_api_Key.l2 k l (c : Int) n (r : Int) (j : Int) m = some (dd l) := by
  intro n
  induction n with
  | zero => intro j r m h1 h2 h3 h4 h5 h6 h7; omega
  | succ n ih =>
    intro j r m h1 h2 h3 h4 h5 h6 h7
    rw [slices_Compact_api_Key_api_Key.l2, Int.toNat_natCast]
    by_cases cc : c + j < l.length
    · have e1 : (c : Int) + (j : Int) = ((c + j : Nat) : Int) := by omega
      have e2 : (c : Int) + ((j - 1 : Nat) : Int) = ((c + j - 1 : Nat) : Int) := by omega
      rw [if_pos (decide_eq_true (by omega)), if_pos (show (0 : Int) ≤ (j : Int) ∧ (j : Int) < ((l.length - c : Nat) : Int) by omega), if_pos (show (0 : Int) ≤ (c : Int) by omega), e1, at_gk (show c + j < m.length by omega), Option.bind_some,
        sub1 h2 (by omega), if_pos (show (0 : Int) ≤ ((j - 1 : Nat) : Int) ∧ ((j - 1 : Nat) : Int) < ((l.length - c : Nat) : Int) by omega), if_pos (show (0 : Int) ≤ (c : Int) by omega), e2, at_gk (show c + j - 1 < m.length by omega), Option.bind_some,
        h7 (c + j) (by omega) cc, h7 (c + j - 1) (by omega) (by omega)]
      have td := take_dd l (c + j) (by omega) cc
      by_cases eq : gk l (c + j - 1) = gk l (c + j)
      · rw [if_neg (by simp [eq])]
        unfold slices_Compact_api_Key_api_Key.j4
        rw [add1 (by omega)]
        rw [if_pos eq, List.append_nil] at td
        exact ih (j + 1) r m (by omega) (by omega) (by omega) h4 (by omega) (by rw [h6, ← Nat.add_assoc, td]) (fun t t1 t2 => h7 t (by omega) t2)
      · rw [if_pos (by simp; exact fun e => eq e.symm), if_pos (show (0 : Int) ≤ (j : Int) ∧ (j : Int) < ((l.length - c : Nat) : Int) by omega), if_pos (show (0 : Int) ≤ (c : Int) by omega), Option.bind_some, if_pos (show (0 : Int) ≤ (r : Int) ∧ (r : Int) < (m.length : Int) by omega)]
        have s1 : set? m (r : Int) (gk l (c + j)) = some (m.set r (gk l (c + j))) := by unfold set?; rw [if_pos ⟨by omega, by omega⟩]; rfl
        rw [s1, Option.bind_some]
        unfold slices_Compact_api_Key_api_Key.j4
        rw [add1 (by omega), add1 (by omega)]
        rw [if_neg eq] at td
        refine ih (j + 1) (r + 1) (m.set r (gk l (c + j))) (by omega) (by omega) (by omega) (by simpa using h4) (by omega) ?_ (fun t t1 t2 => by rw [gk_set _ _ _ (by omega), if_neg (by omega)]; exact h7 t (by omega) t2)
        rw [← Nat.add_assoc, td, ← h6, List.take_succ_eq_append_getElem (by simpa using (show r < m.length by omega)), List.getElem_set_self, List.take_set_of_le (Nat.le_refl _)]
    · have ej : c + j = l.length := by omega
      rw [if_neg (by simp; omega)]
      unfold slices_Compact_api_Key_api_Key.j3
      rw [Int.toNat_natCast, if_pos (show (0 : Int) ≤ (r : Int) ∧ (r : Int) ≤ (m.length : Int) by omega), if_pos (show r + (m.length - r) ≤ m.length by omega), if_pos (by simp; omega)]
      rw [ej, List.take_of_length_le (Nat.le_refl _)] at h6
      rw [← h6, List.append_assoc, List.take_left' (by rw [List.length_take]; omega)]
theorem co_l1 (k : Nat) (l : KeyRow) (hl : l.length < 1000) (hk : 1000 < k) : ∀ (n c : Nat), 0 < c → c ≤ l.length → l.length - c < n → dd (l.take c) = l.take c → slices_Compact_api_Key_api_Key.l1 k l n (c : Int) = some (dd l) := by
  intro n
  induction n with
  | zero => intro c h1 h2 h3; omega
  | succ n ih =>
    intro c h1 h2 h3 h4
    rw [slices_Compact_api_Key_api_Key.l1]
    by_cases cc : c < l.length
    · rw [if_pos (decide_eq_true (by omega)), if_pos (show (0 : Int) ≤ (c : Int) ∧ (c : Int) < (l.length : Int) by omega), at_gk cc, Option.bind_some, sub1 h1 (by omega), if_pos (show (0 : Int) ≤ ((c - 1 : Nat) : Int) ∧ ((c - 1 : Nat) : Int) < (l.length : Int) by omega), at_gk (by omega), Option.bind_some]
      have td := take_dd l c h1 cc
      by_cases eq : gk l (c - 1) = gk l c
      · rw [if_pos (by simp [eq]), if_pos (show (0 : Int) ≤ (c : Int) ∧ (c : Int) ≤ (l.length : Int) by omega)]
        rw [if_pos eq, List.append_nil] at td
        have := co_l2 k c l hl h1 k 1 c l (by omega) (by omega) (by omega) rfl (by omega) (by rw [td, h4]) (fun t _ _ => rfl)
        rw [show ((1 : Nat) : Int) = 1 from rfl] at this
        exact this
      · rw [if_neg (by simp; exact fun e => eq e.symm)]
        unfold slices_Compact_api_Key_api_Key.j2
        rw [add1 (by omega)]
        refine ih (c + 1) (by omega) (by omega) (by omega) ?_
        rw [td, if_neg eq, h4, List.take_succ_eq_append_getElem cc, gk_eq cc]
    · have ec : c = l.length := by omega
      rw [if_neg (by simp; omega)]
      unfold slices_Compact_api_Key_api_Key.j1
      rw [ec, List.take_of_length_le (Nat.le_refl _)] at h4
      rw [h4]
theorem compact_eq (l : KeyRow) (hl : l.length < 1000) : slices_Compact_api_Key_api_Key 4000 l = some (dd l) := by
  unfold slices_Compact_api_Key_api_Key
  by_cases c : l.length < 2
  · rw [if_pos (decide_eq_true (by omega))]
    cases l with
    | nil => rfl
    | cons x l =>
      cases l with
      | nil => rfl
      | cons y l => simp only [List.length_cons] at c; omega
  · rw [if_neg (by simp; omega)]
    have h1 : dd (l.take 1) = l.take 1 := by
      cases l with
      | nil => rfl
      | cons x l => rfl
    have := co_l1 4000 l hl (by omega) 4000 1 (by omega) (by omega) (by omega) h1
    rw [show ((1 : Nat) : Int) = 1 from rfl] at this
    exact this
theorem once_eq (l : KeyRow) (hl : l.length < 200) (hk : ∀ z ∈ l, z.length = 32) : queue_once_api_Key_queue_Wanted_1 4000 l = some (l.foldl putk []) := by
  unfold queue_once_api_Key_queue_Wanted_1
  obtain ⟨m, e, g1, g2⟩ := sortW_eq l hl hk
  have lm := g1.length_eq
  rw [e, Option.bind_some, compact_eq m (by omega), Option.bind_some, dd_fold g1 g2 hk]


end Go.Proofs.Pure
