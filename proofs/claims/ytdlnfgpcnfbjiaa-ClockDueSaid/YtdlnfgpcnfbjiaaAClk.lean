/- Clocks over their plain functions: joins, orders, what is due, what is lacking: the program's and the document's are the same. No program in sight. -/
import Derived.Test.YtdlnfgpcnfbjiaaAGreat
namespace Go.Proofs.Pure
open Go Go.RowKit Go.Proofs.Kit

def mx (b a : Int) : Int := if a > b then a else b

theorem len8 {α : Type} {xs : List α} (h : xs.length = 8) : ∃ a0 a1 a2 a3 a4 a5 a6 a7, xs = [a0, a1, a2, a3, a4, a5, a6, a7] := by
  match xs, h with
  | [a0, a1, a2, a3, a4, a5, a6, a7], _ => exact ⟨a0, a1, a2, a3, a4, a5, a6, a7, rfl⟩

theorem join_l2 (k : Nat) (y2 : Int) (L : Int → List Int → Option (List Int)) (n : Nat) (hn : 9 ≤ n) (a0 a1 a2 a3 a4 a5 a6 a7 b0 b1 b2 b3 b4 b5 b6 b7 : Int) :
    clock_Join.l2 k [a0, a1, a2, a3, a4, a5, a6, a7] y2 L n 0 [b0, b1, b2, b3, b4, b5, b6, b7] = L (iadd .i64 y2 1) [mx b0 a0, mx b1 a1, mx b2 a2, mx b3 a3, mx b4 a4, mx b5 a5, mx b6 a6, mx b7 a7] := by
  obtain ⟨m, rfl⟩ := Nat.exists_eq_add_of_le' hn
  rfl

/- column i of the rows, folded -/
def col (i : Nat) (b : Int) (rows : List (List Int)) : Int := rows.foldl (fun b r => mx b (r.getD i 0)) b
def cols (rows : List (List Int)) : List Int := [col 0 0 rows, col 1 0 rows, col 2 0 rows, col 3 0 rows, col 4 0 rows, col 5 0 rows, col 6 0 rows, col 7 0 rows]

theorem iadd_small {a : Int} (h0 : 0 ≤ a) (h1 : a < 1000000) : iadd .i64 a 1 = a + 1 := by
  unfold iadd; rw [IntKind.wrap_i64]; omega

theorem at?_pre {α : Type} (pre : List α) (x : α) (rest : List α) : at? (pre ++ x :: rest) (pre.length : Int) = some x := by
  unfold at?; rw [if_pos (by omega)]; simp

theorem joinA (k : Nat) (hk : 9 ≤ k) (p : List (List Int)) (hp : ∀ r ∈ p, r.length = 8) (hl : p.length ≤ 60) :
    ∀ (rest pre : List (List Int)) (n : Nat) (b0 b1 b2 b3 b4 b5 b6 b7 : Int), p = pre ++ rest → rest.length < n →
      clock_Join.l1 k p n (pre.length : Int) [b0, b1, b2, b3, b4, b5, b6, b7] =
        some [col 0 b0 rest, col 1 b1 rest, col 2 b2 rest, col 3 b3 rest, col 4 b4 rest, col 5 b5 rest, col 6 b6 rest, col 7 b7 rest] := by
  intro rest
  induction rest with
  | nil =>
    intro pre n b0 b1 b2 b3 b4 b5 b6 b7 e hn
    cases n with
    | zero => simp at hn
    | succ n =>
      subst e
      simp [clock_Join.l1, clock_Join.j1, col]
  | cons r rest ih =>
    intro pre n b0 b1 b2 b3 b4 b5 b6 b7 e hn
    cases n with
    | zero => simp at hn
    | succ n =>
      have hr := hp r (by rw [e]; simp)
      obtain ⟨a0, a1, a2, a3, a4, a5, a6, a7, rfl⟩ := len8 hr
      have hlt : (pre.length : Int) < (p.length : Int) := by rw [e]; simp; omega
      have hpl : pre.length ≤ 60 := by omega
      have ha : at? p (pre.length : Int) = some [a0, a1, a2, a3, a4, a5, a6, a7] := by rw [e]; exact at?_pre _ _ _
      rw [clock_Join.l1, if_pos (by simpa using hlt), ha, Option.bind_some, join_l2 k _ _ _ hk, iadd_small (by omega) (by omega)]
      have h := ih (pre ++ [[a0, a1, a2, a3, a4, a5, a6, a7]]) n (mx b0 a0) (mx b1 a1) (mx b2 a2) (mx b3 a3) (mx b4 a4) (mx b5 a5) (mx b6 a6) (mx b7 a7) (by rw [e]; simp) (by simp at hn; omega)
      rw [show ((pre ++ [[a0, a1, a2, a3, a4, a5, a6, a7]]).length : Int) = (pre.length : Int) + 1 by simp] at h
      rw [h]; rfl

theorem join_eq (k : Nat) (p : List (List Int)) (hp : ∀ r ∈ p, r.length = 8) (hl : p.length ≤ 60) (hk : 61 ≤ k) : clock_Join k p = some (cols p) :=
  joinA k (by omega) p hp hl p [] k 0 0 0 0 0 0 0 0 rfl (by omega)

theorem at?_len {α : Type} {xs : List α} {i : Nat} (h : i < xs.length) (d : α) : at? xs (i : Int) = some (xs.getD i d) := by
  unfold at?; rw [if_pos (by omega)]; simp [List.getElem?_eq_getElem h]

/- two clocks -/
theorem mx0 {a : Int} (h : 0 ≤ a) : mx 0 a = a := by unfold mx; split <;> omega
theorem mx_r {a b : Int} : mx a b = b ↔ a ≤ b := by unfold mx; split <;> omega

structure Clock (xs : List Int) : Prop where
  len : xs.length = 8
  rng : ∀ x ∈ xs, 0 ≤ x ∧ x < 4294967296

theorem Clock.of {xs : List Int} (h : Fine (karr 8 (kint .u32)) xs) : Clock xs := by
  refine ⟨h.arr.1, fun x hx => ?_⟩
  have := (h.arr.2 x hx).int
  simp [IntKind.has, IntKind.min, IntKind.max, IntKind.signed, IntKind.bits] at this
  omega

def le8 (a b : List Int) : Prop := ∀ i < 8, a.getD i 0 ≤ b.getD i 0
instance (a b : List Int) : Decidable (le8 a b) := by unfold le8; infer_instance

def sup (a b : List Int) : List Int := List.zipWith mx a b

theorem join2 (k : Nat) (hk : 61 ≤ k) {a b : List Int} (ha : Clock a) (hb : Clock b) : clock_Join k [a, b] = some (sup a b) := by
  rw [join_eq k [a, b] (by intro r hr; simp at hr; rcases hr with rfl | rfl; exact ha.len; exact hb.len) (by simp) hk]
  obtain ⟨a0, a1, a2, a3, a4, a5, a6, a7, rfl⟩ := len8 ha.len
  obtain ⟨b0, b1, b2, b3, b4, b5, b6, b7, rfl⟩ := len8 hb.len
  have h := ha.rng
  simp at h
  simp [cols, col, sup, mx0, h]

theorem sup_eq {a b : List Int} (ha : Clock a) (hb : Clock b) : sup a b = b ↔ le8 a b := by
  obtain ⟨a0, a1, a2, a3, a4, a5, a6, a7, rfl⟩ := len8 ha.len
  obtain ⟨b0, b1, b2, b3, b4, b5, b6, b7, rfl⟩ := len8 hb.len
  simp only [sup, List.zipWith_cons_cons, List.zipWith_nil_right, List.cons.injEq, mx_r, and_true]
  constructor
  · rintro ⟨h0, h1, h2, h3, h4, h5, h6, h7⟩ i hi
    match i, hi with
    | 0, _ => exact h0
    | 1, _ => exact h1
    | 2, _ => exact h2
    | 3, _ => exact h3
    | 4, _ => exact h4
    | 5, _ => exact h5
    | 6, _ => exact h6
    | 7, _ => exact h7
  · intro h
    exact ⟨h 0 (by omega), h 1 (by omega), h 2 (by omega), h 3 (by omega), h 4 (by omega), h 5 (by omega), h 6 (by omega), h 7 (by omega)⟩

theorem within_eq (k : Nat) (hk : 61 ≤ k) {a b : List Int} (ha : Clock a) (hb : Clock b) : clock_within k a b = some (decide (le8 a b)) := by
  unfold clock_within
  rw [join2 k hk ha hb, Option.bind_some]
  simp only [sup_eq ha hb]

def ord (a b : List Int) : Int := if a = b then 0 else if le8 a b then -1 else if le8 b a then 1 else 2

theorem order_eq (k : Nat) (hk : 61 ≤ k) {a b : List Int} (ha : Clock a) (hb : Clock b) : clock_Order k a b = some (ord a b) := by
  unfold clock_Order ord
  simp only [within_eq k hk ha hb, within_eq k hk hb ha, Option.bind_some, decide_eq_true_eq]
  split
  · rfl
  · split
    · rfl
    · split <;> rfl

end Go.Proofs.Pure
