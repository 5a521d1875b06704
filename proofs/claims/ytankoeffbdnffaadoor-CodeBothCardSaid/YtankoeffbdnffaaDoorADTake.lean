/- One block: the digest's own round and the document's come to the same. No program in sight. -/
import Derived.Test.YtankoeffbdnffaaDoorADWord
namespace Go.Proofs.Pure
open Go Go.RowKit Go.Proofs.Kit

theorem d_at {α : Type} {xs : List α} {i : Nat} (h : i < xs.length) (d : α) : at? xs (i : Int) = some (xs.getD i d) := by
  unfold at?; rw [if_pos (by omega)]; simp [List.getElem?_eq_getElem h]
theorem d_set {α : Type} {xs : List α} {i : Nat} (h : i < xs.length) (y : α) : set? xs (i : Int) y = some (xs.set i y) := by
  unfold set?; rw [if_pos ⟨by omega, by omega⟩]; simp
theorem d_inc (i : Nat) (h : i < 1000000000) : iadd .i64 (i : Int) 1 = ((i + 1 : Nat) : Int) := by unfold iadd; rw [IntKind.wrap_i64]; omega
theorem d_sub (i j : Nat) (h : j ≤ i) (h2 : i < 1000000000) : isub .i64 (i : Int) (j : Int) = ((i - j : Nat) : Int) := by unfold isub; rw [IntKind.wrap_i64]; omega

def upd (p : digest_Hash) (s : List Int) : digest_Hash := { p with state := s, many := 0 }

theorem spin6 (K : Nat) (x : Int) : digest_spin K x 6 11 25 = some (ixor .u32 (ixor .u32 (rt x 6) (rt x 11)) (rt x 25)) := by
  unfold digest_spin
  rw [rot_eq K x 6 26 (by decide) (by decide) (by decide) (by decide) (by decide), rot_eq K x 11 21 (by decide) (by decide) (by decide) (by decide) (by decide), rot_eq K x 25 7 (by decide) (by decide) (by decide) (by decide) (by decide)]
  rw [right_eq _ _ _ (by decide) (by decide), right_eq _ _ _ (by decide) (by decide), right_eq _ _ _ (by decide) (by decide)]; rfl
theorem spin2 (K : Nat) (x : Int) : digest_spin K x 2 13 22 = some (ixor .u32 (ixor .u32 (rt x 2) (rt x 13)) (rt x 22)) := by
  unfold digest_spin
  rw [rot_eq K x 2 30 (by decide) (by decide) (by decide) (by decide) (by decide), rot_eq K x 13 19 (by decide) (by decide) (by decide) (by decide) (by decide), rot_eq K x 22 10 (by decide) (by decide) (by decide) (by decide) (by decide)]
  rw [right_eq _ _ _ (by decide) (by decide), right_eq _ _ _ (by decide) (by decide), right_eq _ _ _ (by decide) (by decide)]; rfl
theorem turn17 (K : Nat) (x : Int) : digest_turn K x 17 19 10 = some (ixor .u32 (ixor .u32 (rt x 17) (rt x 19)) (ishr .u32 x 10)) := by
  unfold digest_turn
  rw [rot_eq K x 17 15 (by decide) (by decide) (by decide) (by decide) (by decide), rot_eq K x 19 13 (by decide) (by decide) (by decide) (by decide) (by decide)]
  rw [right_eq _ _ _ (by decide) (by decide), right_eq _ _ _ (by decide) (by decide)]; rfl
theorem turn7 (K : Nat) (x : Int) : digest_turn K x 7 18 3 = some (ixor .u32 (ixor .u32 (rt x 7) (rt x 18)) (ishr .u32 x 3)) := by
  unfold digest_turn
  rw [rot_eq K x 7 25 (by decide) (by decide) (by decide) (by decide) (by decide), rot_eq K x 18 14 (by decide) (by decide) (by decide) (by decide) (by decide)]
  rw [right_eq _ _ _ (by decide) (by decide), right_eq _ _ _ (by decide) (by decide)]; rfl

theorem add8 (K : Nat) (hK : 9 ≤ K) (bg : Bool) (rs : List Int) (mn tk p0 p1 p2 p3 p4 p5 p6 p7 a b c d e f g h : Int) :
    digest_Hash_take.j3 K ⟨bg, [p0, p1, p2, p3, p4, p5, p6, p7], rs, mn, tk⟩ [a, b, c, d, e, f, g, h] =
      some ⟨bg, [iadd .u32 p0 a, iadd .u32 p1 b, iadd .u32 p2 c, iadd .u32 p3 d, iadd .u32 p4 e, iadd .u32 p5 f, iadd .u32 p6 g, iadd .u32 p7 h], rs, 0, tk⟩ := by
  obtain ⟨m, rfl⟩ := Nat.exists_eq_add_of_le' hK
  rfl

theorem right_some (K : Nat) (x n : Int) (h1 : decide (0 ≤ n) = true) (h2 : decide (0 ≤ isub .u64 32 n) = true) : cabalref01_Right K x n = some (rt x n) := right_eq K x n (of_decide_eq_true h1) (of_decide_eq_true h2)

theorem comp_eq (K : Nat) (hK : 9 ≤ K) (bg : Bool) (rs : List Int) (mn tk p0 p1 p2 p3 p4 p5 p6 p7 : Int) (w : List Int) (hw : w.length = 64) :
    ∀ n (i : Nat) (a b c d e f g h : Int), digest_Hash_take.l2 K w ⟨bg, [p0, p1, p2, p3, p4, p5, p6, p7], rs, mn, tk⟩ n (i : Int) [a, b, c, d, e, f, g, h] =
      (cabalref01_Block.l1 K G_digest_rounds w [p0, p1, p2, p3, p4, p5, p6, p7] n a b c d e f g h (i : Int)).map (upd ⟨bg, [p0, p1, p2, p3, p4, p5, p6, p7], rs, mn, tk⟩) := by
  intro n
  induction n with
  | zero => intros; rfl
  | succ n ih =>
    intro i a b c d e f g h
    rw [digest_Hash_take.l2, cabalref01_Block.l1]
    by_cases hi : i < 64
    · have hix : (0 : Int) ≤ (i : Int) ∧ (i : Int) < 64 := by omega
      have hd : decide ((i : Int) < 64) = true := by simp; omega
      rw [if_pos hd, if_pos hd, d_at (xs := G_digest_rounds) (i := i) hi 0, Option.bind_some, if_pos hix.2]
      have e0 : at? [a, b, c, d, e, f, g, h] (0 : Int) = some a := rfl
      have e1 : at? [a, b, c, d, e, f, g, h] (1 : Int) = some b := rfl
      have e2 : at? [a, b, c, d, e, f, g, h] (2 : Int) = some c := rfl
      have e3 : at? [a, b, c, d, e, f, g, h] (3 : Int) = some d := rfl
      have e4 : at? [a, b, c, d, e, f, g, h] (4 : Int) = some e := rfl
      have e5 : at? [a, b, c, d, e, f, g, h] (5 : Int) = some f := rfl
      have e6 : at? [a, b, c, d, e, f, g, h] (6 : Int) = some g := rfl
      have e7 : at? [a, b, c, d, e, f, g, h] (7 : Int) = some h := rfl
      have ew : at? w (i : Int) = some (w.getD i 0) := d_at (by omega) 0
      simp only [e0, e1, e2, e3, e4, e5, e6, e7, ew, Option.bind_some, spin6, spin2, if_pos hix, ch_eq, maj_eq, d_inc i (by omega)]
      rw [ih]
      simp only [right_some K e 6 rfl rfl, right_some K e 11 rfl rfl, right_some K e 25 rfl rfl, right_some K a 2 rfl rfl, right_some K a 13 rfl rfl, right_some K a 22 rfl rfl, Option.bind_some]
    · have hd : ¬ (decide ((i : Int) < 64) = true) := by simp; omega
      rw [if_neg hd, if_neg hd, add8 K hK]
      rfl

theorem sched_eq (K : Nat) (hK : 9 ≤ K) (bg : Bool) (rs : List Int) (mn tk p0 p1 p2 p3 p4 p5 p6 p7 : Int) :
    ∀ n (i : Nat) (w : List Int), w.length = 64 → 16 ≤ i → digest_Hash_take.l3 K ⟨bg, [p0, p1, p2, p3, p4, p5, p6, p7], rs, mn, tk⟩ n (i : Int) w =
      (cabalref01_Block.l2 K [p0, p1, p2, p3, p4, p5, p6, p7] n (i : Int) w).map (upd ⟨bg, [p0, p1, p2, p3, p4, p5, p6, p7], rs, mn, tk⟩) := by
  intro n
  induction n with
  | zero => intros; rfl
  | succ n ih =>
    intro i w hw h16
    rw [digest_Hash_take.l3, cabalref01_Block.l2]
    by_cases hi : i < 64
    · have hix : (0 : Int) ≤ (i : Int) ∧ (i : Int) < 64 := by omega
      have hd : decide ((i : Int) < 64) = true := by simp; omega
      rw [if_pos hd, if_pos hd]
      have s2 : isub .i64 (i : Int) 2 = ((i - 2 : Nat) : Int) := d_sub i 2 (by omega) (by omega)
      have s7 : isub .i64 (i : Int) 7 = ((i - 7 : Nat) : Int) := d_sub i 7 (by omega) (by omega)
      have s15 : isub .i64 (i : Int) 15 = ((i - 15 : Nat) : Int) := d_sub i 15 (by omega) (by omega)
      have s16 : isub .i64 (i : Int) 16 = ((i - 16 : Nat) : Int) := d_sub i 16 (by omega) (by omega)
      have g : ∀ j : Nat, j < 64 → at? w (j : Int) = some (w.getD j 0) := fun j hj => d_at (by omega) 0
      have gi : ∀ j : Nat, j < 64 → ((0 : Int) ≤ (j : Int) ∧ (j : Int) < 64) := fun j hj => by omega
      rw [s2, s7, s15, s16]
      simp only [g (i - 2) (by omega), g (i - 7) (by omega), g (i - 15) (by omega), g (i - 16) (by omega), if_pos (gi (i - 2) (by omega)), if_pos (gi (i - 7) (by omega)), if_pos (gi (i - 15) (by omega)), if_pos (gi (i - 16) (by omega)), if_pos hix, Option.bind_some, turn17, turn7,
        right_some K _ 17 rfl rfl, right_some K _ 19 rfl rfl, right_some K _ 7 rfl rfl, right_some K _ 18 rfl rfl, d_set (show i < w.length by omega), d_inc i (by omega)]
      exact ih (i + 1) _ (by simpa using hw) (by omega)
    · have hd : ¬ (decide ((i : Int) < 64) = true) := by simp; omega
      rw [if_neg hd, if_neg hd]
      exact comp_eq K hK bg rs mn tk p0 p1 p2 p3 p4 p5 p6 p7 w hw K 0 p0 p1 p2 p3 p4 p5 p6 p7


end Go.Proofs.Pure
