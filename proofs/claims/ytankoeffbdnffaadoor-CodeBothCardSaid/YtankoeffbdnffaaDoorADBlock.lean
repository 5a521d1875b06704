/- One block, whole: the digest's 'take' is the document's 'Block'; and it always ends. No program in sight. -/
import Derived.Test.YtankoeffbdnffaaDoorADTake
namespace Go.Proofs.Pure
open Go Go.RowKit Go.Proofs.Kit

def Bytes (l : List Int) : Prop := ∀ x ∈ l, 0 ≤ x ∧ x < 256

theorem Bytes.at {l : List Int} (h : Bytes l) (i : Nat) : 0 ≤ l.getD i 0 ∧ l.getD i 0 < 256 := by
  rw [List.getD_eq_getElem?_getD]
  cases hq : l[i]? with
  | none => simp
  | some x => exact h x (List.mem_of_getElem? hq)

theorem d_mul4 (i : Nat) (h : i < 1000000) : imul .i64 4 (i : Int) = ((4 * i : Nat) : Int) := by unfold imul; rw [IntKind.wrap_i64]; omega
theorem d_addc (i : Nat) (c : Nat) (h : i < 1000000000) (hc : c < 1000) : iadd .i64 (i : Int) (c : Int) = ((i + c : Nat) : Int) := by unfold iadd; rw [IntKind.wrap_i64]; omega

theorem word_step (K : Nat) (p : digest_Hash) (hr : p.rest.length = 64) (L : Int → List Int → Option digest_Hash) (i j n : Nat) (hi : i < 16) (hj : j < 4) (w : List Int) (hw : w.length = 64) :
    digest_Hash_take.l5 K 4 (i : Int) p L (n + 1) (j : Int) w = digest_Hash_take.l5 K 4 (i : Int) p L n ((j + 1 : Nat) : Int) (w.set i (ior .u32 (ishl .u32 (w.getD i 0) 8) (IntKind.wrap .u32 (p.rest.getD (4 * i + j) 0)))) := by
  rw [digest_Hash_take.l5, if_pos (by simp; omega)]
  have e1 : (((iadd .i64 (imul .i64 (4 : Int) (i : Int)) (4 : Int)).toNat - (imul .i64 (4 : Int) (i : Int)).toNat : Nat) : Int) = 4 := by
    rw [d_mul4 i (by omega), show iadd .i64 ((4 * i : Nat) : Int) (4 : Int) = ((4 * i + 4 : Nat) : Int) from d_addc (4 * i) 4 (by omega) (by omega)]; omega
  rw [if_pos (by rw [e1]; omega), d_mul4 i (by omega), show ((4 * i : Nat) : Int) + (j : Int) = ((4 * i + j : Nat) : Int) by omega, d_at (by omega) 0, Option.bind_some]
  have hix : (0 : Int) ≤ (i : Int) ∧ (i : Int) < 64 := by omega
  simp only [if_pos hix, d_at (show i < w.length by omega) 0, Option.bind_some, d_set (show i < w.length by omega), d_inc j (by omega)]

theorem word_all (K : Nat) (hK : 9 ≤ K) (p : digest_Hash) (hr : p.rest.length = 64) (hb : Bytes p.rest) (L : Int → List Int → Option digest_Hash) (i : Nat) (hi : i < 16) (w : List Int) (hw : w.length = 64) (h0 : w.getD i 0 = 0) :
    digest_Hash_take.l5 K 4 (i : Int) p L K 0 w = L ((i + 1 : Nat) : Int) (w.set i (iadd .u32 (iadd .u32 (iadd .u32 (imul .u32 (IntKind.wrap .u32 (p.rest.getD (4 * i) 0)) 16777216) (imul .u32 (IntKind.wrap .u32 (p.rest.getD (4 * i + 1) 0)) 65536)) (imul .u32 (IntKind.wrap .u32 (p.rest.getD (4 * i + 2) 0)) 256)) (IntKind.wrap .u32 (p.rest.getD (4 * i + 3) 0)))) := by
  obtain ⟨m, rfl⟩ := Nat.exists_eq_add_of_le' (show 5 ≤ K by omega)
  have g : ∀ (v : List Int) (y : Int), v.length = 64 → (v.set i y).getD i 0 = y := fun v y hv => by simp [List.getD_eq_getElem?_getD, hv, show i < 64 by omega]
  refine (word_step (m + 5) p hr L i 0 (m + 4) hi (by omega) w hw).trans ?_
  refine (word_step (m + 5) p hr L i 1 (m + 3) hi (by omega) _ (by simpa using hw)).trans ?_
  refine (word_step (m + 5) p hr L i 2 (m + 2) hi (by omega) _ (by simpa using hw)).trans ?_
  refine (word_step (m + 5) p hr L i 3 (m + 1) hi (by omega) _ (by simpa using hw)).trans ?_
  rw [digest_Hash_take.l5, if_neg (by simp), digest_Hash_take.j5, d_inc i (by omega)]
  congr 1
  simp only [List.set_set, g _ _ hw, h0]
  rw [← word4 _ _ _ _ (hb.at (4 * i)) (hb.at (4 * i + 1)) (hb.at (4 * i + 2)) (hb.at (4 * i + 3))]
  rfl

theorem words_eq (K : Nat) (hK : 9 ≤ K) (bg : Bool) (rs : List Int) (hr : rs.length = 64) (hb : Bytes rs) (mn tk p0 p1 p2 p3 p4 p5 p6 p7 : Int) :
    ∀ n (i : Nat) (w : List Int), w.length = 64 → (∀ j, i ≤ j → j < 64 → w.getD j 0 = 0) → digest_Hash_take.l4 K ⟨bg, [p0, p1, p2, p3, p4, p5, p6, p7], rs, mn, tk⟩ n (i : Int) w =
      (cabalref01_Block.l3 K rs [p0, p1, p2, p3, p4, p5, p6, p7] n (i : Int) w).map (upd ⟨bg, [p0, p1, p2, p3, p4, p5, p6, p7], rs, mn, tk⟩) := by
  intro n
  induction n with
  | zero => intros; rfl
  | succ n ih =>
    intro i w hw h0
    rw [digest_Hash_take.l4, cabalref01_Block.l3]
    by_cases hi : i < 16
    · have hd : decide ((i : Int) < 16) = true := by simp; omega
      rw [if_pos hd, if_pos hd]
      have e4 : iadd .i64 ((4 * i : Nat) : Int) (4 : Int) = ((4 * i + 4 : Nat) : Int) := d_addc (4 * i) 4 (by omega) (by omega)
      have e1 : iadd .i64 ((4 * i : Nat) : Int) (1 : Int) = ((4 * i + 1 : Nat) : Int) := d_addc (4 * i) 1 (by omega) (by omega)
      have e2 : iadd .i64 ((4 * i : Nat) : Int) (2 : Int) = ((4 * i + 2 : Nat) : Int) := d_addc (4 * i) 2 (by omega) (by omega)
      have e3 : iadd .i64 ((4 * i : Nat) : Int) (3 : Int) = ((4 * i + 3 : Nat) : Int) := d_addc (4 * i) 3 (by omega) (by omega)
      have e5 : (((((4 * i + 4 : Nat) : Int)).toNat - (((4 * i : Nat) : Int)).toNat : Nat) : Int) = 4 := by omega
      rw [d_mul4 i (by omega), e4, e1, e2, e3, if_pos (by omega), Option.bind_some, e5]
      rw [word_all K hK _ hr hb _ i hi w hw (h0 i (Nat.le_refl _) (by omega))]
      have hix : (0 : Int) ≤ (i : Int) ∧ (i : Int) < 64 := by omega
      simp only [d_at (show 4 * i < rs.length by omega) 0, d_at (show 4 * i + 1 < rs.length by omega) 0, d_at (show 4 * i + 2 < rs.length by omega) 0, d_at (show 4 * i + 3 < rs.length by omega) 0, Option.bind_some, if_pos hix, d_set (show i < w.length by omega), d_inc i (by omega)]
      refine ih (i + 1) _ (by simpa using hw) (fun j h1 h2 => ?_)
      have := h0 j (by omega) h2
      simpa [List.getD_eq_getElem?_getD, List.getElem?_set, show ¬ i = j by omega] using this
    · have hd : ¬ (decide ((i : Int) < 16) = true) := by simp; omega
      rw [if_neg hd, if_neg hd]
      exact sched_eq K hK bg rs mn tk p0 p1 p2 p3 p4 p5 p6 p7 K 16 w hw (Nat.le_refl _)

theorem d_len8 {α : Type} {xs : List α} (h : xs.length = 8) : ∃ a0 a1 a2 a3 a4 a5 a6 a7, xs = [a0, a1, a2, a3, a4, a5, a6, a7] := by
  match xs, h with
  | [a0, a1, a2, a3, a4, a5, a6, a7], _ => exact ⟨a0, a1, a2, a3, a4, a5, a6, a7, rfl⟩

theorem take_eq (K : Nat) (hK : 9 ≤ K) (p : digest_Hash) (hs : p.state.length = 8) (hr : p.rest.length = 64) (hb : Bytes p.rest) : digest_Hash_take K p = (cabalref01_Block K p.state p.rest).map (upd p) := by
  obtain ⟨bg, st, rs, mn, tk⟩ := p
  obtain ⟨p0, p1, p2, p3, p4, p5, p6, p7, rfl⟩ := d_len8 hs
  exact words_eq K hK bg rs hr hb mn tk p0 p1 p2 p3 p4 p5 p6 p7 K 0 _ (by simp) (fun j _ hj => by rw [List.getD_eq_getElem?_getD, List.getElem?_replicate]; rw [if_pos hj]; rfl)

/- .. and it ends -/
theorem comp_some (K : Nat) (w : List Int) (hw : w.length = 64) (p0 p1 p2 p3 p4 p5 p6 p7 : Int) : ∀ m n (i : Nat) (a b c d e f g h : Int), i + m = 64 → m < n →
    ∃ s, cabalref01_Block.l1 K G_digest_rounds w [p0, p1, p2, p3, p4, p5, p6, p7] n a b c d e f g h (i : Int) = some s ∧ s.length = 8 := by
  intro m
  induction m with
  | zero =>
    intro n i a b c d e f g h hi hn
    cases n with
    | zero => omega
    | succ n =>
      rw [cabalref01_Block.l1, if_neg (by simp; omega)]
      exact ⟨_, rfl, rfl⟩
  | succ m ih =>
    intro n i a b c d e f g h hi hn
    cases n with
    | zero => omega
    | succ n =>
      have hix : (0 : Int) ≤ (i : Int) ∧ (i : Int) < 64 := by omega
      rw [cabalref01_Block.l1, if_pos (by simp; omega)]
      simp only [right_some K e 6 rfl rfl, right_some K e 11 rfl rfl, right_some K e 25 rfl rfl, right_some K a 2 rfl rfl, right_some K a 13 rfl rfl, right_some K a 22 rfl rfl, Option.bind_some, if_pos hix,
        d_at (xs := G_digest_rounds) (i := i) (show i < 64 by omega) 0, d_at (show i < w.length by omega) 0, d_inc i (by omega)]
      exact ih n (i + 1) _ _ _ _ _ _ _ _ (by omega) (by omega)

theorem sched_some (K : Nat) (hK : 65 ≤ K) (p0 p1 p2 p3 p4 p5 p6 p7 : Int) : ∀ m n (i : Nat) (w : List Int), w.length = 64 → 16 ≤ i → i + m = 64 → m < n →
    ∃ s, cabalref01_Block.l2 K [p0, p1, p2, p3, p4, p5, p6, p7] n (i : Int) w = some s ∧ s.length = 8 := by
  intro m
  induction m with
  | zero =>
    intro n i w hw h16 hi hn
    cases n with
    | zero => omega
    | succ n =>
      rw [cabalref01_Block.l2, if_neg (by simp; omega)]
      exact comp_some K w hw p0 p1 p2 p3 p4 p5 p6 p7 64 K 0 p0 p1 p2 p3 p4 p5 p6 p7 rfl (by omega)
  | succ m ih =>
    intro n i w hw h16 hi hn
    cases n with
    | zero => omega
    | succ n =>
      have hix : (0 : Int) ≤ (i : Int) ∧ (i : Int) < 64 := by omega
      rw [cabalref01_Block.l2, if_pos (by simp; omega)]
      have s2 : isub .i64 (i : Int) 2 = ((i - 2 : Nat) : Int) := d_sub i 2 (by omega) (by omega)
      have s7 : isub .i64 (i : Int) 7 = ((i - 7 : Nat) : Int) := d_sub i 7 (by omega) (by omega)
      have s15 : isub .i64 (i : Int) 15 = ((i - 15 : Nat) : Int) := d_sub i 15 (by omega) (by omega)
      have s16 : isub .i64 (i : Int) 16 = ((i - 16 : Nat) : Int) := d_sub i 16 (by omega) (by omega)
      have g : ∀ j : Nat, j < 64 → at? w (j : Int) = some (w.getD j 0) := fun j hj => d_at (by omega) 0
      have gi : ∀ j : Nat, j < 64 → ((0 : Int) ≤ (j : Int) ∧ (j : Int) < 64) := fun j hj => by omega
      rw [s2, s7, s15, s16]
      simp only [g (i - 2) (by omega), g (i - 7) (by omega), g (i - 15) (by omega), g (i - 16) (by omega), if_pos (gi (i - 2) (by omega)), if_pos (gi (i - 7) (by omega)), if_pos (gi (i - 15) (by omega)), if_pos (gi (i - 16) (by omega)), if_pos hix, Option.bind_some,
        right_some K _ 17 rfl rfl, right_some K _ 19 rfl rfl, right_some K _ 7 rfl rfl, right_some K _ 18 rfl rfl, d_set (show i < w.length by omega), d_inc i (by omega)]
      exact ih n (i + 1) _ (by simpa using hw) (by omega) (by omega) (by omega)

theorem words_some (K : Nat) (hK : 65 ≤ K) (rs : List Int) (hr : rs.length = 64) (p0 p1 p2 p3 p4 p5 p6 p7 : Int) : ∀ m n (i : Nat) (w : List Int), w.length = 64 → i + m = 16 → m < n →
    ∃ s, cabalref01_Block.l3 K rs [p0, p1, p2, p3, p4, p5, p6, p7] n (i : Int) w = some s ∧ s.length = 8 := by
  intro m
  induction m with
  | zero =>
    intro n i w hw hi hn
    cases n with
    | zero => omega
    | succ n =>
      rw [cabalref01_Block.l3, if_neg (by simp; omega)]
      exact sched_some K hK p0 p1 p2 p3 p4 p5 p6 p7 48 K 16 w hw (Nat.le_refl _) rfl (by omega)
  | succ m ih =>
    intro n i w hw hi hn
    cases n with
    | zero => omega
    | succ n =>
      rw [cabalref01_Block.l3, if_pos (by simp; omega)]
      have e1 : iadd .i64 ((4 * i : Nat) : Int) (1 : Int) = ((4 * i + 1 : Nat) : Int) := d_addc (4 * i) 1 (by omega) (by omega)
      have e2 : iadd .i64 ((4 * i : Nat) : Int) (2 : Int) = ((4 * i + 2 : Nat) : Int) := d_addc (4 * i) 2 (by omega) (by omega)
      have e3 : iadd .i64 ((4 * i : Nat) : Int) (3 : Int) = ((4 * i + 3 : Nat) : Int) := d_addc (4 * i) 3 (by omega) (by omega)
      have hix : (0 : Int) ≤ (i : Int) ∧ (i : Int) < 64 := by omega
      rw [d_mul4 i (by omega), e1, e2, e3]
      simp only [d_at (show 4 * i < rs.length by omega) 0, d_at (show 4 * i + 1 < rs.length by omega) 0, d_at (show 4 * i + 2 < rs.length by omega) 0, d_at (show 4 * i + 3 < rs.length by omega) 0, Option.bind_some, if_pos hix, d_set (show i < w.length by omega), d_inc i (by omega)]
      exact ih n (i + 1) _ (by simpa using hw) (by omega) (by omega)

theorem block_some (K : Nat) (hK : 65 ≤ K) (st rs : List Int) (hs : st.length = 8) (hr : rs.length = 64) : ∃ s, cabalref01_Block K st rs = some s ∧ s.length = 8 := by
  obtain ⟨p0, p1, p2, p3, p4, p5, p6, p7, rfl⟩ := d_len8 hs
  exact words_some K hK rs hr p0 p1 p2 p3 p4 p5 p6 p7 16 K 0 _ (by simp) rfl (by omega)


end Go.Proofs.Pure
