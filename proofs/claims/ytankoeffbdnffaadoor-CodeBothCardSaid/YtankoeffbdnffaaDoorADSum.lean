/- The digest's end: what it hands back is what the document's sum of the same message is; both always end. No program in sight. -/
import Derived.Test.YtankoeffbdnffaaDoorADStream
namespace Go.Proofs.Pure
open Go Go.RowKit Go.Proofs.Kit

def outOf : List Int → List Int
  | [s0, s1, s2, s3, s4, s5, s6, s7] => [IntKind.wrap .u8 (ishr .u32 s0 24), IntKind.wrap .u8 (ishr .u32 s0 16), IntKind.wrap .u8 (ishr .u32 s0 8), IntKind.wrap .u8 s0, IntKind.wrap .u8 (ishr .u32 s1 24), IntKind.wrap .u8 (ishr .u32 s1 16), IntKind.wrap .u8 (ishr .u32 s1 8), IntKind.wrap .u8 s1,
      IntKind.wrap .u8 (ishr .u32 s2 24), IntKind.wrap .u8 (ishr .u32 s2 16), IntKind.wrap .u8 (ishr .u32 s2 8), IntKind.wrap .u8 s2, IntKind.wrap .u8 (ishr .u32 s3 24), IntKind.wrap .u8 (ishr .u32 s3 16), IntKind.wrap .u8 (ishr .u32 s3 8), IntKind.wrap .u8 s3,
      IntKind.wrap .u8 (ishr .u32 s4 24), IntKind.wrap .u8 (ishr .u32 s4 16), IntKind.wrap .u8 (ishr .u32 s4 8), IntKind.wrap .u8 s4, IntKind.wrap .u8 (ishr .u32 s5 24), IntKind.wrap .u8 (ishr .u32 s5 16), IntKind.wrap .u8 (ishr .u32 s5 8), IntKind.wrap .u8 s5,
      IntKind.wrap .u8 (ishr .u32 s6 24), IntKind.wrap .u8 (ishr .u32 s6 16), IntKind.wrap .u8 (ishr .u32 s6 8), IntKind.wrap .u8 s6, IntKind.wrap .u8 (ishr .u32 s7 24), IntKind.wrap .u8 (ishr .u32 s7 16), IntKind.wrap .u8 (ishr .u32 s7 8), IntKind.wrap .u8 s7]
  | _ => []

theorem out_impl (K : Nat) (hK : 9 ≤ K) (h : digest_Hash) (hs : h.state.length = 8) : digest_Hash_Sum.j2 K h = some (outOf h.state) := by
  obtain ⟨bg, st, rs, mn, tk⟩ := h
  obtain ⟨p0, p1, p2, p3, p4, p5, p6, p7, rfl⟩ := d_len8 hs
  obtain ⟨m, rfl⟩ := Nat.exists_eq_add_of_le' hK
  kernel_rfl

theorem ishr0 (x : Int) : ishr .u32 x 0 = x := by unfold ishr; simp

def outRef (p0 p1 p2 p3 p4 p5 p6 p7 : Int) : List Int := [IntKind.wrap .u8 (ishr .u32 p0 24), IntKind.wrap .u8 (ishr .u32 p0 16), IntKind.wrap .u8 (ishr .u32 p0 8), IntKind.wrap .u8 (ishr .u32 p0 0), IntKind.wrap .u8 (ishr .u32 p1 24), IntKind.wrap .u8 (ishr .u32 p1 16), IntKind.wrap .u8 (ishr .u32 p1 8), IntKind.wrap .u8 (ishr .u32 p1 0), IntKind.wrap .u8 (ishr .u32 p2 24), IntKind.wrap .u8 (ishr .u32 p2 16), IntKind.wrap .u8 (ishr .u32 p2 8), IntKind.wrap .u8 (ishr .u32 p2 0), IntKind.wrap .u8 (ishr .u32 p3 24), IntKind.wrap .u8 (ishr .u32 p3 16), IntKind.wrap .u8 (ishr .u32 p3 8), IntKind.wrap .u8 (ishr .u32 p3 0), IntKind.wrap .u8 (ishr .u32 p4 24), IntKind.wrap .u8 (ishr .u32 p4 16), IntKind.wrap .u8 (ishr .u32 p4 8), IntKind.wrap .u8 (ishr .u32 p4 0), IntKind.wrap .u8 (ishr .u32 p5 24), IntKind.wrap .u8 (ishr .u32 p5 16), IntKind.wrap .u8 (ishr .u32 p5 8), IntKind.wrap .u8 (ishr .u32 p5 0), IntKind.wrap .u8 (ishr .u32 p6 24), IntKind.wrap .u8 (ishr .u32 p6 16), IntKind.wrap .u8 (ishr .u32 p6 8), IntKind.wrap .u8 (ishr .u32 p6 0), IntKind.wrap .u8 (ishr .u32 p7 24), IntKind.wrap .u8 (ishr .u32 p7 16), IntKind.wrap .u8 (ishr .u32 p7 8), IntKind.wrap .u8 (ishr .u32 p7 0)]

theorem out_ref (K : Nat) (hK : 33 ≤ K) (st : List Int) (hs : st.length = 8) : cabalref01_Sum.j1 K st = some (outOf st) := by
  obtain ⟨p0, p1, p2, p3, p4, p5, p6, p7, rfl⟩ := d_len8 hs
  obtain ⟨m, rfl⟩ := Nat.exists_eq_add_of_le' hK
  have e : outRef p0 p1 p2 p3 p4 p5 p6 p7 = outOf [p0, p1, p2, p3, p4, p5, p6, p7] := by simp only [outRef, ishr0, outOf]
  rw [← e]
  have f : cabalref01_Sum.j1 (m + 33) [p0, p1, p2, p3, p4, p5, p6, p7] = some (outRef p0 p1 p2 p3 p4 p5 p6 p7) := by kernel_rfl
  exact f

/- noughts up to 56 -/
theorem pad_impl (K : Nat) (hK : 65 ≤ K) : ∀ z n (h : digest_Hash) (m : List Int), Inv K h m → (m.length + z) % 64 = 56 → z < 64 → z < n →
    ∃ h', digest_Hash_Sum.l3 K n h = digest_Hash_Sum.j1 K h' ∧ Inv K h' (m ++ List.replicate z 0) ∧ h'.taken = h.taken := by
  intro z
  induction z with
  | zero =>
    intro n h m I hm hz hn
    cases n with
    | zero => omega
    | succ n =>
      refine ⟨h, ?_, by simpa using I, rfl⟩
      rw [digest_Hash_Sum.l3, I.many, if_neg (by simp; omega)]
  | succ z ih =>
    intro n h m I hm hz hn
    cases n with
    | zero => omega
    | succ n =>
      obtain ⟨h1, p1, I1, t1⟩ := put_inv K hK I (b := 0) (by omega)
      obtain ⟨h2, p2, I2, t2⟩ := ih n h1 (m ++ [0]) I1 (by simp; omega) (by omega) (by omega)
      refine ⟨h2, ?_, by rw [List.replicate_succ]; simpa using I2, t2.trans t1⟩
      rw [digest_Hash_Sum.l3, I.many, if_pos (by simp; omega), p1, Option.bind_some]
      exact p2

theorem pad_ref (K : Nat) (p1 : List Int) : ∀ z n (y : List Int), (y.length + z) % 64 = 56 → z < 64 → z < n → y.length + z + 10 ≤ lim → cabalref01_Lengthened.l2 K p1 n y = cabalref01_Lengthened.j1 K p1 (y ++ List.replicate z 0) := by
  intro z
  induction z with
  | zero =>
    intro n y hm hz hn hl
    cases n with
    | zero => omega
    | succ n =>
      have e : irem (y.length : Int) 64 = ((y.length % 64 : Nat) : Int) := by unfold irem; rw [Int.tmod_eq_emod_of_nonneg (by omega)]; omega
      rw [cabalref01_Lengthened.l2, e, if_neg (by simp; omega)]; simp
  | succ z ih =>
    intro n y hm hz hn hl
    cases n with
    | zero => omega
    | succ n =>
      have e : irem (y.length : Int) 64 = ((y.length % 64 : Nat) : Int) := by unfold irem; rw [Int.tmod_eq_emod_of_nonneg (by omega)]; omega
      rw [cabalref01_Lengthened.l2, e, if_pos (by clear e; simp; omega), if_pos (by simp; omega), ih n (y ++ [0]) (by simp; omega) (by omega) (by omega) (by simp; omega), List.replicate_succ]
      simp

/- the length, in eight bytes -/
def len8bytes (N : Int) : List Int := [IntKind.wrap .u8 (ishr .u64 N 56), IntKind.wrap .u8 (ishr .u64 N 48), IntKind.wrap .u8 (ishr .u64 N 40), IntKind.wrap .u8 (ishr .u64 N 32), IntKind.wrap .u8 (ishr .u64 N 24), IntKind.wrap .u8 (ishr .u64 N 16), IntKind.wrap .u8 (ishr .u64 N 8), IntKind.wrap .u8 (ishr .u64 N 0)]

theorem wrap8_rng (x : Int) : 0 ≤ IntKind.wrap .u8 x ∧ IntKind.wrap .u8 x < 256 := by
  have e : IntKind.wrap .u8 x = x % 256 := by unfold IntKind.wrap; rfl
  rw [e]; omega

theorem len_step (K : Nat) (hK : 65 ≤ K) (n : Nat) (i j : Int) (hi : 0 ≤ i) (hj : isub .i64 i 8 = j) {h : digest_Hash} {m : List Int} (I : Inv K h m) :
    ∃ h', digest_Hash_Sum.l2 K (n + 1) i h = digest_Hash_Sum.l2 K n j h' ∧ Inv K h' (m ++ [IntKind.wrap .u8 (ishr .u64 (imul .u64 8 h.taken) i)]) ∧ h'.taken = h.taken := by
  obtain ⟨h1, p1, I1, t1⟩ := put_inv K hK I (b := IntKind.wrap .u8 (ishr .u64 (imul .u64 8 h.taken) i)) (wrap8_rng _)
  refine ⟨h1, ?_, I1, t1⟩
  rw [digest_Hash_Sum.l2, if_pos (by simpa using hi), if_pos hi, p1, Option.bind_some, hj]

theorem len_impl (K : Nat) (hK : 65 ≤ K) {h : digest_Hash} {m : List Int} (I : Inv K h m) :
    ∃ h', digest_Hash_Sum.j1 K h = digest_Hash_Sum.j2 K h' ∧ Inv K h' (m ++ len8bytes (imul .u64 8 h.taken)) := by
  obtain ⟨k, rfl⟩ := Nat.exists_eq_add_of_le' (show 9 ≤ K by omega)
  obtain ⟨h1, p1, I1, t1⟩ := len_step (k + 9) hK (k + 8) 56 48 (by omega) (by decide) I
  obtain ⟨h2, p2, I2, t2⟩ := len_step (k + 9) hK (k + 7) 48 40 (by omega) (by decide) I1
  obtain ⟨h3, p3, I3, t3⟩ := len_step (k + 9) hK (k + 6) 40 32 (by omega) (by decide) I2
  obtain ⟨h4, p4, I4, t4⟩ := len_step (k + 9) hK (k + 5) 32 24 (by omega) (by decide) I3
  obtain ⟨h5, p5, I5, t5⟩ := len_step (k + 9) hK (k + 4) 24 16 (by omega) (by decide) I4
  obtain ⟨h6, p6, I6, t6⟩ := len_step (k + 9) hK (k + 3) 16 8 (by omega) (by decide) I5
  obtain ⟨h7, p7, I7, t7⟩ := len_step (k + 9) hK (k + 2) 8 0 (by omega) (by decide) I6
  obtain ⟨h8, p8, I8, t8⟩ := len_step (k + 9) hK (k + 1) 0 (-8) (by omega) (by decide) I7
  refine ⟨h8, ?_, ?_⟩
  · unfold digest_Hash_Sum.j1
    refine p1.trans (p2.trans (p3.trans (p4.trans (p5.trans (p6.trans (p7.trans (p8.trans ?_)))))))
    rw [digest_Hash_Sum.l2, if_neg (by decide)]
  · simp only [t7, t6, t5, t4, t3, t2, t1] at I8
    simpa [len8bytes] using I8


end Go.Proofs.Pure
