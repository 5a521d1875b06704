/- The digest of a message is the document's sum of it, however it was put in; and it always ends. No program in sight. -/
import Derived.Test.YtankoeffbdnffaaDoorADSum
namespace Go.Proofs.Pure
open Go Go.RowKit Go.Proofs.Kit

def refBytes (N : Int) : List Int :=
  let q := fun x => iquo .u64 x 256
  let b := fun x => IntKind.wrap .u8 (irem x 256)
  [b (q (q (q (q (q (q (q N))))))), b (q (q (q (q (q (q N)))))), b (q (q (q (q (q N))))), b (q (q (q (q N)))), b (q (q (q N))), b (q (q N)), b (q N), b N]

theorem refBytes_eq (n : Nat) (h : n < 1000000000) : refBytes (8 * (n : Int)) = len8bytes (8 * (n : Int)) := by
  have q : ∀ x : Int, 0 ≤ x → x < 8000000000 → iquo .u64 x 256 = x / 256 := fun x h1 h2 => by
    unfold iquo; rw [Int.tdiv_eq_ediv_of_nonneg h1, IntKind.wrap_u64]; omega
  have r : ∀ x : Int, 0 ≤ x → irem x 256 = x % 256 := fun x h1 => by unfold irem; rw [Int.tmod_eq_emod_of_nonneg h1]
  have s : ∀ (x : Int) (k : Int) (d : Int), 2 ^ (min k.toNat IntKind.u64.bits) = d → 0 < d → ishr .u64 x k = x / d := fun x k d e hd => by
    unfold ishr; rw [e, Int.fdiv_eq_ediv_of_nonneg _ (by omega)]
  have w : ∀ x : Int, IntKind.wrap .u8 x = x % 256 := fun x => rfl
  have h0 : (0 : Int) ≤ 8 * (n : Int) ∧ 8 * (n : Int) < 8000000000 := by omega
  generalize 8 * (n : Int) = N at h0
  simp only [refBytes, len8bytes]
  rw [s N 56 72057594037927936 (by decide) (by decide), s N 48 281474976710656 (by decide) (by decide), s N 40 1099511627776 (by decide) (by decide), s N 32 4294967296 (by decide) (by decide), s N 24 16777216 (by decide) (by decide), s N 16 65536 (by decide) (by decide), s N 8 256 (by decide) (by decide), s N 0 1 (by decide) (by decide)]
  rw [q (N) (by omega) (by omega), q (N / 256) (by omega) (by omega), q (N / 256 / 256) (by omega) (by omega), q (N / 256 / 256 / 256) (by omega) (by omega), q (N / 256 / 256 / 256 / 256) (by omega) (by omega), q (N / 256 / 256 / 256 / 256 / 256) (by omega) (by omega), q (N / 256 / 256 / 256 / 256 / 256 / 256) (by omega) (by omega)]
  simp only [w, List.cons.injEq, and_true]
  rw [r _ (by omega), r _ (by omega), r _ (by omega), r _ (by omega), r _ (by omega), r _ (by omega), r _ (by omega), r _ (by omega)]
  omega

theorem len_ref (K : Nat) (hK : 9 ≤ K) (p1 y1 : List Int) (hl : y1.length + 8 ≤ lim) : cabalref01_Lengthened.j1 K p1 y1 = some (y1 ++ refBytes (imul .u64 (IntKind.wrap .u64 (p1.length : Int)) 8)) := by
  obtain ⟨m, rfl⟩ := Nat.exists_eq_add_of_le' hK
  unfold cabalref01_Lengthened.j1
  generalize imul .u64 (IntKind.wrap .u64 (p1.length : Int)) 8 = N
  have f : cabalref01_Lengthened.l1 (m + 9) y1 (m + 9) N 0 (List.replicate 8 0) = cabalref01_Lengthened.j2 (m + 9) y1 (refBytes N) := by kernel_rfl
  rw [f]
  unfold cabalref01_Lengthened.j2
  have c : cut? (refBytes N) 0 8 = some (refBytes N) := by kernel_rfl
  rw [c, Option.bind_some, if_pos (by simpa [refBytes] using hl)]

theorem refsum_l2 (K : Nat) (M : List Int) (hM : M.length < 1000000000) : ∀ q n (i : Nat) (st : List Int), M.length = 64 * (i + q) → q < n → cabalref01_Sum.l2 K M n ((64 * i : Nat) : Int) st = (blocks K q st (M.drop (64 * i))).bind (cabalref01_Sum.j1 K) := by
  intro q
  induction q with
  | zero =>
    intro n i st hl hn
    cases n with
    | zero => omega
    | succ n => rw [cabalref01_Sum.l2, if_neg (by simp; omega)]; rfl
  | succ q ih =>
    intro n i st hl hn
    cases n with
    | zero => omega
    | succ n =>
      have e : iadd .i64 ((64 * i : Nat) : Int) 64 = ((64 * (i + 1) : Nat) : Int) := by unfold iadd; rw [IntKind.wrap_i64]; omega
      have c : cut? M ((64 * i : Nat) : Int) ((64 * (i + 1) : Nat) : Int) = some ((M.drop (64 * i)).take 64) := by
        unfold cut?
        rw [if_pos ⟨by omega, by omega, by omega⟩, Int.toNat_natCast, Int.toNat_natCast, List.drop_take, show 64 * (i + 1) - 64 * i = 64 by omega]
      rw [cabalref01_Sum.l2, if_pos (by simp; omega), e, c, Option.bind_some, blocks]
      cases cabalref01_Block K st ((M.drop (64 * i)).take 64) with
      | none => rfl
      | some s =>
        simp only [Option.bind_some]
        rw [ih n (i + 1) s (by omega) (by omega), List.drop_drop, show 64 * i + 64 = 64 * (i + 1) by omega]

theorem sum_eq (K : Nat) (hK2 : K ≤ 900000) {h : digest_Hash} {m : List Int} (R : Rep K h m) (hK : m.length + 200 ≤ K) : ∃ d, digest_Hash_Sum K h = some d ∧ cabalref01_Sum K m = some d ∧ d.length = 32 ∧ Bytes d := by
  obtain ⟨h1, q1, I1, t1⟩ := begin_rep K R
  obtain ⟨h2, q2, I2, t2⟩ := put_inv K (by omega) I1 (b := 128) (by omega)
  obtain ⟨z, hz, hz2⟩ : ∃ z, z < 64 ∧ ((m ++ [128]).length + z) % 64 = 56 := ⟨(119 - m.length % 64) % 64, by omega, by simp; omega⟩
  obtain ⟨h3, q3, I3, t3⟩ := pad_impl K (by omega) z K h2 (m ++ [128]) I2 hz2 hz (by omega)
  obtain ⟨h4, q4, I4⟩ := len_impl K (by omega) I3
  have hN : imul .u64 8 h3.taken = 8 * (m.length : Int) := by rw [t3, t2, t1]; unfold imul; rw [IntKind.wrap_u64]; omega
  rw [hN] at I4
  have hML : (m ++ [128] ++ List.replicate z 0 ++ len8bytes (8 * (m.length : Int))).length = m.length + 1 + z + 8 := by simp [len8bytes]; omega
  have hM64 : (m ++ [128] ++ List.replicate z 0 ++ len8bytes (8 * (m.length : Int))).length % 64 = 0 := by rw [hML]; simp at hz2; omega
  refine ⟨outOf h4.state, ?_, ?_, ?_⟩
  · unfold digest_Hash_Sum
    rw [q1, Option.bind_some, q2, Option.bind_some, q3, q4, out_impl K (by omega) h4 I4.st]
  · unfold cabalref01_Sum cabalref01_Lengthened
    have hlim : lim = 2147483648 := rfl
    rw [if_pos (by rw [hlim]; simp; omega), pad_ref K m z K (m ++ [128]) hz2 hz (by omega) (by rw [hlim]; simp; omega), len_ref K (by omega) _ _ (by rw [hlim]; simp; omega), Option.bind_some, Option.bind_some]
    have hN2 : imul .u64 (IntKind.wrap .u64 (m.length : Int)) 8 = 8 * (m.length : Int) := by unfold imul; rw [IntKind.wrap_u64, IntKind.wrap_u64]; omega
    rw [hN2, refBytes_eq m.length (by omega)]
    have hq := Nat.div_add_mod (m ++ [128] ++ List.replicate z 0 ++ len8bytes (8 * (m.length : Int))).length 64
    refine (refsum_l2 K _ (by rw [hML]; omega) ((m ++ [128] ++ List.replicate z 0 ++ len8bytes (8 * (m.length : Int))).length / 64) K 0 _ (by omega) (by rw [hML]; omega)).trans ?_
    have hf := I4.fold
    rw [List.drop_zero]
    rw [show ([1779033703, 3144134277, 1013904242, 2773480762, 1359893119, 2600822924, 528734635, 1541459225] : List Int) = G_digest_first from rfl, hf, Option.bind_some]
    exact out_ref K (by omega) h4.state I4.st
  · obtain ⟨p0, p1, p2, p3, p4, p5, p6, p7, e⟩ := d_len8 I4.st
    rw [e]
    refine ⟨rfl, ?_⟩
    unfold Bytes outOf
    simp only [List.mem_cons, List.not_mem_nil, or_false, forall_eq_or_imp, forall_eq]
    and_intros <;> first | exact (wrap8_rng _).1 | exact (wrap8_rng _).2


end Go.Proofs.Pure
