/- A message that is put in byte by byte: what the digest holds of it. No program in sight. -/
import Derived.Test.YtankoeffbdnffaaDoorADBlock
namespace Go.Proofs.Pure
open Go Go.RowKit Go.Proofs.Kit

def blocks (K : Nat) : Nat → List Int → List Int → Option (List Int)
  | 0, st, _ => some st
  | q + 1, st, bs => (cabalref01_Block K st (bs.take 64)).bind fun s => blocks K q s (bs.drop 64)

theorem blocks_append (K : Nat) : ∀ q st (m x : List Int), 64 * q ≤ m.length → blocks K q st (m ++ x) = blocks K q st m := by
  intro q
  induction q with
  | zero => intros; rfl
  | succ q ih =>
    intro st m x h
    rw [blocks, blocks, List.take_append_of_le_length (by omega), List.drop_append_of_le_length (by omega)]
    congr 1
    funext s
    exact ih s _ x (by simp; omega)

theorem blocks_snoc (K : Nat) : ∀ q st (m : List Int), blocks K (q + 1) st m = (blocks K q st m).bind fun s => cabalref01_Block K s ((m.drop (64 * q)).take 64) := by
  intro q
  induction q with
  | zero =>
    intro st m
    simp only [blocks, Nat.mul_zero, List.drop_zero, Option.bind_some]
    cases cabalref01_Block K st (m.take 64) <;> rfl
  | succ q ih =>
    intro st m
    have e : ∀ q st m, blocks K (q + 1) st m = (cabalref01_Block K st (m.take 64)).bind fun s => blocks K q s (m.drop 64) := fun _ _ _ => rfl
    rw [e (q + 1), e q]
    simp only [ih]
    cases cabalref01_Block K st (m.take 64) with
    | none => rfl
    | some s =>
      simp only [Option.bind_some]
      rw [List.drop_drop, show 64 + 64 * q = 64 * (q + 1) by omega]

structure Inv (K : Nat) (h : digest_Hash) (m : List Int) : Prop where
  begun : h.begun = true
  st : h.state.length = 8
  rs : h.rest.length = 64
  rb : Bytes h.rest
  many : h.many = ((m.length % 64 : Nat) : Int)
  tail : h.rest.take (m.length % 64) = m.drop (64 * (m.length / 64))
  fold : blocks K (m.length / 64) G_digest_first m = some h.state

theorem Bytes.set {l : List Int} (h : Bytes l) (i : Nat) {b : Int} (hb : 0 ≤ b ∧ b < 256) : Bytes (l.set i b) := fun x hx => by
  rcases List.mem_or_eq_of_mem_set hx with h1 | h1
  · exact h x h1
  · subst h1; exact hb

theorem put_inv (K : Nat) (hK : 65 ≤ K) {h : digest_Hash} {m : List Int} (I : Inv K h m) {b : Int} (hb : 0 ≤ b ∧ b < 256) : ∃ h', digest_Hash_put K h b = some h' ∧ Inv K h' (m ++ [b]) ∧ h'.taken = h.taken := by
  have hr := I.rs
  have hm : m.length % 64 < 64 := Nat.mod_lt _ (by omega)
  have hsp := Nat.div_add_mod m.length 64
  have htl : (m.drop (64 * (m.length / 64))).length = m.length % 64 := by simp; omega
  have hset : h.rest.set (m.length % 64) b = h.rest.take (m.length % 64) ++ [b] ++ h.rest.drop (m.length % 64 + 1) := by
    rw [List.set_eq_take_append_cons_drop, if_pos (by omega)]; simp
  have hdrop : (m ++ [b]).drop (64 * (m.length / 64)) = m.drop (64 * (m.length / 64)) ++ [b] := by rw [List.drop_append_of_le_length (by omega)]
  unfold digest_Hash_put
  rw [I.many, if_pos (by omega), d_set (by omega), Option.bind_some, Option.bind_some, d_inc _ (by omega)]
  by_cases hl : m.length % 64 = 63
  · rw [if_pos (by simp [hl])]
    have hb2 := I.rb.set (m.length % 64) hb
    have T := take_eq K (by omega) { h with rest := h.rest.set (m.length % 64) b, many := ((m.length % 64 + 1 : Nat) : Int) } I.st (by simpa using hr) hb2
    rw [show digest_Hash_take K _ = _ from T]
    obtain ⟨s, hs, hs8⟩ := block_some K hK h.state (h.rest.set (m.length % 64) b) I.st (by simpa using hr)
    refine ⟨upd { h with rest := h.rest.set (m.length % 64) b, many := ((m.length % 64 + 1 : Nat) : Int) } s, by rw [show cabalref01_Block K _ _ = some s from hs]; rfl, ?_, rfl⟩
    have h1 : (m ++ [b]).length % 64 = 0 := by simp; omega
    have h2 : (m ++ [b]).length / 64 = m.length / 64 + 1 := by simp; omega
    refine ⟨I.begun, hs8, by simpa [upd] using hr, hb2, by rw [h1]; rfl, ?_, ?_⟩
    · rw [h1, h2, List.take_zero, List.drop_eq_nil_of_le (by simp; omega)]
    · rw [h2, blocks_snoc, blocks_append K _ _ _ _ (by omega), I.fold, Option.bind_some, hdrop, ← I.tail]
      have : (h.rest.take (m.length % 64) ++ [b]).take 64 = h.rest.set (m.length % 64) b := by
        rw [hset, List.drop_eq_nil_of_le (by omega), List.append_nil, List.take_of_length_le (by simp; omega)]
      rw [this]; exact hs
  · rw [if_neg (by simp; omega)]
    refine ⟨_, rfl, ?_, rfl⟩
    have h1 : (m ++ [b]).length % 64 = m.length % 64 + 1 := by simp; omega
    have h2 : (m ++ [b]).length / 64 = m.length / 64 := by simp; omega
    refine ⟨I.begun, I.st, by simpa using hr, I.rb.set _ hb, by rw [h1], ?_, ?_⟩
    · rw [h1, h2, hdrop, ← I.tail]
      show (h.rest.set (m.length % 64) b).take (m.length % 64 + 1) = _
      rw [hset, List.take_append_of_le_length (by simp; omega), List.take_of_length_le (by simp; omega)]
    · rw [h2, blocks_append K _ _ _ _ (by omega)]; exact I.fold

/- a text, byte by byte -/
theorem write_l2 (K : Nat) (hK : 65 ≤ K) (x2 : List Int) (hx : Bytes x2) (hxl : x2.length < 1000000) (y1 : Int) (L : Int → digest_Hash → Option digest_Hash) : ∀ (rest pre : List Int) (n : Nat) (h : digest_Hash) (m : List Int), x2 = pre ++ rest → rest.length < n → Inv K h m →
    ∃ h', digest_Hash_Write.l2 K x2 y1 L n (pre.length : Int) h = digest_Hash_Write.j2 K x2 y1 L h' ∧ Inv K h' (m ++ rest) ∧ h'.taken = h.taken := by
  intro rest
  induction rest with
  | nil =>
    intro pre n h m e hn I
    cases n with
    | zero => omega
    | succ n =>
      refine ⟨h, ?_, by simpa using I, rfl⟩
      rw [digest_Hash_Write.l2, if_neg (by rw [e]; simp)]
  | cons b rest ih =>
    intro pre n h m e hn I
    cases n with
    | zero => omega
    | succ n =>
      have hb : 0 ≤ b ∧ b < 256 := hx b (by rw [e]; simp)
      obtain ⟨h1, p1, I1, t1⟩ := put_inv K hK I hb
      have hpl : pre.length < 1000000 := by rw [e] at hxl; simp at hxl; omega
      obtain ⟨h2, p2, I2, t2⟩ := ih (pre ++ [b]) n h1 (m ++ [b]) (by rw [e]; simp) (by simp at hn; omega) I1
      refine ⟨h2, ?_, by simpa using I2, t2.trans t1⟩
      have hat : at? x2 (pre.length : Int) = some b := by rw [e]; unfold at?; rw [if_pos (by omega)]; simp
      rw [digest_Hash_Write.l2, if_pos (by rw [e]; simp; omega), hat, Option.bind_some, p1, Option.bind_some, d_inc _ (by omega)]
      rw [show (pre ++ [b]).length = pre.length + 1 by simp] at p2
      exact p2

theorem write_l1 (K : Nat) (p2 : List (List Int)) (hb : ∀ x ∈ p2, Bytes x) (hc : p2.length < 100000) : ∀ (rest pre : List (List Int)) (n : Nat) (h : digest_Hash) (m : List Int), p2 = pre ++ rest → rest.length < n → (m ++ rest.flatten).length + 200 ≤ K → K ≤ 900000 → Inv K h m → h.taken = (m.length : Int) →
    ∃ h', digest_Hash_Write.l1 K p2 n (pre.length : Int) h = some h' ∧ Inv K h' (m ++ rest.flatten) ∧ h'.taken = ((m ++ rest.flatten).length : Int) := by
  intro rest
  induction rest with
  | nil =>
    intro pre n h m e hn hK hK2 I ht
    cases n with
    | zero => omega
    | succ n =>
      refine ⟨h, ?_, by simpa using I, by simpa using ht⟩
      rw [digest_Hash_Write.l1, if_neg (by rw [e]; simp)]
  | cons x rest ih =>
    intro pre n h m e hn hK hK2 I ht
    cases n with
    | zero => omega
    | succ n =>
      have hpl : pre.length < 100000 := by rw [e] at hc; simp at hc; omega
      have hxl : x.length ≤ K := by simp at hK; omega
      obtain ⟨h1, q1, I1, t1⟩ := write_l2 K (by omega) x (hb x (by rw [e]; simp)) (by omega) (pre.length : Int) (digest_Hash_Write.l1 K p2 n) x [] K h m rfl (by simp at hK; omega) I
      have hat : at? p2 (pre.length : Int) = some x := by rw [e]; unfold at?; rw [if_pos (by omega)]; simp
      have hlen : (m ++ x).length ≤ K := by simp at hK ⊢; omega
      have ht2 : iadd .u64 h1.taken (IntKind.wrap .u64 (x.length : Int)) = ((m ++ x).length : Int) := by
        rw [t1, ht]; unfold iadd; rw [IntKind.wrap_u64, IntKind.wrap_u64]; simp at hlen ⊢; omega
      obtain ⟨h2, q2, I2, t2⟩ := ih (pre ++ [x]) n { h1 with taken := iadd .u64 h1.taken (IntKind.wrap .u64 (x.length : Int)) } (m ++ x) (by rw [e]; simp) (by simp at hn; omega) (by simp at hK ⊢; omega) hK2
        ⟨I1.begun, I1.st, I1.rs, I1.rb, I1.many, I1.tail, I1.fold⟩ ht2
      refine ⟨h2, ?_, by simpa using I2, by simpa using t2⟩
      rw [digest_Hash_Write.l1, if_pos (by rw [e]; simp; omega), hat, Option.bind_some]
      refine q1.trans ?_
      unfold digest_Hash_Write.j2
      rw [Option.bind_some, digest_Hash_Write.j1, d_inc _ (by omega)]
      rw [show (pre ++ [x]).length = pre.length + 1 by simp] at q2
      exact q2

/-- the digest holds the message m -/
def Rep (K : Nat) (h : digest_Hash) (m : List Int) : Prop :=
  (h.begun = false ∧ m = [] ∧ h.rest.length = 64 ∧ Bytes h.rest ∧ h.many = 0 ∧ h.taken = 0) ∨ (Inv K h m ∧ h.taken = (m.length : Int))

theorem begin_rep (K : Nat) {h : digest_Hash} {m : List Int} (R : Rep K h m) : ∃ h', digest_Hash_begin K h = some h' ∧ Inv K h' m ∧ h'.taken = (m.length : Int) := by
  rcases R with ⟨hb, rfl, hr, hby, hm, ht⟩ | ⟨I, ht⟩
  · refine ⟨{ { h with begun := true } with state := G_digest_first }, by unfold digest_Hash_begin; rw [if_pos (by simp [hb])], ?_, by simpa using ht⟩
    exact ⟨rfl, rfl, hr, hby, by simpa using hm, by simp, rfl⟩
  · exact ⟨h, by unfold digest_Hash_begin; rw [if_neg (by simp [I.begun])], I, ht⟩

theorem write_rep (K : Nat) {h : digest_Hash} {m : List Int} (R : Rep K h m) (parts : List (List Int)) (hb : ∀ x ∈ parts, Bytes x) (hc : parts.length < 100000) (hc2 : parts.length < K) (hK : (m ++ parts.flatten).length + 200 ≤ K) (hK2 : K ≤ 900000) :
    ∃ h', digest_Hash_Write K h parts = some h' ∧ Rep K h' (m ++ parts.flatten) := by
  obtain ⟨h1, q1, I1, t1⟩ := begin_rep K R
  obtain ⟨h2, q2, I2, t2⟩ := write_l1 K parts hb hc parts [] K h1 m rfl hc2 hK hK2 I1 t1
  exact ⟨h2, by unfold digest_Hash_Write; rw [q1]; exact q2, .inr ⟨I2, t2⟩⟩

theorem fresh_rep (K : Nat) : Rep K ⟨false, List.replicate 8 0, List.replicate 64 0, 0, 0⟩ [] :=
  .inl ⟨rfl, rfl, by simp, fun x hx => by rw [List.eq_of_mem_replicate hx]; omega, rfl, rfl⟩


end Go.Proofs.Pure
