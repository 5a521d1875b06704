/- KeyedWrites over its plain functions: no program in sight. -/
import Derived.Test.YtpihmcfojdkpoaaDoorFLaw
namespace Go.Proofs.Pure
open Go Go.RowKit Go.Proofs.Kit

theorem great_l1 (K : Nat) (p1 : List (List Int)) (hp : p1.length ≤ 40) : ∀ (rest pre : List (List Int)) (n : Nat), p1 = pre ++ rest → rest.length < n → caballaw02_great.l1 K p1 n (pre.length : Int) = some true ∨ (caballaw02_great.l1 K p1 n (pre.length : Int) = some false ∧ ∀ x ∈ rest, x.length ≤ 1000) := by
  intro rest
  induction rest with
  | nil =>
    intro pre n e hn
    cases n with
    | zero => omega
    | succ n => right; rw [caballaw02_great.l1, if_neg (by rw [e]; simp)]; exact ⟨rfl, fun _ h => by cases h⟩
  | cons x rest ih =>
    intro pre n e hn
    cases n with
    | zero => omega
    | succ n =>
      have hat : at? p1 (pre.length : Int) = some x := by rw [e]; unfold at?; rw [if_pos (by omega)]; simp
      have hpl : pre.length ≤ 40 := by rw [e] at hp; simp at hp; omega
      have h := ih (pre ++ [x]) n (by rw [e]; simp) (by simp at hn; omega)
      rw [show (pre ++ [x]).length = pre.length + 1 by simp] at h
      rw [caballaw02_great.l1, if_pos (by rw [e]; simp; omega), hat, Option.bind_some, d_inc _ (by omega)]
      by_cases hx : x.length ≤ 1000
      · rw [if_neg (by simp; omega)]
        rcases h with h | ⟨h1, h2⟩
        · exact .inl h
        · exact .inr ⟨h1, fun y hy => by rcases List.mem_cons.1 hy with rfl | hy; exact hx; exact h2 y hy⟩
      · left; rw [if_pos (by simp; omega)]

theorem great_eq (K : Nat) (hK : 41 ≤ K) (key : List Int) (p1 : List (List Int)) : caballaw02_great K key p1 = some true ∨ (caballaw02_great K key p1 = some false ∧ key.length ≤ 1000 ∧ p1.length ≤ 30 ∧ ∀ x ∈ p1, x.length ≤ 1000) := by
  unfold caballaw02_great
  rw [Option.bind_some]
  by_cases h : key.length ≤ 1000 ∧ p1.length ≤ 30
  · rw [if_neg (by simp; omega)]
    rcases great_l1 K p1 (by omega) p1 [] K rfl (by omega) with h1 | ⟨h1, h2⟩
    · exact .inl h1
    · exact .inr ⟨h1, h.1, h.2, h2⟩
  · left; rw [if_pos (by simp; omega)]

theorem rep_len {h : digest_Hash} {m : List Int} (R : Rep KK h m) : h.taken = (m.length : Int) := by
  rcases R with ⟨_, rfl, _, _, _, h⟩ | ⟨_, h⟩
  · simpa using h
  · exact h

theorem plus64 (n : Nat) (h : n < 1000000) : iadd .i64 (n : Int) 64 = ((64 + n : Nat) : Int) := by
  have e : iadd .i64 (n : Int) ((64 : Nat) : Int) = ((n + 64 : Nat) : Int) := d_addc n 64 (by omega) (by omega)
  rw [show (64 : Int) = ((64 : Nat) : Int) from rfl, e, Nat.add_comm]
theorem wrapu (n : Nat) (h : n < 2000000) : IntKind.wrap .u64 (n : Int) = (n : Int) := by rw [IntKind.wrap_u64]; omega

/-- the machine holds the key and the text so far -/
structure Holds2 (M : keyed_Mac) (key text : List Int) : Prop where
  h : Rep KK M.Hash (T (short key) 54 ++ text)
  o : Rep KK M.outer (T (short key) 92)

theorem mac_tag {M : keyed_Mac} {key text : List Int} (H : Holds2 M key text) (hs : (short key).length ≤ 64) (ht : text.length ≤ 70000) : keyed_Mac_Tag KK M = some (HM key text) := by
  have l1 := T_len hs 54
  have l2 := T_len hs 92
  exact mactag_eq H.h H.o (by rw [List.length_append, l1]; omega) (by omega)

theorem nil_tag : keyed_Mac_Tag_nil KK = some (HM [] []) ∧ cabalref02_Tag KK [] [] = some (HM [] []) := by
  have hb : Bytes [] := fun x hx => by cases hx
  have t := tag_eq hb (by simp) [] (fun x hx => by cases hx) (by simp) (by simp)
  refine ⟨?_, reftag_eq hb (by simp) hb (by simp)⟩
  unfold keyed_Mac_Tag_nil
  rw [show keyed_Tag KK [] [] = some (HM [] []) from t]; rfl

theorem writes_j1 {M : keyed_Mac} {key text : List Int} (H : Holds2 M key text) (hk : Bytes key) (hkl : key.length ≤ 1000) (ht : Bytes text) (htl : text.length ≤ 70000) : caballaw02_KeyedWrites.j1 KK key text M = some true := by
  obtain ⟨h1, _⟩ := short_ok hk (by omega)
  have t := mac_tag H h1 htl
  have r := reftag_eq hk (by omega) ht (by omega)
  obtain ⟨hn, hd⟩ := nil_tag
  unfold caballaw02_KeyedWrites.j1
  simp only [alive_KK, Option.bind_some, t, r, hn, hd, beq_self_eq_true, if_true, decide_true]

theorem writes_l1 {key : List Int} (hk : Bytes key) (hkl : key.length ≤ 1000) (p2 : List (List Int)) (hb : ∀ x ∈ p2, Bytes x) (hl : ∀ x ∈ p2, x.length ≤ 1000) : ∀ c n (i : Nat) (s : List Int) (M : keyed_Mac), i + c = 10 → c < n → Holds2 M key s → s.length ≤ 1000 * i → Bytes s →
    caballaw02_KeyedWrites.l1 KK p2 key n s (i : Int) M = some true := by
  obtain ⟨h64, _⟩ := short_ok hk (show key.length ≤ 90000 by omega)
  have l54 := T_len h64 54
  intro c
  induction c with
  | zero =>
    intro n i s M hi hn H hs hbs
    cases n with
    | zero => omega
    | succ n =>
      rw [caballaw02_KeyedWrites.l1, Option.bind_some, if_neg (by simp; omega)]
      exact writes_j1 H hk hkl hbs (by omega)
  | succ c ih =>
    intro n i s M hi hn H hs hbs
    cases n with
    | zero => omega
    | succ n =>
      rw [caballaw02_KeyedWrites.l1, Option.bind_some]
      by_cases hlt : i < p2.length
      · rw [if_pos (by simp; omega)]
        have t := mac_tag H h64 (by omega)
        have r := reftag_eq hk (by omega) hbs (by omega)
        have hx := d_at (xs := p2) hlt []
        have hm : p2.getD i [] ∈ p2 := by rw [List.getD_eq_getElem?_getD, List.getElem?_eq_getElem hlt]; simp
        have hxl := hl _ hm
        have hw : IntKind.wrap .u64 (iadd .i64 (s.length : Int) 64) = M.Hash.taken := by
          rw [rep_len H.h, List.length_append, l54, plus64 s.length (by omega)]
          exact wrapu (64 + s.length) (by omega)
        obtain ⟨h1, q1, R1⟩ := one_write H.h (hb _ hm) (by rw [List.length_append, List.length_append, l54]; omega)
        have hlim : lim = 2147483648 := rfl
        simp only [t, r, Option.bind_some, decide_true, Bool.not_true, Bool.false_eq_true, if_false, beq_self_eq_true, if_true, digest_Hash_Len, hw, bne_self_eq_false, hx, q1]
        rw [if_pos (by omega), d_inc i (by omega)]
        refine ih n (i + 1) _ _ (by omega) (by omega) ⟨by simpa using R1, H.o⟩ (by rw [List.length_append]; omega) (hbs.append (hb _ hm))
      · rw [if_neg (by simp; omega)]
        exact writes_j1 H hk hkl hbs (by omega)

theorem KeyedWrites (x0 : (List Int)) (x1 : (List (List Int))) (g0 : Fine kstr x0) (g1 : Fine (ksl kstr) x1) : ∃ k, caballaw02_KeyedWrites k x0 x1 = some true := by
  have hb : ∀ x ∈ x1, Bytes x := fun x hx => bytes_of (g1.sl.2 x hx)
  have hk := bytes_of g0
  refine ⟨KK, ?_⟩
  unfold caballaw02_KeyedWrites
  rw [alive_KK, Option.bind_some, if_neg (by simp)]
  rcases great_eq KK (by decide) x0 x1 with h | ⟨h, h0, h1, h2⟩
  · rw [h]; rfl
  · obtain ⟨M, q, R1, R2⟩ := begin_eq hk (by omega)
    have qn : keyed_New KK x0 = some M := by unfold keyed_New; rw [Option.bind_some, q]; rfl
    rw [h, Option.bind_some, if_neg (by simp), qn, Option.bind_some]
    exact writes_l1 hk h0 x1 hb h2 10 KK 0 [] M rfl (by decide) ⟨by simpa using R1, R2⟩ (by simp) (fun b hb => by cases hb)

end Go.Proofs.Pure
