/- DigestWrites over its plain functions: no program in sight. -/
import Derived.Test.YtpihmcfojdkpoaaDoorDLaw
namespace Go.Proofs.Pure
open Go Go.RowKit Go.Proofs.Kit

theorem writes_l1 (p1 : List (List Int)) (hb : ∀ x ∈ p1, Bytes x) (hl : ∀ x ∈ p1, x.length ≤ 1000) : ∀ c n (i : Nat) (s : List Int) (h : digest_Hash), i + c = 15 → c < n → Rep KK h s → s.length ≤ 1000 * i → Bytes s →
    caballaw01_DigestWrites.l1 KK p1 n s (i : Int) h = some true := by
  have fin : ∀ (s : List Int) (h : digest_Hash), Rep KK h s → s.length ≤ 90000 → caballaw01_DigestWrites.j1 KK s h = some true := by
    intro s h R hs
    obtain ⟨s1, s2⟩ := S_rep R hs
    obtain ⟨t1, t2⟩ := S_rep (fresh_rep KK) (by simp)
    have hw : IntKind.wrap .u64 (s.length : Int) = (s.length : Int) := by rw [IntKind.wrap_u64]; omega
    have hn : digest_Hash_Sum_nil KK = some (S []) := by rw [nil_sum, t2]
    unfold caballaw01_DigestWrites.j1
    simp only [digest_Hash_Write_nil, digest_Hash_Len_nil, digest_Hash_Len, Option.bind_some, alive_KK, s1, s2, t2, hn, rep_len R, hw, beq_self_eq_true, if_true, decide_true]
  intro c
  induction c with
  | zero =>
    intro n i s h hi hn R hs hbs
    cases n with
    | zero => omega
    | succ n =>
      rw [caballaw01_DigestWrites.l1, Option.bind_some, if_neg (by simp; omega)]
      exact fin s h R (by omega)
  | succ c ih =>
    intro n i s h hi hn R hs hbs
    cases n with
    | zero => omega
    | succ n =>
      rw [caballaw01_DigestWrites.l1, Option.bind_some]
      by_cases hlt : i < p1.length
      · rw [if_pos (by simp; omega)]
        obtain ⟨s1, s2⟩ := S_rep R (by omega)
        have hw : IntKind.wrap .u64 (s.length : Int) = (s.length : Int) := by rw [IntKind.wrap_u64]; omega
        have hx := d_at (xs := p1) hlt []
        have hm : p1.getD i [] ∈ p1 := by rw [List.getD_eq_getElem?_getD, List.getElem?_eq_getElem hlt]; simp
        have hxl := hl _ hm
        obtain ⟨h1, q1, R1⟩ := write_rep KK R [p1.getD i []] (fun y hy => by simp only [List.mem_singleton] at hy; subst hy; exact hb _ hm) (by simp) (by show [p1.getD i []].length < 100000; simp) (by show (s ++ [p1.getD i []].flatten).length + 200 ≤ 100000; rw [List.flatten_cons, List.flatten_nil, List.append_nil, List.length_append]; omega) (by decide)
        rw [List.flatten_cons, List.flatten_nil, List.append_nil] at R1
        have hlim : lim = 2147483648 := rfl
        simp only [s1, s2, Option.bind_some, decide_true, Bool.not_true, Bool.false_eq_true, if_false, beq_self_eq_true, if_true, digest_Hash_Len, rep_len R, hw, bne_self_eq_false, hx, q1]
        rw [if_pos (by omega), d_inc i (by omega)]
        refine ih n (i + 1) _ h1 (by omega) (by omega) R1 (by rw [List.length_append]; omega) (fun b hbm => ?_)
        rcases List.mem_append.1 hbm with h2 | h2
        · exact hbs b h2
        · exact hb _ hm b h2
      · rw [if_neg (by simp; omega)]
        exact fin s h R (by omega)

theorem DigestWrites (x0 : (List (List Int))) (g0 : Fine (ksl kstr) x0) : ∃ k, caballaw01_DigestWrites k x0 = some true := by
  have hb : ∀ x ∈ x0, Bytes x := fun x hx => bytes_of (g0.sl.2 x hx)
  refine ⟨KK, ?_⟩
  unfold caballaw01_DigestWrites
  rw [alive_KK, Option.bind_some, if_neg (by simp)]
  rcases great_eq KK (by decide) x0 with h | ⟨h, h1, h2⟩
  · rw [h]; rfl
  · rw [h, Option.bind_some, if_neg (by simp)]
    exact writes_l1 x0 hb h2 15 KK 0 [] _ rfl (by decide) (fresh_rep KK) (by simp) (fun b hb => by cases hb)

end Go.Proofs.Pure
