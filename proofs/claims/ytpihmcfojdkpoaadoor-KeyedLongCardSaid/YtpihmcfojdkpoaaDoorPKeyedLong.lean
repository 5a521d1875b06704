/- KeyedLong over its plain functions: no program in sight. -/
import Derived.Test.YtpihmcfojdkpoaaDoorELaw
namespace Go.Proofs.Pure
open Go Go.RowKit Go.Proofs.Kit

theorem HM_pad (key text : List Int) (j : Nat) (h : key.length + j ≤ 64) : HM (key ++ List.replicate j 0) text = HM key text := by
  have e1 : short (key ++ List.replicate j 0) = key ++ List.replicate j 0 := if_neg (by simp; omega)
  have e2 : short key = key := if_neg (by omega)
  have e3 : P (key ++ List.replicate j 0) = P key := by
    simp only [P, List.length_append, List.length_replicate, List.append_assoc]
    congr 1
    rw [List.replicate_append_replicate]
    congr 1; omega
  have e4 : ∀ b, T (key ++ List.replicate j 0) b = T key b := fun b => by unfold T; rw [e3]
  unfold HM
  rw [e1, e2, e4, e4]

theorem long_j1 (key text y : List Int) (hk : Bytes key) (ht : Bytes text) (hkl : key.length ≤ 1000) (htl : text.length ≤ 1000) (hy : Bytes y) (hyl : y.length ≤ 1000) (e : HM key text = HM y text) : caballaw02_KeyedLong.j1 KK key text y = some true := by
  have t1 := tag_eq hk (by omega) [text] (fun z hz => by simp at hz; subst hz; exact ht) (by simp) (by simp; omega)
  have t2 := tag_eq hy (by omega) [text] (fun z hz => by simp at hz; subst hz; exact ht) (by simp) (by simp; omega)
  simp only [List.flatten_cons, List.flatten_nil, List.append_nil] at t1 t2
  unfold caballaw02_KeyedLong.j1
  simp [alive_KK, t1, t2, e]

theorem long_l1 (key text : List Int) (hk : Bytes key) (ht : Bytes text) (hkl : key.length ≤ 64) (htl : text.length ≤ 1000) (p3 : Int) : ∀ c n (i : Nat), i + c = 65 → c < n → key.length + i ≤ 64 ∨ c = 0 ∧ False → caballaw02_KeyedLong.l1 KK p3 key text n (key ++ List.replicate i 0) (i : Int) = some true := by
  have hlim : lim = 2147483648 := rfl
  have fin : ∀ i : Nat, key.length + i ≤ 64 → caballaw02_KeyedLong.j1 KK key text (key ++ List.replicate i 0) = some true := fun i hi =>
    long_j1 key text _ hk ht (by omega) htl (hk.append (fun x hx => by rw [List.eq_of_mem_replicate hx]; omega)) (by simp; omega) (HM_pad key text i hi).symm
  intro c
  induction c with
  | zero =>
    intro n i hi hn hc
    rcases hc with hc | hc
    · omega
    · exact hc.2.elim
  | succ c ih =>
    intro n i hi hn hc
    have hc' : key.length + i ≤ 64 := by rcases hc with h | h; exact h; omega
    cases n with
    | zero => omega
    | succ n =>
      rw [caballaw02_KeyedLong.l1, Option.bind_some]
      by_cases hcond : (if decide ((i : Int) < IntKind.wrap .i64 (irem p3 65)) then decide (((key ++ List.replicate i 0).length : Int) < 64) else false) = true
      · have hlt : key.length + i < 64 := by
          revert hcond
          split
          · intro h; simp at h; omega
          · intro h; cases h
        rw [if_pos hcond, if_pos (by rw [hlim]; simp; omega), d_inc i (by omega)]
        have e : key ++ List.replicate i 0 ++ [0] = key ++ List.replicate (i + 1) 0 := by rw [List.append_assoc, ← List.replicate_succ']
        rw [e]
        exact ih n (i + 1) (by omega) (by omega) (.inl (by omega))
      · rw [if_neg hcond]; exact fin i hc'

theorem KeyedLong (x0 : (List Int)) (x1 : (List Int)) (x2 : Int) (g0 : Fine kstr x0) (g1 : Fine kstr x1) (_ : Fine (kint .u8) x2) : ∃ k, caballaw02_KeyedLong k x0 x1 x2 = some true := by
  have hk := bytes_of g0
  have ht := bytes_of g1
  refine ⟨KK, ?_⟩
  unfold caballaw02_KeyedLong
  rw [alive_KK, Option.bind_some, if_neg (by simp), Option.bind_some]
  by_cases hl : x0.length ≤ 1000 ∧ x1.length ≤ 1000
  · rw [if_neg (by simp; omega)]
    by_cases h64 : x0.length ≤ 64
    · rw [if_neg (by simp; omega)]
      have := long_l1 x0 x1 hk ht h64 hl.2 x2 65 KK 0 rfl (by decide) (.inl (by omega))
      rw [List.replicate_zero, List.append_nil] at this
      exact this
    · rw [if_pos (by simp; omega)]
      obtain ⟨_, d2, d3, d4⟩ := S_one x0 hk (by omega)
      have t1 := tag_eq hk (by omega) [x1] (fun z hz => by simp at hz; subst hz; exact ht) (by simp) (by simp; omega)
      have t2 := tag_eq d4 (by omega) [x1] (fun z hz => by simp at hz; subst hz; exact ht) (by simp) (by simp; omega)
      simp only [List.flatten_cons, List.flatten_nil, List.append_nil] at t1 t2
      have e : HM x0 x1 = HM (S x0) x1 := by
        have e1 : short x0 = S x0 := if_pos (by omega)
        have e2 : short (S x0) = S x0 := if_neg (by omega)
        unfold HM; rw [e1, e2]
      simp [d2, cut32 d3, t1, t2, e]
  · rw [if_pos (by simp; omega)]; rfl

end Go.Proofs.Pure
