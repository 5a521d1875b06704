/- DigestCopies over its plain functions: no program in sight. -/
import Derived.Test.YtpihmcfojdkpoaaDoorDLaw
namespace Go.Proofs.Pure
open Go Go.RowKit Go.Proofs.Kit

theorem one_write {h : digest_Hash} {m : List Int} (R : Rep KK h m) {x : List Int} (hx : Bytes x) (hl : (m ++ x).length ≤ 90000) : ∃ h', digest_Hash_Write KK h [x] = some h' ∧ Rep KK h' (m ++ x) := by
  obtain ⟨h1, q1, R1⟩ := write_rep KK R [x] (fun y hy => by simp at hy; subst hy; exact hx) (by simp) (by show [x].length < 100000; simp) (by show (m ++ [x].flatten).length + 200 ≤ 100000; simp at hl ⊢; omega) (by decide)
  exact ⟨h1, q1, by simpa using R1⟩

theorem DigestCopies (x0 : (List Int)) (x1 : (List Int)) (x2 : (List Int)) (g0 : Fine kstr x0) (g1 : Fine kstr x1) (g2 : Fine kstr x2) : ∃ k, caballaw01_DigestCopies k x0 x1 x2 = some true := by
  have b0 := bytes_of g0
  have b1 := bytes_of g1
  have b2 := bytes_of g2
  refine ⟨KK, ?_⟩
  unfold caballaw01_DigestCopies
  rw [alive_KK, Option.bind_some, if_neg (by simp), Option.bind_some]
  by_cases hl : x0.length ≤ 2000 ∧ x1.length ≤ 2000 ∧ x2.length ≤ 2000
  · obtain ⟨l0, l1, l2⟩ := hl
    obtain ⟨h1, q1, R1⟩ := one_write (fresh_rep KK) b0 (by simp; omega)
    rw [List.nil_append] at R1
    obtain ⟨h2, q2, R2⟩ := one_write R1 b1 (by simp; omega)
    obtain ⟨h3, q3, R3⟩ := one_write R1 b2 (by simp; omega)
    obtain ⟨s2, _⟩ := S_rep R2 (by simp; omega)
    obtain ⟨s3, _⟩ := S_rep R3 (by simp; omega)
    obtain ⟨t2, _⟩ := S_sum [x0, x1] (fun y hy => by simp at hy; rcases hy with rfl | rfl; exact b0; exact b1) (by simp) (by simp; omega)
    obtain ⟨t3, _⟩ := S_sum [x0, x2] (fun y hy => by simp at hy; rcases hy with rfl | rfl; exact b0; exact b2) (by simp) (by simp; omega)
    obtain ⟨s0, r0⟩ := S_rep (fresh_rep KK) (by simp)
    obtain ⟨t0, _⟩ := S_sum [] (fun y hy => by cases hy) (by simp) (by simp)
    have hnz := none_nz
    rw [t0] at hnz
    have hnz' : ¬ S [] = [0, 0, 0, 0, 0, 0, 0, 0, 0, 0, 0, 0, 0, 0, 0, 0, 0, 0, 0, 0, 0, 0, 0, 0, 0, 0, 0, 0, 0, 0, 0, 0] := fun e => hnz (by rw [show ([] : List (List Int)).flatten = [] from rfl, e]; rfl)
    rw [if_neg (by simp; omega)]
    rw [show digest_Hash_Write KK ⟨false, List.replicate 8 0, List.replicate 64 0, 0, 0⟩ [x0] = some h1 from q1]
    simp only [Option.bind_some, q2, q3, s2, s3, show digest_Sum KK [x0, x1] = some (S (x0 ++ x1)) by simpa using t2, show digest_Sum KK [x0, x2] = some (S (x0 ++ x2)) by simpa using t3, s0, r0, show digest_Sum KK [] = some (S []) from t0, beq_self_eq_true, if_true, decide_true, hnz', decide_false, Bool.not_false]
  · rw [if_pos (by simp; omega)]; rfl

end Go.Proofs.Pure
