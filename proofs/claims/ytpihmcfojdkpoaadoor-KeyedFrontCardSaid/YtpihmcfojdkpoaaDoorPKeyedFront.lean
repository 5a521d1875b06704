/- KeyedFront over its plain functions: no program in sight. -/
import Derived.Test.YtpihmcfojdkpoaaDoorEExp
namespace Go.Proofs.Pure
open Go Go.RowKit Go.Proofs.Kit

theorem KeyedFront (x0 : (List Int)) (x1 : (List Int)) (x2 : Int) (x3 : Int) (g0 : Fine kstr x0) (g1 : Fine kstr x1) (g2 : Fine (kint .u16) x2) (g3 : Fine (kint .u16) x3) : ∃ k, caballaw02_KeyedFront k x0 x1 x2 x3 = some true := by
  refine ⟨KK, ?_⟩
  unfold caballaw02_KeyedFront
  rw [alive_KK, Option.bind_some, if_neg (by simp), Option.bind_some]
  by_cases hl : x0.length ≤ 500 ∧ x1.length ≤ 500
  · have E : ExOk x0 x1 := ⟨bytes_of g0, hl.1, bytes_of g1, hl.2⟩
    rw [if_neg (by simp; omega)]
    have r : ∀ x : Int, Fine (kint .u16) x → ∃ n : Nat, IntKind.wrap .i64 (irem x 2000) = (n : Int) ∧ n < 2000 := by
      intro x hx
      have h : IntKind.u16.min ≤ x ∧ x ≤ IntKind.u16.max := hx.int
      have e1 : IntKind.u16.min = 0 := rfl
      refine ⟨(x % 2000).toNat, ?_, by omega⟩
      unfold irem
      rw [Int.tmod_eq_emod_of_nonneg (by omega), IntKind.wrap_i64]; omega
    obtain ⟨a, ha, ha2⟩ := r x2 g2
    obtain ⟨b, hb, hb2⟩ := r x3 g3
    have e : iadd .i64 (a : Int) (b : Int) = ((a + b : Nat) : Int) := by unfold iadd; rw [IntKind.wrap_i64]; omega
    have h1 := exp_eq E a (by omega)
    have h2 := exp_eq E (a + b) (by omega)
    have h3 : keyed_Expand KK x0 x1 32 = some (ex x0 x1 32, 0) := exp_eq E 32 (by omega)
    have t := tag_eq E.k (show x0.length ≤ 90000 by omega) [x1, [1]] (fun x hx => by
      simp only [List.mem_cons, List.not_mem_nil, or_false] at hx
      rcases hx with rfl | rfl
      · exact E.i
      · exact fun x hx => by simp only [List.mem_singleton] at hx; subst hx; omega) (by simp) (by simp; omega)
    have e32 : ex x0 x1 32 = HM x0 (x1 ++ [1]) := by
      have hl := exps_len E 0
      show ((exps x0 x1 0).1 ++ (exps x0 x1 1).2).take 32 = _
      have e0 : (exps x0 x1 0).1 = [] := rfl
      rw [e0, List.nil_append, List.take_of_length_le (Nat.le_of_eq hl)]
      rfl
    have hlen : (HM x0 (x1 ++ [1])).length = 32 := by rw [← e32]; exact ex_len E 32
    have t' : keyed_Tag KK x0 [x1, [1]] = some (HM x0 (x1 ++ [1])) := by simpa using t
    have c : cut? (ex x0 x1 (a + b)) 0 (a : Int) = some (ex x0 x1 a) := by
      unfold cut?
      rw [if_pos ⟨by omega, by omega, by rw [ex_len E]; omega⟩]
      have := ex_pre E a (a + b) (by omega)
      simp [this]
    rw [ha, hb, e]
    simp only [Option.bind_some, h1, h2, h3, t', c, cut32 hlen, e32, ex_len E, beq_self_eq_true, if_true, decide_true]
  · rw [if_pos (by simp; omega)]; rfl

end Go.Proofs.Pure
