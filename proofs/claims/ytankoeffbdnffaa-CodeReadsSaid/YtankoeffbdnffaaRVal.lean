/- Numbers written in digits: their values, and the digits that a value has. No program in sight. -/
import Derived.Test.YtankoeffbdnffaaNum
namespace Go.Proofs.Pure
open Go Go.RowKit Go.Proofs.Kit
set_option linter.unusedVariables false

/-- a number by so much and more, digit by digit, from the end: what is over, and the digits. (by the factor f, in base b) -/
def mulD (f b c : Int) : List Int → Int × List Int
  | [] => (c, [])
  | x :: l => (((mulD f b c l).1 + f * x) / b, (((mulD f b c l).1 + f * x) % b) :: (mulD f b c l).2)
theorem mul_len (f b c : Int) : ∀ l, (mulD f b c l).2.length = l.length
  | [] => rfl
  | x :: l => by show (_ :: (mulD f b c l).2).length = _; rw [List.length_cons, mul_len f b c l, List.length_cons]
theorem mul_dig {f b c : Int} (hb : 0 < b) : ∀ l, ∀ x ∈ (mulD f b c l).2, 0 ≤ x ∧ x < b
  | [], x, hx => by cases hx
  | y :: l, x, hx => by
    have hx' : x ∈ (((mulD f b c l).1 + f * y) % b) :: (mulD f b c l).2 := hx
    rcases List.mem_cons.1 hx' with e | e
    · rw [e]; exact ⟨Int.emod_nonneg _ (by omega), Int.emod_lt_of_pos _ hb⟩
    · exact mul_dig hb l x e
/-- what is over stays small -/
theorem mul_carry {f b c : Int} (hf : 0 ≤ f) (hb : 0 < b) (hc : 0 ≤ c ∧ c < f) : ∀ l : List Int, (∀ x ∈ l, 0 ≤ x ∧ x < b) → 0 ≤ (mulD f b c l).1 ∧ (mulD f b c l).1 < f
  | [], _ => hc
  | x :: l, h => by
    have ih := mul_carry hf hb hc l (fun y hy => h y (by simp [hy]))
    have hx := h x (by simp)
    show 0 ≤ ((mulD f b c l).1 + f * x) / b ∧ ((mulD f b c l).1 + f * x) / b < f
    generalize (mulD f b c l).1 = C at ih
    have h1 : f * x ≤ f * (b - 1) := Int.mul_le_mul_of_nonneg_left (by omega) hf
    have h2 : 0 ≤ f * x := Int.mul_nonneg hf hx.1
    have h3 : f * (b - 1) = f * b - f := by rw [Int.mul_sub, Int.mul_one]
    exact ⟨Int.ediv_nonneg (by omega) (by omega), Int.ediv_lt_of_lt_mul hb (by omega)⟩


end Go.Proofs.Pure
