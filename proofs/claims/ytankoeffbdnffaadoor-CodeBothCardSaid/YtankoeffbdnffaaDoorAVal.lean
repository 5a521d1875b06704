/- Numbers written in digits: their values, and the digits that a value has. No program in sight. -/
import Derived.Test.YtankoeffbdnffaaDoorNum
namespace Go.Proofs.Pure
open Go Go.RowKit Go.Proofs.Kit
set_option linter.unusedVariables false

def vl (b : Int) (l : List Int) : Int := l.foldl (fun a x => a * b + x) 0
theorem vl_fold (b : Int) (l : List Int) : ∀ a : Int, l.foldl (fun a x => a * b + x) a = a * b ^ l.length + vl b l := by
  induction l with
  | nil => intro a; simp [vl]
  | cons x l ih =>
    intro a
    have h0 := ih (0 * b + x)
    rw [List.foldl_cons, ih, List.length_cons]
    have e : vl b (x :: l) = x * b ^ l.length + vl b l := by
      show l.foldl (fun a x => a * b + x) (0 * b + x) = _
      rw [h0, Int.zero_mul, Int.zero_add]
    rw [e, Int.add_mul, Int.pow_succ, Int.mul_assoc a b, Int.mul_comm b, Int.add_assoc]
theorem vl_cons (b : Int) (x : Int) (l : List Int) : vl b (x :: l) = x * b ^ l.length + vl b l := by
  have := vl_fold b l (0 * b + x)
  rw [Int.zero_mul, Int.zero_add] at this
  show l.foldl (fun a x => a * b + x) (0 * b + x) = _
  rw [Int.zero_mul, Int.zero_add]; exact this
theorem vl_nonneg {b : Int} (hb : 0 ≤ b) : ∀ l : List Int, (∀ x ∈ l, 0 ≤ x) → 0 ≤ vl b l
  | [], _ => Int.le_refl _
  | x :: l, h => by
    rw [vl_cons]
    have h1 := vl_nonneg hb l (fun y hy => h y (by simp [hy]))
    have h2 : 0 ≤ x * b ^ l.length := Int.mul_nonneg (h x (by simp)) (Int.pow_nonneg hb)
    omega
theorem vl_lt {b : Int} (hb : 0 < b) : ∀ l : List Int, (∀ x ∈ l, 0 ≤ x ∧ x < b) → vl b l < b ^ l.length
  | [], _ => by simp [vl]
  | x :: l, h => by
    rw [vl_cons, List.length_cons, Int.pow_succ]
    have h1 := vl_lt hb l (fun y hy => h y (by simp [hy]))
    have hx := h x (by simp)
    have hp : 0 < b ^ l.length := Int.pow_pos hb
    have h2 : x * b ^ l.length ≤ (b - 1) * b ^ l.length := Int.mul_le_mul_of_nonneg_right (by omega) (by omega)
    have h3 : (b - 1) * b ^ l.length = b ^ l.length * b - b ^ l.length := by rw [Int.sub_mul, Int.one_mul, Int.mul_comm]
    omega
/-- digits are told by their value -/
theorem vl_inj {b : Int} (hb : 0 < b) : ∀ (p q : List Int), p.length = q.length → (∀ x ∈ p, 0 ≤ x ∧ x < b) → (∀ x ∈ q, 0 ≤ x ∧ x < b) → vl b p = vl b q → p = q
  | [], [], _, _, _, _ => rfl
  | [], y :: q, h, _, _, _ => by simp at h
  | x :: p, [], h, _, _, _ => by simp at h
  | x :: p, y :: q, h, hp, hq, e => by
    have hl : p.length = q.length := by simpa using h
    rw [vl_cons, vl_cons, hl] at e
    have p1 := vl_lt hb p (fun z hz => hp z (by simp [hz]))
    have q1 := vl_lt hb q (fun z hz => hq z (by simp [hz]))
    have p0 := vl_nonneg (Int.le_of_lt hb) p (fun z hz => (hp z (by simp [hz])).1)
    have q0 := vl_nonneg (Int.le_of_lt hb) q (fun z hz => (hq z (by simp [hz])).1)
    rw [hl] at p1
    have hB : 0 < b ^ q.length := Int.pow_pos hb
    have exy : x = y := by
      rcases Int.lt_trichotomy x y with g | g | g
      · have : (x + 1) * b ^ q.length ≤ y * b ^ q.length := Int.mul_le_mul_of_nonneg_right (by omega) (Int.le_of_lt hB)
        rw [Int.add_mul, Int.one_mul] at this; omega
      · exact g
      · have : (y + 1) * b ^ q.length ≤ x * b ^ q.length := Int.mul_le_mul_of_nonneg_right (by omega) (Int.le_of_lt hB)
        rw [Int.add_mul, Int.one_mul] at this; omega
    subst exy
    rw [vl_inj hb p q hl (fun z hz => hp z (by simp [hz])) (fun z hz => hq z (by simp [hz])) (by omega)]

/-- a number by so much and more, digit by digit, from the end: what is over, and the digits. (by the factor f, in base b) -/
def mulD (f b c : Int) : List Int → Int × List Int
  | [] => (c, [])
  | x :: l => (((mulD f b c l).1 + f * x) / b, (((mulD f b c l).1 + f * x) % b) :: (mulD f b c l).2)
theorem mul_len (f b c : Int) : ∀ l, (mulD f b c l).2.length = l.length
  | [] => rfl
  | x :: l => by show (_ :: (mulD f b c l).2).length = _; rw [List.length_cons, mul_len f b c l, List.length_cons]
theorem mul_dig {f b c : Int} (hb : 0 < b) : ∀ l, ∀ x ∈ (mulD f b c l).2, 0 ≤ x ∧ x < b
  | [], x, hx => by cases hx
  | y :: l, x, hx => by
    have hx' : x ∈ (((mulD f b c l).1 + f * y) % b) :: (mulD f b c l).2 := hx
    rcases List.mem_cons.1 hx' with e | e
    · rw [e]; exact ⟨Int.emod_nonneg _ (by omega), Int.emod_lt_of_pos _ hb⟩
    · exact mul_dig hb l x e
theorem mul_val (f b c : Int) (hb : 0 < b) : ∀ l, f * vl b l + c = (mulD f b c l).1 * b ^ l.length + vl b (mulD f b c l).2
  | [] => by simp [vl, mulD]
  | x :: l => by
    have ih := mul_val f b c hb l
    show f * vl b (x :: l) + c = (((mulD f b c l).1 + f * x) / b) * b ^ (l.length + 1) + vl b ((((mulD f b c l).1 + f * x) % b) :: (mulD f b c l).2)
    rw [vl_cons, vl_cons, mul_len, Int.mul_add, Int.add_assoc, ih]
    have hd := Int.mul_ediv_add_emod ((mulD f b c l).1 + f * x) b
    generalize hC : (mulD f b c l).1 = C at hd ⊢
    generalize ((C + f * x) / b) = Q at hd ⊢
    generalize ((C + f * x) % b) = R at hd ⊢
    rw [Int.pow_succ]
    have e1 : Q * (b ^ l.length * b) = (b * Q) * b ^ l.length := by rw [Int.mul_comm (b ^ l.length) b, ← Int.mul_assoc, Int.mul_comm Q b]
    rw [e1, ← Int.add_assoc, ← Int.add_assoc, ← Int.add_mul, hd, Int.add_mul, ← Int.mul_assoc, Int.add_comm (f * x * b ^ l.length)]
/-- what is over stays small -/
theorem mul_carry {f b c : Int} (hf : 0 ≤ f) (hb : 0 < b) (hc : 0 ≤ c ∧ c < f) : ∀ l : List Int, (∀ x ∈ l, 0 ≤ x ∧ x < b) → 0 ≤ (mulD f b c l).1 ∧ (mulD f b c l).1 < f
  | [], _ => hc
  | x :: l, h => by
    have ih := mul_carry hf hb hc l (fun y hy => h y (by simp [hy]))
    have hx := h x (by simp)
    show 0 ≤ ((mulD f b c l).1 + f * x) / b ∧ ((mulD f b c l).1 + f * x) / b < f
    generalize (mulD f b c l).1 = C at ih
    have h1 : f * x ≤ f * (b - 1) := Int.mul_le_mul_of_nonneg_left (by omega) hf
    have h2 : 0 ≤ f * x := Int.mul_nonneg hf hx.1
    have h3 : f * (b - 1) = f * b - f := by rw [Int.mul_sub, Int.mul_one]
    exact ⟨Int.ediv_nonneg (by omega) (by omega), Int.ediv_lt_of_lt_mul hb (by omega)⟩

/-- a number by a part of it, digit by digit, from the beginning: the rest, and the digits -/
def divD (b f r : Int) : List Int → Int × List Int
  | [] => (r, [])
  | x :: l => ((divD b f ((r * b + x) % f) l).1, ((r * b + x) / f) :: (divD b f ((r * b + x) % f) l).2)
theorem div_len (b f : Int) : ∀ (l : List Int) (r : Int), (divD b f r l).2.length = l.length
  | [], _ => rfl
  | x :: l, r => by show (_ :: (divD b f ((r * b + x) % f) l).2).length = _; rw [List.length_cons, div_len b f l, List.length_cons]
theorem div_rest {b f : Int} (hf : 0 < f) : ∀ (l : List Int) (r : Int), 0 ≤ r ∧ r < f → 0 ≤ (divD b f r l).1 ∧ (divD b f r l).1 < f
  | [], r, h => h
  | x :: l, r, h => div_rest hf l _ ⟨Int.emod_nonneg _ (by omega), Int.emod_lt_of_pos _ hf⟩
theorem div_dig {b f : Int} (hb : 0 < b) (hf : 0 < f) : ∀ (l : List Int) (r : Int), (0 ≤ r ∧ r < f) → (∀ x ∈ l, 0 ≤ x ∧ x < b) → ∀ x ∈ (divD b f r l).2, 0 ≤ x ∧ x < b
  | [], r, _, _, x, hx => by cases hx
  | y :: l, r, hr, h, x, hx => by
    have hx' : x ∈ ((r * b + y) / f) :: (divD b f ((r * b + y) % f) l).2 := hx
    rcases List.mem_cons.1 hx' with e | e
    · have hy := h y (by simp)
      rw [e]
      have h1 : r * b ≤ (f - 1) * b := Int.mul_le_mul_of_nonneg_right (by omega) (by omega)
      have h2 : 0 ≤ r * b := Int.mul_nonneg hr.1 (by omega)
      have h3 : (f - 1) * b = f * b - b := by rw [Int.sub_mul, Int.one_mul]
      have h4 : f * b = b * f := Int.mul_comm _ _
      exact ⟨Int.ediv_nonneg (by omega) (by omega), Int.ediv_lt_of_lt_mul hf (by omega)⟩
    · exact div_dig hb hf l _ ⟨Int.emod_nonneg _ (by omega), Int.emod_lt_of_pos _ hf⟩ (fun z hz => h z (by simp [hz])) x e
theorem div_val (b f : Int) (hf : 0 < f) : ∀ (l : List Int) (r : Int), r * b ^ l.length + vl b l = f * vl b (divD b f r l).2 + (divD b f r l).1
  | [], r => by simp [vl, divD]
  | x :: l, r => by
    have ih := div_val b f hf l ((r * b + x) % f)
    show r * b ^ (l.length + 1) + vl b (x :: l) = f * vl b (((r * b + x) / f) :: (divD b f ((r * b + x) % f) l).2) + (divD b f ((r * b + x) % f) l).1
    rw [vl_cons, vl_cons, div_len, Int.mul_add, Int.add_assoc (f * _), ← ih]
    have hd := Int.mul_ediv_add_emod (r * b + x) f
    generalize ((r * b + x) / f) = Q at hd ⊢
    generalize ((r * b + x) % f) = R at hd ⊢
    have e1 : r * b ^ (l.length + 1) = (r * b) * b ^ l.length := by rw [Int.pow_succ, Int.mul_comm (b ^ l.length) b, Int.mul_assoc]
    rw [e1, ← Int.add_assoc, ← Int.add_mul, ← hd, ← Int.add_assoc, Int.add_mul, Int.mul_assoc]


end Go.Proofs.Pure
