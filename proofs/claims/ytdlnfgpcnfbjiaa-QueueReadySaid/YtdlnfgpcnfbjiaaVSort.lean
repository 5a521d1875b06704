/- Keys in order: both ways of putting them in order come to the same. No program in sight. -/
import Derived.Test.YtdlnfgpcnfbjiaaVBeh
namespace Go.Proofs.Pure
open Go Go.RowKit Go.Proofs.Kit
set_option linter.unusedVariables false

theorem cmp_tri : ∀ (a b : List Int), a.length = b.length → cmpB a b < 0 ∨ a = b ∨ cmpB b a < 0
  | [], [], _ => .inr (.inl rfl)
  | [], _ :: _, h => by simp at h
  | _ :: _, [], h => by simp at h
  | x :: a, y :: b, h => by
    unfold cmpB
    by_cases e : x = y
    · subst e
      rw [if_pos rfl, if_pos rfl]
      rcases cmp_tri a b (by simpa using h) with g | g | g
      · exact .inl g
      · exact .inr (.inl (by rw [g]))
      · exact .inr (.inr g)
    · rw [if_neg e, if_neg (fun q : y = x => e q.symm)]
      by_cases l : x < y
      · rw [if_pos l]; exact .inl (by decide)
      · rw [if_neg l, if_pos (show y < x by omega)]; exact .inr (.inr (by decide))
theorem cmp_trans : ∀ (a b c : List Int), cmpB a b < 0 → cmpB b c < 0 → cmpB a c < 0
  | [], [], _, h, _ => by simp [cmpB] at h
  | [], _ :: _, [], _, h => by simp [cmpB] at h
  | [], _ :: _, _ :: _, _, _ => by simp [cmpB]
  | _ :: _, [], _, h, _ => by simp [cmpB] at h
  | _ :: _, _ :: _, [], _, h => by simp [cmpB] at h
  | x :: a, y :: b, z :: c, h, g => by
    unfold cmpB at h g ⊢
    by_cases e : x = y
    · subst e
      rw [if_pos rfl] at h
      by_cases f : x = z
      · subst f
        rw [if_pos rfl] at g ⊢
        exact cmp_trans a b c h g
      · rw [if_neg f] at g ⊢
        exact g
    · rw [if_neg e] at h
      have l : x < y := by
        by_cases l : x < y
        · exact l
        · rw [if_neg l] at h; exact absurd h (by decide)
      by_cases f : y = z
      · subst f
        rw [if_neg e, if_pos l]; decide
      · rw [if_neg f] at g
        have l2 : y < z := by
          by_cases l2 : y < z
          · exact l2
          · rw [if_neg l2] at g; exact absurd g (by decide)
        rw [if_neg (by omega), if_pos (by omega)]; decide
theorem cmp_irr : ∀ a : List Int, ¬ cmpB a a < 0
  | [] => by simp [cmpB]
  | x :: a => by unfold cmpB; rw [if_pos rfl]; exact cmp_irr a
theorem ltK_iff {a b : List Int} : ltK a b = true ↔ cmpB a b < 0 := by unfold ltK; exact decide_eq_true_iff
theorem ltK_tri {a b : List Int} (h : a.length = b.length) (hn : a ≠ b) : ltK a b = true ∨ ltK b a = true := by
  rcases cmp_tri a b h with g | g | g
  · exact .inl (ltK_iff.2 g)
  · exact absurd g hn
  · exact .inr (ltK_iff.2 g)
theorem ltK_asym {a b : List Int} (h : ltK a b = true) : ltK b a = false := by
  rw [Bool.eq_false_iff]
  intro g
  exact cmp_irr a (cmp_trans a b a (ltK_iff.1 h) (ltK_iff.1 g))
theorem ltK_trans {a b c : List Int} (h : ltK a b = true) (g : ltK b c = true) : ltK a c = true := ltK_iff.2 (cmp_trans a b c (ltK_iff.1 h) (ltK_iff.1 g))

/-- put in from the front -/
def insB (x : List Int) : List (List Int) → List (List Int)
  | [] => [x]
  | y :: l => if ltK y x = true then y :: insB x l else x :: y :: l
def Sorted (l : List (List Int)) : Prop := l.Pairwise (fun a b => ltK a b = true)
theorem insB_mem (x : List Int) (l : List (List Int)) (z : List Int) : z ∈ insB x l ↔ z = x ∨ z ∈ l := by
  induction l with
  | nil => simp [insB]
  | cons y l ih =>
    unfold insB
    by_cases h : ltK y x = true
    · rw [if_pos h]; simp only [List.mem_cons, ih]; grind
    · rw [if_neg h]; simp only [List.mem_cons]
theorem insB_len (x : List Int) (l : List (List Int)) : (insB x l).length = l.length + 1 := by
  induction l with
  | nil => rfl
  | cons y l ih =>
    unfold insB
    split
    · rw [List.length_cons, ih, List.length_cons]
    · simp
theorem insB_sorted (x : List Int) (hx : x.length = 32) (l : List (List Int)) : Sorted l → (∀ z ∈ l, z.length = 32) → x ∉ l → Sorted (insB x l) := by
  induction l with
  | nil => intro _ _ _; exact List.pairwise_singleton _ _
  | cons y l ih =>
    intro hs hl hn
    obtain ⟨h1, h2⟩ := List.pairwise_cons.1 hs
    unfold insB
    by_cases h : ltK y x = true
    · rw [if_pos h]
      refine List.pairwise_cons.2 ⟨fun z hz => ?_, ih h2 (fun z hz => hl z (by simp [hz])) (fun q => hn (by simp [q]))⟩
      rcases (insB_mem x l z).1 hz with e | e
      · rw [e]; exact h
      · exact h1 z e
    · rw [if_neg h]
      have hy : ltK x y = true := by
        rcases ltK_tri (a := x) (b := y) (by rw [hx, hl y (by simp)]) (fun e => hn (by simp [e])) with g | g
        · exact g
        · exact absurd g h
      refine List.pairwise_cons.2 ⟨fun z hz => ?_, hs⟩
      rcases List.mem_cons.1 hz with e | e
      · rw [e]; exact hy
      · exact ltK_trans hy (h1 z e)

end Go.Proofs.Pure
