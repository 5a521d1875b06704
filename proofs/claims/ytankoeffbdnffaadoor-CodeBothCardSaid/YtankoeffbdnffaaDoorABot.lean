/- A code for two: both programs write the same, whoever is named first. No program in sight. -/
import Derived.Test.YtankoeffbdnffaaDoorADec
import Derived.Test.YtankoeffbdnffaaDoorAAli
import Derived.Test.YtankoeffbdnffaaDoorADSame
namespace Go.Proofs.Pure
open Go Go.RowKit Go.Proofs.Kit
set_option linter.unusedVariables false
set_option linter.unusedSimpArgs false

theorem cmp_swap : ∀ a b : List Int, cmpB b a = - cmpB a b
  | [], [] => by simp [cmpB]
  | [], y :: b => by simp [cmpB]
  | x :: a, [] => by simp [cmpB]
  | x :: a, y :: b => by
    unfold cmpB
    by_cases e : x = y
    · rw [if_pos e, if_pos e.symm]; exact cmp_swap a b
    · rw [if_neg e, if_neg (fun h => e h.symm)]
      by_cases c : x < y
      · rw [if_pos c, if_neg (by omega)]; rfl
      · rw [if_neg c, if_pos (by omega)]
theorem cmp_zero : ∀ a b : List Int, a.length = b.length → cmpB a b = 0 → a = b
  | [], [], _, _ => rfl
  | [], y :: b, h, _ => by simp at h
  | x :: a, [], h, _ => by simp at h
  | x :: a, y :: b, h, e => by
    unfold cmpB at e
    by_cases q : x = y
    · rw [if_pos q] at e
      rw [q, cmp_zero a b (by simpa using h) e]
    · rw [if_neg q] at e
      split at e <;> omega
theorem less_eq (a b : List Int) (ha : a.length = 32) (hb : b.length = 32) : cabalref11_Less 4000 a b = some (decide (cmpB a b < 0)) := by
  have key : ∀ (m i n : Nat), i + m = 32 → m < n → cabalref11_Less.l1 4000 a b n (i : Int) = some (decide (cmpB (a.drop i) (b.drop i) < 0)) := by
    intro m
    induction m with
    | zero =>
      intro i n hi hn
      obtain ⟨n, rfl⟩ : ∃ q, n = q + 1 := ⟨n - 1, by omega⟩
      rw [cabalref11_Less.l1, if_neg (by simp; omega), List.drop_eq_nil_of_le (by omega), List.drop_eq_nil_of_le (by omega)]; rfl
    | succ m ih =>
      intro i n hi hn
      obtain ⟨n, rfl⟩ : ∃ q, n = q + 1 := ⟨n - 1, by omega⟩
      have hia : i < a.length := by omega
      have hib : i < b.length := by omega
      rw [cabalref11_Less.l1, if_pos (by simp; omega), if_pos (by omega), at_get hia, Option.bind_some, if_pos (by omega), at_get hib, Option.bind_some, List.drop_eq_getElem_cons hia, List.drop_eq_getElem_cons hib]
      unfold cmpB
      by_cases e : a[i] = b[i]
      · rw [if_neg (by simp [e]), if_pos e, add64 (by omega), show (i : Int) + 1 = ((i + 1 : Nat) : Int) by omega]
        exact ih (i + 1) n (by omega) (by omega)
      · rw [if_pos (by simpa using e), if_pos (by omega), Option.bind_some, if_pos (by omega), Option.bind_some, if_neg e]
        by_cases c : a[i] < b[i]
        · rw [if_pos c, decide_eq_true c]; rfl
        · rw [if_neg c, decide_eq_false c]; rfl
  have h := key 32 0 4000 (by omega) (by omega)
  rw [List.drop_zero, List.drop_zero] at h
  exact h
theorem sum_two (a b : List Int) (ha : a.length = 32) (hb : b.length = 32) (ba : Byt a) (bb : Byt b) : ∃ d, digest_Sum 4000 [a, b] = some d ∧ cabalref01_Sum 4000 (a ++ b) = some d ∧ d.length = 32 ∧ Byt d := by
  have hf : [a, b].flatten = a ++ b := by simp
  have hlen : (a ++ b).length = 64 := by rw [List.length_append]; omega
  obtain ⟨h1, q1, R1⟩ := write_rep 4000 (fresh_rep 4000) [a, b] (fun x hx => by
    rcases List.mem_cons.1 hx with e | e
    · rw [e]; exact ba
    · rw [List.mem_singleton.1 e]; exact bb) (by show 2 < 100000; omega) (by show 2 < 4000; omega) (by rw [hf, List.nil_append, hlen]; omega) (by omega)
  rw [List.nil_append, hf] at R1
  obtain ⟨d, s1, s2, s3, s4⟩ := sum_eq 4000 (by omega) R1 (by rw [hlen]; omega)
  refine ⟨d, ?_, s2, s3, s4⟩
  unfold digest_Sum
  rw [show digest_Hash_Write 4000 _ [a, b] = some h1 from q1, Option.bind_some, s1]; rfl
theorem cut32 (a : List Int) (ha : a.length = 32) : cut? a 0 32 = some a := by
  have := cut_pre (l := a) (n := 32) (by omega)
  rw [List.take_of_length_le (by omega)] at this
  exact this
theorem both_j1 (a b : List Int) (ha : a.length = 32) (hb : b.length = 32) (ba : Byt a) (bb : Byt b) : ∃ d, d.length = 32 ∧ Byt d ∧ code_Both.j1 4000 a b = some (tx (cod d)) ∧ cabalref27_Both.j1 4000 a b = some (tx (cod d)) := by
  have hL : (1000000 : Nat) ≤ lim := by unfold lim; omega
  obtain ⟨d, s1, s2, s3, s4⟩ := sum_two a b ha hb ba bb
  refine ⟨d, s3, s4, ?_, ?_⟩
  · unfold code_Both.j1
    rw [cut32 a ha, Option.bind_some, cut32 b hb, Option.bind_some, s1, Option.bind_some, Write_eq d s3 s4]; rfl
  · unfold cabalref27_Both.j1
    rw [cut32 a ha, Option.bind_some, cut32 b hb, Option.bind_some, if_pos (by omega), s2, Option.bind_some, rWrite_eq d s3 s4]; rfl
theorem both_eq (a b : List Int) (ha : a.length = 32) (hb : b.length = 32) (ba : Byt a) (bb : Byt b) : ∃ d, d.length = 32 ∧ Byt d ∧ code_Both 4000 a b = some (tx (cod d)) ∧ cabalref27_Both 4000 a b = some (tx (cod d)) := by
  unfold code_Both cabalref27_Both bytes_Compare
  rw [cut32 a ha, Option.bind_some, cut32 b hb, Option.bind_some, Option.bind_some, less_eq b a hb ha, Option.bind_some, cmp_swap a b]
  by_cases c : cmpB a b > 0
  · rw [if_pos (decide_eq_true c), if_pos (decide_eq_true (by omega))]
    exact both_j1 b a hb ha bb ba
  · rw [if_neg (by simpa using c), if_neg (by rw [decide_eq_false (by omega)]; exact Bool.false_ne_true)]
    exact both_j1 a b ha hb ba bb
theorem both_swap (a b : List Int) (ha : a.length = 32) (hb : b.length = 32) : code_Both 4000 a b = code_Both 4000 b a := by
  unfold code_Both bytes_Compare
  rw [cut32 a ha, Option.bind_some, cut32 b hb, Option.bind_some, Option.bind_some, Option.bind_some, Option.bind_some, Option.bind_some, cmp_swap a b]
  by_cases c : cmpB a b > 0
  · rw [if_pos (decide_eq_true c), if_neg (by rw [decide_eq_false (by omega)]; exact Bool.false_ne_true)]
  · rw [if_neg (by simpa using c)]
    by_cases d : cmpB a b = 0
    · rw [cmp_zero a b (by omega) d]
      split <;> rfl
    · rw [if_pos (decide_eq_true (by omega))]


end Go.Proofs.Pure
