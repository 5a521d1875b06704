/- WireOne over its plain functions: no program in sight. -/
import Derived.Test.YtlcddcamnkgeeaaWList
namespace Go.Proofs.Pure
open Go Go.RowKit Go.Proofs.Kit
set_option linter.unusedVariables false

/-- the end, where nothing was wrong -/
theorem one_ok (s out rest : List Int) (kind : Int) (h : s = out ++ rest) (hl : s.length ≤ 3000) : caballaw10_WireOne.j1 4000 kind s ⟨rest, 0⟩ out = some true := by
  unfold caballaw10_WireOne.j1
  have he : ∃ b : Int, wire_Reader_End 4000 ⟨rest, 0⟩ = some b ∧ (b = 0 ∨ b = 6) := by
    unfold wire_Reader_End
    simp only [beq_self_eq_true, if_true, Option.bind_some]
    by_cases hr : rest.length = 0
    · exact ⟨0, by simp [hr], .inl rfl⟩
    · exact ⟨6, by rw [if_pos (decide_eq_true (by omega))], .inr rfl⟩
  obtain ⟨b, hb, hb2⟩ := he
  have hlen : s.length = out.length + rest.length := by rw [h, List.length_append]
  have hsub : isub .i64 (s.length : Int) (rest.length : Int) = (out.length : Int) := by rw [sub64 (by omega)]; omega
  have hcut : cut? s 0 (out.length : Int) = some out := by rw [cut_pre (by rw [h, List.length_append]; omega), h, List.take_left]
  simp only [hb, alive_ok, Option.bind_some, wire_Writer_String, wire_Reader_Left]
  by_cases hk : kind < 0
  · simp [hk]
  · rcases hb2 with rfl | rfl <;> simp [hk, hsub, hcut]
/-- .. and where something was -/
theorem one_bad (s out : List Int) (p : wire_Reader) (kind : Int) (h : p.err = 3 ∨ p.err = 4 ∨ p.err = 5) : caballaw10_WireOne.j1 4000 kind s p out = some true := by
  unfold caballaw10_WireOne.j1
  have he : wire_Reader_End 4000 p = some p.err := by
    unfold wire_Reader_End
    rcases h with h | h | h <;> simp [h]
  simp only [he, alive_ok, Option.bind_some]
  by_cases hk : kind < 0
  · simp [hk]
  · rcases h with h | h | h <;> simp [hk, h]

theorem WireOne (x0 : (List Int)) (x1 : Int) (g0 : Fine kstr x0) (g1 : Fine (kint .i64) x1) : ∃ k, caballaw10_WireOne k x0 x1 = some true := by
  refine ⟨4000, ?_⟩
  obtain ⟨_, hb⟩ := Fine.str g0
  have hL : (1000000 : Nat) ≤ lim := by unfold lim; omega
  unfold caballaw10_WireOne
  rw [alive_ok]
  simp only [Option.bind_some, Bool.not_true, Bool.false_eq_true, if_false]
  by_cases hl : x0.length ≤ 3000
  · rw [if_neg (by simp; omega)]
    simp only [wire_NewReader, Option.bind_some]
    by_cases c0 : irem x1 4 = 0
    · rw [if_pos (by simp [c0])]
      rcases Number_any x0 hb with ⟨n, rest, h1, h2, h3, h4⟩ | ⟨e, h1, h2⟩
      · rw [h4]
        simp only [Option.bind_some]
        rw [numbers_eq 4000 ⟨[]⟩ [n] (fun x hx => by simp at hx; subst hx; exact ⟨h1, h2⟩) (by simp) (by omega) (by simp) (by simp; omega)]
        simp only [Option.bind_some]
        exact one_ok x0 _ rest x1 (by simpa [encs] using h3) hl
      · rw [h2]
        simp only [Option.bind_some]
        rw [numbers_eq 4000 ⟨[]⟩ [0] (fun x hx => by simp at hx; subst hx; omega) (by simp) (by omega) (by simp) (by simp; omega)]
        simp only [Option.bind_some]
        exact one_bad x0 _ _ x1 (by rcases h1 with h | h <;> simp [h])
    rw [if_neg (by simp [c0])]
    by_cases c1 : irem x1 4 = 1
    · rw [if_pos (by simp [c1])]
      rcases Text_any x0 3000 hb (by omega) (by omega) with ⟨t, rest, h1, h2, h3, h4⟩ | ⟨e, h1, h2⟩
      · rw [h4]
        simp only [Option.bind_some]
        rw [texts_eq 4000 ⟨[]⟩ [t] (by simp) (fun x hx => by simp at hx; subst hx; omega) (by omega) (by simp) (by simp; omega)]
        simp only [Option.bind_some]
        exact one_ok x0 _ rest x1 (by simpa using h3) hl
      · rw [h2]
        simp only [Option.bind_some]
        rw [texts_eq 4000 ⟨[]⟩ [[]] (by simp) (fun x hx => by simp at hx; subst hx; simp) (by omega) (by simp) (by simp; omega)]
        simp only [Option.bind_some]
        exact one_bad x0 _ _ x1 h1
    rw [if_neg (by simp [c1])]
    by_cases c2 : irem x1 4 = 2
    · rw [if_pos (by simp [c2])]
      unfold wire_Reader_KeyList
      rcases keylist_any x0 100 hb (by omega) (by omega) with ⟨keys, rest, h1, h2, h3, h4⟩ | ⟨e, h1, h2⟩
      · rw [h4]
        simp only [Option.bind_some]
        rw [keylist_eq 4000 ⟨[]⟩ keys (by omega) h2 (by omega) (by omega) (by simp; omega)]
        simp only [Option.bind_some]
        exact one_ok x0 _ rest x1 (by simpa using h3) hl
      · rw [h2]
        simp only [Option.bind_some]
        rw [keylist_eq 4000 ⟨[]⟩ [] (by simp) (fun x hx => by cases hx) (by omega) (by simp) (by simp; omega)]
        simp only [Option.bind_some]
        exact one_bad x0 _ _ x1 h1
    rw [if_neg (by simp [c2])]
    by_cases c3 : irem x1 4 = 3
    · rw [if_pos (by simp [c3])]
      unfold wire_Reader_NumberList
      rcases numlist_any x0 3000 hb (by omega) with ⟨l, rest, h1, h2, h3, h4⟩ | ⟨e, h1, h2⟩
      · rw [h4]
        simp only [Option.bind_some]
        rw [numlist_eq 4000 ⟨[]⟩ l (by omega) h2 (by omega) (by omega) (by simp; omega)]
        simp only [Option.bind_some]
        exact one_ok x0 _ rest x1 (by simpa using h3) hl
      · rw [h2]
        simp only [Option.bind_some]
        rw [numlist_eq 4000 ⟨[]⟩ [] (by simp) (fun x hx => by cases hx) (by omega) (by simp) (by simp; omega)]
        simp only [Option.bind_some]
        exact one_bad x0 _ _ x1 h1
    rw [if_neg (by simp [c3])]
    -- the kind is below nought
    have hneg : x1 < 0 := by
      rcases Int.lt_or_le x1 0 with h | h
      · exact h
      · exfalso
        have e := rem_pos (y := 4) h
        rw [e] at c0 c1 c2 c3
        omega
    unfold caballaw10_WireOne.j1
    simp [hneg, alive_ok]
  · rw [if_pos (by simp; omega)]

end Go.Proofs.Pure
