/- GraphHeads over its plain functions: no program in sight. -/
import Derived.Test.YtdlnfgpcnfbjiaaHHeads
namespace Go.Proofs.Pure
open Go Go.RowKit Go.Proofs.Kit
set_option linter.unusedVariables false

theorem alive15 : caballaw15_alive 4000 = some true := by decide +kernel
theorem nodeid {x : api_Node} (h : Fine k_api_Node x) : x.Id.length = 32 := by
  have h1 := Fine.iso h
  obtain ⟨h2, _⟩ := Fine.pair h1
  exact (Fine.arr h2).1
theorem putAll_mem (l : List (List Int)) (z : List Int) : ∀ S, z ∈ putAll S l ↔ z ∈ S ∨ z ∈ l := by
  induction l with
  | nil => intro S; simp [putAll]
  | cons x l ih =>
    intro S
    unfold putAll
    rw [ih, insB_mem, List.mem_cons]
    constructor
    · rintro ((h | h) | h)
      · exact .inr (.inl h)
      · exact .inl h
      · exact .inr (.inr h)
    · rintro (h | h | h)
      · exact .inl (.inr h)
      · exact .inl (.inl h)
      · exact .inr h
theorem putAll_length (l : List (List Int)) : ∀ S, (putAll S l).length = S.length + l.length := by
  induction l with
  | nil => intro S; rfl
  | cons x l ih => intro S; unfold putAll; rw [ih, insB_len, List.length_cons]; omega
/-- a node is found by its name -/
theorem fnd_self {p : List api_Node} (hr : rightG p = true) (j : Nat) (hj : j < p.length) : fnd p[j].Id 0 p = (j : Int) := by
  have key : ∀ (m i : Nat), i + m = p.length → i ≤ j → fnd p[j].Id i (p.drop i) = (j : Int) := by
    intro m
    induction m with
    | zero => intro i hi hij; omega
    | succ m ih =>
      intro i hi hij
      have hil : i < p.length := by omega
      rw [List.drop_eq_getElem_cons hil]
      unfold fnd
      by_cases c : i = j
      · subst c; rw [if_pos rfl]
      · rw [if_neg (ids_ne hr i j hil hj c)]
        exact ih (i + 1) (by omega) (by omega)
  have := key p.length 0 (by omega) (by omega)
  rw [List.drop_zero] at this
  exact this
/-- every node is a head or lies behind one -/
theorem head_over {p : List api_Node} (hr : rightG p = true) : ∀ (m i : Nat), i + m = p.length → i < p.length → ∃ h, h < p.length ∧ isH p h = true ∧ (h = i ∨ Beh p i h) := by
  intro m
  induction m using Nat.strongRecOn with
  | _ m ih =>
    intro i hi hil
    cases hc : isH p i with
    | true => exact ⟨i, hil, hc, .inl rfl⟩
    | false =>
      have : ∃ v, Beh p i v := by
        apply Classical.byContradiction
        intro hn
        have := isH_iff.2 (fun v hv => hn ⟨v, hv⟩)
        rw [hc] at this; cases this
      obtain ⟨v, hv⟩ := this
      have hlt := beh_lt hr hv
      obtain ⟨h, h1, h2, h3⟩ := ih (p.length - v) (by omega) v (by omega) hlt.2
      refine ⟨h, h1, h2, .inr ?_⟩
      rcases h3 with e | e
      · rw [e]; exact hv
      · exact beh_trans hr h h i v (Nat.le_refl _) hv e
theorem coll_full (f : Nat → Bool) (m : Nat) : ∀ i, (∀ j, i ≤ j → j < i + m → f j = true) → (coll f i m).length = m := by
  induction m with
  | zero => intro i _; rfl
  | succ m ih =>
    intro i h
    unfold coll
    rw [if_pos (h i (by omega) (by omega)), List.length_cons]
    have := ih (i + 1) (fun j h1 h2 => h j (by omega) (by omega))
    omega

theorem GraphHeads (x0 : (List api_Node)) (g0 : Fine (ksl k_api_Node) x0) : ∃ k, caballaw15_GraphHeads k x0 = some true := by
  refine ⟨4000, ?_⟩
  unfold caballaw15_GraphHeads
  rw [alive15]
  simp only [Option.bind_some, Bool.not_true, Bool.false_eq_true, if_false]
  obtain ⟨b, hb, hf⟩ := great_eq x0 (fun x hx => node_keys ((Fine.sl g0).2 x hx))
  rw [hb]
  simp only [Option.bind_some]
  cases b with
  | true => simp
  | false =>
    have hf := hf rfl
    have hlen := hf.len
    have hid : Ids32 x0 := fun x hx => nodeid ((Fine.sl g0).2 x hx)
    simp only [beq_self_eq_true, if_true, Bool.false_eq_true, if_false]
    rw [right_eq x0 hf]
    cases hr : rightG x0 with
    | false => simp
    | true =>
      have h8 := heads_few hr
      have hl : (headsL x0).length = (headsU x0).length := by unfold headsL; rw [putAll_length]; simp
      have hmem : ∀ z, z ∈ headsL x0 ↔ ∃ j, ∃ h : j < x0.length, isH x0 j = true ∧ x0[j].Id = z := fun z => by
        unfold headsL headsU
        rw [putAll_mem, hl_mem]
        simp
      have hok : okP x0 (headsL x0) = true := by
        unfold okP
        rw [List.all_eq_true]
        intro z hz
        obtain ⟨j, hj, _, e⟩ := (hmem z).1 hz
        rw [← e, fnd_self hr j hj]
        exact decide_eq_true (by omega)
      have hin : ∀ i, 0 ≤ i → i < 0 + x0.length → inP x0 (headsL x0) i = true := fun i _ hi => by
        obtain ⟨h, h1, h2, h3⟩ := head_over hr (x0.length - i) i (by omega) (by omega)
        unfold inP
        refine List.any_eq_true.2 ⟨x0[h].Id, (hmem _).2 ⟨h, h1, h2, rfl⟩, ?_⟩
        unfold hitP
        rw [fnd_self hr h h1, Int.toNat_natCast, List.getElem?_eq_getElem h1, Bool.or_eq_true]
        rcases h3 with e | ⟨_, e⟩
        · left; rw [e]; simp
        · right; simpa using e
      have hfull := coll_full _ _ _ hin
      have hpast : graph_Past 4000 x0 (headsL x0) = some (coll (inP x0 (headsL x0)) 0 x0.length, 0) := by
        unfold graph_Past
        rw [right_eq x0 hf, hr]
        simp only [Option.bind_some, Bool.not_true, Bool.false_eq_true, if_false]
        rw [past_eq x0 (by omega) hf.short _ (by omega), hok]
        rfl
      have hz : decide (((headsL x0).length : Int) > 0) = decide ((x0.length : Int) > 0) := by
        by_cases c : 0 < x0.length
        · obtain ⟨h, h1, h2, _⟩ := head_over hr x0.length 0 (by omega) c
          have := List.length_pos_of_mem ((hmem x0[h].Id).2 ⟨h, h1, h2, rfl⟩)
          rw [decide_eq_true (by omega), decide_eq_true (by omega)]
        · have := hl_len (isH x0) x0 0
          unfold headsU at hl
          rw [decide_eq_false (by omega), decide_eq_false (by omega)]
      simp only [Option.bind_some, Bool.not_true, Bool.false_eq_true, if_false]
      rw [heads_eq x0 hf hid, hr]
      simp only [if_true, Option.bind_some]
      rw [hpast]
      simp only [Option.bind_some]
      rw [hz, hfull, decide_eq_true (show ((headsL x0).length : Int) ≤ 8 by omega)]
      simp


end Go.Proofs.Pure
