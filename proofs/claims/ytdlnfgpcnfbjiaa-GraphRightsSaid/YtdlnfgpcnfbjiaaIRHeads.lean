/- The document's way to a graph's heads. No program in sight. -/
import Derived.Test.YtdlnfgpcnfbjiaaIHeads
namespace Go.Proofs.Pure
open Go Go.RowKit Go.Proofs.Kit
set_option linter.unusedVariables false

theorem rheads_l3 (p : List api_Node) (hp : p.length ≤ 200) (hs : Short p) (y2 : Nat) (y3 : List (List Int)) (L : Int → List (List Int) → Option (List (List Int))) : ∀ (m i n : Nat) (b : Bool), i + m = p.length → m < n →
    cabalref15_Heads.l3 4000 p (y2 : Int) y3 L n b (i : Int) = cabalref15_Heads.j3 4000 (y2 : Int) y3 p L (b && !(p.drop i).any (fun x => x.Past.contains (y2 : Int))) := by
  intro m
  induction m with
  | zero =>
    intro i n b hi hm
    obtain ⟨n, rfl⟩ : ∃ q, n = q + 1 := ⟨n - 1, by omega⟩
    rw [cabalref15_Heads.l3, if_neg (by simp; omega), List.drop_eq_nil_of_le (by omega), List.any_nil, Bool.not_false, Bool.and_true]
  | succ m ih =>
    intro i n b hi hm
    obtain ⟨n, rfl⟩ : ∃ q, n = q + 1 := ⟨n - 1, by omega⟩
    have hil : i < p.length := by omega
    have hx := hs _ (List.getElem_mem hil)
    have hin := in_eq p[i].Past (by omega) (y2 : Int)
    have hnext : iadd .i64 (i : Int) 1 = ((i + 1 : Nat) : Int) := by rw [add64 (by omega)]; omega
    rw [cabalref15_Heads.l3, if_pos (by simp; omega), List.drop_eq_getElem_cons hil, List.any_cons, hnext]
    cases b with
    | false =>
      simp only [(by decide : (false == true) = false), Bool.false_eq_true, if_false, Option.bind_some, Bool.false_and]
      rw [ih (i + 1) n false (by omega) (by omega), Bool.false_and]
    | true =>
      simp only [beq_self_eq_true, if_true, at_get hil, Option.bind_some, hin, Bool.true_and]
      rw [ih (i + 1) n _ (by omega) (by omega), Bool.not_or]
theorem rheads_l2 (p : List api_Node) (y2 : Nat) (hy : y2 < p.length) (hid : p[y2].Id.length = 32) (L : Int → List (List Int) → Option (List (List Int))) (S : List (List Int)) (hS : ∀ z ∈ S, z.length = 32) (hl : S.length ≤ 200) : ∀ (m i n : Nat), i + m = S.length → m < n →
    cabalref15_Heads.l2 4000 S p (y2 : Int) L n (i : Int) = L (iadd .i64 (y2 : Int) 1) (S.take i ++ insB p[y2].Id (S.drop i)) := by
  have hL : (1000000 : Nat) ≤ lim := by unfold lim; omega
  have fin : ∀ i, i ≤ S.length → cabalref15_Heads.j4 4000 S p (y2 : Int) L (i : Int) = L (iadd .i64 (y2 : Int) 1) (S.take i ++ p[y2].Id :: S.drop i) := fun i hi => by
    unfold cabalref15_Heads.j4
    rw [cut_pre hi]
    simp only [Option.bind_some]
    rw [if_pos (by simp; omega), at_get hy]
    simp only [Option.bind_some]
    rw [if_pos (by simp; omega), cut_suf hi]
    simp only [Option.bind_some]
    rw [if_pos (by simp; omega)]
    simp [cabalref15_Heads.j2]
  intro m
  induction m with
  | zero =>
    intro i n hi hm
    obtain ⟨n, rfl⟩ : ∃ q, n = q + 1 := ⟨n - 1, by omega⟩
    have d0 : decide ((i : Int) < (S.length : Int)) = false := decide_eq_false (by omega)
    rw [cabalref15_Heads.l2, d0]
    simp only [(by decide : (false == true) = false), Bool.false_eq_true, if_false, false_implies, if_true, Option.bind_some]
    rw [fin i (by omega), List.drop_eq_nil_of_le (by omega)]
    rfl
  | succ m ih =>
    intro i n hi hm
    obtain ⟨n, rfl⟩ : ∃ q, n = q + 1 := ⟨n - 1, by omega⟩
    have hil : i < S.length := by omega
    have hnext : iadd .i64 (i : Int) 1 = ((i + 1 : Nat) : Int) := by rw [add64 (by omega)]; omega
    have d0 : decide ((i : Int) < (S.length : Int)) = true := decide_eq_true (by omega)
    have hle := less_eq S[i] p[y2].Id (hS _ (List.getElem_mem hil)) hid
    rw [cabalref15_Heads.l2, d0]
    rw [if_pos (fun _ => ⟨by omega, by omega⟩)]
    simp only [beq_self_eq_true, if_true, at_get hil, at_get hy, Option.bind_some, hle, hnext]
    have ed : S.drop i = S[i] :: S.drop (i + 1) := List.drop_eq_getElem_cons hil
    have ei : insB p[y2].Id (S[i] :: S.drop (i + 1)) = if ltK S[i] p[y2].Id = true then S[i] :: insB p[y2].Id (S.drop (i + 1)) else p[y2].Id :: S[i] :: S.drop (i + 1) := rfl
    rw [ed, ei]
    by_cases h : ltK S[i] p[y2].Id = true
    · rw [if_pos h, if_pos h, ih (i + 1) n (by omega) (by omega), List.take_add_one, List.getElem?_eq_getElem hil, Option.toList_some, List.append_assoc, List.singleton_append]
    · rw [if_neg h, if_neg h, fin i (by omega), ed]
theorem rheads_l1 (p : List api_Node) (hp : p.length ≤ 200) (hs : Short p) (hid : Ids32 p) : ∀ (m i n : Nat) (S : List (List Int)), i + m = p.length → m < n → S.length ≤ i → (∀ z ∈ S, z.length = 32) →
    cabalref15_Heads.l1 4000 p n (i : Int) S = some (putAll S (hl (isH p) i (p.drop i))) := by
  intro m
  induction m with
  | zero =>
    intro i n S hi hm hl1 hS
    obtain ⟨n, rfl⟩ : ∃ q, n = q + 1 := ⟨n - 1, by omega⟩
    rw [cabalref15_Heads.l1, if_neg (by simp; omega), List.drop_eq_nil_of_le (by omega)]; rfl
  | succ m ih =>
    intro i n S hi hm hl1 hS
    obtain ⟨n, rfl⟩ : ∃ q, n = q + 1 := ⟨n - 1, by omega⟩
    have hil : i < p.length := by omega
    have hnext : iadd .i64 (i : Int) 1 = ((i + 1 : Nat) : Int) := by rw [add64 (by omega)]; omega
    have t := rheads_l3 p hp hs i S (cabalref15_Heads.l1 4000 p n) p.length 0 4000 true (by omega) (by omega)
    rw [show ((0 : Nat) : Int) = 0 from rfl, List.drop_zero, Bool.true_and] at t
    rw [cabalref15_Heads.l1, if_pos (by simp; omega), t, List.drop_eq_getElem_cons hil, hl_cons]
    have e : (!p.any (fun x => x.Past.contains (i : Int))) = isH p i := rfl
    rw [e]
    cases h : isH p i with
    | false =>
      simp only [cabalref15_Heads.j3, Bool.not_false, if_true, cabalref15_Heads.j2, hnext, Bool.false_eq_true, if_false]
      exact ih (i + 1) n S (by omega) (by omega) (by omega) hS
    | true =>
      have hidi := hid _ (List.getElem_mem hil)
      have t2 := rheads_l2 p i hil hidi (cabalref15_Heads.l1 4000 p n) S hS (by omega) S.length 0 4000 (by omega) (by omega)
      rw [show ((0 : Nat) : Int) = 0 from rfl, List.take_zero, List.drop_zero, List.nil_append] at t2
      simp only [cabalref15_Heads.j3, Bool.not_true, Bool.false_eq_true, if_false, if_true]
      rw [t2, hnext]
      exact ih (i + 1) n _ (by omega) (by omega) (by rw [insB_len]; omega) (fun z hz => by
        rcases (insB_mem _ _ _).1 hz with q | q
        · rw [q]; exact hidi
        · exact hS z q)
theorem rheads_eq (p : List api_Node) (hf : Few p) (hid : Ids32 p) : cabalref15_Heads 4000 p = some (headsL p) := by
  have hlen := hf.len
  unfold cabalref15_Heads
  have := rheads_l1 p (by omega) hf.short hid p.length 0 4000 [] (by omega) (by omega) (by simp) (by simp)
  rw [show ((0 : Nat) : Int) = 0 from rfl, List.drop_zero] at this
  exact this
theorem node_id {x : api_Node} (h : Fine k_api_Node x) : x.Id.length = 32 := by
  have h1 := Fine.iso h
  obtain ⟨h2, _⟩ := Fine.pair h1
  exact (Fine.arr h2).1
theorem samekeys_l1 (l : List (List Int)) (hn : l.length < 2000) : ∀ (m i n : Nat), i + m = l.length → m < n → cabalref08_SameKeys.l1 4000 l l n (i : Int) = some true := by
  intro m
  induction m with
  | zero =>
    intro i n hi hm
    obtain ⟨n, rfl⟩ : ∃ q, n = q + 1 := ⟨n - 1, by omega⟩
    rw [cabalref08_SameKeys.l1, if_neg (by simp; omega)]; rfl
  | succ m ih =>
    intro i n hi hm
    obtain ⟨n, rfl⟩ : ∃ q, n = q + 1 := ⟨n - 1, by omega⟩
    have hil : i < l.length := by omega
    rw [cabalref08_SameKeys.l1, if_pos (by simp; omega), at_get hil]
    simp only [Option.bind_some]
    rw [if_neg (by simp), add64 (by omega), show ((i : Int) + 1) = ((i + 1 : Nat) : Int) by omega]
    exact ih (i + 1) n (by omega) (by omega)
theorem samekeys_refl (l : List (List Int)) (hn : l.length < 2000) : cabalref08_SameKeys 4000 l l = some true := by
  unfold cabalref08_SameKeys
  rw [if_neg (by simp)]
  have := samekeys_l1 l hn l.length 0 4000 (by omega) (by omega)
  rw [show ((0 : Nat) : Int) = 0 from rfl] at this
  exact this
theorem putAll_len (l : List (List Int)) : ∀ S, (putAll S l).length = S.length + l.length := by
  induction l with
  | nil => intro S; rfl
  | cons x l ih => intro S; unfold putAll; rw [ih, insB_len, List.length_cons]; omega


end Go.Proofs.Pure
