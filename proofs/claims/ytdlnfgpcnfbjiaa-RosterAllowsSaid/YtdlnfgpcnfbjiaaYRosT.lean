/- For whom an operation is: both programs answer the same. No program in sight. -/
import Derived.Test.YtdlnfgpcnfbjiaaYRosD
namespace Go.Proofs.Pure
open Go Go.RowKit Go.Proofs.Kit
set_option linter.unusedVariables false

def pastS (p : List api_Node) (o : api_Op) : List Int := coll (inP p o.Parents) 0 p.length
def namedB (p : List api_Node) (s : List Int) (w : Int) : Bool := s.any (fun i => opB p i (fun o => (decide (o.Kind = 1) || decide (o.Kind = 2)) && o.Who.contains w))
def w0 (o : api_Op) : Int := o.Who.headD 0
def bhd (p : List api_Node) (o : api_Op) : List Int × Int :=
  if rightO o = false then ([], 1) else if okP p o.Parents = false then ([], 14) else if o.Kind = 1 then (o.Who, 0) else
  if (rosL p (cB p) (pastS p o)).contains o.Author = false then ([], 16) else if o.Kind = 2 ∧ namedB p (pastS p o) (w0 o) = true then ([], 13) else
  if o.Kind = 3 ∧ (rosL p (cB p) (pastS p o)).contains (w0 o) = false then ([], 22) else (rosL p (cB p) (pastS p o), 0)
theorem past_inS (p : List api_Node) (o : api_Op) : InS p.length (pastS p o) := fun v hv => by
  unfold pastS at hv
  obtain ⟨j, e, _, h, _⟩ := (coll_mem _ _ _ _).1 hv
  exact ⟨j, e, by omega⟩
theorem past_len (p : List api_Node) (o : api_Op) : (pastS p o).length ≤ p.length := coll_len _ _ _
/-- who is named, of one who is added or removed -/
theorem who1 {o : api_Op} (h : rightO o = true) (hk : o.Kind = 2 ∨ o.Kind = 3) : o.Who = [w0 o] ∧ 0 ≤ w0 o ∧ w0 o < 8 := by
  unfold rightO at h
  simp only [Bool.and_eq_true] at h
  have hw : whoR o = true := h.1.2
  unfold whoR at hw
  rw [Bool.and_eq_true, Bool.and_eq_true] at hw
  have h2 := hw.2
  rw [if_neg (by omega), if_pos hk, Bool.and_eq_true, decide_eq_true_eq] at h2
  obtain ⟨w, e⟩ := List.length_eq_one_iff.1 h2.1
  have h3 := hw.1.2
  unfold w0
  rw [e] at h3 ⊢
  refine ⟨rfl, ?_⟩
  simp only [List.any_cons, List.any_nil, Bool.or_false, Bool.not_not] at h3
  unfold mem8 at h3
  exact of_decide_eq_true h3
theorem op_facts {o : api_Op} (h : rightO o = true) : (0 ≤ o.Author ∧ o.Author < 8) ∧ 1 ≤ o.Kind ∧ o.Kind ≤ 7 ∧ inc ltI o.Who = true ∧ ∀ v ∈ o.Who, 0 ≤ v ∧ v < 8 := by
  unfold rightO at h
  simp only [Bool.and_eq_true, decide_eq_true_eq] at h
  have hw : whoR o = true := h.1.2
  unfold whoR at hw
  rw [Bool.and_eq_true, Bool.and_eq_true] at hw
  have ha : mem8 o.Author = true := h.1.1.1.1.1.1.1.1.1.1.1.1.1
  refine ⟨of_decide_eq_true ha, h.1.1.1.1.1.1.1.1.1.1.1.2, h.1.1.1.1.1.1.1.1.1.1.2, hw.1.1, fun v hv => ?_⟩
  have h3 := hw.1.2
  rw [Bool.not_eq_true', List.any_eq_false] at h3
  have := h3 v hv
  unfold mem8 at this
  simpa using this
theorem named_eq (p : List api_Node) (hf : Few p) (s : List Int) (hs : InS p.length s) (hl : s.length ≤ 2000) (w : Int) : roster_named 4000 p s w = some (namedB p s w) := by
  have key : ∀ (m y n : Nat), y + m = s.length → m < n → ∃ r, slices_IndexFunc_int_int_roster_named_1.l1 4000 s p w n (y : Int) = some r ∧ decide (r ≥ 0) = namedB p (s.drop y) w := by
    intro m
    induction m with
    | zero =>
      intro y n hy hn
      obtain ⟨n, rfl⟩ : ∃ q, n = q + 1 := ⟨n - 1, by omega⟩
      rw [slices_IndexFunc_int_int_roster_named_1.l1, if_neg (by simp; omega), List.drop_eq_nil_of_le (by omega)]; exact ⟨-1, rfl, rfl⟩
    | succ m ih =>
      intro y n hy hn
      obtain ⟨n, rfl⟩ : ∃ q, n = q + 1 := ⟨n - 1, by omega⟩
      have hyl : y < s.length := by omega
      have hnext : iadd .i64 (y : Int) 1 = ((y + 1 : Nat) : Int) := by rw [add64 (by omega)]; omega
      obtain ⟨r, er, hr⟩ := hs _ (List.getElem_mem hyl)
      have hw := (hf.each _ (List.getElem_mem hr)).op.who
      have e1 : roster_named_1 4000 (r : Int) p w = some ((decide (p[r].Op.Kind = 1) || decide (p[r].Op.Kind = 2)) && p[r].Op.Who.contains w) := by
        unfold roster_named_1
        rw [at_get hr]
        simp only [Option.bind_some, contains_eq _ (show p[r].Op.Who.length ≤ 2000 by omega), bkind]
        cases decide (p[r].Op.Kind = 1) <;> cases decide (p[r].Op.Kind = 2) <;> cases p[r].Op.Who.contains w <;> rfl
      have e2 : namedB p (s.drop y) w = (((decide (p[r].Op.Kind = 1) || decide (p[r].Op.Kind = 2)) && p[r].Op.Who.contains w) || namedB p (s.drop (y + 1)) w) := by
        unfold namedB
        rw [List.drop_eq_getElem_cons hyl, List.any_cons, er, opB_at r hr]
      rw [slices_IndexFunc_int_int_roster_named_1.l1, if_pos (by simp; omega), at_get hyl, er, e2]
      simp only [Option.bind_some, e1, hnext]
      cases h : ((decide (p[r].Op.Kind = 1) || decide (p[r].Op.Kind = 2)) && p[r].Op.Who.contains w) with
      | true => exact ⟨(y : Int), by simp, by simp⟩
      | false => simp only [Bool.false_eq_true, if_false, Bool.false_or]; exact ih (y + 1) n (by omega) (by omega)
  unfold roster_named slices_ContainsFunc_int_int_roster_named_1 slices_IndexFunc_int_int_roster_named_1
  obtain ⟨r, h1, h2⟩ := key s.length 0 4000 (by omega) (by omega)
  rw [show ((0 : Nat) : Int) = 0 from rfl] at h1
  rw [List.drop_zero] at h2
  rw [h1]
  simp only [Option.bind_some, h2]
theorem add_nil (id : List Int) (o : api_Op) : ((addR [] id o).2 == 1) = !rightO o := by
  have hr : rightG ([] : List api_Node) = true := rfl
  unfold addR
  rw [hr]
  cases rightO o with
  | false => rfl
  | true =>
    rw [if_neg (by simp)]
    split
    · rfl
    · split
      · rfl
      · split
        · rfl
        · split <;> rfl
theorem add_nil_len (id : List Int) (o : api_Op) (h : rightO o = false) : (addR [] id o) = ([], 1) := by
  unfold addR; rw [if_pos (.inr h)]
theorem behind_eq (p : List api_Node) (hf : Few p) (o : api_Op) (ho : OpFew o) : roster_behind 4000 p o = some (if rightG p = true then bhd p o else ([], 1)) := by
  have hlen := hf.len
  have hw := ho.who
  have hs := past_inS p o
  have hsl := past_len p o
  have h0 : Few ([] : List api_Node) := ⟨by simp, fun x hx => by cases hx⟩
  unfold roster_behind
  simp only [Option.bind_some]
  rw [add_eq [] h0 _ o ho]
  simp only [Option.bind_some, add_nil]
  cases hro : rightO o with
  | false =>
    rw [add_nil_len _ _ hro]
    unfold bhd
    rw [hro]
    cases rightG p <;> rfl
  | true =>
    simp only [Bool.not_true, Bool.false_eq_true, if_false]
    rw [gpast_eq p hf o ho]
    cases hr : rightG p with
    | false => rfl
    | true =>
      simp only [if_true, Option.bind_some]
      unfold bhd
      rw [hro]
      rw [show (coll (inP p o.Parents) 0 p.length) = pastS p o from rfl]
      cases okP p o.Parents with
      | false => rfl
      | true =>
        simp only [if_true, bne_self_eq_false, Bool.false_eq_true, if_false, reduceCtorEq, bkind]
        by_cases k1 : o.Kind = 1
        · rw [decide_eq_true k1, if_pos k1]; rfl
        · rw [decide_eq_false k1, if_neg k1]
          simp only [Bool.false_eq_true, if_false]
          rw [read_eq p hf hr]
          simp only [Option.bind_some]
          rw [broster_eq p hf (cntL p p.length) (by rw [cnt_len]; omega) (pastS p o) (by rw [cnt_len]; exact hs) (by omega)]
          have ec : rosL p (cF (cntL p p.length)) (pastS p o) = rosL p (cB p) (pastS p o) := rfl
          rw [ec]
          have h8 : (rosL p (cB p) (pastS p o)).length ≤ 8 := by unfold rosL; exact coll_len _ 8 0
          generalize rosL p (cB p) (pastS p o) = R at h8
          simp only [Option.bind_some, contains_eq R (show R.length ≤ 2000 by omega)]
          cases R.contains o.Author with
          | false => rfl
          | true =>
            simp only [Bool.not_true, Bool.false_eq_true, if_false, reduceCtorEq]
            by_cases k2 : o.Kind = 2
            · obtain ⟨ew, _⟩ := who1 hro (.inl k2)
              have k3 : ¬ o.Kind = 3 := by omega
              have ea : at? o.Who 0 = some (w0 o) := by rw [ew]; rfl
              rw [decide_eq_true k2, decide_eq_false k3, ea]
              simp only [beq_self_eq_true, if_true, Option.bind_some, named_eq p hf _ hs (show (pastS p o).length ≤ 2000 by omega), k2, true_and]
              cases namedB p (pastS p o) (w0 o) with
              | true => rfl
              | false => rfl
            · by_cases k3 : o.Kind = 3
              · obtain ⟨ew, _⟩ := who1 hro (.inr k3)
                have ea : at? o.Who 0 = some (w0 o) := by rw [ew]; rfl
                rw [decide_eq_false k2, decide_eq_true k3, ea]
                simp only [beq_self_eq_true, if_true, Option.bind_some, k3, true_and]
                cases R.contains (w0 o) with
                | true => rfl
                | false => rfl
              · rw [decide_eq_false k2, decide_eq_false k3]
                simp only [k2, k3, false_and, if_false]
                rfl
theorem dbehind_l1 (p : List api_Node) (hf : Few p) (hr : rightG p = true) (s : List Int) (b : Bool) (hs : InS p.length s) (hl : s.length ≤ 2000) (o : api_Op) (hw : at? o.Who 0 = some (w0 o)) (R : List Int) : ∀ (m y n : Nat), y + m = s.length → m < n →
    cabalref16_Behind.l1 4000 (s, b) p o R n (y : Int) = if namedB p (s.drop y) (w0 o) = true then some ([], 13) else cabalref16_Behind.j1 4000 o R := by
  intro m
  induction m with
  | zero =>
    intro y n hy hn
    obtain ⟨n, rfl⟩ : ∃ q, n = q + 1 := ⟨n - 1, by omega⟩
    rw [cabalref16_Behind.l1, if_neg (by simp; omega), List.drop_eq_nil_of_le (by omega)]; rfl
  | succ m ih =>
    intro y n hy hn
    obtain ⟨n, rfl⟩ : ∃ q, n = q + 1 := ⟨n - 1, by omega⟩
    have hyl : y < s.length := by omega
    have hnext : iadd .i64 (y : Int) 1 = ((y + 1 : Nat) : Int) := by rw [add64 (by omega)]; omega
    obtain ⟨r, er, hrp⟩ := hs _ (List.getElem_mem hyl)
    have hwl := (hf.each _ (List.getElem_mem hrp)).op.who
    have hk := kind_in hr r hrp
    have ek : (decide (p[r].Op.Kind = 1) || decide (p[r].Op.Kind = 2)) = decide (p[r].Op.Kind ≤ 2) := by
      by_cases q : p[r].Op.Kind ≤ 2
      · rw [decide_eq_true q]
        by_cases q1 : p[r].Op.Kind = 1
        · rw [decide_eq_true q1]; rfl
        · rw [decide_eq_false q1, decide_eq_true (by omega)]; rfl
      · rw [decide_eq_false q, decide_eq_false (by omega), decide_eq_false (by omega)]; rfl
    have e2 : namedB p (s.drop y) (w0 o) = ((decide (p[r].Op.Kind ≤ 2) && p[r].Op.Who.contains (w0 o)) || namedB p (s.drop (y + 1)) (w0 o)) := by
      unfold namedB
      rw [List.drop_eq_getElem_cons hyl, List.any_cons, er, opB_at r hrp, ek]
    rw [cabalref16_Behind.l1, if_pos (by simp; omega), if_pos (by constructor <;> (show _; first | omega | (simp; omega))), at_get hyl, er, e2]
    simp only [Option.bind_some, at_get hrp, hnext, hw]
    cases decide (p[r].Op.Kind ≤ 2) with
    | false => simp; exact ih (y + 1) n (by omega) (by omega)
    | true =>
      simp only [beq_self_eq_true, if_true, Option.bind_some, in_eq _ (show p[r].Op.Who.length ≤ 2000 by omega), Bool.true_and]
      cases p[r].Op.Who.contains (w0 o) with
      | true => simp
      | false => simp only [Bool.false_eq_true, if_false, Bool.false_or]; exact ih (y + 1) n (by omega) (by omega)
theorem dbehind_eq (p : List api_Node) (hf : Few p) (hr : rightG p = true) (o : api_Op) (ho : OpFew o) : cabalref16_Behind 4000 p o = some (bhd p o) := by
  have hlen := hf.len
  have hps := ho.parents
  have hs := past_inS p o
  have hsl := past_len p o
  unfold cabalref16_Behind bhd
  rw [doc_eq o ho]
  cases hro : rightO o with
  | false => rfl
  | true =>
    simp only [Option.bind_some, Bool.not_true, Bool.false_eq_true, if_false, reduceCtorEq]
    rw [rpast_eq p (by omega) hf.short _ (by omega)]
    rw [show (coll (inP p o.Parents) 0 p.length) = pastS p o from rfl]
    cases okP p o.Parents with
    | false => rfl
    | true =>
      simp only [if_true, Bool.not_true, Bool.false_eq_true, if_false, reduceCtorEq, bkind, Option.bind_some]
      by_cases k1 : o.Kind = 1
      · rw [decide_eq_true k1, if_pos k1]; rfl
      · rw [decide_eq_false k1, if_neg k1]
        simp only [Bool.false_eq_true, if_false]
        rw [dcounts_eq p hf hr]
        simp only [Option.bind_some]
        rw [droster_eq p hf hr (cntL p p.length) (by rw [cnt_len]; omega) (pastS p o) (by rw [cnt_len]; exact hs) (by omega)]
        have ec : rosL p (cF (cntL p p.length)) (pastS p o) = rosL p (cB p) (pastS p o) := rfl
        rw [ec]
        have h8 : (rosL p (cB p) (pastS p o)).length ≤ 8 := by unfold rosL; exact coll_len _ 8 0
        generalize rosL p (cB p) (pastS p o) = R at h8
        simp only [Option.bind_some, in_eq R (show R.length ≤ 2000 by omega)]
        cases R.contains o.Author with
        | false => rfl
        | true =>
          simp only [Bool.not_true, Bool.false_eq_true, if_false, reduceCtorEq]
          have hj : ¬ o.Kind = 3 → cabalref16_Behind.j1 4000 o R = some (R, 0) := fun k3 => by
            unfold cabalref16_Behind.j1
            simp only [bkind]
            rw [decide_eq_false k3]; rfl
          by_cases k2 : o.Kind = 2
          · obtain ⟨ew, _⟩ := who1 hro (.inl k2)
            have k3 : ¬ o.Kind = 3 := by omega
            have ea : at? o.Who 0 = some (w0 o) := by rw [ew]; rfl
            have hl1 := dbehind_l1 p hf hr (pastS p o) true hs (by omega) o ea R (pastS p o).length 0 4000 (by omega) (by omega)
            rw [show ((0 : Nat) : Int) = 0 from rfl, List.drop_zero] at hl1
            rw [decide_eq_true k2, if_pos rfl, hl1, hj k3]
            simp only [k2, true_and]
            cases namedB p (pastS p o) (w0 o) with
            | true => rfl
            | false => rfl
          · rw [decide_eq_false k2]
            simp only [Bool.false_eq_true, if_false, k2, false_and]
            by_cases k3 : o.Kind = 3
            · obtain ⟨ew, _⟩ := who1 hro (.inr k3)
              have ea : at? o.Who 0 = some (w0 o) := by rw [ew]; rfl
              unfold cabalref16_Behind.j1
              simp only [bkind]
              rw [decide_eq_true k3, ea]
              simp only [beq_self_eq_true, if_true, Option.bind_some, k3, true_and, in_eq R (show R.length ≤ 2000 by omega)]
              cases R.contains (w0 o) with
              | true => rfl
              | false => rfl
            · rw [hj k3]
              simp only [k3, false_and, if_false]

/-- the numbers whose bits are set -/
def oct (b0 b1 b2 b3 b4 b5 b6 b7 : Bool) : List Int :=
  (if b0 then [0] else []) ++ ((if b1 then [1] else []) ++ ((if b2 then [2] else []) ++ ((if b3 then [3] else []) ++ ((if b4 then [4] else []) ++ ((if b5 then [5] else []) ++ ((if b6 then [6] else []) ++ (if b7 then [7] else [])))))))
theorem oct_coll (f : Nat → Bool) : coll f 0 8 = oct (f 0) (f 1) (f 2) (f 3) (f 4) (f 5) (f 6) (f 7) := by
  unfold oct
  simp only [coll]
  cases f 0 <;> cases f 1 <;> cases f 2 <;> cases f 3 <;> cases f 4 <;> cases f 5 <;> cases f 6 <;> cases f 7 <;> rfl
def scomp (l : List Int) : Option (List Int) := (slices_Sort_int_int 4000 l).bind fun x => slices_Compact_int_int 4000 x
theorem sc_a : ∀ b0 b1 b2 b3 b4 b5 b6 b7 : Bool, scomp (oct b0 b1 b2 b3 b4 b5 b6 b7) = some (oct b0 b1 b2 b3 b4 b5 b6 b7) := by decide +kernel
theorem sc_b0 : ∀ b0 b1 b2 b3 b4 b5 b6 b7 : Bool, scomp (oct b0 b1 b2 b3 b4 b5 b6 b7 ++ [0]) = some (oct true b1 b2 b3 b4 b5 b6 b7) := by decide +kernel
theorem sc_b1 : ∀ b0 b1 b2 b3 b4 b5 b6 b7 : Bool, scomp (oct b0 b1 b2 b3 b4 b5 b6 b7 ++ [1]) = some (oct b0 true b2 b3 b4 b5 b6 b7) := by decide +kernel
theorem sc_b2 : ∀ b0 b1 b2 b3 b4 b5 b6 b7 : Bool, scomp (oct b0 b1 b2 b3 b4 b5 b6 b7 ++ [2]) = some (oct b0 b1 true b3 b4 b5 b6 b7) := by decide +kernel
theorem sc_b3 : ∀ b0 b1 b2 b3 b4 b5 b6 b7 : Bool, scomp (oct b0 b1 b2 b3 b4 b5 b6 b7 ++ [3]) = some (oct b0 b1 b2 true b4 b5 b6 b7) := by decide +kernel
theorem sc_b4 : ∀ b0 b1 b2 b3 b4 b5 b6 b7 : Bool, scomp (oct b0 b1 b2 b3 b4 b5 b6 b7 ++ [4]) = some (oct b0 b1 b2 b3 true b5 b6 b7) := by decide +kernel
theorem sc_b5 : ∀ b0 b1 b2 b3 b4 b5 b6 b7 : Bool, scomp (oct b0 b1 b2 b3 b4 b5 b6 b7 ++ [5]) = some (oct b0 b1 b2 b3 b4 true b6 b7) := by decide +kernel
theorem sc_b6 : ∀ b0 b1 b2 b3 b4 b5 b6 b7 : Bool, scomp (oct b0 b1 b2 b3 b4 b5 b6 b7 ++ [6]) = some (oct b0 b1 b2 b3 b4 b5 true b7) := by decide +kernel
theorem sc_b7 : ∀ b0 b1 b2 b3 b4 b5 b6 b7 : Bool, scomp (oct b0 b1 b2 b3 b4 b5 b6 b7 ++ [7]) = some (oct b0 b1 b2 b3 b4 b5 b6 true) := by decide +kernel
theorem sc_coll (f : Nat → Bool) : scomp (coll f 0 8) = some (coll f 0 8) := by rw [oct_coll]; exact sc_a _ _ _ _ _ _ _ _
theorem sc_add (f : Nat → Bool) (w : Nat) (hw : w < 8) : scomp (coll f 0 8 ++ [(w : Int)]) = some (coll (fun j => f j || decide (w = j)) 0 8) := by
  rw [oct_coll, oct_coll]
  match w, hw with
  | 0, _ => simpa using sc_b0 (f 0) (f 1) (f 2) (f 3) (f 4) (f 5) (f 6) (f 7)
  | 1, _ => simpa using sc_b1 (f 0) (f 1) (f 2) (f 3) (f 4) (f 5) (f 6) (f 7)
  | 2, _ => simpa using sc_b2 (f 0) (f 1) (f 2) (f 3) (f 4) (f 5) (f 6) (f 7)
  | 3, _ => simpa using sc_b3 (f 0) (f 1) (f 2) (f 3) (f 4) (f 5) (f 6) (f 7)
  | 4, _ => simpa using sc_b4 (f 0) (f 1) (f 2) (f 3) (f 4) (f 5) (f 6) (f 7)
  | 5, _ => simpa using sc_b5 (f 0) (f 1) (f 2) (f 3) (f 4) (f 5) (f 6) (f 7)
  | 6, _ => simpa using sc_b6 (f 0) (f 1) (f 2) (f 3) (f 4) (f 5) (f 6) (f 7)
  | 7, _ => simpa using sc_b7 (f 0) (f 1) (f 2) (f 3) (f 4) (f 5) (f 6) (f 7)
/-- rising numbers of eight are those that are among them -/
theorem rise_eq : ∀ (a b : List Int), a.Pairwise (· < ·) → b.Pairwise (· < ·) → (∀ z, z ∈ a ↔ z ∈ b) → a = b
  | [], [], _, _, _ => rfl
  | [], y :: b, _, _, h => by have := (h y).2 (by simp); cases this
  | x :: a, [], _, _, h => by have := (h x).1 (by simp); cases this
  | x :: a, y :: b, ha, hb, h => by
    obtain ⟨a1, a2⟩ := List.pairwise_cons.1 ha
    obtain ⟨b1, b2⟩ := List.pairwise_cons.1 hb
    have e : x = y := by
      rcases List.mem_cons.1 ((h x).1 (by simp)) with g | g
      · exact g
      · rcases List.mem_cons.1 ((h y).2 (by simp)) with k | k
        · exact k.symm
        · have p1 := b1 x g
          have p2 := a1 y k
          omega
    subst e
    congr 1
    refine rise_eq a b a2 b2 (fun z => ?_)
    constructor
    · intro hz
      rcases List.mem_cons.1 ((h z).1 (by simp [hz])) with g | g
      · have := a1 z hz; omega
      · exact g
    · intro hz
      rcases List.mem_cons.1 ((h z).2 (by simp [hz])) with g | g
      · have := b1 z hz; omega
      · exact g
theorem inc_pw : ∀ l : List Int, inc ltI l = true → l.Pairwise (· < ·)
  | [], _ => List.Pairwise.nil
  | [a], _ => List.pairwise_singleton _ _
  | a :: b :: l, h => by
    unfold inc at h
    rw [Bool.and_eq_true] at h
    have hl := inc_pw (b :: l) h.2
    have hab : a < b := of_decide_eq_true h.1
    refine List.pairwise_cons.2 ⟨fun z hz => ?_, hl⟩
    rcases List.mem_cons.1 hz with e | e
    · omega
    · have := (List.pairwise_cons.1 hl).1 z e; omega
theorem who_coll {o : api_Op} (h : rightO o = true) : o.Who = coll (fun j => o.Who.contains (j : Int)) 0 8 := by
  obtain ⟨_, _, _, h1, h2⟩ := op_facts h
  refine rise_eq _ _ (inc_pw _ h1) (coll_sorted _ _ _) (fun z => ?_)
  rw [coll_mem]
  constructor
  · intro hz
    have := h2 z hz
    exact ⟨z.toNat, by omega, by omega, by omega, by rw [Int.toNat_of_nonneg this.1]; simpa using hz⟩
  · rintro ⟨j, e, _, _, g⟩
    rw [e]; simpa using g
theorem coll_has (f : Nat → Bool) (j : Nat) (h : j < 8) : (coll f 0 8).contains (j : Int) = f j := by
  rw [Bool.eq_iff_iff, List.contains_iff_mem, coll_mem]
  constructor
  · rintro ⟨i, e, _, _, g⟩
    have : i = j := by omega
    rw [← this]; exact g
  · intro g; exact ⟨j, rfl, by omega, by omega, g⟩
/-- the roster of an operation's past is some of the eight -/
theorem bhd_coll (p : List api_Node) (o : api_Op) : ∃ f, (bhd p o).1 = coll f 0 8 := by
  have nil_ : ([] : List Int) = coll (fun _ => false) 0 8 := rfl
  unfold bhd
  split
  · exact ⟨_, nil_⟩
  · rename_i h0
    split
    · exact ⟨_, nil_⟩
    · split
      · exact ⟨_, who_coll (by simpa using h0)⟩
      · split
        · exact ⟨_, nil_⟩
        · split
          · exact ⟨_, nil_⟩
          · split
            · exact ⟨_, nil_⟩
            · exact ⟨fun who => inB p (cB p) (pastS p o) (who : Int), rfl⟩
theorem bhd_right {p : List api_Node} {o : api_Op} (h : (bhd p o).2 = 0) : rightO o = true := by
  unfold bhd at h
  cases hr : rightO o with
  | true => rfl
  | false => rw [if_pos hr] at h; cases h

def dropB (o : api_Op) (n : Int) : Bool := decide (n = o.Author) || decide (o.Kind = 3) && decide (n = w0 o)
theorem to1_eq (o : api_Op) (h : rightO o = true) (n : Int) : roster_To_1 4000 n o = some (dropB o n) := by
  unfold roster_To_1 dropB
  simp only [bkind]
  by_cases k3 : o.Kind = 3
  · obtain ⟨ew, _⟩ := who1 h (.inr k3)
    have ea : at? o.Who 0 = some (w0 o) := by rw [ew]; rfl
    rw [decide_eq_true k3, ea]
    cases decide (n = o.Author) <;> simp
  · rw [decide_eq_false k3]
    cases decide (n = o.Author) <;> simp
theorem del_l1 (o : api_Op) (h : rightO o = true) : ∀ (m i j n : Nat) (l : List Int), l.length ≤ 1000 → j + m = l.length → i < j → m < n →
    slices_DeleteFunc_int_int_roster_To_1.l1 4000 o n (i : Int) (j : Int) l = some (l.take i ++ (l.drop j).filter (fun v => !dropB o v)) := by
  intro m
  induction m with
  | zero =>
    intro i j n l hl hj hi hn
    obtain ⟨n, rfl⟩ : ∃ q, n = q + 1 := ⟨n - 1, by omega⟩
    rw [slices_DeleteFunc_int_int_roster_To_1.l1, if_neg (by simp; omega), List.drop_eq_nil_of_le (by omega), slices_DeleteFunc_int_int_roster_To_1.j1, Int.toNat_natCast, if_pos (by omega), if_pos (by omega), if_pos (by simp; omega)]
    congr 1
    rw [List.append_assoc, List.take_append_of_le_length (by rw [List.length_take]; omega), List.take_take, Nat.min_self]
    simp
  | succ m ih =>
    intro i j n l hl hj hi hn
    obtain ⟨n, rfl⟩ : ∃ q, n = q + 1 := ⟨n - 1, by omega⟩
    have hjl : j < l.length := by omega
    have hnext : iadd .i64 (j : Int) 1 = ((j + 1 : Nat) : Int) := by rw [add64 (by omega)]; omega
    have hnexti : iadd .i64 (i : Int) 1 = ((i + 1 : Nat) : Int) := by rw [add64 (by omega)]; omega
    rw [slices_DeleteFunc_int_int_roster_To_1.l1, if_pos (by simp; omega), if_pos (by omega), at_get hjl, List.drop_eq_getElem_cons hjl]
    simp only [Option.bind_some, to1_eq o h, slices_DeleteFunc_int_int_roster_To_1.j2, hnext, hnexti]
    cases hd : dropB o l[j] with
    | true =>
      simp only [Bool.not_true, Bool.false_eq_true, if_false]
      rw [ih i (j + 1) n l hl (by omega) (by omega) (by omega), List.filter_cons_of_neg (by simp [hd])]
    | false =>
      have hs : set? l (i : Int) l[j] = some (l.set i l[j]) := by unfold set?; rw [if_pos (by omega)]; rfl
      simp only [Bool.not_false, if_true]
      rw [if_pos (by omega), hs]
      simp only [Option.bind_some]
      rw [ih (i + 1) (j + 1) n (l.set i l[j]) (by simp; omega) (by simp; omega) (by omega) (by omega), List.filter_cons_of_pos (by simp [hd])]
      have e1 : (l.set i l[j]).take (i + 1) = l.take i ++ [l[j]] := by
        rw [List.take_add_one, List.take_set_of_le (Nat.le_refl _), List.getElem?_set_self (by omega)]; rfl
      have e2 : (l.set i l[j]).drop (j + 1) = l.drop (j + 1) := List.drop_set_of_lt (by omega)
      rw [e1, e2, List.append_assoc]; rfl
theorem idx_l1 (o : api_Op) (h : rightO o = true) (l : List Int) (hl : l.length ≤ 1000) : ∀ (m i n : Nat), i + m = l.length → m < n →
    (slices_IndexFunc_int_int_roster_To_1.l1 4000 l o n (i : Int) = some (-1) ∧ (l.drop i).filter (fun v => !dropB o v) = l.drop i) ∨
    ∃ j, i ≤ j ∧ j < l.length ∧ slices_IndexFunc_int_int_roster_To_1.l1 4000 l o n (i : Int) = some (j : Int) ∧ (l.take i ++ (l.drop i).filter (fun v => !dropB o v)) = l.take j ++ (l.drop (j + 1)).filter (fun v => !dropB o v) := by
  intro m
  induction m with
  | zero =>
    intro i n hi hn
    obtain ⟨n, rfl⟩ : ∃ q, n = q + 1 := ⟨n - 1, by omega⟩
    rw [slices_IndexFunc_int_int_roster_To_1.l1, if_neg (by simp; omega), List.drop_eq_nil_of_le (by omega)]; exact .inl ⟨rfl, rfl⟩
  | succ m ih =>
    intro i n hi hn
    obtain ⟨n, rfl⟩ : ∃ q, n = q + 1 := ⟨n - 1, by omega⟩
    have hil : i < l.length := by omega
    have hnext : iadd .i64 (i : Int) 1 = ((i + 1 : Nat) : Int) := by rw [add64 (by omega)]; omega
    have et : l.take (i + 1) = l.take i ++ [l[i]] := by rw [List.take_add_one, List.getElem?_eq_getElem hil]; rfl
    rw [slices_IndexFunc_int_int_roster_To_1.l1, if_pos (by simp; omega), at_get hil]
    simp only [Option.bind_some, to1_eq o h, hnext]
    cases hd : dropB o l[i] with
    | true =>
      refine .inr ⟨i, Nat.le_refl _, hil, by simp, ?_⟩
      rw [List.drop_eq_getElem_cons hil, List.filter_cons_of_neg (by simp [hd])]
    | false =>
      simp only [Bool.false_eq_true, if_false]
      have ef : (l.drop i).filter (fun v => !dropB o v) = l[i] :: (l.drop (i + 1)).filter (fun v => !dropB o v) := by rw [List.drop_eq_getElem_cons hil, List.filter_cons_of_pos (by simp [hd])]
      rcases ih (i + 1) n (by omega) (by omega) with ⟨h1, h2⟩ | ⟨j, h1, h2, h3, h4⟩
      · refine .inl ⟨h1, ?_⟩
        rw [ef, h2, List.drop_eq_getElem_cons hil]
      · refine .inr ⟨j, by omega, h2, h3, ?_⟩
        rw [ef, ← h4, et, List.append_assoc]; rfl
theorem del_eq (o : api_Op) (h : rightO o = true) (l : List Int) (hl : l.length ≤ 1000) : slices_DeleteFunc_int_int_roster_To_1 4000 l o = some (l.filter (fun v => !dropB o v)) := by
  unfold slices_DeleteFunc_int_int_roster_To_1 slices_IndexFunc_int_int_roster_To_1
  rcases idx_l1 o h l hl l.length 0 4000 (by omega) (by omega) with ⟨h1, h2⟩ | ⟨j, _, h2, h3, h4⟩
  · rw [show ((0 : Nat) : Int) = 0 from rfl] at h1
    rw [List.drop_zero] at h2
    rw [h1, h2]; rfl
  · rw [show ((0 : Nat) : Int) = 0 from rfl] at h3
    rw [List.take_zero, List.drop_zero, List.nil_append] at h4
    rw [h3, h4]
    simp only [Option.bind_some]
    rw [if_neg (by simp <;> omega), add64 (by omega), show (j : Int) + 1 = ((j + 1 : Nat) : Int) by omega]
    exact del_l1 o h (l.length - (j + 1)) j (j + 1) 4000 l hl (by omega) (by omega) (by omega)
theorem coll_filter (f : Nat → Bool) (d : Int → Bool) (m : Nat) : ∀ i, (coll f i m).filter (fun v => !d v) = coll (fun j => f j && !d (j : Int)) i m := by
  induction m with
  | zero => intro i; rfl
  | succ m ih =>
    intro i
    unfold coll
    cases hf : f i with
    | false => simp [ih]
    | true =>
      cases hd : d (i : Int) with
      | true => simp [hd, ih]
      | false => simp [hd, ih]

/-- for whom it is -/
def toR (p : List api_Node) (o : api_Op) : List Int × Int :=
  if (bhd p o).2 = 0 then (coll (fun n => ((bhd p o).1.contains (n : Int) || decide (o.Kind = 2) && decide (w0 o = (n : Int))) && !dropB o (n : Int)) 0 8, 0) else ([], (bhd p o).2)
theorem to_j1 (o : api_Op) (h : rightO o = true) (l : List Int) (f : Nat → Bool) (hs : scomp l = some (coll f 0 8)) : roster_To.j1 4000 o l = some (coll (fun j => f j && !dropB o (j : Int)) 0 8, 0) := by
  unfold roster_To.j1
  unfold scomp at hs
  cases hx : slices_Sort_int_int 4000 l with
  | none => rw [hx] at hs; cases hs
  | some x =>
    rw [hx] at hs
    simp only [Option.bind_some] at hs ⊢
    rw [hs]
    simp only [Option.bind_some]
    rw [del_eq o h _ (by have := coll_len f 8 0; omega), coll_filter]
    rfl
theorem cloneI3_eq (l : List Int) (h : l.length ≤ 1000) : slices_Clone_int_int 4000 l = some l := by
  have hL : (1000000 : Nat) ≤ lim := by unfold lim; omega
  unfold slices_Clone_int_int
  rw [if_pos (by simp; omega)]; simp
theorem to_eq (p : List api_Node) (hf : Few p) (hr : rightG p = true) (o : api_Op) (ho : OpFew o) : roster_To 4000 p o = some (toR p o) := by
  have hL : (1000000 : Nat) ≤ lim := by unfold lim; omega
  unfold roster_To toR
  rw [behind_eq p hf o ho, hr]
  simp only [if_true, Option.bind_some]
  by_cases c : (bhd p o).2 = 0
  · have h := bhd_right c
    obtain ⟨f, ef⟩ := bhd_coll p o
    have hl := coll_len f 8 0
    rw [if_neg (by simp [c]), if_pos c, ef, cloneI3_eq _ (by omega)]
    simp only [Option.bind_some, bkind]
    have eg : ∀ g : Nat → Bool, (∀ j, j < 8 → g j = (f j || decide (o.Kind = 2) && decide (w0 o = (j : Int)))) → coll (fun j => g j && !dropB o (j : Int)) 0 8 = coll (fun n => ((coll f 0 8).contains (n : Int) || decide (o.Kind = 2) && decide (w0 o = (n : Int))) && !dropB o (n : Int)) 0 8 := fun g hg => by
      refine coll_congr _ _ _ _ (fun j _ hj => ?_)
      show (g j && _) = _
      rw [hg j (by omega), coll_has f j (by omega)]
    by_cases k2 : o.Kind = 2
    · obtain ⟨ew, hw1, hw2⟩ := who1 h (.inl k2)
      have ea : at? o.Who 0 = some (w0 o) := by rw [ew]; rfl
      obtain ⟨w, hw⟩ : ∃ w : Nat, w0 o = w := ⟨(w0 o).toNat, by omega⟩
      have sc : scomp (coll f 0 8 ++ [w0 o]) = some (coll (fun j => f j || decide (w = j)) 0 8) := by rw [hw]; exact sc_add f w (by omega)
      have e2 := eg (fun j => f j || decide (w = j)) (fun j _ => by
        show (f j || decide (w = j)) = _
        rw [decide_eq_true k2, hw, Bool.true_and]
        congr 1
        exact decide_eq_decide.2 (by omega))
      rw [if_pos (decide_eq_true k2), ea]
      simp only [Option.bind_some]
      rw [if_pos (by simp; omega), to_j1 o h _ _ sc, e2]
    · have e2 := eg f (fun j _ => by rw [decide_eq_false k2]; simp)
      rw [if_neg (by simpa using k2), to_j1 o h _ _ (sc_coll f), e2]
  · rw [if_pos (by simpa using c), if_neg c]
theorem dto_eq (p : List api_Node) (hf : Few p) (hr : rightG p = true) (o : api_Op) (ho : OpFew o) : cabalref16_To 4000 p o = some (toR p o) := by
  have hL : (1000000 : Nat) ≤ lim := by unfold lim; omega
  unfold cabalref16_To toR
  rw [dbehind_eq p hf hr o ho]
  simp only [Option.bind_some]
  by_cases c : (bhd p o).2 = 0
  · have h := bhd_right c
    rw [if_neg (by simp [c]), if_pos c]
    have hbl : (bhd p o).1.length ≤ 2000 := by
      obtain ⟨f, ef⟩ := bhd_coll p o
      have := coll_len f 8 0
      rw [ef]; omega
    generalize hB : bhd p o = B at hbl c
    have key : ∀ (m y n : Nat) (acc : List Int), y + m = 8 → m < n → acc.length ≤ y → cabalref16_To.l1 4000 B o n (y : Int) acc = some (acc ++ coll (fun n => (B.1.contains (n : Int) || decide (o.Kind = 2) && decide (w0 o = (n : Int))) && !dropB o (n : Int)) y m, 0) := by
      intro m
      induction m with
      | zero =>
        intro y n acc hy hn ha
        obtain ⟨n, rfl⟩ : ∃ q, n = q + 1 := ⟨n - 1, by omega⟩
        rw [cabalref16_To.l1, if_neg (by simp; omega)]; simp [cabalref16_To.j1, coll]
      | succ m ih =>
        intro y n acc hy hn ha
        obtain ⟨n, rfl⟩ : ∃ q, n = q + 1 := ⟨n - 1, by omega⟩
        have hnext : iadd .i64 (y : Int) 1 = ((y + 1 : Nat) : Int) := by rw [add64 (by omega)]; omega
        rw [cabalref16_To.l1, if_pos (by simp; omega), in_eq _ hbl]
        simp only [Option.bind_some, cabalref16_To.j2, hnext, bkind, bne]
        have fin : ∀ b : Bool, b = ((B.1.contains (y : Int) || decide (o.Kind = 2) && decide (w0 o = (y : Int))) && !dropB o (y : Int)) →
            (if b = true then (if acc.length + ([(y : Int)] : List Int).length ≤ lim then cabalref16_To.l1 4000 B o n ((y + 1 : Nat) : Int) (acc ++ [(y : Int)]) else none) else cabalref16_To.l1 4000 B o n ((y + 1 : Nat) : Int) acc) =
            some (acc ++ coll (fun n => (B.1.contains (n : Int) || decide (o.Kind = 2) && decide (w0 o = (n : Int))) && !dropB o (n : Int)) y (m + 1), 0) := fun b hb => by
          unfold coll
          rw [← hb]
          cases b with
          | true =>
            rw [if_pos rfl, if_pos (by simp; omega), if_pos rfl, ih (y + 1) n _ (by omega) (by omega) (by simp; omega)]
            simp
          | false =>
            rw [if_neg (by simp), if_neg (by simp)]
            exact ih (y + 1) n _ (by omega) (by omega) (by omega)
        have es : decide ((y : Int) = w0 o) = decide (w0 o = (y : Int)) := decide_eq_decide.2 ⟨fun e => e.symm, fun e => e.symm⟩
        have fin2 : ∀ b : Bool, b = ((B.1.contains (y : Int) || decide (o.Kind = 2) && decide (w0 o = (y : Int))) && !(decide ((y : Int) = o.Author) || decide (o.Kind = 3) && decide (w0 o = (y : Int)))) → _ := fun b hb => fin b (by unfold dropB; rw [es]; exact hb)
        by_cases k2 : o.Kind = 2
        · obtain ⟨ew, _⟩ := who1 h (.inl k2)
          have k3 : ¬ o.Kind = 3 := by omega
          have ea : at? o.Who 0 = some (w0 o) := by rw [ew]; rfl
          rw [decide_eq_true k2, decide_eq_false k3] at fin2
          rw [decide_eq_true k2, decide_eq_false k3, ea]
          generalize decide ((y : Int) = o.Author) = Y1 at fin2 ⊢
          generalize B.1.contains (y : Int) = Y0 at fin2 ⊢
          cases hy2 : decide (w0 o = (y : Int)) <;> rw [hy2] at fin2 <;> cases Y0 <;> cases Y1 <;> simp only [beq_self_eq_true, Bool.and_self, if_true, Option.bind_some, hy2] <;> first | exact fin2 true rfl | exact fin2 false rfl
        · by_cases k3 : o.Kind = 3
          · obtain ⟨ew, _⟩ := who1 h (.inr k3)
            have ea : at? o.Who 0 = some (w0 o) := by rw [ew]; rfl
            rw [decide_eq_false k2, decide_eq_true k3] at fin2
            rw [decide_eq_false k2, decide_eq_true k3, ea]
            generalize decide ((y : Int) = o.Author) = Y1 at fin2 ⊢
            generalize B.1.contains (y : Int) = Y0 at fin2 ⊢
            cases hy2 : decide (w0 o = (y : Int)) <;> rw [hy2] at fin2 <;> cases Y0 <;> cases Y1 <;> simp only [beq_self_eq_true, Bool.and_self, if_true, Option.bind_some, hy2, Bool.not_true, Bool.not_false, Bool.false_eq_true, if_false] <;> first | exact fin2 true rfl | exact fin2 false rfl
          · rw [decide_eq_false k2, decide_eq_false k3] at fin2
            rw [decide_eq_false k2, decide_eq_false k3]
            generalize decide ((y : Int) = o.Author) = Y1 at fin2 ⊢
            generalize B.1.contains (y : Int) = Y0 at fin2 ⊢
            cases Y0 <;> cases Y1 <;> first | exact fin2 true rfl | exact fin2 false rfl
    have := key 8 0 4000 [] (by omega) (by omega) (by simp)
    rw [show ((0 : Nat) : Int) = 0 from rfl] at this
    exact this
  · rw [if_pos (by simpa using c), if_neg c]


end Go.Proofs.Pure
