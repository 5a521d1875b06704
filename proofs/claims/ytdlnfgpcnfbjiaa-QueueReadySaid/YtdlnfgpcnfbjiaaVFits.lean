/- Graphs that are right: the program's test and the document's are the same. No program in sight. -/
import Derived.Test.YtdlnfgpcnfbjiaaVDoc
namespace Go.Proofs.Pure
open Go Go.RowKit Go.Proofs.Kit
set_option linter.unusedVariables false

theorem equal_eq (a b : List Int) (hn : a.length ≤ 2000) : slices_Equal_int_int 4000 a b = some (decide (a = b)) := by
  have key : a.length = b.length → ∀ (m i n : Nat), i + m = a.length → m < n → slices_Equal_int_int.l1 4000 a b n (i : Int) = some (decide (a.drop i = b.drop i)) := by
    intro hl m
    induction m with
    | zero =>
      intro i n hi hm
      obtain ⟨n, rfl⟩ : ∃ q, n = q + 1 := ⟨n - 1, by omega⟩
      rw [slices_Equal_int_int.l1, if_neg (by simp; omega), List.drop_eq_nil_of_le (by omega), List.drop_eq_nil_of_le (by omega)]; rfl
    | succ m ih =>
      intro i n hi hm
      obtain ⟨n, rfl⟩ : ∃ q, n = q + 1 := ⟨n - 1, by omega⟩
      have ha : i < a.length := by omega
      have hb : i < b.length := by omega
      have hnext : iadd .i64 (i : Int) 1 = ((i + 1 : Nat) : Int) := by rw [add64 (by omega)]; omega
      rw [slices_Equal_int_int.l1, if_pos (by simp; omega), at_get ha, at_get hb, List.drop_eq_getElem_cons ha, List.drop_eq_getElem_cons hb]
      simp only [Option.bind_some, hnext]
      by_cases q : a[i] = b[i]
      · rw [if_neg (by simp [q]), ih (i + 1) n (by omega) (by omega)]
        simp only [List.cons.injEq, q, true_and]
      · rw [if_pos (by simp [q])]
        simp only [List.cons.injEq, q, false_and, decide_false]
  unfold slices_Equal_int_int
  by_cases hl : a.length = b.length
  · rw [if_neg (by simp [hl])]
    have := key hl a.length 0 4000 (by omega) (by omega)
    rw [show ((0 : Nat) : Int) = 0 from rfl, List.drop_zero, List.drop_zero] at this
    exact this
  · rw [if_pos (by simp; omega), decide_eq_false (fun e => hl (by rw [e]))]
theorem sameints_eq (a b : List Int) (hn : a.length ≤ 2000) : cabalref15_SameInts 4000 a b = some (decide (a = b)) := by
  have key : a.length = b.length → ∀ (m i n : Nat), i + m = a.length → m < n → cabalref15_SameInts.l1 4000 a b n (i : Int) = some (decide (a.drop i = b.drop i)) := by
    intro hl m
    induction m with
    | zero =>
      intro i n hi hm
      obtain ⟨n, rfl⟩ : ∃ q, n = q + 1 := ⟨n - 1, by omega⟩
      rw [cabalref15_SameInts.l1, if_neg (by simp; omega), List.drop_eq_nil_of_le (by omega), List.drop_eq_nil_of_le (by omega)]; rfl
    | succ m ih =>
      intro i n hi hm
      obtain ⟨n, rfl⟩ : ∃ q, n = q + 1 := ⟨n - 1, by omega⟩
      have ha : i < a.length := by omega
      have hb : i < b.length := by omega
      have hnext : iadd .i64 (i : Int) 1 = ((i + 1 : Nat) : Int) := by rw [add64 (by omega)]; omega
      rw [cabalref15_SameInts.l1, if_pos (by simp; omega), at_get ha, at_get hb, List.drop_eq_getElem_cons ha, List.drop_eq_getElem_cons hb]
      simp only [Option.bind_some, hnext]
      by_cases q : a[i] = b[i]
      · rw [if_neg (by simp [q]), ih (i + 1) n (by omega) (by omega)]
        simp only [List.cons.injEq, q, true_and]
      · rw [if_pos (by simp [q])]
        simp only [List.cons.injEq, q, false_and, decide_false]
  unfold cabalref15_SameInts
  by_cases hl : a.length = b.length
  · rw [if_neg (by simp [hl])]
    have := key hl a.length 0 4000 (by omega) (by omega)
    rw [show ((0 : Nat) : Int) = 0 from rfl, List.drop_zero, List.drop_zero] at this
    exact this
  · rw [if_pos (by simp; omega), decide_eq_false (fun e => hl (by rw [e]))]

theorem coll_mem (f : Nat → Bool) (m : Nat) : ∀ (i : Nat) (v : Int), v ∈ coll f i m ↔ ∃ j : Nat, v = (j : Int) ∧ i ≤ j ∧ j < i + m ∧ f j = true := by
  induction m with
  | zero => intro i v; simp [coll]; omega
  | succ m ih =>
    intro i v
    unfold coll
    by_cases h : f i = true
    · rw [if_pos h, List.mem_cons, ih]
      constructor
      · rintro (e | ⟨j, h1, h2, h3, h4⟩)
        · exact ⟨i, e, by omega, by omega, h⟩
        · exact ⟨j, h1, by omega, by omega, h4⟩
      · rintro ⟨j, h1, h2, h3, h4⟩
        by_cases q : j = i
        · exact .inl (by rw [h1, q])
        · exact .inr ⟨j, h1, by omega, by omega, h4⟩
    · rw [if_neg h, ih]
      constructor
      · rintro ⟨j, h1, h2, h3, h4⟩; exact ⟨j, h1, by omega, by omega, h4⟩
      · rintro ⟨j, h1, h2, h3, h4⟩
        by_cases q : j = i
        · rw [q] at h4; exact absurd h4 h
        · exact ⟨j, h1, by omega, by omega, h4⟩
theorem coll_sorted (f : Nat → Bool) (m : Nat) : ∀ i : Nat, (coll f i m).Pairwise (· < ·) := by
  induction m with
  | zero => intro i; exact List.Pairwise.nil
  | succ m ih =>
    intro i
    unfold coll
    split
    · refine List.Pairwise.cons (fun v hv => ?_) (ih (i + 1))
      obtain ⟨j, h1, h2, _, _⟩ := (coll_mem f m (i + 1) v).1 hv
      omega
    · exact ih (i + 1)

theorem search_l1 (l : List Int) (hs : l.Pairwise (· < ·)) (hl : l.length ≤ 1000) (t : Int) : ∀ (m lo hi n : Nat), hi ≤ lo + m → lo ≤ hi → hi ≤ l.length → m < n → (∀ i (h : i < l.length), i < lo → l[i] < t) → (∀ i (h : i < l.length), hi ≤ i → t ≤ l[i]) →
    ∃ r : Nat, slices_BinarySearch_int_int.l1 4000 l t n (lo : Int) (hi : Int) = slices_BinarySearch_int_int.j1 4000 l t (r : Int) ∧ r ≤ l.length ∧ (∀ i (h : i < l.length), i < r → l[i] < t) ∧ (∀ i (h : i < l.length), r ≤ i → t ≤ l[i]) := by
  intro m
  induction m with
  | zero =>
    intro lo hi n h1 h2 h3 h4 h5 h6
    obtain ⟨n, rfl⟩ : ∃ q, n = q + 1 := ⟨n - 1, by omega⟩
    rw [slices_BinarySearch_int_int.l1, if_neg (by simp; omega)]
    exact ⟨lo, rfl, by omega, h5, fun i h q => h6 i h (by omega)⟩
  | succ m ih =>
    intro lo hi n h1 h2 h3 h4 h5 h6
    obtain ⟨n, rfl⟩ : ∃ q, n = q + 1 := ⟨n - 1, by omega⟩
    by_cases c : lo < hi
    · have em : IntKind.wrap .i64 (ishr .u64 (IntKind.wrap .u64 (iadd .i64 (lo : Int) (hi : Int))) 1) = (((lo + hi) / 2 : Nat) : Int) := by
        rw [add64 (by omega), wu64s (by omega), shr_def (by decide), wi64 (by simp; omega)]
        simp
      have hml : (lo + hi) / 2 < l.length := by omega
      rw [slices_BinarySearch_int_int.l1, if_pos (by simp; omega), em]
      simp only [Option.bind_some, at_get hml, cmp_Less_int, cmp_isNaN_int, bne_self_eq_false, Bool.false_eq_true, if_false, (by decide : (false == true) = false)]
      by_cases q : l[(lo + hi) / 2] < t
      · rw [if_pos (decide_eq_true q), add64 (by omega), show (((lo + hi) / 2 : Nat) : Int) + 1 = (((lo + hi) / 2 + 1 : Nat) : Int) by omega]
        refine ih _ hi n (by omega) (by omega) h3 (by omega) (fun i h g => ?_) h6
        by_cases e : i = (lo + hi) / 2
        · subst e; exact q
        · have := List.pairwise_iff_getElem.1 hs i ((lo + hi) / 2) h hml (by omega)
          omega
      · rw [if_neg (by simpa using q)]
        refine ih lo _ n (by omega) (by omega) (by omega) (by omega) h5 (fun i h g => ?_)
        by_cases e : i = (lo + hi) / 2
        · subst e; omega
        · have := List.pairwise_iff_getElem.1 hs ((lo + hi) / 2) i hml h (by omega)
          omega
    · rw [slices_BinarySearch_int_int.l1, if_neg (by simp; omega)]
      exact ⟨lo, rfl, by omega, h5, fun i h q => h6 i h (by omega)⟩
theorem search_eq (l : List Int) (hs : l.Pairwise (· < ·)) (hl : l.length ≤ 1000) (t : Int) : ∃ r, slices_BinarySearch_int_int 4000 l t = some (r, l.contains t) := by
  unfold slices_BinarySearch_int_int
  obtain ⟨r, e, r1, r2, r3⟩ := search_l1 l hs hl t l.length 0 l.length 4000 (by omega) (by omega) (by omega) (by omega) (fun i h q => by omega) (fun i h q => by omega)
  rw [show ((0 : Nat) : Int) = 0 from rfl] at e
  rw [e]
  refine ⟨(r : Int), ?_⟩
  unfold slices_BinarySearch_int_int.j1
  by_cases c : r < l.length
  · rw [decide_eq_true (show (r : Int) < (l.length : Int) by omega)]
    simp only [beq_self_eq_true, if_true, at_get c, Option.bind_some, Bool.true_and]
    by_cases q : l[r] = t
    · have hc : l.contains t = true := by rw [← q]; simp
      rw [hc]
      simp [q]
    · have hc : l.contains t = false := by
        rw [Bool.eq_false_iff]
        intro h
        obtain ⟨i, hi, ei⟩ := List.mem_iff_getElem.1 (by simpa using h : t ∈ l)
        have := r3 r c (by omega)
        by_cases g : i < r
        · have := r2 i hi g; omega
        · by_cases g2 : i = r
          · subst g2; exact q ei
          · have := List.pairwise_iff_getElem.1 hs r i c hi (by omega); omega
      have q2 : (l[r] == t) = false := by simpa using q
      rw [hc]
      simp [q2, slices_isNaN_int]
  · rw [decide_eq_false (show ¬ (r : Int) < (l.length : Int) by omega)]
    have hc : l.contains t = false := by
      rw [Bool.eq_false_iff]
      intro h
      obtain ⟨i, hi, ei⟩ := List.mem_iff_getElem.1 (by simpa using h : t ∈ l)
      have := r2 i hi (by omega); omega
    rw [hc]
    rfl

/-- how many nodes an author has, where all lie behind; else nothing -/
def tn (past : List Int) (a : Int) : Nat → Nat → List api_Node → Option Nat
  | _, c, [] => some c
  | i, c, x :: l => if x.Op.Author = a then (if past.contains (i : Int) = true then tn past a (i + 1) (c + 1) l else none) else tn past a (i + 1) c l
theorem turn_l1 (p : List api_Node) (hp : p.length ≤ 200) (o : api_Op) (past : List Int) (hs : past.Pairwise (· < ·)) (hl : past.length ≤ 1000) : ∀ (m i n c : Nat), i + m = p.length → m < n → c ≤ i →
    graph_turn.l1 4000 p o past n ((c + 1 : Nat) : Int) (i : Int) = (match tn past o.Author i c (p.drop i) with | some c => graph_turn.j1 4000 o p ((c + 1 : Nat) : Int) | none => some false) := by
  intro m
  induction m with
  | zero =>
    intro i n c hi hm hc
    obtain ⟨n, rfl⟩ : ∃ q, n = q + 1 := ⟨n - 1, by omega⟩
    rw [graph_turn.l1, if_neg (by simp; omega), List.drop_eq_nil_of_le (by omega)]; rfl
  | succ m ih =>
    intro i n c hi hm hc
    obtain ⟨n, rfl⟩ : ∃ q, n = q + 1 := ⟨n - 1, by omega⟩
    have hil : i < p.length := by omega
    have hnext : iadd .i64 (i : Int) 1 = ((i + 1 : Nat) : Int) := by rw [add64 (by omega)]; omega
    have hc1 : iadd .u32 ((c + 1 : Nat) : Int) 1 = ((c + 1 + 1 : Nat) : Int) := by rw [add32 (by omega)]; omega
    rw [graph_turn.l1, if_pos (by simp; omega), at_get hil, List.drop_eq_getElem_cons hil]
    simp only [Option.bind_some, graph_turn.j2, hnext]
    unfold tn
    by_cases q : p[i].Op.Author = o.Author
    · obtain ⟨r, e⟩ := search_eq past hs hl (i : Int)
      rw [if_neg (by simp [q]), if_pos q, e]
      simp only [Option.bind_some, hc1]
      cases past.contains (i : Int) with
      | true => simp only [Bool.not_true, Bool.false_eq_true, if_false, if_true]; exact ih (i + 1) n (c + 1) (by omega) (by omega) (by omega)
      | false => rfl
    · rw [if_pos (by simp [q]), if_neg q]
      exact ih (i + 1) n c (by omega) (by omega) (by omega)
theorem rturn_l1 (p : List api_Node) (hp : p.length ≤ 200) (o : api_Op) (past : List Int) (hl : past.length ≤ 1000) : ∀ (m i n c : Nat), i + m = p.length → m < n → c ≤ i →
    cabalref15_turn.l1 4000 p o past n (c : Int) (i : Int) = (match tn past o.Author i c (p.drop i) with | some c => some (o.Seq == ((c + 1 : Nat) : Int)) | none => some false) := by
  intro m
  induction m with
  | zero =>
    intro i n c hi hm hc
    obtain ⟨n, rfl⟩ : ∃ q, n = q + 1 := ⟨n - 1, by omega⟩
    rw [cabalref15_turn.l1, if_neg (by simp; omega), List.drop_eq_nil_of_le (by omega), cabalref15_turn.j1, add32 (by omega)]; rfl
  | succ m ih =>
    intro i n c hi hm hc
    obtain ⟨n, rfl⟩ : ∃ q, n = q + 1 := ⟨n - 1, by omega⟩
    have hil : i < p.length := by omega
    have hnext : iadd .i64 (i : Int) 1 = ((i + 1 : Nat) : Int) := by rw [add64 (by omega)]; omega
    have hc1 : iadd .u32 (c : Int) 1 = ((c + 1 : Nat) : Int) := by rw [add32 (by omega)]; omega
    rw [cabalref15_turn.l1, if_pos (by simp; omega), at_get hil, List.drop_eq_getElem_cons hil]
    simp only [Option.bind_some, cabalref15_turn.j2, hnext]
    unfold tn
    by_cases q : p[i].Op.Author = o.Author
    · rw [if_pos (by simp [q]), if_pos q, in_eq past (by omega)]
      simp only [Option.bind_some, hc1]
      cases past.contains (i : Int) with
      | true => simp only [Bool.not_true, Bool.false_eq_true, if_false, if_true]; exact ih (i + 1) n (c + 1) (by omega) (by omega) (by omega)
      | false => rfl
    · rw [if_neg (by simp [q]), if_neg q]
      exact ih (i + 1) n c (by omega) (by omega) (by omega)
def turnB (p : List api_Node) (o : api_Op) (past : List Int) : Bool :=
  (decide (o.Kind = 1) == decide (p.length = 0)) && (match tn past o.Author 0 0 p with | some c => o.Seq == ((c + 1 : Nat) : Int) | none => false)
theorem kind_p0 (p : List api_Node) (o : api_Op) : decide ((o.Kind == 1) = ((p.length : Int) == 0)) = (decide (o.Kind = 1) == decide (p.length = 0)) := by
  have eP0 : ((p.length : Int) == 0) = decide (p.length = 0) := by
    by_cases q : p.length = 0
    · rw [decide_eq_true q, q]; rfl
    · rw [decide_eq_false q]; simp; exact fun e => q (by rw [e]; rfl)
  have eK : (o.Kind == 1) = decide (o.Kind = 1) := by by_cases q : o.Kind = 1 <;> simp [q]
  rw [eP0, eK]
  cases decide (o.Kind = 1) <;> cases decide (p.length = 0) <;> rfl
theorem turn_eq (p : List api_Node) (hp : p.length ≤ 200) (o : api_Op) (past : List Int) (hs : past.Pairwise (· < ·)) (hl : past.length ≤ 1000) : graph_turn 4000 p o past = some (turnB p o past) := by
  unfold graph_turn turnB
  have := turn_l1 p hp o past hs hl p.length 0 4000 0 (by omega) (by omega) (by omega)
  rw [show ((0 : Nat) : Int) = 0 from rfl, show ((0 + 1 : Nat) : Int) = 1 from rfl, List.drop_zero] at this
  rw [this]
  cases tn past o.Author 0 0 p with
  | none => simp
  | some c =>
    simp only [graph_turn.j1, kind_p0, Option.bind_some]
    cases (o.Seq == ((c + 1 : Nat) : Int)) <;> cases (decide (o.Kind = 1) == decide (p.length = 0)) <;> rfl
theorem rturn_eq (p : List api_Node) (hp : p.length ≤ 200) (o : api_Op) (past : List Int) (hl : past.length ≤ 1000) : cabalref15_turn 4000 p o past = some (turnB p o past) := by
  unfold cabalref15_turn turnB
  rw [kind_p0]
  cases (decide (o.Kind = 1) == decide (p.length = 0)) with
  | false => rfl
  | true =>
    have := rturn_l1 p hp o past hl p.length 0 4000 0 (by omega) (by omega) (by omega)
    rw [show ((0 : Nat) : Int) = 0 from rfl, List.drop_zero] at this
    simp only [Bool.not_true, Bool.false_eq_true, if_false, Bool.true_and, this]
    cases tn past o.Author 0 0 p <;> rfl

/-- not more than is looked at -/
structure NodeFew (x : api_Node) : Prop where
  op : OpFew x.Op
  past : x.Past.length ≤ 200
structure Few (p : List api_Node) : Prop where
  len : p.length ≤ 110
  each : ∀ x ∈ p, NodeFew x
theorem Few.take {p : List api_Node} (h : Few p) (i : Nat) : Few (p.take i) := ⟨by rw [List.length_take]; have := h.len; omega, fun x hx => h.each x (List.mem_of_mem_take hx)⟩
theorem Few.short {p : List api_Node} (h : Few p) : Short p := fun x hx => (h.each x hx).past

def pastL (p : List api_Node) (o : api_Op) : List Int := coll (inP p o.Parents) 0 p.length
/-- a node fits behind a graph -/
def fitB (p : List api_Node) (x : api_Node) : Bool :=
  okP p x.Op.Parents && rightO x.Op && decide (fnd x.Id 0 p < 0) && decide (pastL p x.Op = x.Past) && turnB p x.Op (pastL p x.Op)
theorem fits_eq (p : List api_Node) (h : Few p) (x : api_Node) (hx : NodeFew x) : graph_fits 4000 p x = some (fitB p x) := by
  have hlen := h.len
  have hps := hx.op.parents
  unfold graph_fits fitB
  rw [past_eq p (by omega) h.short _ (by omega)]
  simp only [Option.bind_some]
  cases okP p x.Op.Parents with
  | false => rfl
  | true =>
    have hl : (coll (inP p x.Op.Parents) 0 p.length).length ≤ p.length := coll_len _ _ _
    simp only [if_true, beq_self_eq_true, frame_eq x.Op hx.op, Option.bind_some, Bool.true_and]
    cases rightO x.Op with
    | false => rfl
    | true =>
      simp only [beq_self_eq_true, if_true, find_eq p (by omega), Option.bind_some, Bool.true_and]
      cases decide (fnd x.Id 0 p < 0) with
      | false => rfl
      | true =>
        simp only [beq_self_eq_true, if_true, equal_eq _ _ (show (coll (inP p x.Op.Parents) 0 p.length).length ≤ 2000 by omega), Option.bind_some, Bool.true_and]
        unfold pastL
        cases decide (coll (inP p x.Op.Parents) 0 p.length = x.Past) with
        | false => rfl
        | true =>
          simp only [beq_self_eq_true, if_true, turn_eq p (by omega) x.Op _ (coll_sorted _ _ _) (show (coll (inP p x.Op.Parents) 0 p.length).length ≤ 1000 by omega), Option.bind_some, Bool.true_and]

/-- the nodes from i on fit -/
def rightL (p : List api_Node) : Nat → Nat → Bool
  | _, 0 => true
  | i, m + 1 => (match p[i]? with | some x => fitB (p.take i) x | none => true) && rightL p (i + 1) m
def rightG (p : List api_Node) : Bool := decide (p.length ≤ 96) && rightL p 0 p.length
theorem right_eq (p : List api_Node) (h : Few p) : graph_Right 4000 p = some (rightG p) := by
  have hlen := h.len
  have key : ∀ (m i n : Nat), i + m = p.length → m < n → graph_Right.l1 4000 p n (i : Int) = some (rightL p i m) := by
    intro m
    induction m with
    | zero =>
      intro i n hi hm
      obtain ⟨n, rfl⟩ : ∃ q, n = q + 1 := ⟨n - 1, by omega⟩
      rw [graph_Right.l1, if_neg (by simp; omega)]; rfl
    | succ m ih =>
      intro i n hi hm
      obtain ⟨n, rfl⟩ : ∃ q, n = q + 1 := ⟨n - 1, by omega⟩
      have hil : i < p.length := by omega
      have hnext : iadd .i64 (i : Int) 1 = ((i + 1 : Nat) : Int) := by rw [add64 (by omega)]; omega
      rw [graph_Right.l1, if_pos (by simp; omega), at_get hil]
      simp only [Option.bind_some, cut_pre (Nat.le_of_lt hil), fits_eq _ (h.take i) _ (h.each _ (List.getElem_mem hil)), hnext]
      unfold rightL
      rw [List.getElem?_eq_getElem hil]
      cases hf : fitB (p.take i) p[i] with
      | false => simp [hf]
      | true => simp only [Bool.not_true, Bool.false_eq_true, if_false, hf, Bool.true_and]; exact ih (i + 1) n (by omega) (by omega)
  unfold graph_Right rightG
  by_cases c : p.length ≤ 96
  · rw [if_neg (by simp; omega), decide_eq_true c, Bool.true_and]
    have := key p.length 0 4000 (by omega) (by omega)
    rw [show ((0 : Nat) : Int) = 0 from rfl] at this
    exact this
  · rw [if_pos (by simp; omega), decide_eq_false c]; rfl
theorem rright_eq (p : List api_Node) (h : Few p) : cabalref15_Right 4000 p = some (rightG p) := by
  have hlen := h.len
  have key : ∀ (m i n : Nat), i + m = p.length → m < n → cabalref15_Right.l1 4000 p n (i : Int) = some (rightL p i m) := by
    intro m
    induction m with
    | zero =>
      intro i n hi hm
      obtain ⟨n, rfl⟩ : ∃ q, n = q + 1 := ⟨n - 1, by omega⟩
      rw [cabalref15_Right.l1, if_neg (by simp; omega)]; rfl
    | succ m ih =>
      intro i n hi hm
      obtain ⟨n, rfl⟩ : ∃ q, n = q + 1 := ⟨n - 1, by omega⟩
      have hil : i < p.length := by omega
      have hnext : iadd .i64 (i : Int) 1 = ((i + 1 : Nat) : Int) := by rw [add64 (by omega)]; omega
      have hx := h.each _ (List.getElem_mem hil)
      have ht := h.take i
      have htl := ht.len
      have hps := hx.op.parents
      rw [cabalref15_Right.l1, if_pos (by simp; omega), at_get hil]
      simp only [Option.bind_some, cut_pre (Nat.le_of_lt hil), hnext]
      rw [rpast_eq _ (by omega) ht.short _ (by omega)]
      unfold rightL
      rw [List.getElem?_eq_getElem hil]
      unfold fitB pastL
      simp only [Option.bind_some]
      generalize p[i] = x at hx hps ⊢
      generalize p.take i = t at ht htl ⊢
      cases okP t x.Op.Parents with
      | false => simp
      | true =>
        have hl : (coll (inP t x.Op.Parents) 0 t.length).length ≤ t.length := coll_len _ _ _
        simp only [if_true, Bool.not_true, beq_self_eq_true, Option.bind_some, doc_eq x.Op hx.op, Bool.true_and]
        cases rightO x.Op with
        | false => simp
        | true =>
          simp only [Bool.not_true, Bool.false_eq_true, if_false, beq_self_eq_true, if_true, Option.bind_some, rfind_eq t (by omega), Bool.true_and]
          have ef : decide (fnd x.Id 0 t ≥ 0) = !decide (fnd x.Id 0 t < 0) := by
            by_cases q : fnd x.Id 0 t < 0
            · rw [decide_eq_true q, decide_eq_false (by omega)]; rfl
            · rw [decide_eq_false q, decide_eq_true (by omega)]; rfl
          rw [ef]
          cases decide (fnd x.Id 0 t < 0) with
          | false => simp
          | true =>
            simp only [Bool.not_true, Bool.false_eq_true, if_false, beq_self_eq_true, if_true, Option.bind_some, sameints_eq _ _ (show (coll (inP t x.Op.Parents) 0 t.length).length ≤ 2000 by omega), Bool.true_and]
            cases decide (coll (inP t x.Op.Parents) 0 t.length = x.Past) with
            | false => simp
            | true =>
              simp only [Bool.not_true, Bool.false_eq_true, if_false, beq_self_eq_true, if_true, Option.bind_some, rturn_eq t (by omega) x.Op _ (show (coll (inP t x.Op.Parents) 0 t.length).length ≤ 1000 by omega), Bool.true_and]
              cases turnB t x.Op (coll (inP t x.Op.Parents) 0 t.length) with
              | false => simp
              | true => simp only [Bool.not_true, Bool.false_eq_true, if_false, Bool.true_and]; exact ih (i + 1) n (by omega) (by omega)
  unfold cabalref15_Right rightG
  by_cases c : p.length ≤ 96
  · rw [if_neg (by simp; omega), decide_eq_true c, Bool.true_and]
    have := key p.length 0 4000 (by omega) (by omega)
    rw [show ((0 : Nat) : Int) = 0 from rfl] at this
    exact this
  · rw [if_pos (by simp; omega), decide_eq_false c]; rfl


end Go.Proofs.Pure
