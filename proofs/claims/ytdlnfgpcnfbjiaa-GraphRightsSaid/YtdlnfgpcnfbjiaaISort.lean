/- Keys in order: both ways of putting them in order come to the same. No program in sight. -/
import Derived.Test.YtdlnfgpcnfbjiaaIBeh
namespace Go.Proofs.Pure
open Go Go.RowKit Go.Proofs.Kit
set_option linter.unusedVariables false

theorem cmp_tri : ∀ (a b : List Int), a.length = b.length → cmpB a b < 0 ∨ a = b ∨ cmpB b a < 0
  | [], [], _ => .inr (.inl rfl)
  | [], _ :: _, h => by simp at h
  | _ :: _, [], h => by simp at h
  | x :: a, y :: b, h => by
    unfold cmpB
    by_cases e : x = y
    · subst e
      rw [if_pos rfl, if_pos rfl]
      rcases cmp_tri a b (by simpa using h) with g | g | g
      · exact .inl g
      · exact .inr (.inl (by rw [g]))
      · exact .inr (.inr g)
    · rw [if_neg e, if_neg (fun q : y = x => e q.symm)]
      by_cases l : x < y
      · rw [if_pos l]; exact .inl (by decide)
      · rw [if_neg l, if_pos (show y < x by omega)]; exact .inr (.inr (by decide))
theorem cmp_trans : ∀ (a b c : List Int), cmpB a b < 0 → cmpB b c < 0 → cmpB a c < 0
  | [], [], _, h, _ => by simp [cmpB] at h
  | [], _ :: _, [], _, h => by simp [cmpB] at h
  | [], _ :: _, _ :: _, _, _ => by simp [cmpB]
  | _ :: _, [], _, h, _ => by simp [cmpB] at h
  | _ :: _, _ :: _, [], _, h => by simp [cmpB] at h
  | x :: a, y :: b, z :: c, h, g => by
    unfold cmpB at h g ⊢
    by_cases e : x = y
    · subst e
      rw [if_pos rfl] at h
      by_cases f : x = z
      · subst f
        rw [if_pos rfl] at g ⊢
        exact cmp_trans a b c h g
      · rw [if_neg f] at g ⊢
        exact g
    · rw [if_neg e] at h
      have l : x < y := by
        by_cases l : x < y
        · exact l
        · rw [if_neg l] at h; exact absurd h (by decide)
      by_cases f : y = z
      · subst f
        rw [if_neg e, if_pos l]; decide
      · rw [if_neg f] at g
        have l2 : y < z := by
          by_cases l2 : y < z
          · exact l2
          · rw [if_neg l2] at g; exact absurd g (by decide)
        rw [if_neg (by omega), if_pos (by omega)]; decide
theorem cmp_irr : ∀ a : List Int, ¬ cmpB a a < 0
  | [] => by simp [cmpB]
  | x :: a => by unfold cmpB; rw [if_pos rfl]; exact cmp_irr a
theorem ltK_iff {a b : List Int} : ltK a b = true ↔ cmpB a b < 0 := by unfold ltK; exact decide_eq_true_iff
theorem ltK_tri {a b : List Int} (h : a.length = b.length) (hn : a ≠ b) : ltK a b = true ∨ ltK b a = true := by
  rcases cmp_tri a b h with g | g | g
  · exact .inl (ltK_iff.2 g)
  · exact absurd g hn
  · exact .inr (ltK_iff.2 g)
theorem ltK_asym {a b : List Int} (h : ltK a b = true) : ltK b a = false := by
  rw [Bool.eq_false_iff]
  intro g
  exact cmp_irr a (cmp_trans a b a (ltK_iff.1 h) (ltK_iff.1 g))
theorem ltK_trans {a b c : List Int} (h : ltK a b = true) (g : ltK b c = true) : ltK a c = true := ltK_iff.2 (cmp_trans a b c (ltK_iff.1 h) (ltK_iff.1 g))

/-- put in from the front -/
def insB (x : List Int) : List (List Int) → List (List Int)
  | [] => [x]
  | y :: l => if ltK y x = true then y :: insB x l else x :: y :: l
/-- put in from the back: what lies before it, the last first; what lies behind it -/
def sink (x : List Int) : List (List Int) → List (List Int) → List (List Int)
  | [], suf => x :: suf
  | y :: rp, suf => if ltK x y = true then sink x rp (y :: suf) else (y :: rp).reverse ++ x :: suf
theorem sink_suf (x : List Int) (rp : List (List Int)) : ∀ suf, sink x rp suf = sink x rp [] ++ suf := by
  induction rp with
  | nil => intro suf; rfl
  | cons y rp ih =>
    intro suf
    unfold sink
    by_cases h : ltK x y = true
    · rw [if_pos h, if_pos h, ih (y :: suf), ih [y]]; simp
    · rw [if_neg h, if_neg h]; simp
theorem insB_end (x y : List Int) (h : ltK y x = false) (l : List (List Int)) : insB x (l ++ [y]) = insB x l ++ [y] := by
  induction l with
  | nil => simp [insB, h]
  | cons z l ih =>
    rw [List.cons_append]
    unfold insB
    by_cases g : ltK z x = true
    · rw [if_pos g, if_pos g, ih]; rfl
    · rw [if_neg g, if_neg g]; rfl
theorem insB_all (x : List Int) (l : List (List Int)) (h : ∀ z ∈ l, ltK z x = true) : insB x l = l ++ [x] := by
  induction l with
  | nil => rfl
  | cons z l ih => unfold insB; rw [if_pos (h z (by simp)), ih (fun w hw => h w (by simp [hw]))]; rfl
def Sorted (l : List (List Int)) : Prop := l.Pairwise (fun a b => ltK a b = true)
/-- both ways -/
theorem sink_insB (x : List Int) (hx : x.length = 32) (r : List (List Int)) : Sorted r.reverse → (∀ z ∈ r, z.length = 32) → x ∉ r → sink x r [] = insB x r.reverse := by
  induction r with
  | nil => intro _ _ _; rfl
  | cons y r ih =>
    intro hs hl hn
    rw [List.reverse_cons] at hs ⊢
    have hs2 : Sorted r.reverse := (List.pairwise_append.1 hs).1
    have hle : ∀ z ∈ r, ltK z y = true := fun z hz => (List.pairwise_append.1 hs).2.2 z (by simpa using hz) y (by simp)
    unfold sink
    by_cases h : ltK x y = true
    · rw [if_pos h, sink_suf, ih hs2 (fun z hz => hl z (by simp [hz])) (fun q => hn (by simp [q])), insB_end _ _ (ltK_asym h)]
    · rw [if_neg h]
      have hy : ltK y x = true := by
        rcases ltK_tri (a := x) (b := y) (by rw [hx, hl y (by simp)]) (fun e => hn (by simp [e])) with g | g
        · exact absurd g h
        · exact g
      rw [insB_all x (r.reverse ++ [y]) (fun z hz => by
        rcases List.mem_append.1 hz with q | q
        · exact ltK_trans (hle z (by simpa using q)) hy
        · simp at q; rw [q]; exact hy)]
      simp
theorem insB_mem (x : List Int) (l : List (List Int)) (z : List Int) : z ∈ insB x l ↔ z = x ∨ z ∈ l := by
  induction l with
  | nil => simp [insB]
  | cons y l ih =>
    unfold insB
    by_cases h : ltK y x = true
    · rw [if_pos h]; simp only [List.mem_cons, ih]; grind
    · rw [if_neg h]; simp only [List.mem_cons]
theorem insB_len (x : List Int) (l : List (List Int)) : (insB x l).length = l.length + 1 := by
  induction l with
  | nil => rfl
  | cons y l ih =>
    unfold insB
    split
    · rw [List.length_cons, ih, List.length_cons]
    · simp
theorem insB_sorted (x : List Int) (hx : x.length = 32) (l : List (List Int)) : Sorted l → (∀ z ∈ l, z.length = 32) → x ∉ l → Sorted (insB x l) := by
  induction l with
  | nil => intro _ _ _; exact List.pairwise_singleton _ _
  | cons y l ih =>
    intro hs hl hn
    obtain ⟨h1, h2⟩ := List.pairwise_cons.1 hs
    unfold insB
    by_cases h : ltK y x = true
    · rw [if_pos h]
      refine List.pairwise_cons.2 ⟨fun z hz => ?_, ih h2 (fun z hz => hl z (by simp [hz])) (fun q => hn (by simp [q]))⟩
      rcases (insB_mem x l z).1 hz with e | e
      · rw [e]; exact h
      · exact h1 z e
    · rw [if_neg h]
      have hy : ltK x y = true := by
        rcases ltK_tri (a := x) (b := y) (by rw [hx, hl y (by simp)]) (fun e => hn (by simp [e])) with g | g
        · exact g
        · exact absurd g h
      refine List.pairwise_cons.2 ⟨fun z hz => ?_, hs⟩
      rcases List.mem_cons.1 hz with e | e
      · rw [e]; exact hy
      · exact ltK_trans hy (h1 z e)
/-- all put in, one behind the other -/
def putAll : List (List Int) → List (List Int) → List (List Int)
  | S, [] => S
  | S, x :: l => putAll (insB x S) l

theorem heads1_eq (a b : List Int) (ha : a.length = 32) (hb : b.length = 32) (k : Nat) : ∃ c, graph_Heads_1 k a b = some c ∧ decide (c < 0) = ltK a b := by
  refine ⟨cmpB a b, ?_, rfl⟩
  unfold graph_Heads_1
  simp [cut32k ha, cut32k hb, bytes_Compare]
theorem sort_l2 (k : Nat) (y1 : Int) (L : Int → List (List Int) → Option (List (List Int))) (x : List Int) (hx : x.length = 32) : ∀ (rp suf : List (List Int)) (n : Nat), (∀ z ∈ rp, z.length = 32) → rp.length ≤ 1000 → rp.length < n →
    slices_insertionSortCmpFunc_api_Key_graph_Heads_1.l2 k 0 y1 L n (rp.length : Int) (rp.reverse ++ x :: suf) = L (iadd .i64 y1 1) (sink x rp suf) := by
  intro rp
  induction rp with
  | nil =>
    intro suf n hz hl hn
    obtain ⟨n, rfl⟩ : ∃ q, n = q + 1 := ⟨n - 1, by omega⟩
    rw [slices_insertionSortCmpFunc_api_Key_graph_Heads_1.l2]
    simp [slices_insertionSortCmpFunc_api_Key_graph_Heads_1.j1, sink]
  | cons y rp ih =>
    intro suf n hz hl hn
    rw [List.length_cons] at hl hn
    obtain ⟨n, rfl⟩ : ∃ q, n = q + 1 := ⟨n - 1, by omega⟩
    have hy := hz y (by simp)
    have ej : ((y :: rp).length : Int) = ((rp.length + 1 : Nat) : Int) := by simp
    have e1 : isub .i64 ((rp.length + 1 : Nat) : Int) 1 = (rp.length : Int) := by rw [sub64 (by omega)]; omega
    have ed : (y :: rp).reverse ++ x :: suf = rp.reverse ++ y :: x :: suf := by simp
    have hlen : (rp.reverse ++ y :: x :: suf).length = rp.length + (suf.length + 2) := by simp
    have a0 : at? (rp.reverse ++ y :: x :: suf) (rp.length : Int) = some y := by rw [at_get (by omega)]; simp
    have a1 : at? (rp.reverse ++ y :: x :: suf) ((rp.length + 1 : Nat) : Int) = some x := by rw [at_get (by omega)]; simp
    have d0 : decide (((rp.length + 1 : Nat) : Int) > 0) = true := decide_eq_true (by omega)
    obtain ⟨c, c1, c2⟩ := heads1_eq x y hx hy k
    have b1 : (0 : Int) ≤ ((rp.length + 1 : Nat) : Int) ∧ ((rp.length + 1 : Nat) : Int) < ((rp.reverse ++ y :: x :: suf).length : Int) := by omega
    have b0 : (0 : Int) ≤ (rp.length : Int) ∧ (rp.length : Int) < ((rp.reverse ++ y :: x :: suf).length : Int) := by omega
    rw [ej, ed, slices_insertionSortCmpFunc_api_Key_graph_Heads_1.l2, e1, d0]
    rw [if_pos (fun _ => b1)]
    simp only [beq_self_eq_true, if_true, a1, Option.bind_some, a0]
    rw [if_pos (fun _ => b0), c1]
    simp only [Option.bind_some, c2]
    unfold sink
    by_cases h : ltK x y = true
    · have s1 : set? (rp.reverse ++ y :: x :: suf) ((rp.length + 1 : Nat) : Int) y = some (rp.reverse ++ y :: y :: suf) := by
        unfold set?
        rw [if_pos b1, Int.toNat_natCast, List.set_append_right _ _ (by simp)]
        simp
      have b2 : (0 : Int) ≤ (rp.length : Int) ∧ (rp.length : Int) < ((rp.reverse ++ y :: y :: suf).length : Int) := by simp; omega
      have s2 : set? (rp.reverse ++ y :: y :: suf) (rp.length : Int) x = some (rp.reverse ++ x :: y :: suf) := by
        unfold set?
        rw [if_pos b2, Int.toNat_natCast, List.set_append_right _ _ (by simp)]
        simp
      rw [if_pos h, if_pos h, if_pos b0, if_pos b1]
      rw [if_pos b1, s1]
      simp only [Option.bind_some]
      rw [if_pos b2, s2]
      simp only [Option.bind_some]
      exact ih (y :: suf) n (fun z hz2 => hz z (by simp [hz2])) (by omega) (by omega)
    · rw [if_neg h, if_neg h, slices_insertionSortCmpFunc_api_Key_graph_Heads_1.j1, ed]
theorem sort_l1 (k : Nat) (hk : 1001 ≤ k) : ∀ (l S : List (List Int)) (n : Nat), S ≠ [] → S.length + l.length ≤ 1000 → l.length < n → Sorted S → (∀ z ∈ S, z.length = 32) → (∀ z ∈ l, z.length = 32) → l.Nodup → (∀ z ∈ l, z ∉ S) →
    slices_insertionSortCmpFunc_api_Key_graph_Heads_1.l1 k ((S.length + l.length : Nat) : Int) 0 n (S.length : Int) (S ++ l) = some (putAll S l) := by
  intro l
  induction l with
  | nil =>
    intro S n h0 hn hm hs h1 h2 h3 h4
    obtain ⟨n, rfl⟩ : ∃ q, n = q + 1 := ⟨n - 1, by simp at hm; omega⟩
    rw [slices_insertionSortCmpFunc_api_Key_graph_Heads_1.l1, if_neg (by simp)]
    simp [putAll]
  | cons x l ih =>
    intro S n h0 hn hm hs h1 h2 h3 h4
    rw [List.length_cons] at hn hm
    obtain ⟨n, rfl⟩ : ∃ q, n = q + 1 := ⟨n - 1, by omega⟩
    have hx := h2 x (by simp)
    have hxS := h4 x (by simp)
    rw [slices_insertionSortCmpFunc_api_Key_graph_Heads_1.l1, if_pos (by simp; omega)]
    have t := sort_l2 k (S.length : Int) (slices_insertionSortCmpFunc_api_Key_graph_Heads_1.l1 k ((S.length + (x :: l).length : Nat) : Int) 0 n) x hx S.reverse l k (fun z hz => h1 z (by simpa using hz)) (by simp; omega) (by simp; omega)
    rw [List.length_reverse, List.reverse_reverse] at t
    rw [t, sink_suf, sink_insB x hx S.reverse (by rw [List.reverse_reverse]; exact hs) (fun z hz => h1 z (by simpa using hz)) (by simpa using hxS), List.reverse_reverse]
    have el := insB_len x S
    have e1 : iadd .i64 (S.length : Int) 1 = ((insB x S).length : Int) := by rw [add64 (by omega), el]; omega
    have e2 : ((S.length + (x :: l).length : Nat) : Int) = (((insB x S).length + l.length : Nat) : Int) := by rw [el, List.length_cons]; omega
    rw [e1, e2]
    obtain ⟨n1, n2⟩ := List.nodup_cons.1 h3
    refine ih (insB x S) n (fun e => by rw [e] at el; simp at el) (by rw [el]; omega) (by omega) (insB_sorted x hx S hs h1 hxS) (fun z hz => ?_) (fun z hz => h2 z (by simp [hz])) n2 (fun z hz q => ?_)
    · rcases (insB_mem x S z).1 hz with e | e
      · rw [e]; exact hx
      · exact h1 z e
    · rcases (insB_mem x S z).1 q with e | e
      · rw [e] at hz; exact n1 hz
      · exact h4 z (by simp [hz]) e
theorem isort_eq (k : Nat) (hk : 1001 ≤ k) (l : List (List Int)) (hl : l.length ≤ 500) (h2 : ∀ z ∈ l, z.length = 32) (h3 : l.Nodup) : slices_insertionSortCmpFunc_api_Key_graph_Heads_1 k l 0 (l.length : Int) = some (putAll [] l) := by
  unfold slices_insertionSortCmpFunc_api_Key_graph_Heads_1
  have e1 : iadd .i64 0 1 = 1 := by decide
  rw [e1]
  cases l with
  | nil =>
    obtain ⟨n, rfl⟩ : ∃ q, k = q + 1 := ⟨k - 1, by omega⟩
    rw [slices_insertionSortCmpFunc_api_Key_graph_Heads_1.l1, if_neg (by simp)]; rfl
  | cons x l =>
    obtain ⟨n1, n2⟩ := List.nodup_cons.1 h3
    rw [List.length_cons] at hl
    have := sort_l1 k hk l [x] k (by simp) (by simp; omega) (by omega) (List.pairwise_singleton _ _) (fun z hz => by simp at hz; rw [hz]; exact h2 x (by simp)) (fun z hz => h2 z (by simp [hz])) n2 (fun z hz q => by simp at q; rw [q] at hz; exact n1 hz)
    have e2 : (([x].length + l.length : Nat) : Int) = ((x :: l).length : Int) := by simp; omega
    rw [e2] at this
    exact this
theorem len_some : ∀ n : Fin 13, (math_bits_Len 4000 (IntKind.wrap .u64 (n.val : Int))).isSome = true := by decide +kernel
theorem sortf_eq (l : List (List Int)) (hl : l.length ≤ 12) (h2 : ∀ z ∈ l, z.length = 32) (h3 : l.Nodup) : slices_SortFunc_api_Key_api_Key_graph_Heads_1 4000 l = some (putAll [] l) := by
  unfold slices_SortFunc_api_Key_api_Key_graph_Heads_1
  have hs := len_some ⟨l.length, by omega⟩
  cases hv : math_bits_Len 4000 (IntKind.wrap .u64 (l.length : Int)) with
  | none => rw [hv] at hs; cases hs
  | some v =>
    simp only [Option.bind_some]
    have e : slices_pdqsortCmpFunc_api_Key_graph_Heads_1 4000 l 0 (l.length : Int) v = some (putAll [] l) := by
      show slices_pdqsortCmpFunc_api_Key_graph_Heads_1.l1 4000 (l.length : Int) 0 l v (3999 + 1) = _
      rw [slices_pdqsortCmpFunc_api_Key_graph_Heads_1.l1, if_pos (decide_eq_true (by rw [sub64 (by omega)]; omega)), isort_eq 4000 (by omega) l (by omega) h2 h3]
      rfl
    rw [e]
    rfl


end Go.Proofs.Pure
