/- A kit of this claim's own, part 20: regions that draw their order and turn what is owned, one turn behind the other. No condition. -/
import Derived.Test.YtdlnfgpcnfbjiaaKx19
namespace Go.Proofs.Kit
open Go Go.RowKit
set_option linter.unusedSimpArgs false
set_option linter.unusedVariables false

/-- what is asked of the operations that are not skipped -/
def OpsOkS (P : Program) (C : Ctx) (B : List OF) (E : Env) (ops : List Oper) (Fs : List Fact) (bits : List Nat) (skip : Nat) : Nat → List Oper → Prop
  | _, [] => True
  | i, o :: r => (skip.testBit i = true ∨ OpOk P C B E ops Fs bits i o) ∧ OpsOkS P C B E ops Fs bits skip (i + 1) r

section
variable {P : Program} {C : Ctx} {B : List OF} {E : Env} {ops : List Oper} {Fs : List Fact} {bits : List Nat} {m skip todo : Nat} {Q : Exit → Act → World → Prop} {a : Act} {w : World} {D : Array Bool}

theorem opsS_nil {i : Nat} : OpsOkS P C B E ops Fs bits skip i [] := trivial
theorem opsS_skip {i : Nat} {o : Oper} {r : List Oper} (h : skip.testBit i = true) (t : OpsOkS P C B E ops Fs bits skip (i + 1) r) : OpsOkS P C B E ops Fs bits skip i (o :: r) := ⟨.inl h, t⟩
theorem opsS_cons {i : Nat} {o : Oper} {r : List Oper} (h : OpOk P C B E ops Fs bits i o) (t : OpsOkS P C B E ops Fs bits skip (i + 1) r) : OpsOkS P C B E ops Fs bits skip i (o :: r) := ⟨.inr h, t⟩
theorem OpsOkS.get : ∀ (l : List Oper) (k : Nat), OpsOkS P C B E ops Fs bits skip k l → ∀ i o, l[i]? = some o → skip.testBit (k + i) = true ∨ OpOk P C B E ops Fs bits (k + i) o
  | [], _, _, i, o, ho => by simp at ho
  | x :: l, k, ⟨h1, h2⟩, i, o, ho => by
    cases i with
    | zero => simp at ho; subst ho; exact h1
    | succ i => have := OpsOkS.get l (k + 1) h2 i o (by simpa using ho); rwa [show k + 1 + i = k + (i + 1) by omega] at this

/-- from whatever has been done in this stage on, all goes well -/
def Goes (P : Program) (C : Ctx) (B : List OF) (E : Env) (ops : List Oper) (Fs : List Fact) (bits : List Nat) (m skip todo : Nat) (Q : Exit → Act → World → Prop) : Prop :=
  ∀ (k : Nat) (D : Array Bool) (a : Act) (w : World), D.toList.count false = k → D.size = ops.length → Closed ops D → Mid C B E ops Fs D a w → (∀ i, m ≤ i → D.getD i false = false) →
    (∀ i, i < m → skip.testBit i = true → D.getD i false = true) → (∀ i, todo.testBit i = true → D.getD i false = false) → wpAny P .any ops.toArray Q k D a w

theorem ready_first (c : Chk ops bits m) (hD : D.size = ops.length) {i₀ : Nat} (hi₀ : i₀ < m) (hni₀ : D.getD i₀ false = false) : Region.ready .any ops.toArray D ≠ [] := fun hn => by
  have key : ∀ i, i < m → D.getD i false = true := by
    intro i
    induction i using Nat.strongRecOn with
    | _ i ihi =>
      intro him
      cases hx : D.getD i false with
      | true => rfl
      | false =>
        have hil : i < ops.length := Nat.lt_of_lt_of_le him c.le
        have h5 : i < D.size := by omega
        have : i ∈ Region.ready .any ops.toArray D := by
          refine ready_mem.2 ⟨by simpa using hil, by simp [h5] at hx ⊢; exact hx, fun o ho e he hb => ?_⟩
          have h8 := c.back i o (by simpa using ho) e he hb
          exact ihi e.on h8 (by omega)
        rw [hn] at this; cases this
  rw [key i₀ hi₀] at hni₀; cases hni₀

theorem ready_in (c : Chk ops bits m) (hc : Closed ops D) {i i₀ : Nat} (hi : i ∈ Region.ready .any ops.toArray D) (hi₀ : i₀ < m) (hni₀ : D.getD i₀ false = false) : i < m := by
  obtain ⟨h1, h2, h3⟩ := ready_mem.1 hi
  have hil : i < ops.length := by simpa using h1
  obtain ⟨o, ho⟩ : ∃ o, ops[i]? = some o := ⟨_, List.getElem?_eq_getElem hil⟩
  rcases Nat.lt_or_ge i m with h6 | h6
  · exact h6
  · exfalso
    have := done_of_anc c hc i o i₀ ho (h3 o (by simpa using ho)) (by have := c.le; omega) (c.tail i hil h6 i₀ (by omega))
    rw [this] at hni₀; cases hni₀

theorem closed_set {i : Nat} {o : Oper} (hc : Closed ops D) (hD : D.size = ops.length) (ho : ops[i]? = some o) (hr : ∀ e, e ∈ o.after → Region.binds .any e = true → D.getD e.on false = true) : Closed ops (D.setIfInBounds i true) := by
  have h5 : i < D.size := by rw [hD]; exact (List.getElem?_eq_some_iff.1 ho).1
  intro j oj hoj hj e he hb
  by_cases e2 : i = j
  · subst e2
    rw [ho] at hoj; cases hoj
    rw [getD_set_true D i _ false h5]
    split
    · rfl
    · exact hr e he hb
  · rw [getD_set_true D i _ false h5, if_neg e2] at hj
    rw [getD_set_true D i _ false h5]
    split
    · rfl
    · exact hc j oj hoj hj e he hb

/-- one operation that turns nothing is carried out -/
theorem one_step (c : Chk ops bits m) (hN : ∀ i d, Dst ops i = some d → d < C.N) {i : Nat} {o : Oper} (ho : ops[i]? = some o) (him : i < m) (hok : OpOk P C B E ops Fs bits i o) {k : Nat} (hk : D.toList.count false = k + 1) (hD : D.size = ops.length) (hc : Closed ops D) (h : Mid C B E ops Fs D a w)
    (hi : i ∈ Region.ready .any ops.toArray D)
    (ih : ∀ a' w', (D.setIfInBounds i true).toList.count false = k → Closed ops (D.setIfInBounds i true) → Mid C B E ops Fs (D.setIfInBounds i true) a' w' → wpAny P .any ops.toArray Q k (D.setIfInBounds i true) a' w') :
    wpOp P ops.toArray Q i (fun a' w' => wpAny P .any ops.toArray Q k (D.setIfInBounds i true) a' w') a w := by
  obtain ⟨h1, h2, h3⟩ := ready_mem.1 hi
  have hil : i < ops.length := by simpa using h1
  have h5 : i < D.size := by omega
  have hNo : ∀ d, o.dst = some d → d < C.N := fun d hd => hN i d (by unfold Dst; rw [ho]; exact hd)
  have next : ∀ {F : Fact} {v : Value} {w' : World}, Fs[i]? = some F → F.holds (okB C (idsOf B)) w' v → Ev [] w w' → wpAny P .any ops.toArray Q k (D.setIfInBounds i true) (a.put o.dst v) w' := fun {F v w'} hF hv e => by
    refine ih _ _ ?_ (closed_set hc hD ho (h3 o (by simpa using ho))) (h.step c hD ho hNo h2 hF hv e)
    have := count_set h5 h2; omega
  unfold wpOp
  rw [show ops.toArray[i]? = some o by simpa using ho]
  simp only []
  cases hok with
  | plain E' av hg hF ob =>
    have hst := h.at c hc hD hi ho av
    rw [if_pos (by simp [Region.wanted, hg])]
    exact .inl ((ob a w hst).wp fun v w' ⟨hv, e⟩ => next hF hv e)
  | guarded E' av hg hj htE hF ob =>
    have hst := h.at c hc hD hi ho av
    rw [wanted_guard hst hg (by simpa [Dst] using hj) htE]
    split
    · rename_i hb
      exact .inl ((ob hb a w hst).wp fun v w' ⟨hv, e⟩ => next hF ⟨fun _ => hv, fun hb' => by rw [hb] at hb'; cases hb'⟩ e)
    · rename_i hb
      exact next hF ⟨fun hb' => absurd hb' hb, fun _ => rfl⟩ (.refl _ _)
  | guarded2 E' av hg hj htE hF ob =>
    have hst := h.at c hc hD hi ho av
    rw [wanted_guard2 hst hg (by simpa [Dst] using hj) htE]
    split
    · rename_i hb
      exact .inl ((ob hb a w hst).wp fun v w' ⟨hv, e⟩ => next hF ⟨fun _ => hv, fun hb' => by rw [hb] at hb'; cases hb'⟩ e)
    · rename_i hb
      exact next hF ⟨fun hb' => absurd hb' hb, fun _ => rfl⟩ (.refl _ _)

/-- the last stage: nothing is turned any more but in the tail -/
theorem goes_end (c : Chk ops bits m) (hN : ∀ i d, Dst ops i = some d → d < C.N) (ok : OpsOkS P C B E ops Fs bits skip 0 (ops.take m))
    (K : ∀ a' w', St C B [] a' w' → (∀ t F, get E t = some F → (∀ i, i < m → Dst ops i ≠ some t) → F.holds (okB C (idsOf B)) w' (sl a' t)) → (∀ i d F, i < m → Dst ops i = some d → Fs[i]? = some F → F.holds (okB C (idsOf B)) w' (sl a' d)) → wpList P ops.toArray Q (ops.drop m) a' w') :
    Goes P C B E ops Fs bits m skip 0 Q := by
  intro k
  induction k with
  | zero =>
    intro D a w hk hD hc h ht hs _
    have all : ∀ i, i < ops.length → D.getD i false = true := by
      intro i hi
      have hi' : i < D.toList.length := by simpa [hD] using hi
      have := List.count_eq_zero.1 hk
      cases hx : D.toList[i] with
      | false => exact absurd (hx ▸ List.getElem_mem hi') this
      | true => have h5 : i < D.size := by omega
                simpa [h5] using hx
    have hm : m = ops.length := by
      rcases Nat.lt_or_ge m ops.length with h1 | h1
      · have := ht m (Nat.le_refl _); rw [all m h1] at this; cases this
      · exact Nat.le_antisymm c.le h1
    refine seq_tail c 0 m D a w (by omega) (Nat.le_refl _) hD (fun i hi => ?_) (K a w h.st (fun t F ht hn => h.old t F ht (fun i hi => ?_)) (fun i d F hi => h.new i d F (all i (by omega))))
    · rw [all i hi]; simp; omega
    · refine hn i ?_
      rcases Nat.lt_or_ge i D.size with h4 | h4
      · omega
      · rw [Array.getD_eq_getD_getElem?, Array.getElem?_eq_none h4] at hi; cases hi
  | succ k ih =>
    intro D a w hk hD hc h ht hs h0
    by_cases hall : ∀ i, i < m → D.getD i false = true
    · have hcnt : k + 1 = ops.length - m := by
        have e : D.toList = List.replicate m true ++ List.replicate (ops.length - m) false := by
          refine List.ext_getElem (by simp [hD]; have := c.le; omega) (fun i h1 h2 => ?_)
          have h5 : i < D.size := by simpa using h1
          rcases Nat.lt_or_ge i m with h6 | h6
          · have := hall i h6
            rw [List.getElem_append_left (by simpa using h6)]
            simpa [h5] using this
          · have := ht i h6
            rw [List.getElem_append_right (by simpa using h6)]
            simpa [h5] using this
        rw [e, List.count_append] at hk
        simp [List.count_replicate] at hk
        omega
      refine seq_tail c (k + 1) m D a w (by have := c.le; omega) (Nat.le_refl _) hD (fun i hi => ?_) (K a w h.st (fun t F ht' hn => h.old t F ht' (fun i hi => ?_)) (fun i d F hi => h.new i d F (hall i hi)))
      · rcases Nat.lt_or_ge i m with h6 | h6
        · rw [hall i h6]; simp [h6]
        · rw [ht i h6]; simp; omega
      · refine hn i ?_
        rcases Nat.lt_or_ge i m with h6 | h6
        · exact h6
        · rw [ht i h6] at hi; cases hi
    · obtain ⟨i₀, hi₀, hni₀⟩ : ∃ i, i < m ∧ D.getD i false = false := by
        refine Classical.byContradiction fun hne => hall fun i hi => ?_
        cases hx : D.getD i false with
        | true => rfl
        | false => exact absurd ⟨i, hi, hx⟩ hne
      refine ⟨fun hn => absurd hn (ready_first c hD hi₀ hni₀), fun i hi => ?_⟩
      obtain ⟨h1, h2, h3⟩ := ready_mem.1 hi
      have hil : i < ops.length := by simpa using h1
      have h5 : i < D.size := by omega
      obtain ⟨o, ho⟩ : ∃ o, ops[i]? = some o := ⟨_, List.getElem?_eq_getElem hil⟩
      have him := ready_in c hc hi hi₀ hni₀
      have hok : OpOk P C B E ops Fs bits i o := by
        rcases OpsOkS.get _ _ ok i o (by rw [List.getElem?_take_of_lt him]; exact ho) with h7 | h7
        · rw [Nat.zero_add] at h7
          have := hs i him h7
          simp [h5] at this h2; rw [this] at h2; cases h2
        · rwa [Nat.zero_add] at h7
      refine one_step c hN ho him hok hk hD hc h hi fun a' w' hk' hc' h' => ih _ _ _ hk' (by simpa using hD) hc' h' (fun j hj => ?_) (fun j hj hsj => ?_) (fun j hj => by simp at hj)
      · rw [getD_set_true D i _ false h5, if_neg (by omega)]; exact ht j hj
      · rw [getD_set_true D i _ false h5]; split
        · rfl
        · exact hs j hj hsj

/-- an operation of such a region that turns what is owned -/
inductive OpOkX (P : Program) (C : Ctx) (B : List OF) (E : Env) (ops : List Oper) (Fs : List Fact) (bits : List Nat) (x : Nat) (o : Oper) {γ : Type} (B' : γ → List OF) (Fs' : γ → List Fact) : Prop
  | plain {F : γ → Fact} (E' : Env) (av : Av E ops Fs bits x E') (hg : o.guard = none) (hF : ∀ g, (Fs' g)[x]? = some (F g)) (ob : ∀ R, ObX P C B (E' ++ R) o B' F)
  | guarded {F : γ → Fact} {j : Nat} {want b : Bool} {t : Tmp} (E' : Env) (av : Av E ops Fs bits x E') (hg : o.guard = some (j, want)) (hj : Dst ops j = some t) (ht : get E' t = some (kbool.V b))
      (hF : ∀ g, (Fs' g)[x]? = some ((F g).when (b == want))) (ob : (b == want) = true → ∀ R, ObX P C B (E' ++ R) o B' F) (hn : (b == want) = false → ∃ g, B' g = B)
  | guarded2 {F : γ → Fact} {j : Nat} {want b c : Bool} {t : Tmp} (E' : Env) (av : Av E ops Fs bits x E') (hg : o.guard = some (j, want)) (hj : Dst ops j = some t) (ht : get E' t = some ((kbool.V b).when c))
      (hF : ∀ g, (Fs' g)[x]? = some ((F g).when (c && (b == want)))) (ob : (c && (b == want)) = true → ∀ R, ObX P C B (E' ++ R) o B' F) (hn : (c && (b == want)) = false → ∃ g, B' g = B)

theorem Mid.stepX {i : Nat} {o : Oper} {F : Fact} {w' : World} {v : Value} {B2 : List OF} {Fs2 : List Fact} (c : Chk ops bits m) (h : Mid C B E ops Fs D a w) (hD : D.size = ops.length) (ho : ops[i]? = some o) (hN : ∀ d, o.dst = some d → d < C.N) (hni : D.getD i true = false)
    (hF : Fs2[i]? = some F) (hsame : ∀ j, j ≠ i → D.getD j false = true → Fs2[j]? = Fs[j]?) (hv : F.holds (okB C (idsOf B2)) w' v) (hst : St C B2 [] a w') (kp : Keep (okB C (idsOf B)) (okB C (idsOf B2)) w w') :
    Mid C B2 E ops Fs2 (D.setIfInBounds i true) (a.put o.dst v) w' := by
  have hi : i < ops.length := (List.getElem?_eq_some_iff.1 ho).1
  have hdi : Dst ops i = o.dst := by unfold Dst; rw [ho]; rfl
  have hold := h.old
  have hD' : ∀ j, j ≠ i → (D.setIfInBounds i true).getD j false = D.getD j false := fun j hj => by rw [getD_set_true D i j false (by omega), if_neg (Ne.symm hj)]
  have hnot : ∀ j d, D.getD j false = true → Dst ops j = some d → o.dst ≠ some d := by
    intro j d hj hjd hod
    have hjl : j < ops.length := by
      unfold Dst at hjd
      rcases Nat.lt_or_ge j ops.length with h4 | h4
      · exact h4
      · rw [List.getElem?_eq_none h4] at hjd; cases hjd
    have := c.once i j d hi hjl (by rw [hdi]; exact hod) hjd
    subst this
    have h5 : i < D.size := by omega
    simp [h5] at hj hni
    rw [hj] at hni; cases hni
  refine { st := ?_, old := ?_, new := ?_ }
  · cases hd : o.dst with
    | none => exact hst
    | some d => exact (hst.put (hN d hd) (F := nofact) trivial).sub Sub.nil
  · intro t G ht hdone
    have h1 := hold t G ht (fun j hj hjd => hdone j (by
      by_cases e2 : j = i
      · subst e2; rw [getD_set_true D j j false (by omega), if_pos rfl]
      · rw [hD' j e2]; exact hj) hjd)
    have h2 := G.mono h1 kp
    cases hd : o.dst with
    | none => exact h2
    | some d =>
      have hne : d ≠ t := by
        intro e2; subst e2
        exact hdone i (by rw [getD_set_true D i i false (by omega), if_pos rfl]) (by rw [hdi]; exact hd)
      rw [sl_put_ne a v hne]; exact h2
  · intro j d G hj hjd hG
    by_cases e2 : j = i
    · subst e2
      rw [hF] at hG; cases hG
      have hd : o.dst = some d := by rw [← hdi]; exact hjd
      rw [hd, sl_put a d d v (by rw [hst.size]; exact hN d hd), if_pos rfl]; exact hv
    · rw [hD' j e2] at hj
      rw [hsame j e2 hj] at hG
      have h1 := G.mono (h.new j d G hj hjd hG) kp
      cases hd : o.dst with
      | none => exact h1
      | some d' =>
        have hne : d' ≠ d := fun e3 => hnot j d hj hjd (by rw [hd, e3])
        rw [sl_put_ne a v hne]; exact h1

/-- which operations may be carried out ahead of x: neither x nor those behind it -/
def aheadOf (bits : List Nat) (m x skip skx todo skip2 todo2 : Nat) : Bool :=
  ((List.range m).all fun i => !(skx.testBit i) || skip.testBit i || i == x || (bits.getD i 0).testBit x) &&
  ((List.range m).all fun i => !(skip2.testBit i) || skip.testBit i || i == x || (bits.getD x 0).testBit i) &&
  ((List.range (m + m)).all fun i => !(todo.testBit i) || i == x || (bits.getD i 0).testBit x) &&
  decide (x < m) && todo.testBit x && decide (todo < 2 ^ m) && ((List.range (m + m)).all fun i => !(todo2.testBit i) || (todo.testBit i && !(i == x))) && decide (todo2 < 2 ^ m)

theorem goes_x {γ : Type} {B' : γ → List OF} {Fs' : γ → List Fact} {x skx skip2 todo2 : Nat} {ox : Oper} (c : Chk ops bits m) (hN : ∀ i d, Dst ops i = some d → d < C.N) (hox : ops[x]? = some ox) (hA : aheadOf bits m x skip skx todo skip2 todo2 = true)
    (ok : OpsOkS P C B E ops Fs bits skx 0 (ops.take m)) (okx : OpOkX P C B E ops Fs bits x ox B' Fs') (hsame : ∀ g j, j ≠ x → (bits.getD j 0).testBit x = false → (Fs' g)[j]? = Fs[j]?)
    (next : ∀ g, Goes P C (B' g) E ops (Fs' g) bits m skip2 todo2 Q) : Goes P C B E ops Fs bits m skip todo Q := by
  simp only [aheadOf, Bool.and_eq_true, decide_eq_true_eq] at hA
  obtain ⟨⟨⟨⟨⟨⟨⟨a1, a2⟩, a3⟩, hxm⟩, htx⟩, htb⟩, a4⟩, htb2⟩ := hA
  have bnd : ∀ {t i : Nat}, t < 2 ^ m → t.testBit i = true → i < m := fun {t i} h1 h2 => by
    rcases Nat.lt_or_ge i m with h3 | h3
    · exact h3
    · rw [Nat.testBit_lt_two_pow (Nat.lt_of_lt_of_le h1 (Nat.pow_le_pow_right (by decide) h3))] at h2; cases h2
  have s1 : ∀ i, i < m → skx.testBit i = true → skip.testBit i = true ∨ i = x ∨ (bits.getD i 0).testBit x = true := fun i hi h => by
    have := List.all_eq_true.1 a1 i (List.mem_range.2 hi)
    rw [h] at this
    simpa [or_assoc] using this
  have s2 : ∀ i, i < m → skip2.testBit i = true → skip.testBit i = true ∨ i = x ∨ (bits.getD x 0).testBit i = true := fun i hi h => by
    have := List.all_eq_true.1 a2 i (List.mem_range.2 hi)
    rw [h] at this
    simpa [or_assoc] using this
  have s3 : ∀ i, todo.testBit i = true → i = x ∨ (bits.getD i 0).testBit x = true := fun i h => by
    have := List.all_eq_true.1 a3 i (List.mem_range.2 (by have := bnd htb h; omega))
    rw [h] at this
    simpa using this
  have s4 : ∀ i, todo2.testBit i = true → todo.testBit i = true ∧ i ≠ x := fun i h => by
    have := List.all_eq_true.1 a4 i (List.mem_range.2 (by have := bnd htb2 h; omega))
    rw [h] at this
    simpa using this
  have hxl : x < ops.length := Nat.lt_of_lt_of_le hxm c.le
  intro k
  induction k with
  | zero =>
    intro D a w hk hD hc h ht hs htd
    exfalso
    have hx0 := htd x htx
    have hi' : x < D.toList.length := by simpa [hD] using hxl
    have := List.count_eq_zero.1 hk
    have h5 : x < D.size := by omega
    have : D.toList[x] = false := by simpa [h5] using hx0
    exact absurd (this ▸ List.getElem_mem hi') (List.count_eq_zero.1 hk)
  | succ k ih =>
    intro D a w hk hD hc h ht hs htd
    have hx0 := htd x htx
    have notbehind : ∀ j, D.getD j false = true → (bits.getD j 0).testBit x = false := fun j hj => by
      cases hq : (bits.getD j 0).testBit x with
      | false => rfl
      | true =>
        have hjl : j < ops.length := by
          rcases Nat.lt_or_ge j D.size with h4 | h4
          · omega
          · rw [Array.getD_eq_getD_getElem?, Array.getElem?_eq_none h4] at hj; cases hj
        obtain ⟨oj, hoj⟩ : ∃ oj, ops[j]? = some oj := ⟨_, List.getElem?_eq_getElem hjl⟩
        have := done_of_anc c hc j oj x hoj (hc j oj hoj hj) hxl hq
        rw [this] at hx0; cases hx0
    refine ⟨fun hn => absurd hn (ready_first c hD hxm hx0), fun i hi => ?_⟩
    obtain ⟨h1, h2, h3⟩ := ready_mem.1 hi
    have hil : i < ops.length := by simpa using h1
    have h5 : i < D.size := by omega
    obtain ⟨o, ho⟩ : ∃ o, ops[i]? = some o := ⟨_, List.getElem?_eq_getElem hil⟩
    have him := ready_in c hc hi hxm hx0
    have hnx : (bits.getD i 0).testBit x = false := by
      cases hq : (bits.getD i 0).testBit x with
      | false => rfl
      | true =>
        have := done_of_anc c hc i o x ho (h3 o (by simpa using ho)) hxl hq
        rw [this] at hx0; cases hx0
    by_cases e : i = x
    · -- it is x's turn
      subst e
      rw [hox] at ho; cases ho
      have hNo : ∀ d, ox.dst = some d → d < C.N := fun d hd => hN i d (by unfold Dst; rw [hox]; exact hd)
      have go : ∀ {g : γ} {F : Fact} {v : Value} {w' : World}, (Fs' g)[i]? = some F → F.holds (okB C (idsOf (B' g))) w' v → St C (B' g) [] a w' → Keep (okB C (idsOf B)) (okB C (idsOf (B' g))) w w' → wpAny P .any ops.toArray Q k (D.setIfInBounds i true) (a.put ox.dst v) w' := fun {g F v w'} hF hv hst kp => by
        refine next g k _ _ _ ?_ (by simpa using hD) (closed_set hc hD hox (h3 ox (by simpa using hox))) (h.stepX c hD hox hNo h2 hF (fun j hj hdj => hsame g j hj (notbehind j hdj)) hv hst kp) (fun j hj => ?_) (fun j hj hsj => ?_) (fun j hj => ?_)
        · have := count_set h5 h2; omega
        · rw [getD_set_true D i _ false h5, if_neg (by omega)]; exact ht j hj
        · rw [getD_set_true D i _ false h5]
          split
          · rfl
          · rename_i hne
            rcases s2 j hj hsj with h6 | h6 | h6
            · exact hs j hj h6
            · exact absurd h6.symm hne
            · exact done_of_anc c hc i ox j hox (h3 ox (by simpa using hox)) (Nat.lt_of_lt_of_le hj c.le) h6
        · obtain ⟨h6, h7⟩ := s4 j hj
          rw [getD_set_true D i _ false h5, if_neg (Ne.symm h7)]; exact htd j h6
      unfold wpOp
      rw [show ops.toArray[i]? = some ox by simpa using hox]
      simp only []
      cases okx with
      | plain E' av hg hF ob =>
        have hst := h.at c hc hD hi hox av
        rw [if_pos (by simp [Region.wanted, hg])]
        exact .inl ((ObX.keeps ob a w hst).wp fun v w' ⟨g, hv, hst2, kp⟩ => go (hF g) hv (hst2.sub Sub.nil) kp)
      | guarded E' av hg hj htE hF ob hn =>
        have hst := h.at c hc hD hi hox av
        rw [wanted_guard hst hg (by simpa [Dst] using hj) htE]
        split
        · rename_i hb
          exact .inl ((ObX.keeps (ob hb) a w hst).wp fun v w' ⟨g, hv, hst2, kp⟩ => go (hF g) ⟨fun _ => hv, fun hb' => by rw [hb] at hb'; cases hb'⟩ (hst2.sub Sub.nil) kp)
        · rename_i hb
          obtain ⟨g, hg'⟩ := hn (by simpa using hb)
          exact go (hF g) ⟨fun hb' => absurd hb' hb, fun _ => rfl⟩ (by rw [hg']; exact h.st) (by rw [hg']; exact Keep.refl _ _)
      | guarded2 E' av hg hj htE hF ob hn =>
        have hst := h.at c hc hD hi hox av
        rw [wanted_guard2 hst hg (by simpa [Dst] using hj) htE]
        split
        · rename_i hb
          exact .inl ((ObX.keeps (ob hb) a w hst).wp fun v w' ⟨g, hv, hst2, kp⟩ => go (hF g) ⟨fun _ => hv, fun hb' => by rw [hb] at hb'; cases hb'⟩ (hst2.sub Sub.nil) kp)
        · rename_i hb
          obtain ⟨g, hg'⟩ := hn (by simpa using hb)
          exact go (hF g) ⟨fun hb' => absurd hb' hb, fun _ => rfl⟩ (by rw [hg']; exact h.st) (by rw [hg']; exact Keep.refl _ _)
    · have hok : OpOk P C B E ops Fs bits i o := by
        rcases OpsOkS.get _ _ ok i o (by rw [List.getElem?_take_of_lt him]; exact ho) with h7 | h7
        · rw [Nat.zero_add] at h7
          rcases s1 i him h7 with h8 | h8 | h8
          · have := hs i him h8
            simp [h5] at this h2; rw [this] at h2; cases h2
          · exact absurd h8 e
          · rw [h8] at hnx; cases hnx
        · rwa [Nat.zero_add] at h7
      refine one_step c hN ho him hok hk hD hc h hi fun a' w' hk' hc' h' => ih _ _ _ hk' (by simpa using hD) hc' h' (fun j hj => ?_) (fun j hj hsj => ?_) (fun j hj => ?_)
      · rw [getD_set_true D i _ false h5, if_neg (by omega)]; exact ht j hj
      · rw [getD_set_true D i _ false h5]; split
        · rfl
        · exact hs j hj hsj
      · have hne : i ≠ j := by
          rintro rfl
          rcases s3 i hj with h6 | h6
          · exact e h6
          · rw [h6] at hnx; cases hnx
        rw [getD_set_true D i _ false h5, if_neg hne]; exact htd j hj

def dstsOk (ops : List Oper) (N : Nat) : Bool := (List.range ops.length).all (fun i => ((Dst ops i).map fun d => decide (d < N)).getD true)
theorem dsts_of {N : Nat} (hN : dstsOk ops N = true) : ∀ i d, Dst ops i = some d → d < N := by
  intro i d hd
  have hi : i < ops.length := by
    unfold Dst at hd
    rcases Nat.lt_or_ge i ops.length with h4 | h4
    · exact h4
    · rw [List.getElem?_eq_none h4] at hd; cases hd
  have := List.all_eq_true.1 hN i (List.mem_range.2 hi)
  simpa [hd] using this

/-- A REGION THAT DRAWS ITS ORDER, stage behind stage -/
theorem wp_goes {id : Nat} (hm : P.follows .mixedOrders = true) (h : St C B E a w) (hg : Goes P C B E ops Fs bits m 0 todo Q) : (Code.region id ops.toArray true).wp P Q a w := by
  refine wp_region_any hm ?_
  have h' : St C B E a { w with drawn := w.drawn + 1 } := h.grow (Ev.drawn _)
  have nodone : ∀ i, (Array.replicate ops.toArray.size false).getD i false = false := fun i => by
    rw [Array.getD_eq_getD_getElem?, Array.getElem?_replicate]; split <;> rfl
  refine hg ops.toArray.size _ a _ ?_ (by simp) ?_ ⟨h'.sub Sub.nil, fun t F ht _ => h'.env t F ht, fun i d F hi => ?_⟩ (fun i _ => nodone i) (fun i _ hs => by simp at hs) (fun i _ => nodone i)
  · simp [Array.toList_replicate, List.count_replicate]
  · intro i o ho hi; rw [nodone i] at hi; cases hi
  · rw [nodone i] at hi; cases hi

theorem goes_last (hc : chk ops bits m = true) (hN : dstsOk ops C.N = true) (ok : OpsOkS P C B E ops Fs bits skip 0 (ops.take m)) {Eo : Env}
    (hE : ∀ t F, get Eo t = some F → (get E t = some F ∧ ∀ i, i < m → Dst ops i ≠ some t) ∨ ∃ i, i < m ∧ Dst ops i = some t ∧ Fs[i]? = some F)
    (K : ∀ a' w', St C B Eo a' w' → wpList P ops.toArray Q (ops.drop m) a' w') : Goes P C B E ops Fs bits m skip 0 Q :=
  goes_end (chk_spec hc) (dsts_of hN) ok fun a' w' hs hold hnew => by
    refine K a' w' { hs with env := fun t F ht => ?_ }
    rcases hE t F ht with ⟨h1, h2⟩ | ⟨i, h1, h2, h3⟩
    · exact hold t F h1 h2
    · exact hnew i t F h1 h2 h3

theorem goes_turn {γ : Type} {B' : γ → List OF} {Fs' : γ → List Fact} (x skx skip2 todo2 : Nat) {ox : Oper} (hc : chk ops bits m = true) (hN : dstsOk ops C.N = true) (hox : ops[x]? = some ox) (hA : aheadOf bits m x skip skx todo skip2 todo2 = true)
    (ok : OpsOkS P C B E ops Fs bits skx 0 (ops.take m)) (okx : OpOkX P C B E ops Fs bits x ox B' Fs') (hsame : ∀ g j, j ≠ x → (bits.getD j 0).testBit x = false → (Fs' g)[j]? = Fs[j]?)
    (next : ∀ g, Goes P C (B' g) E ops (Fs' g) bits m skip2 todo2 Q) : Goes P C B E ops Fs bits m skip todo Q :=
  goes_x (chk_spec hc) (dsts_of hN) hox hA ok okx hsame next

/-- facts that are told anew -/
def setAll (Fs : List Fact) : List (Nat × Fact) → List Fact
  | [] => Fs
  | (i, F) :: l => (setAll Fs l).set i F
theorem setAll_same {γ : Type} {x : Nat} {us : γ → List (Nat × Fact)} (h : ∀ g, (us g).all (fun p => p.1 == x || (bits.getD p.1 0).testBit x) = true) : ∀ g j, j ≠ x → (bits.getD j 0).testBit x = false → (setAll Fs (us g))[j]? = Fs[j]? := fun g j hj hb => by
  have key : ∀ l : List (Nat × Fact), l.all (fun p => p.1 == x || (bits.getD p.1 0).testBit x) = true → (setAll Fs l)[j]? = Fs[j]? := by
    intro l
    induction l with
    | nil => intro _; rfl
    | cons p l ih =>
      intro hl
      simp only [List.all_cons, Bool.and_eq_true, Bool.or_eq_true, beq_iff_eq] at hl
      have hne : p.1 ≠ j := by
        rintro rfl
        rcases hl.1 with h1 | h1
        · exact hj h1
        · rw [hb] at h1; cases h1
      show ((setAll Fs l).set p.1 p.2)[j]? = _
      rw [List.getElem?_set_ne hne]
      exact ih (by simpa using hl.2)
  exact key _ (h g)
end

end Go.Proofs.Kit
