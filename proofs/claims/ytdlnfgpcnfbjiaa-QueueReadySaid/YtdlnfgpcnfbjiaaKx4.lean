/- A kit of this claim's own, part 4: calls, regions in whatever order, branches, loops, a function's begin and end. No condition. -/
import Derived.Test.YtdlnfgpcnfbjiaaKx3
namespace Go.Proofs.Kit
open Go Go.RowKit
set_option linter.unusedSimpArgs false
set_option linter.unusedVariables false


/-- of what a callee hands back: old blocks that were let, or new ones -/
def okNew (ok : Ok) (w : World) : Ok := fun n => n < w.heap.size → ok n

/-- what a call that owns nothing of its caller's does: it hands back what F says, and turns nothing -/
def Gives (P : Program) (f : FuncId) (args : List Value) (ok : Ok) (w : World) (F : Fact) : Prop :=
  Calls P f args.toArray w fun e w' => ∃ v, e = .returned v ∧ F.holds (okNew ok w) w' v ∧ Ev [] w w'

theorem keep_okNew {C : Ctx} {B : List OF} {E : Env} {a : Act} {w w' : World} (h : St C B E a w) : Keep (okNew (okB C (idsOf B)) w) (okB C (idsOf B)) w' w' := fun b _ ho => by
  refine ⟨rfl, ?_⟩
  by_cases hb : b < w.heap.size
  · exact ho hb
  · exact ⟨fun hc => absurd hc (by have := h.ev.size; omega), fun hm => hb (h.lt hm)⟩

section
variable {P : Program} {C : Ctx} {B : List OF} {E : Env} {o : Oper} {f : FuncId} {fn : Func} {x y z u : Operand} {F G1 G2 G3 G4 : Fact} {T1 T2 T3 T4 : TypeId}

/-- the function has a body -/
def hasBody (P : Program) (f : FuncId) : Prop := ∃ fn, P.funcs[f]? = some fn ∧ fn.body.isNone = false ∧ (fn.name == "runtime.NumGoroutine") = false

end


def Dst (ops : List Oper) (i : Nat) : Option Tmp := (ops[i]?).bind (·.dst)

/-- some facts that an operation may lean on: results of those ahead of it ('bits'), and old facts of slots that only those behind it write -/
def Av (E : Env) (ops : List Oper) (Fs : List Fact) (bits : List Nat) (i : Nat) (E' : Env) : Prop :=
  ∀ t F, get E' t = some F →
    (get E t = some F ∧ ∀ j, Dst ops j = some t → (bits.getD j 0).testBit i = true ∨ j = i) ∨
    (∃ j, Dst ops j = some t ∧ Fs[j]? = some F ∧ (bits.getD i 0).testBit j = true)

/-- is slot t written by none, or by those alone that stand behind i? -/
def freeOf (ops : List Oper) (bits : List Nat) (i t : Nat) : Bool := (List.range ops.length).all fun j => !(Dst ops j == some t) || (bits.getD j 0).testBit i || j == i

section
variable {E E' : Env} {ops : List Oper} {Fs : List Fact} {bits : List Nat} {i t j : Nat} {F : Fact}
theorem Av.nil : Av E ops Fs bits i [] := fun _ _ h => by cases h
theorem Av.old (h : get E t = some F) (hf : freeOf ops bits i t = true) (k : Av E ops Fs bits i E') : Av E ops Fs bits i ((t, F) :: E') := fun u G hu => by
  simp only [get] at hu
  by_cases e : t = u
  · rw [if_pos e] at hu; cases hu; subst e
    refine .inl ⟨h, fun j hj => ?_⟩
    have hlt : j < ops.length := by
      unfold Dst at hj
      rcases Nat.lt_or_ge j ops.length with h1 | h1
      · exact h1
      · rw [List.getElem?_eq_none h1] at hj; cases hj
    have := List.all_eq_true.1 hf j (List.mem_range.2 hlt)
    simp only [hj, beq_self_eq_true, Bool.not_true, Bool.false_or, Bool.or_eq_true, beq_iff_eq] at this
    exact this
  · rw [if_neg e] at hu; exact k u G hu
theorem Av.new (h : Dst ops j = some t) (hF : Fs[j]? = some F) (hb : (bits.getD i 0).testBit j = true) (k : Av E ops Fs bits i E') : Av E ops Fs bits i ((t, F) :: E') := fun u G hu => by
  simp only [get] at hu
  by_cases e : t = u
  · rw [if_pos e] at hu; cases hu; subst e; exact .inr ⟨j, h, hF, hb⟩
  · rw [if_neg e] at hu; exact k u G hu
end

/-- one operation of a region that draws its order -/
inductive OpOk (P : Program) (C : Ctx) (B : List OF) (E : Env) (ops : List Oper) (Fs : List Fact) (bits : List Nat) (i : Nat) (o : Oper) : Prop
  | plain {F : Fact} (E' : Env) (av : Av E ops Fs bits i E') (hg : o.guard = none) (hF : Fs[i]? = some F) (ob : Ob P C B E' o F)
  | guarded {F : Fact} {j : Nat} {want b : Bool} {t : Tmp} (E' : Env) (av : Av E ops Fs bits i E') (hg : o.guard = some (j, want)) (hj : Dst ops j = some t) (ht : get E' t = some (kbool.V b))
      (hF : Fs[i]? = some (F.when (b == want))) (ob : (b == want) = true → Ob P C B E' o F)
  | guarded2 {F : Fact} {j : Nat} {want b c : Bool} {t : Tmp} (E' : Env) (av : Av E ops Fs bits i E') (hg : o.guard = some (j, want)) (hj : Dst ops j = some t) (ht : get E' t = some ((kbool.V b).when c))
      (hF : Fs[i]? = some (F.when (c && (b == want)))) (ob : (c && (b == want)) = true → Ob P C B E' o F)

def OpsOk (P : Program) (C : Ctx) (B : List OF) (E : Env) (ops : List Oper) (Fs : List Fact) (bits : List Nat) : Nat → List Oper → Prop
  | _, [] => True
  | i, o :: r => OpOk P C B E ops Fs bits i o ∧ OpsOk P C B E ops Fs bits (i + 1) r

/-- what is asked of a region by looking: edges lead back; 'bits' are ancestors; no slot is written twice; behind m each has all others ahead of it -/
def chk (ops : List Oper) (bits : List Nat) (m : Nat) : Bool :=
  ((List.range ops.length).all fun i => ((ops[i]?).map (·.after)).getD #[] |>.all fun e => !(Region.binds .any e) || decide (e.on < i)) &&
  ((List.range ops.length).all fun i => (List.range ops.length).all fun j => !((bits.getD i 0).testBit j) ||
    (((ops[i]?).map (·.after)).getD #[]).any fun e => Region.binds .any e && (e.on == j || (bits.getD e.on 0).testBit j)) &&
  ((List.range ops.length).all fun i => (List.range ops.length).all fun j => i == j || (Dst ops i).isNone || !(Dst ops i == Dst ops j)) &&
  ((List.range ops.length).all fun i => decide (i < m) || ((List.range i).all fun j => (bits.getD i 0).testBit j)) && decide (m ≤ ops.length)

structure Chk (ops : List Oper) (bits : List Nat) (m : Nat) : Prop where
  back : ∀ i o, ops[i]? = some o → ∀ e, e ∈ o.after → Region.binds .any e = true → e.on < i
  anc : ∀ i o j, ops[i]? = some o → j < ops.length → (bits.getD i 0).testBit j = true → ∃ e, e ∈ o.after ∧ Region.binds .any e = true ∧ (e.on = j ∨ (bits.getD e.on 0).testBit j = true)
  once : ∀ i j t, i < ops.length → j < ops.length → Dst ops i = some t → Dst ops j = some t → i = j
  tail : ∀ i, i < ops.length → m ≤ i → ∀ j, j < i → (bits.getD i 0).testBit j = true
  le : m ≤ ops.length

theorem chk_spec {ops : List Oper} {bits : List Nat} {m : Nat} (h : chk ops bits m = true) : Chk ops bits m := by
  simp only [chk, Bool.and_eq_true, decide_eq_true_eq] at h
  obtain ⟨⟨⟨⟨h1, h2⟩, h3⟩, h4⟩, h5⟩ := h
  refine ⟨?_, ?_, ?_, ?_, h5⟩
  · intro i o ho e he hb
    have hi := (List.getElem?_eq_some_iff.1 ho).1
    have := List.all_eq_true.1 h1 i (List.mem_range.2 hi)
    simp only [ho, Option.map_some, Option.getD_some] at this
    have := Array.all_eq_true_iff_forall_mem.1 this e he
    simpa [hb] using this
  · intro i o j ho hj hb
    have hi := (List.getElem?_eq_some_iff.1 ho).1
    have := List.all_eq_true.1 (List.all_eq_true.1 h2 i (List.mem_range.2 hi)) j (List.mem_range.2 hj)
    simp only [ho, hb, Option.map_some, Option.getD_some, Bool.not_true, Bool.false_or] at this
    obtain ⟨e, he, h6⟩ := Array.any_eq_true'.1 this
    simp only [Bool.and_eq_true, Bool.or_eq_true, beq_iff_eq] at h6
    exact ⟨e, he, h6.1, h6.2⟩
  · intro i j t hi hj hti htj
    have := List.all_eq_true.1 (List.all_eq_true.1 h3 i (List.mem_range.2 hi)) j (List.mem_range.2 hj)
    simpa [hti, htj] using this
  · intro i hi hm j hj
    have := List.all_eq_true.1 h4 i (List.mem_range.2 hi)
    have hm' : decide (i < m) = false := by simp; omega
    rw [hm', Bool.false_or] at this
    exact List.all_eq_true.1 this j (List.mem_range.2 hj)

/-- what has been done is closed against what must stand ahead -/
def Closed (ops : List Oper) (D : Array Bool) : Prop := ∀ i o, ops[i]? = some o → D.getD i false = true → ∀ e, e ∈ o.after → Region.binds .any e = true → D.getD e.on false = true

theorem done_of_anc {ops : List Oper} {bits : List Nat} {m : Nat} {D : Array Bool} (c : Chk ops bits m) (hD : Closed ops D) : ∀ (i : Nat) (o : Oper) (j : Nat), ops[i]? = some o → (∀ e, e ∈ o.after → Region.binds .any e = true → D.getD e.on false = true) → j < ops.length → (bits.getD i 0).testBit j = true → D.getD j false = true := by
  intro i
  induction i using Nat.strongRecOn with
  | _ i ih =>
    intro o j ho he hj hb
    obtain ⟨e, h1, h2, h3⟩ := c.anc i o j ho hj hb
    rcases h3 with rfl | h3
    · exact he e h1 h2
    · have hlt := c.back i o ho e h1 h2
      have hel : e.on < ops.length := Nat.lt_trans hlt (List.getElem?_eq_some_iff.1 ho).1
      obtain ⟨o', ho'⟩ : ∃ o', ops[e.on]? = some o' := ⟨_, List.getElem?_eq_getElem hel⟩
      exact ih e.on hlt o' j ho' (hD e.on o' ho' (he e h1 h2)) hj h3

/-- the state in the midst of a region -/
structure Mid (C : Ctx) (B : List OF) (E : Env) (ops : List Oper) (Fs : List Fact) (D : Array Bool) (a : Act) (w : World) : Prop where
  st : St C B [] a w
  old : ∀ t F, get E t = some F → (∀ i, D.getD i false = true → Dst ops i ≠ some t) → F.holds (okB C (idsOf B)) w (sl a t)
  new : ∀ i d F, D.getD i false = true → Dst ops i = some d → Fs[i]? = some F → F.holds (okB C (idsOf B)) w (sl a d)

theorem ready_mem {ops : Array Oper} {D : Array Bool} {i : Nat} : i ∈ Region.ready .any ops D ↔ i < ops.size ∧ D.getD i true = false ∧ ∀ o, ops[i]? = some o → ∀ e, e ∈ o.after → Region.binds .any e = true → D.getD e.on false = true := by
  unfold Region.ready
  simp only [List.mem_filter, List.mem_range, Bool.and_eq_true, Bool.not_eq_true']
  constructor
  · rintro ⟨h1, h2, h3⟩
    refine ⟨h1, h2, fun o ho e he hb => ?_⟩
    simp only [ho, Option.map_some, Option.getD_some] at h3
    have := Array.all_eq_true_iff_forall_mem.1 h3 e he
    simpa [hb] using this
  · rintro ⟨h1, h2, h3⟩
    refine ⟨h1, h2, ?_⟩
    have ho : ops[i]? = some ops[i] := Array.getElem?_eq_getElem h1
    simp only [ho, Option.map_some, Option.getD_some]
    refine Array.all_eq_true_iff_forall_mem.2 fun e he => ?_
    cases hb : Region.binds .any e with
    | false => rfl
    | true => simpa [hb] using h3 _ ho e he hb

theorem getD_set_true (D : Array Bool) (i j : Nat) (d : Bool) (hi : i < D.size) : (D.setIfInBounds i true).getD j d = if i = j then true else D.getD j d := by
  by_cases h : i = j
  · subst h; simp [hi]
  · simp [h, Array.getElem?_setIfInBounds_ne h]

theorem count_set {D : Array Bool} {i : Nat} (hi : i < D.size) (h : D.getD i true = false) : (D.setIfInBounds i true).toList.count false + 1 = D.toList.count false := by
  have hi' : i < D.toList.length := by simpa using hi
  have hf : D.toList[i] = false := by simpa [hi] using h
  have hpos : 0 < D.toList.count false := List.count_pos_iff.2 (hf ▸ List.getElem_mem hi')
  rw [Array.toList_setIfInBounds, List.count_set hi', hf]
  have e1 : (if (false == false) = true then 1 else 0) = 1 := rfl
  have e2 : (if (true == false) = true then 1 else 0) = 0 := rfl
  rw [e1, e2]; omega

section
variable {P : Program} {C : Ctx} {B : List OF} {E : Env} {ops : List Oper} {Fs : List Fact} {bits : List Nat} {m : Nat} {Q : Exit → Act → World → Prop} {a : Act} {w : World} {D : Array Bool}

theorem OpsOk.get : ∀ (l : List Oper) (k : Nat), OpsOk P C B E ops Fs bits k l → ∀ i o, l[i]? = some o → OpOk P C B E ops Fs bits (k + i) o
  | [], _, _, i, o, ho => by simp at ho
  | x :: l, k, ⟨h1, h2⟩, i, o, ho => by
    cases i with
    | zero => simp at ho; subst ho; exact h1
    | succ i => have := OpsOk.get l (k + 1) h2 i o (by simpa using ho); rwa [show k + 1 + i = k + (i + 1) by omega] at this

/-- the facts that an operation leans on hold when its turn comes -/
theorem Mid.at {i : Nat} {o : Oper} {E' : Env} (c : Chk ops bits m) (hc : Closed ops D) (h : Mid C B E ops Fs D a w) (hD : D.size = ops.length) (hr : i ∈ Region.ready .any ops.toArray D) (ho : ops[i]? = some o) (av : Av E ops Fs bits i E') : St C B E' a w := by
  obtain ⟨hlt, hni, hrd⟩ := ready_mem.1 hr
  have hi : i < ops.length := by simpa using hlt
  have ho' : ops.toArray[i]? = some o := by simpa using ho
  refine { h.st with env := fun t F ht => ?_ }
  rcases av t F ht with ⟨h1, h2⟩ | ⟨j, h1, h2, h3⟩
  · refine h.old t F h1 (fun j hj hdj => ?_)
    rcases h2 j hdj with h3 | rfl
    · -- i is ahead of j, so i is done
      have hjl : j < ops.length := by
        rcases Nat.lt_or_ge j D.size with h4 | h4
        · omega
        · rw [Array.getD_eq_getD_getElem?, Array.getElem?_eq_none h4] at hj; cases hj
      obtain ⟨oj, hoj⟩ : ∃ oj, ops[j]? = some oj := ⟨_, List.getElem?_eq_getElem hjl⟩
      have := done_of_anc c hc j oj i hoj (hc j oj hoj hj) hi h3
      have h5 : i < D.size := by omega
      simp [h5] at this hni
      rw [this] at hni; cases hni
    · have h5 : j < D.size := by omega
      simp [h5] at hj hni
      rw [hj] at hni; cases hni
  · have hjl : j < ops.length := by
      unfold Dst at h1
      rcases Nat.lt_or_ge j ops.length with h4 | h4
      · exact h4
      · rw [List.getElem?_eq_none h4] at h1; cases h1
    exact h.new j t F (done_of_anc c hc i o j ho (hrd o ho') hjl h3) h1 h2

theorem Mid.step {i : Nat} {o : Oper} {F : Fact} {w' : World} {v : Value} (c : Chk ops bits m) (h : Mid C B E ops Fs D a w) (hD : D.size = ops.length) (ho : ops[i]? = some o) (hN : ∀ d, o.dst = some d → d < C.N) (hni : D.getD i true = false) (hF : Fs[i]? = some F) (hv : F.holds (okB C (idsOf B)) w' v) (e : Ev [] w w') :
    Mid C B E ops Fs (D.setIfInBounds i true) (a.put o.dst v) w' := by
  have hi : i < ops.length := (List.getElem?_eq_some_iff.1 ho).1
  have hdi : Dst ops i = o.dst := by unfold Dst; rw [ho]; rfl
  have hold := h.old
  have hst := h.st.grow e
  have kp : Keep (okB C (idsOf B)) (okB C (idsOf B)) w w' := .of_ev_nil e
  have hD' : ∀ j, j ≠ i → (D.setIfInBounds i true).getD j false = D.getD j false := fun j hj => by rw [getD_set_true D i j false (by omega), if_neg (Ne.symm hj)]
  have hnot : ∀ j d, D.getD j false = true → Dst ops j = some d → o.dst ≠ some d := by
    intro j d hj hjd hod
    have hjl : j < ops.length := by
      unfold Dst at hjd
      rcases Nat.lt_or_ge j ops.length with h4 | h4
      · exact h4
      · rw [List.getElem?_eq_none h4] at hjd; cases hjd
    have := c.once i j d hi hjl (by rw [hdi]; exact hod) hjd
    subst this
    have h5 : i < D.size := by omega
    simp [h5] at hj hni
    rw [hj] at hni; cases hni
  refine { st := ?_, old := ?_, new := ?_ }
  · cases hd : o.dst with
    | none => exact hst
    | some d => exact (hst.put (hN d hd) (F := nofact) trivial).sub Sub.nil
  · intro t G ht hdone
    have h1 := hold t G ht (fun j hj hjd => hdone j (by
      by_cases e2 : j = i
      · subst e2; rw [getD_set_true D j j false (by omega), if_pos rfl]
      · rw [hD' j e2]; exact hj) hjd)
    have h2 := G.mono h1 kp
    cases hd : o.dst with
    | none => exact h2
    | some d =>
      have hne : d ≠ t := by
        intro e2; subst e2
        exact hdone i (by rw [getD_set_true D i i false (by omega), if_pos rfl]) (by rw [hdi]; exact hd)
      rw [sl_put_ne a v hne]; exact h2
  · intro j d G hj hjd hG
    by_cases e2 : j = i
    · subst e2
      rw [hF] at hG; cases hG
      have hd : o.dst = some d := by rw [← hdi]; exact hjd
      rw [hd, sl_put a d d v (by rw [h.st.size]; exact hN d hd), if_pos rfl]; exact hv
    · rw [hD' j e2] at hj
      have h1 := G.mono (h.new j d G hj hjd hG) kp
      cases hd : o.dst with
      | none => exact h1
      | some d' =>
        have hne : d' ≠ d := fun e3 => hnot j d hj hjd (by rw [hd, e3])
        rw [sl_put_ne a v hne]; exact h1

/-- behind m the text's order is the one order -/
theorem seq_tail (c : Chk ops bits m) : ∀ (k : Nat) (j : Nat) (D : Array Bool) (a : Act) (w : World), j + k = ops.length → m ≤ j → D.size = ops.length → (∀ i, i < ops.length → D.getD i false = decide (i < j)) → wpList P ops.toArray Q (ops.drop j) a w → wpAny P .any ops.toArray Q k D a w := by
  intro k
  induction k with
  | zero =>
    intro j D a w hj _ hD hd hw
    refine ⟨?_, ?_⟩
    · refine List.eq_nil_iff_forall_not_mem.2 fun i hi => ?_
      obtain ⟨h1, h2, _⟩ := ready_mem.1 hi
      have hi' : i < ops.length := by simpa using h1
      have h3 := hd i hi'
      have h5 : i < D.size := by omega
      have : decide (i < j) = true := by simp; omega
      simp [h5] at h2 h3; rw [h2] at h3; simp at h3; omega
    · rw [show ops.drop j = [] from List.drop_eq_nil_of_le (by omega)] at hw; exact hw
  | succ k ih =>
    intro j D a w hj hm hD hd hw
    have hjl : j < ops.length := by omega
    have hready : ∀ i, i ∈ Region.ready .any ops.toArray D ↔ i = j := by
      intro i
      rw [ready_mem]
      constructor
      · rintro ⟨h1, h2, h3⟩
        have hi' : i < ops.length := by simpa using h1
        have h5 : i < D.size := by omega
        have h4 := hd i hi'
        have hge : j ≤ i := by
          simp [h5] at h2 h4; rw [h2] at h4; simp at h4; omega
        rcases Nat.lt_or_ge j i with hlt | hge'
        · exfalso
          -- j is ahead of i and not done
          have hc : Closed ops D := by
            intro p o ho hp e he hb
            have hpl := (List.getElem?_eq_some_iff.1 ho).1
            have h6 := hd p hpl
            rw [hp] at h6
            have h7 : p < j := by simpa using h6.symm
            have h8 := c.back p o ho e he hb
            rw [hd e.on (by omega)]
            simp; omega
          obtain ⟨o, ho⟩ : ∃ o, ops[i]? = some o := ⟨_, List.getElem?_eq_getElem hi'⟩
          have h9 := done_of_anc c hc i o j ho (h3 o (by simpa using ho)) hjl (c.tail i hi' (by omega) j hlt)
          rw [hd j hjl] at h9
          simp at h9
        · omega
      · rintro rfl
        have h5 : i < D.size := by omega
        refine ⟨by simpa using hjl, ?_, fun o ho e he hb => ?_⟩
        · have := hd i hjl; simp [h5] at this ⊢; exact this
        · have h8 := c.back i o (by simpa using ho) e he hb
          rw [hd e.on (by omega)]; simp; omega
    refine ⟨fun hn => ?_, fun i hi => ?_⟩
    · have := (hready j).2 rfl; rw [hn] at this; cases this
    · have := (hready i).1 hi; subst this
      obtain ⟨o, ho⟩ : ∃ o, ops[i]? = some o := ⟨_, List.getElem?_eq_getElem hjl⟩
      have hdrop : ops.drop i = o :: ops.drop (i + 1) := by
        rw [List.drop_eq_getElem_cons hjl]; congr 1
        exact (List.getElem?_eq_some_iff.1 ho).2
      rw [hdrop] at hw
      unfold wpList at hw
      unfold wpOp
      rw [show ops.toArray[i]? = some o by simpa using ho]
      simp only []
      have next : ∀ a' w', wpList P ops.toArray Q (ops.drop (i + 1)) a' w' → wpAny P .any ops.toArray Q k (D.setIfInBounds i true) a' w' := fun a' w' h' => by
        refine ih (i + 1) _ a' w' (by omega) (by omega) (by simpa using hD) (fun p hp => ?_) h'
        rw [getD_set_true D i p false (by omega), hd p hp]
        by_cases e : i = p
        · subst e; simp
        · rw [if_neg e]; congr 1; simp; omega
      split
      · rename_i hw'
        rw [if_pos hw'] at hw
        exact hw.imp (Oper.wp_mono next) id
      · rename_i hw'
        rw [if_neg hw'] at hw
        exact next _ _ hw

theorem out_nil {ops : List Oper} {E : Env} {Fs : List Fact} {m : Nat} : ∀ t F, get ([] : Env) t = some F → (get E t = some F ∧ ∀ i, i < m → Dst ops i ≠ some t) ∨ ∃ i, i < m ∧ Dst ops i = some t ∧ Fs[i]? = some F := fun _ _ h => by cases h
theorem out_old {ops : List Oper} {E E' : Env} {Fs : List Fact} {m t : Nat} {F : Fact} (h : get E t = some F) (hf : (List.range m).all (fun i => !(Dst ops i == some t)) = true)
    (k : ∀ t F, get E' t = some F → (get E t = some F ∧ ∀ i, i < m → Dst ops i ≠ some t) ∨ ∃ i, i < m ∧ Dst ops i = some t ∧ Fs[i]? = some F) :
    ∀ u G, get ((t, F) :: E') u = some G → (get E u = some G ∧ ∀ i, i < m → Dst ops i ≠ some u) ∨ ∃ i, i < m ∧ Dst ops i = some u ∧ Fs[i]? = some G := fun u G hu => by
  simp only [get] at hu
  by_cases e : t = u
  · rw [if_pos e] at hu; cases hu; subst e
    refine .inl ⟨h, fun i hi hd => ?_⟩
    have := List.all_eq_true.1 hf i (List.mem_range.2 hi)
    simp [hd] at this
  · rw [if_neg e] at hu; exact k u G hu
theorem out_new {ops : List Oper} {E E' : Env} {Fs : List Fact} {m t i : Nat} {F : Fact} (hi : i < m) (hd : Dst ops i = some t) (hF : Fs[i]? = some F)
    (k : ∀ t F, get E' t = some F → (get E t = some F ∧ ∀ i, i < m → Dst ops i ≠ some t) ∨ ∃ i, i < m ∧ Dst ops i = some t ∧ Fs[i]? = some F) :
    ∀ u G, get ((t, F) :: E') u = some G → (get E u = some G ∧ ∀ i, i < m → Dst ops i ≠ some u) ∨ ∃ i, i < m ∧ Dst ops i = some u ∧ Fs[i]? = some G := fun u G hu => by
  simp only [get] at hu
  by_cases e : t = u
  · rw [if_pos e] at hu; cases hu; subst e; exact .inr ⟨i, hi, hd, hF⟩
  · rw [if_neg e] at hu; exact k u G hu
end

end Go.Proofs.Kit
