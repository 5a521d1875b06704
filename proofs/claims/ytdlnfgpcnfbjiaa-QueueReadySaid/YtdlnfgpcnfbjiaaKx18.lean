/- A kit of this claim's own, part 18: what is owned in another order; several things lent at once; closures and their calls. No condition. -/
import Derived.Test.YtdlnfgpcnfbjiaaKx17
namespace Go.Proofs.Kit
open Go Go.RowKit
set_option linter.unusedSimpArgs false
set_option linter.unusedVariables false


theorem idsOf_perm {B B' : List OF} (p : B.Perm B') : (idsOf B).Perm (idsOf B') := by
  induction p with
  | nil => exact .refl _
  | cons f _ ih => exact List.Perm.append_left _ ih
  | swap f g l => simp only [idsOf, ← List.append_assoc]; exact List.Perm.append_right _ List.perm_append_comm
  | trans _ _ h1 h2 => exact h1.trans h2

theorem okB_perm {C : Ctx} {B B' : List OF} (p : B.Perm B') : okB C (idsOf B) = okB C (idsOf B') := by
  funext n; unfold okB; rw [(idsOf_perm p).mem_iff]

theorem St.perm {C : Ctx} {B B' : List OF} {E : Env} {a : Act} {w : World} (h : St C B E a w) (p : B.Perm B') : St C B' E a w := by
  have e := okB_perm (C := C) p
  exact { size := h.size, dfr := h.dfr, nod := (idsOf_perm p).nodup_iff.1 h.nod, fresh := fun b hb => h.fresh b ((idsOf_perm p).mem_iff.2 hb), ev := h.ev, own := fun q hq => by rw [← e]; exact h.own q (p.mem_iff.2 hq), env := by rw [← e]; exact h.env }

/-- one is brought to the front -/
theorem toFront {α : Type _} (A : List α) {f : α} {D R : List α} (h : (A ++ D).Perm R) : (A ++ f :: D).Perm (f :: R) := List.perm_middle.trans (.cons _ h)


inductive LendOk (E : Env) (L : List OF) : List (Nat × Fact) → Prop
  | nil : LendOk E L []
  | cons {t : Nat} {F0 G : Fact} {l : List (Nat × Fact)} (h : get E t = some F0)
      (hG : ∀ ok w v, F0.holds ok w v → (∀ q, q ∈ L → q.holds ok w) → (∀ c, c ∈ idsOf L → ok c) → G.holds ok w v) (r : LendOk E L l) : LendOk E L ((t, G) :: l)

section
variable {P : Program} {C : Ctx} {B B2 D L : List OF} {E : Env} {o : Oper} {F G : Fact} {a : Act} {w : World}

/-- the context while L is lent -/
def lentC (C : Ctx) (L : List OF) : Ctx := ⟨C.N, C.w0, fun n => C.ok0 n ∨ n ∈ idsOf L, C.M0⟩

theorem keep_lent (C : Ctx) (L D : List OF) (w : World) : Keep (okB C (idsOf (L ++ D))) (okB (lentC C L) (idsOf D)) w w := fun n _ ho => ⟨rfl, fun hc => (ho.1 hc).imp .inl id, fun hm => ho.2 (by rw [idsOf_append, List.mem_append]; exact .inr hm)⟩

theorem St.lendAll (h : St C (L ++ D) E a w) {ts : List (Nat × Fact)} (hl : LendOk E L ts) : St (lentC C L) D (ts ++ E) a w := by
  have hnod := h.nod
  rw [idsOf_append, List.nodup_append] at hnod
  obtain ⟨n1, n2, n3⟩ := hnod
  have kp := keep_lent C L D w
  have s : St (lentC C L) D E a w := { size := h.size, dfr := h.dfr, nod := n2, fresh := fun b hb => h.fresh b (by rw [idsOf_append, List.mem_append]; exact .inr hb), ev := h.ev, own := fun q hq => q.mono (h.own q (by simp [hq])) kp (fun _ _ => rfl), env := fun t F ht => F.mono (h.env t F ht) kp }
  induction hl with
  | nil => exact s
  | @cons t F0 G l h1 hG r ih =>
    exact ih.fact (hG _ _ _ (s.env _ _ h1) (fun q hq => q.mono (h.own q (by simp [hq])) kp (fun _ _ => rfl)) (fun c hc => ⟨fun _ => .inl (.inr hc), fun hm => n3 c hc c hm rfl⟩))

theorem ob_lendG {ts : List (Nat × Fact)} (p : B.Perm (L ++ D)) (hl : LendOk E L ts) (hF : Flat F) (ob : ∀ C', Ob P C' D (ts ++ E) o F) : Ob P C B E o F := fun a w h =>
  (ob _ a w ((h.perm p).lendAll hl)).mono fun v w' ⟨g1, g2⟩ => ⟨hF _ _ _ _ _ g1, g2⟩
end


def keepNow (n : Nat) (S : Nat → Prop) (H : Nat → Option Obj) : Fact where
  holds ok w _ := ∀ b, b < n → S b → w.heap[b]? = H b ∧ ok b ∧ b < w.heap.size
  mono := by
    intro ok ok' w w' v h kp b hb hs
    obtain ⟨h1, h2, h3⟩ := h b hb hs
    obtain ⟨h4, h5⟩ := kp b h3 h2
    refine ⟨h4.trans h1, h5, ?_⟩
    rcases Nat.lt_or_ge b w'.heap.size with h6 | h6
    · exact h6
    · rw [Array.getElem?_eq_none h6, Array.getElem?_eq_getElem h3] at h4; cases h4

def ObK (P : Program) (C : Ctx) (B : List OF) (E : Env) (o : Oper) {γ : Type} (B' : γ → List OF) (F : γ → Fact) : Prop :=
  ∀ a w, St C B E a w → Does P o a w fun v w' => ∃ g, (F g).holds (okB C (idsOf (B' g))) w' v ∧ St C (B' g) E a w' ∧ Keep (okB C (idsOf B)) (okB C (idsOf (B' g))) w w'

theorem get_append {E R : Env} {t : Nat} : get (E ++ R) t = (get E t).orElse fun _ => get R t := by
  induction E with
  | nil => rfl
  | cons p E ih =>
    obtain ⟨u, F⟩ := p
    simp only [List.cons_append, get]
    by_cases e : u = t
    · rw [if_pos e, if_pos e]; rfl
    · rw [if_neg e, if_neg e]; exact ih

theorem get_fresh (E : Env) : ∃ t, get E t = none := by
  have key : ∀ E : Env, ∃ n, ∀ t, n ≤ t → get E t = none := by
    intro E
    induction E with
    | nil => exact ⟨0, fun _ _ => rfl⟩
    | cons p E ih =>
      obtain ⟨n, h⟩ := ih
      refine ⟨n + p.1 + 1, fun t ht => ?_⟩
      simp only [get]
      rw [if_neg (by omega)]; exact h t (by omega)
  obtain ⟨n, h⟩ := key E
  exact ⟨n, h n (Nat.le_refl _)⟩

section
variable {P : Program} {C : Ctx} {B B2 D L : List OF} {E : Env} {o : Oper} {a : Act} {w : World} {γ : Type} {B' : γ → List OF} {F : γ → Fact}

theorem ObX.keeps (obx : ∀ R, ObX P C B (E ++ R) o B' F) : ObK P C B E o B' F := fun a w h => by
  obtain ⟨t, ht⟩ := get_fresh E
  let G : Fact := keepNow w.heap.size (okB C (idsOf B)) (fun b => w.heap[b]?)
  have h' : St C B (E ++ [(t, G)]) a w := by
    refine { h with env := fun u H hu => ?_ }
    rw [get_append] at hu
    cases hq : get E u with
    | some H' => rw [hq] at hu; cases hu; exact h.env u _ hq
    | none =>
      rw [hq] at hu
      simp only [Option.orElse, get] at hu
      by_cases e : t = u
      · rw [if_pos e] at hu; cases hu; exact fun b hb hs => ⟨rfl, hs, hb⟩
      · rw [if_neg e] at hu; cases hu
  refine (obx [(t, G)] a w h').mono fun v w' ⟨g, h1, h2⟩ => ⟨g, h1, { h2 with env := fun u H hu => h2.env u H (by rw [get_append, hu]; rfl) }, fun b hb ho => ?_⟩
  have := h2.env t G (by rw [get_append, ht]; simp [get])
  obtain ⟨h3, h4, _⟩ := this b hb ho
  exact ⟨h3, h4⟩

theorem ObX.perm (p : B.Perm B2) (h : ObX P C B2 E o B' F) : ObX P C B E o B' F := fun a w s => h a w (s.perm p)
theorem Ob.perm {F : Fact} (p : B.Perm B2) (h : Ob P C B2 E o F) : Ob P C B E o F := fun a w s => (h a w (s.perm p)).mono fun v w' ⟨h1, h2⟩ => ⟨by rw [okB_perm p]; exact h1, h2⟩

/-- what is owned and leads to no memory but its own -/
def FlatO (q : OF) : Prop := ∀ ok ok' w, q.holds ok w → q.holds ok' w
theorem relL_flat {α : Type} {k : Kd α} (h : KFlat k) {ok ok' : Ok} {w w' : World} : ∀ {xs : List α} {cs : List Value}, relL k ok w xs cs → relL k ok' w' xs cs
  | [], _, g => g
  | _ :: _, _, ⟨c, d, e, g1, g2⟩ => ⟨c, d, e, h _ _ _ _ _ _ g1, relL_flat h g2⟩
theorem FlatO.row {v : Value} {e : TypeId} {α : Type} {k : Kd α} {xs : List α} (h : KFlat k) : FlatO (RowF v e k xs) := fun _ _ _ ⟨rs, h1, h2⟩ => ⟨rs, relL_flat h h1, h2⟩
def FlatL (l : List OF) : Prop := ∀ q, q ∈ l → FlatO q
theorem FlatL.nil : FlatL [] := fun _ h => by cases h
theorem FlatL.cons {q : OF} {l : List OF} (h : FlatO q) (t : FlatL l) : FlatL (q :: l) := fun x hx => by
  rcases List.mem_cons.1 hx with rfl | hx
  · exact h
  · exact t x hx
theorem KFlat.kis (v : Value) : KFlat (kis v) := fun _ _ _ _ _ _ h => h

/-- something is lent for reading while something else is turned -/
theorem ob_lendX {ts : List (Nat × Fact)} (p : B.Perm (L ++ D)) (hl : LendOk E L ts) (hF : ∀ g, Flat (F g)) (hB : ∀ g, FlatL (B' g)) (ob : ∀ C' R, ObX P C' D ((ts ++ E) ++ R) o B' F) : ObX P C B E o (fun g => L ++ B' g) F := fun a w h0 => by
  have h := h0.perm p
  have hk := ObX.keeps (ob (lentC C L))
  refine (hk a w (h.lendAll hl)).mono fun v w' ⟨g, h1, h2, h3⟩ => ⟨g, hF g _ _ _ _ _ h1, ?_⟩
  have hnod := h.nod
  rw [idsOf_append, List.nodup_append] at hnod
  obtain ⟨n1, n2, n3⟩ := hnod
  have hLok : ∀ c, c ∈ idsOf L → okB (lentC C L) (idsOf D) c := fun c hc => ⟨fun _ => .inl (.inr hc), fun hm => n3 c hc c hm rfl⟩
  have hLlt : ∀ c, c ∈ idsOf L → c < w.heap.size := fun c hc => h.lt (by rw [idsOf_append, List.mem_append]; exact .inl hc)
  have hL' : ∀ c, c ∈ idsOf L → w'.heap[c]? = w.heap[c]? ∧ c ∉ idsOf (B' g) := fun c hc => by
    obtain ⟨e1, e2⟩ := h3 c (hLlt c hc) (hLok c hc); exact ⟨e1, e2.2⟩
  have kp : Keep (okB C (idsOf (L ++ D))) (okB C (idsOf (L ++ B' g))) w w' := by
    intro b hb ho
    have hbL : b ∉ idsOf L := fun hm => ho.2 (by rw [idsOf_append, List.mem_append]; exact .inl hm)
    have hbD : b ∉ idsOf D := fun hm => ho.2 (by rw [idsOf_append, List.mem_append]; exact .inr hm)
    obtain ⟨e1, e2⟩ := h3 b hb ⟨fun hc => (ho.1 hc).imp .inl id, hbD⟩
    refine ⟨e1, ho.1, fun hm => ?_⟩
    rw [idsOf_append, List.mem_append] at hm
    rcases hm with hm | hm
    · exact hbL hm
    · exact e2.2 hm
  refine { size := h2.size, dfr := h2.dfr, nod := ?_, fresh := ?_, ev := h2.ev, own := ?_, env := fun t F ht => F.mono (h.env t F ht) kp }
  · rw [idsOf_append, List.nodup_append]
    exact ⟨n1, h2.nod, fun x hx y hy hxy => (hL' x hx).2 (hxy ▸ hy)⟩
  · intro b hb
    rw [idsOf_append, List.mem_append] at hb
    rcases hb with hb | hb
    · exact h.fresh b (by rw [idsOf_append, List.mem_append]; exact .inl hb)
    · exact h2.fresh b hb
  · intro q hq
    rcases List.mem_append.1 hq with hq | hq
    · exact q.mono (h.own q (by simp [hq])) kp (fun b hb => (hL' b (mem_idsOf hq hb)).1)
    · exact hB g q hq _ _ _ (h2.own q hq)
end


theorem ArgsOk.mono {ok ok' : Ok} {w w' : World} (kp : Keep ok ok' w w') {l : List Fact} {vs : List Value} (h : ArgsOk ok w l vs) : ArgsOk ok' w' l vs := by
  induction h with
  | nil => exact .nil
  | @cons F v l vs h t ih => exact .cons (F.mono h kp) ih
theorem ArgsOk.uncons {ok : Ok} {w : World} {F : Fact} {l : List Fact} {vs : List Value} (h : ArgsOk ok w (F :: l) vs) : ∃ v vs', vs = v :: vs' ∧ F.holds ok w v ∧ ArgsOk ok w l vs' := by
  cases h with | cons h t => exact ⟨_, _, rfl, h, t⟩
theorem ArgsOk.unnil {ok : Ok} {w : World} {vs : List Value} (h : ArgsOk ok w [] vs) : vs = [] := by cases h; rfl

/-- a function value: the function f, ahead of whose arguments stand what Fs tells, and behind them what Gs tells -/
def cloF (f : FuncId) (Fs Gs : List Fact) : Fact where
  holds ok w v := ∃ fs gs : List Value, v = .func (.func f) fs.toArray gs.toArray ∧ ArgsOk ok w Fs fs ∧ ArgsOk ok w Gs gs
  mono := fun ⟨fs, gs, e, h1, h2⟩ kp => ⟨fs, gs, e, h1.mono kp, h2.mono kp⟩

inductive FactsTo (L : List OF) : List Fact → List Fact → Prop
  | nil : FactsTo L [] []
  | cons {F G : Fact} {l m : List Fact} (h : ∀ ok w v, F.holds ok w v → (∀ q, q ∈ L → q.holds ok w) → (∀ c, c ∈ idsOf L → ok c) → G.holds ok w v) (t : FactsTo L l m) : FactsTo L (F :: l) (G :: m)
theorem FactsTo.all {L : List OF} {l m : List Fact} (h : FactsTo L l m) {ok : Ok} {w : World} {vs : List Value} (ha : ArgsOk ok w l vs) (h1 : ∀ q, q ∈ L → q.holds ok w) (h2 : ∀ c, c ∈ idsOf L → ok c) : ArgsOk ok w m vs := by
  induction h generalizing vs with
  | nil => exact ha
  | cons h t ih => cases ha with | cons g gs => exact .cons (h _ _ _ g h1 h2) (ih gs)
/-- what a closure holds is lent -/
theorem lendClo {L : List OF} {f : FuncId} {Fs Fs' Gs Gs' : List Fact} (h1 : FactsTo L Fs Fs') (h2 : FactsTo L Gs Gs') : ∀ ok w v, (cloF f Fs Gs).holds ok w v → (∀ q, q ∈ L → q.holds ok w) → (∀ c, c ∈ idsOf L → ok c) → (cloF f Fs' Gs').holds ok w v :=
  fun ok w v ⟨fs, gs, e, g1, g2⟩ hL hc => ⟨fs, gs, e, h1.all g1 hL hc, h2.all g2 hL hc⟩
inductive OpdAll (E : Env) : List Operand → List Fact → Prop
  | nil : OpdAll E [] []
  | cons {x : Operand} {F : Fact} {l : List Operand} {m : List Fact} (h : Opd E x F) (t : OpdAll E l m) : OpdAll E (x :: l) (F :: m)

section
variable {P : Program} {C : Ctx} {B B' D L : List OF} {E : Env} {o : Oper} {a : Act} {w : World} {f : FuncId} {Fs Gs : List Fact} {x : Operand}

theorem OpdAll.args (s : St C B E a w) {l : List Operand} {m : List Fact} (h : OpdAll E l m) : ArgsOk (okB C (idsOf B)) w m (l.map a.eval) := by
  induction h with
  | nil => exact .nil
  | cons h t ih => exact .cons (s.arg h) ih

theorem ob_makeFn {xs ys : List Operand} (ho : o.op = .makeFunc (.func f) xs.toArray ys.toArray) (h1 : OpdAll E xs Fs) (h2 : OpdAll E ys Gs) : Ob P C B E o (cloF f Fs Gs) := fun a w s =>
  .value (w' := w) (v := .func (.func f) (xs.map a.eval).toArray (ys.map a.eval).toArray) (by simp [execOp, ho, Instr.makeFunc]) ⟨⟨_, _, rfl, h1.args s, h2.args s⟩, .refl _ _⟩

/-- who is called -/
inductive Callee (E : Env) (f : FuncId) : Operand → List Fact → List Fact → Prop
  | direct : Callee E f (.func f) [] []
  | clo {x : Operand} {Fs Gs : List Fact} (h : Opd E x (cloF f Fs Gs)) : Callee E f x Fs Gs
  | fn {x : Operand} (h : Opd E x (is (.func (.func f) #[] #[]))) : Callee E f x [] []

theorem Callee.val (h : Callee E f x Fs Gs) (s : St C B E a w) : ∃ fs gs : List Value, a.eval x = .func (.func f) fs.toArray gs.toArray ∧ ArgsOk (okB C (idsOf B)) w Fs fs ∧ ArgsOk (okB C (idsOf B)) w Gs gs := by
  cases h with
  | direct => exact ⟨[], [], rfl, .nil, .nil⟩
  | clo h => exact s.arg h
  | fn h => exact ⟨[], [], s.arg h, .nil, .nil⟩

theorem run_callV {c : Go.Call} {ρ : Operand → Value} {ty : TypeId} {w : World} {fs gs : Array Value} (hc : c.callee = .value x) (hρ : ρ x = .func (.func f) fs gs) (hb : hasBody P f) :
    (do let d ← resolve ρ c ty; invoke d.target d.args : Sem Next).run P w = .ok (.enter f (fs ++ c.args.map ρ ++ gs)) w := by
  obtain ⟨fn, h1, h2, h3⟩ := hb
  simp only [resolve, hc, hρ, Deferred.ofValue, Sem.run_bind, Sem.run_pure, Result.andThen_ok, invoke, callFunc]
  have h2' : ¬ fn.body = none := by intro hn; rw [hn] at h2; cases h2
  have h3' : ¬ fn.name = "runtime.NumGoroutine" := by simpa using h3
  simp [program, Sem.run, h1, h2', h3']

/-- a call that turns nothing -/
theorem ob_callD {F : Fact} {argTypes : Array TypeId} {args : List Operand} (ho : o.op = .call { callee := .value x, args := args.toArray, argTypes := argTypes }) (hc : Callee E f x Fs Gs) (hb : hasBody P f)
    (hg : ∀ a w, St C B E a w → ∀ fs gs, ArgsOk (okB C (idsOf B)) w Fs fs → ArgsOk (okB C (idsOf B)) w Gs gs → Gives P f (fs ++ args.map a.eval ++ gs) (okB C (idsOf B)) w F) : Ob P C B E o F := fun a w h => by
  obtain ⟨fs, gs, e1, h1, h2⟩ := hc.val h
  unfold Does
  have e : (execOp a.eval o).run P w = .ok (.enter f (fs.toArray ++ args.toArray.map a.eval ++ gs.toArray)) w := by
    simp only [execOp, ho]; exact run_callV (c := { callee := .value x, args := args.toArray, argTypes := argTypes }) rfl e1 hb
  rw [e]
  have := hg a w h fs gs h1 h2
  unfold Gives at this
  have e2 : (fs ++ args.map a.eval ++ gs).toArray = fs.toArray ++ args.toArray.map a.eval ++ gs.toArray := by simp
  rw [e2] at this
  exact this.mono fun e w' ⟨v, he, hF, hv⟩ => ⟨v, he, F.mono hF (keep_okNew h), hv⟩

theorem ownL (s : St C (L ++ D) E a w) : ∀ q, q ∈ L → q.holds (okB C (idsOf (L ++ D))) w := fun q hq => s.own q (by simp [hq])
theorem disL (s : St C (L ++ D) E a w) : ∀ c, c ∈ idsOf L → ¬ okB C (idsOf (L ++ D)) c := fun c hc hn => hn.2 (by rw [idsOf_append, List.mem_append]; exact .inl hc)
theorem nodL (s : St C (L ++ D) E a w) : (idsOf L).Nodup := by
  have h := s.nod
  rw [idsOf_append, List.nodup_append] at h
  exact h.1

/-- a call that turns what it is lent, and may hand back what is new -/
theorem ob_callL {γ : Type} {F : γ → Fact} {L' B' : γ → List OF} {argTypes : Array TypeId} {args : List Operand} (ho : o.op = .call { callee := .value x, args := args.toArray, argTypes := argTypes }) (hc : Callee E f x Fs Gs) (hb : hasBody P f)
    (p : B.Perm (L ++ D))
    (hg : ∀ a w, St C (L ++ D) E a w → ∀ fs gs, ArgsOk (okB C (idsOf (L ++ D))) w Fs fs → ArgsOk (okB C (idsOf (L ++ D))) w Gs gs → GivesX P f (fs ++ args.map a.eval ++ gs) (okB C (idsOf (L ++ D))) w L F L') (hB' : ∀ g, B' g = L' g ++ D) :
    ObX P C B E o B' F := fun a w h0 => by
  obtain rfl : B' = fun g => L' g ++ D := funext hB'
  have h := h0.perm p
  obtain ⟨fs, gs, e1, g1, g2⟩ := hc.val h
  unfold Does
  have e : (execOp a.eval o).run P w = .ok (.enter f (fs.toArray ++ args.toArray.map a.eval ++ gs.toArray)) w := by
    simp only [execOp, ho]; exact run_callV (c := { callee := .value x, args := args.toArray, argTypes := argTypes }) rfl e1 hb
  rw [e]
  have := hg a w h fs gs g1 g2
  unfold GivesX at this
  have e2 : (fs ++ args.map a.eval ++ gs).toArray = fs.toArray ++ args.toArray.map a.eval ++ gs.toArray := by simp
  rw [e2] at this
  have hnod := h.nod
  rw [idsOf_append, List.nodup_append] at hnod
  obtain ⟨n1, n2, n3⟩ := hnod
  refine this.mono fun e w' ⟨v, he, g, hF, hev, hn, hfr, hown⟩ => ⟨v, he, g, ?_, ?_⟩
  all_goals
    have kp : Keep (okOut (okB C (idsOf (L ++ D))) w (idsOf L) (idsOf (L' g))) (okB C (idsOf (L' g ++ D))) w' w' := by
      intro b _ ho
      refine ⟨rfl, ?_⟩
      by_cases hb : b < w.heap.size
      · have hnD : b ∉ idsOf D := fun hm => by
          rcases ho.1 hb with h5 | h5
          · exact h5.2 (by rw [idsOf_append, List.mem_append]; exact .inr hm)
          · exact n3 b h5 b hm rfl
        refine ⟨fun hc => ?_, ?_⟩
        · rcases ho.1 hb with h5 | h5
          · exact h5.1 hc
          · rcases h.fresh b (by rw [idsOf_append, List.mem_append]; exact .inl h5) with h6 | h6
            · omega
            · exact .inr h6
        · rw [idsOf_append, List.mem_append]
          rintro (hm | hm)
          · exact ho.2 hm
          · exact hnD hm
      · refine ⟨fun hc => absurd hc (by have := h.ev.size; omega), ?_⟩
        rw [idsOf_append, List.mem_append]
        rintro (hm | hm)
        · exact ho.2 hm
        · exact hb (h.lt (by rw [idsOf_append, List.mem_append]; exact .inr hm))
  · exact (F g).mono hF kp
  · exact h.turnAll hn (fun b hb => (hfr b hb).symm) hev (fun _ q hq => q.mono (hown q hq) kp (fun _ _ => rfl))
end

end Go.Proofs.Kit
