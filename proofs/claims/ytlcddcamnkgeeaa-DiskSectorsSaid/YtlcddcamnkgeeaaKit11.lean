/- A kit of this claim's own, part 11: calls that are lent a variable of the caller's; slices of arrays; texts. No condition. -/
import Derived.Test.YtlcddcamnkgeeaaKit9
import Derived.Laws.BytesString
namespace Go.Proofs.Kit
open Go Go.RowKit
set_option linter.unusedSimpArgs false
set_option linter.unusedVariables false

/-! #### a call that is lent what its caller owns -/

def okOut (ok : Ok) (w : World) (L ids : List Nat) : Ok := fun n => (n < w.heap.size → ok n ∨ n ∈ L) ∧ n ∉ ids

/-- what such a call leaves: the lent things turned, new ones perhaps -/
def OutX {γ : Type} (ok : Ok) (w : World) (L : List OF) (F : γ → Fact) (L' : γ → List OF) (v : Value) (w' : World) : Prop :=
  ∃ g, (F g).holds (okOut ok w (idsOf L) (idsOf (L' g))) w' v ∧ Ev (idsOf L) w w' ∧ (idsOf (L' g)).Nodup ∧ (∀ b, b ∈ idsOf (L' g) → w.heap.size ≤ b ∨ b ∈ idsOf L) ∧ ∀ q, q ∈ L' g → q.holds (okOut ok w (idsOf L) (idsOf (L' g))) w'

def GivesX (P : Program) (f : FuncId) (args : List Value) (ok : Ok) (w : World) (L : List OF) {γ : Type} (F : γ → Fact) (L' : γ → List OF) : Prop :=
  Calls P f args.toArray w fun e w' => ∃ v, e = .returned v ∧ OutX ok w L F L' v w'

section
variable {P : Program} {f : FuncId} {fn : Func} {c : Code} {args : List Value} {ok : Ok} {w : World} {γ : Type} {F : γ → Fact} {L : List OF} {L' : γ → List OF}

theorem enterX {l : List Fact} (hf : P.funcs[f]? = some fn) (hb : fn.body = some c) {N : Nat} (hN : fn.ntmps = N) (hl : l.length ≤ N) (ha : ArgsOk ok w l args) (hnod : (idsOf L).Nodup) (hown : ∀ q, q ∈ L → q.holds ok w) (hd : ∀ b, b ∈ idsOf L → ¬ ok b)
    (K : ∀ a, St ⟨N, w, ok, idsOf L⟩ L (argEnv 0 l) a w → c.wp P (bodyPost P fn fun e w' => ∃ v, e = .returned v ∧ OutX ok w L F L' v w') a w) : GivesX P f args ok w L F L' := by
  refine calls_of_wp hf hb (K _ ?_)
  have hlen : args.length ≤ N := by rw [← ha.len]; exact hl
  have kp : Keep ok (okB ⟨N, w, ok, idsOf L⟩ (idsOf L)) w w := fun b _ ho => ⟨rfl, fun _ => .inl ho, fun hm => hd b hm ho⟩
  refine { size := by simp [hN]; omega, dfr := rfl, nod := hnod, fresh := fun b hb => .inr hb, ev := .refl _ _, own := fun q hq => q.mono (hown q hq) kp (fun _ _ => rfl), env := fun t G ht => ?_ }
  obtain ⟨_, v, h2, h3⟩ := ha.get 0 t G ht
  have hv : sl { tmps := args.toArray ++ Array.replicate (fn.ntmps - args.toArray.size) undef, defers := [] } t = v := by
    unfold sl
    have ht' : t < args.length := (List.getElem?_eq_some_iff.1 h2).1
    rw [Nat.sub_zero] at h2
    rw [Array.getD_eq_getD_getElem?, Array.getElem?_append_left (by simpa using ht')]
    simp [h2]
  rw [hv]
  exact G.mono h3 kp

theorem run_resultsX {C : Ctx} {B : List OF} {E : Env} {l : List ResultVar} {m : List Fact} {a : Act} {w' : World} (s : St C B E a w') (hr : fn.results = l.toArray) (h : ResAll P C B E l m) :
    ∃ vs : List Value, vs.length = m.length ∧ (∀ (i : Nat) (F : Fact) (u : Value), m[i]? = some F → vs[i]? = some u → F.holds (okB C (idsOf B)) w' u) ∧
      (results fn a.tmps).run P w' = .ok (if vs.length = 1 then vs.headD undef else .tuple vs.toArray) w' := by
  obtain ⟨vs, h1, h2, h3⟩ := h.run s
  refine ⟨vs, h1, h2, ?_⟩
  have e : results fn a.tmps = (do let vs ← fn.results.mapM (resSem a.tmps); pure (if h : vs.size = 1 then vs[0] else .tuple vs)) := by
    unfold results; congr 2
  rw [e, hr, List.mapM_toArray]
  simp only [Sem.run_bind, Sem.run_map, h3, Result.andThen_ok, Sem.run_pure]
  match vs with
  | [] => rfl
  | [v] => rfl
  | _ :: _ :: _ => simp

theorem leaveX {N : Nat} {E : Env} {l : List ResultVar} {m : List Fact} {a : Act} {w' : World} {e : Exit} (g : γ) {B : List OF} (s : St ⟨N, w, ok, idsOf L⟩ B E a w') (hB : L' g = B) (he : e = .ret ∨ e = .normal) (hr : fn.results = l.toArray) (h : ResAll P ⟨N, w, ok, idsOf L⟩ B E l m) (hF : F g = resFact m) :
    bodyPost P fn (fun e w' => ∃ v, e = .returned v ∧ OutX ok w L F L' v w') e a w' := by
  subst hB
  obtain ⟨vs, h1, h2, h3⟩ := run_resultsX s hr h
  have key : (resFact m).holds (okOut ok w (idsOf L) (idsOf (L' g))) w' (if vs.length = 1 then vs.headD undef else .tuple vs.toArray) := by
    match m, vs, h1 with
    | [], [], _ => exact ⟨[], rfl, rfl, fun i F u hF => by simp at hF⟩
    | [F], [v], _ => exact h2 0 F v rfl rfl
    | F :: G :: m, v :: u :: vs, hl => exact ⟨v :: u :: vs, by simp, hl, h2⟩
  have out : ∃ v, Ending.returned (if vs.length = 1 then vs.headD undef else .tuple vs.toArray) = .returned v ∧ OutX ok w L F L' v w' := ⟨_, rfl, g, by rw [hF]; exact key, s.ev, s.nod, s.fresh, s.own⟩
  rcases he with rfl | rfl <;> exact ⟨s.dfr, _, h3, out⟩
end

/-- a block's part between 'pre' and 'post' -/
def kin {β : Type} (pre : List Value) (k : Kd β) (post : List Value) (h1 : ∀ v, v ∈ pre → v.oneCell' = true) (h2 : ∀ v, v ∈ post → v.oneCell' = true) : Kd β where
  sz := pre.length + k.sz + post.length
  agg := true
  rel ok w x cs := ∃ c, cs = pre ++ c ++ post ∧ k.rel ok w x c
  len := by rintro ok w x cs ⟨c, rfl, h⟩; simp [k.len h]; omega
  one := by intro _ _ _ _ _ h; simp at h
  cell1 := by
    rintro ok w x cs ⟨c, rfl, h⟩ v hv
    simp only [List.mem_append] at hv
    rcases hv with (h | h') | h
    · exact h1 v h
    · exact k.cell1 h v h'
    · exact h2 v h
  mono := by rintro _ _ _ _ x cs ⟨c, rfl, h⟩ kp; exact ⟨c, rfl, k.mono h kp⟩

section
variable {β : Type} {pre post : List Value} {k : Kd β} {h1 : ∀ v, v ∈ pre → v.oneCell' = true} {h2 : ∀ v, v ∈ post → v.oneCell' = true}
theorem LG.kin (x : β) : LG (kin pre k post h1 h2) k pre.length x x := by
  rintro ok w cs ⟨c, rfl, h⟩
  have hc := k.len h
  rw [List.append_assoc, List.drop_left, ← hc, List.take_left]
  exact h
theorem LS.kin (x y : β) : LS (kin pre k post h1 h2) k pre.length x y y := by
  rintro ok w cs ds ⟨c, rfl, h⟩ hy
  have hc := k.len h
  refine ⟨by simp [Kit.kin], ds, ?_, hy⟩
  have e : (pre ++ c ++ post).drop (pre.length + k.sz) = post := by rw [← hc, ← List.length_append, List.drop_left]
  rw [e, List.append_assoc pre c post, List.take_left]
end

section
variable {P : Program} {C : Ctx} {B B' A D : List OF} {E : Env} {o : Oper} {f : FuncId} {α β : Type} {K : Kd α} {k : Kd β} {X X' : α} {x x' : β} {b off : Nat} {U : TypeId} {F : Fact}

theorem keep_okOut {a : Act} {w w' : World} {L ids : List Nat} (h : St C B E a w) (hs : ∀ n, n ∈ L → n ∈ ids) : Keep (okOut (okB C (idsOf B)) w L ids) (okB C (idsOf B)) w' w' := fun b _ ho => by
  refine ⟨rfl, ?_⟩
  by_cases hb : b < w.heap.size
  · exact (ho.1 hb).resolve_right (fun hm => ho.2 (hs b hm))
  · exact ⟨fun hc => absurd hc (by have := h.ev.size; omega), fun hm => hb (h.lt hm)⟩

/-- a callee turns a variable of the caller's, or a part of one -/
theorem ob_callW {argTypes : Array TypeId} {args : List Operand} (ho : o.op = .call { callee := .value (.func f), args := args.toArray, argTypes := argTypes }) (hb : hasBody P f)
    (hB : B = A ++ BF b U K X :: D) (lg : LG K k off X x) (ls : LS K k off X x' X') (hz : 0 < k.sz) (hB' : B' = A ++ BF b U K X' :: D)
    (hg : ∀ a w, St C B E a w → ∀ pre post h1 h2, pre.length = off → (BF b U (kin pre k post h1 h2) x).holds (okB C (idsOf B)) w → ¬ okB C (idsOf B) b →
      GivesX P f (args.map a.eval) (okB C (idsOf B)) w [BF b U (kin pre k post h1 h2) x] (fun _ : Unit => F) (fun _ => [BF b U (kin pre k post h1 h2) x'])) :
    ObX P C B E o (fun _ : Unit => B') (fun _ => F) := fun a w h => by
  subst hB hB'
  unfold Does
  have e : (execOp a.eval o).run P w = .ok (.enter f (args.toArray.map a.eval)) w := by
    simp only [execOp, ho]; exact run_call (c := { callee := .value (.func f), args := args.toArray, argTypes := argTypes }) rfl rfl hb
  rw [e]
  obtain ⟨cs, hh, hr⟩ := h.own (BF b U K X) (by simp)
  have hx := lg _ _ _ hr
  have hcl := K.len hr
  have hkl := k.len hx
  have hdrop : ((cs.drop off).take k.sz).length = k.sz := hkl
  have hfit : off + k.sz ≤ cs.length := by simp only [List.length_take, List.length_drop] at hdrop; omega
  have hsplit : cs = cs.take off ++ (cs.drop off).take k.sz ++ cs.drop (off + k.sz) := by
    rw [List.append_assoc, ← List.drop_drop, List.take_append_drop, List.take_append_drop]
  have c1 := K.cell1 hr
  have h1 : ∀ v, v ∈ cs.take off → v.oneCell' = true := fun v hv => c1 v (List.mem_of_mem_take hv)
  have h2 : ∀ v, v ∈ cs.drop (off + k.sz) → v.oneCell' = true := fun v hv => c1 v (List.mem_of_mem_drop hv)
  have hpl : (cs.take off).length = off := by simp; omega
  have hbm : b ∈ idsOf (A ++ BF b U K X :: D) := mem_idsOf (f := BF b U K X) (by simp) (by simp [BF])
  have := hg a w h (cs.take off) (cs.drop (off + k.sz)) h1 h2 hpl ⟨cs, hh, _, hsplit, hx⟩ (fun hn => hn.2 hbm)
  unfold GivesX at this
  have e2 : (args.map a.eval).toArray = args.toArray.map a.eval := by simp
  rw [e2] at this
  refine this.mono fun e w' ⟨v, he, _, hF, hev, _, _, hown⟩ => ⟨v, he, (), ?_, ?_⟩
  · have hi : idsOf (A ++ BF b U K X' :: D) = idsOf (A ++ BF b U K X :: D) := by simp [idsOf_append, idsOf, BF]
    show F.holds (okB C (idsOf (A ++ BF b U K X' :: D))) w' v
    rw [hi]; exact F.mono hF (keep_okOut h (fun _ hn => hn))
  · refine h.turn (g := BF b U K X') rfl hev (fun kp => ?_)
    obtain ⟨cs', g1, c', g2, g3⟩ := hown (BF b U (kin (cs.take off) k (cs.drop (off + k.sz)) h1 h2) x') (by simp)
    subst g2
    exact ⟨_, g1, (ls _ _ cs c' (K.mono hr kp) (k.mono g3 (keep_okOut h (fun _ hn => hn)))).2⟩

/-! #### what is owned is lent for reading -/

def Flat (F : Fact) : Prop := ∀ ok ok' w w' v, F.holds ok w v → F.holds ok' w' v
def KFlat {α : Type} (k : Kd α) : Prop := ∀ ok ok' w w' x cs, k.rel ok w x cs → k.rel ok' w' x cs
theorem KFlat.int (ik : IntKind) : KFlat (kint ik) := fun _ _ _ _ _ _ h => h
theorem KFlat.bool : KFlat kbool := fun _ _ _ _ _ _ h => h
theorem KFlat.str : KFlat kstr := fun _ _ _ _ _ _ h => h
theorem KFlat.nil : KFlat knil := fun _ _ _ _ _ _ h => h
theorem KFlat.pair {α β : Type} {k : Kd α} {l : Kd β} (h1 : KFlat k) (h2 : KFlat l) : KFlat (kpair k l) := fun _ _ _ _ _ _ ⟨c, d, e, g1, g2⟩ => ⟨c, d, e, h1 _ _ _ _ _ _ g1, h2 _ _ _ _ _ _ g2⟩
theorem KFlat.iso {α β : Type} {k : Kd β} {f : α → β} (h : KFlat k) : KFlat (kiso k f) := fun _ _ _ _ _ _ g => h _ _ _ _ _ _ g
theorem KFlat.arr {α : Type} {k : Kd α} {n : Nat} (h : KFlat k) : KFlat (karr n k) := by
  rintro ok ok' w w' xs cs ⟨hl, hr⟩
  refine ⟨hl, ?_⟩
  clear hl
  induction xs generalizing cs with
  | nil => exact hr
  | cons x xs ih => obtain ⟨c, d, rfl, g1, g2⟩ := hr; exact ⟨c, d, rfl, h _ _ _ _ _ _ g1, ih d g2⟩
theorem Flat.V {α : Type} {k : Kd α} {x : α} (h : KFlat k) : Flat (k.V x) := fun _ _ _ _ _ ⟨cs, g, e⟩ => ⟨cs, h _ _ _ _ _ _ g, e⟩
theorem Flat.tup {l : List Fact} (h : ∀ F, F ∈ l → Flat F) : Flat (tup l) := fun _ _ _ _ _ ⟨vs, h1, h2, h3⟩ => ⟨vs, h1, h2, fun i F u hF hu => h F (List.mem_of_getElem? hF) _ _ _ _ _ (h3 i F u hF hu)⟩
theorem Flat.res1 {F : Fact} (h : Flat F) : Flat (resFact [F]) := h
theorem Flat.res0 : Flat (resFact []) := Flat.tup fun _ h => by cases h
theorem Flat.res2 {F G : Fact} (h : Flat F) (g : Flat G) : Flat (resFact [F, G]) := Flat.tup fun _ hm => by
  simp at hm; rcases hm with rfl | rfl
  · exact h
  · exact g
theorem Flat.res3 {F G H : Fact} (h : Flat F) (g : Flat G) (i : Flat H) : Flat (resFact [F, G, H]) := Flat.tup fun _ hm => by
  simp at hm; rcases hm with rfl | rfl | rfl
  · exact h
  · exact g
  · exact i

theorem ob_lend {B2 : List OF} {t : Nat} {v0 : Value} {G : Fact} (hB : B = A ++ BF b U K X :: D) (hB2 : B2 = A ++ D) (ht : get E t = some (is v0)) (hF : Flat F)
    (hG : ∀ ok w, (BF b U K X).holds ok w → ok b → G.holds ok w v0) (ob : ∀ C', Ob P C' B2 ((t, G) :: E) o F) : Ob P C B E o F := fun a w h => by
  subst hB hB2
  have hv : sl a t = v0 := h.env t _ ht
  have hown := h.own (BF b U K X) (by simp)
  have hbm : b ∈ idsOf (A ++ BF b U K X :: D) := mem_idsOf (f := BF b U K X) (by simp) (by simp [BF])
  have hnot : b ∉ idsOf (A ++ D) := by
    have hn := h.nod
    rw [idsOf_append] at hn
    have hn' : (idsOf A ++ ([b] ++ idsOf D)).Nodup := hn
    rw [List.nodup_append] at hn'
    obtain ⟨_, h6, h7⟩ := hn'
    rw [List.nodup_append] at h6
    intro hm
    rw [idsOf_append, List.mem_append] at hm
    rcases hm with h8 | h8
    · exact h7 b h8 b (by simp) rfl
    · exact h6.2.2 b (by simp) b h8 rfl
  have h' := h.drop
  let C' : Ctx := ⟨C.N, C.w0, fun n => C.ok0 n ∨ n = b, C.M0⟩
  have kp : Keep (okB C (idsOf (A ++ D))) (okB C' (idsOf (A ++ D))) w w := fun n _ ho => ⟨rfl, fun hc => (ho.1 hc).imp .inl id, ho.2⟩
  have kp2 : Keep (okB C (idsOf (A ++ BF b U K X :: D))) (okB C' (idsOf (A ++ D))) w w := fun n _ ho => ⟨rfl, fun hc => (ho.1 hc).imp .inl id, fun hm => ho.2 (by
    simp only [idsOf_append, idsOf, List.mem_append] at hm ⊢; rcases hm with h1 | h1 <;> simp [h1])⟩
  have s : St C' (A ++ D) E a w := { size := h'.size, dfr := h'.dfr, nod := h'.nod, fresh := h'.fresh, ev := h'.ev, own := fun q hq => q.mono (h'.own q hq) kp (fun _ _ => rfl), env := fun t F ht => F.mono (h'.env t F ht) kp }
  have hGh : G.holds (okB C' (idsOf (A ++ D))) w v0 := hG _ _ ((BF b U K X).mono hown kp2 (fun _ _ => rfl)) ⟨fun _ => .inl (.inr rfl), hnot⟩
  have s2 : St C' (A ++ D) ((t, G) :: E) a w := s.fact (by rw [hv]; exact hGh)
  exact (ob C' a w s2).mono fun v w' ⟨g1, g2⟩ => ⟨hF _ _ _ _ _ g1, g2⟩

theorem BF_cellsAt {ok : Ok} {w : World} {cs : List Value} (hg : w.heap[b]? = some (.cells cs.toArray U (0, 0))) (hb : ok b) (n : Nat) : cellsAt ok w ⟨b, off, none⟩ ((cs.drop off).take n) := by
  intro j v hj
  refine ⟨?_, hb⟩
  rw [add_lit]
  have : cs[off + j]? = some v := by
    rw [List.getElem?_take] at hj
    split at hj
    · rwa [List.getElem?_drop] at hj
    · cases hj
  simp [World.cell?, hg, this]

theorem lendPtr (lg : LG K k off X x) : ∀ ok w, (BF b U K X).holds ok w → ok b → (ptrTo k x).holds ok w (.pointer (some ⟨b, off, none⟩)) := by
  rintro ok w ⟨cs, hg, hr⟩ hb
  exact ⟨_, _, rfl, BF_cellsAt hg hb _, lg _ _ _ hr⟩
end

/-! #### rows that are let while something is lent -/

theorem St.rowValM {C : Ctx} {A D : List OF} {E : Env} {β : Type} {k : Kd β} {e : TypeId} {a : Act} {w : World} {v : Value} {xs : List β} (h : St C (A ++ RowF v e k xs :: D) E a w) : ((ksl k).V xs).holds (okB C (idsOf (A ++ D))) w v := by
  obtain ⟨rs, hr, hl, hv⟩ := h.own (RowF v e k xs) (by simp)
  have kp : Keep (okB C (idsOf (A ++ RowF v e k xs :: D))) (okB C (idsOf (A ++ D))) w w := fun b _ ho => ⟨rfl, ho.1, fun hm => ho.2 (by
    simp only [idsOf_append, idsOf, List.mem_append] at hm ⊢; rcases hm with h1 | h1 <;> simp [h1])⟩
  rcases hv with ⟨rfl, h0⟩ | ⟨g, cap, cur, rfl, _, hg, h1, h2, h3, h4⟩
  · have hxs : xs = [] := List.eq_nil_of_length_eq_zero h0
    subst hxs
    exact ⟨_, ⟨none, 0, rfl, ⟨Nat.le_refl _, Nat.zero_le _⟩, fun _ => rfl, [], rfl, fun p hp => by cases hp⟩, rfl⟩
  · have hgi : g ∈ idsOf (A ++ RowF (.slice (some ⟨g, 0, none⟩) xs.length cap) e k xs :: D) := mem_idsOf (f := RowF (.slice (some ⟨g, 0, none⟩) xs.length cap) e k xs) (by simp) (by simp [RowF, ownIds])
    have hnot : g ∉ idsOf (A ++ D) := by
      intro hm
      have hn := h.nod
      rw [idsOf_append] at hn
      have hn' : (idsOf A ++ ([g] ++ idsOf D)).Nodup := hn
      rw [List.nodup_append] at hn'
      obtain ⟨_, h6, h7⟩ := hn'
      rw [List.nodup_append] at h6
      rw [idsOf_append, List.mem_append] at hm
      rcases hm with h8 | h8
      · exact h7 g h8 g (by simp) rfl
      · exact h6.2.2 g (by simp) g h8 rfl
    refine ⟨_, ⟨some ⟨g, 0, none⟩, cap, rfl, ⟨h1, h2⟩, fun hn => (by cases hn), rs, relL_mono hr kp, fun p hp => ?_⟩, rfl⟩
    cases hp
    intro j u hj
    rw [add_lit]
    refine ⟨?_, ?_⟩
    · have : cur.toList[0 + j]? = some u := by
        rw [← h4, List.getElem?_take] at hj
        split at hj
        · simpa using hj
        · cases hj
      simp only [World.cell?, hg]
      simpa using this
    · refine ⟨fun hlt => ?_, hnot⟩
      rcases h.fresh g hgi with h5 | h5
      · exact absurd hlt (by show ¬ g < _; omega)
      · exact .inr h5

theorem St.freezeAllM {C : Ctx} {A D : List OF} {E : Env} {β : Type} {k : Kd β} {e : TypeId} {a : Act} {w : World} {v : Value} {xs : List β} {ts : List Nat} (h : St C (A ++ RowF v e k xs :: D) E a w) (ht : Holds E v ts) : St C (A ++ D) (frozen k xs ts E) a w := by
  have hv := h.rowValM
  have h' := h.drop
  induction ht with
  | nil => exact h'
  | @cons t l hg r ih => exact ih.fact (by rw [show sl a t = v from h.env t _ hg]; exact hv)

end Go.Proofs.Kit
