/- A kit of this claim's own, part 7: values that are built, rows that grow, cuts, strings. No condition. -/
import Derived.Test.YtdlnfgpcnfbjiaaKx6
namespace Go.Proofs.Kit
open Go Go.RowKit
set_option linter.unusedSimpArgs false
set_option linter.unusedVariables false


inductive BuildOk (E : Env) {α : Type} (K : Kd α) (place : Nat → Option (Nat × Nat)) : α → List (Nat × Operand) → α → Prop
  | nil (x : α) : BuildOk E K place x [] x
  | cons {β : Type} {k : Kd β} {x x1 x2 : α} {y : β} {i off : Nat} {o : Operand} {l : List (Nat × Operand)} (hx : Opd E o (k.V y)) (hp : place i = some (off, k.sz)) (ls : LS K k off x y x1) (t : BuildOk E K place x1 l x2) : BuildOk E K place x ((i, o) :: l) x2

theorem put_cells (cs ds : List Value) (off : Nat) (h : off + ds.length ≤ cs.length) :
    (ds.toArray.zipIdx.foldl (fun (c : Array Value) (p : Value × Nat) => c.setIfInBounds (off + p.2) p.1) cs.toArray) = (cs.take off ++ ds ++ cs.drop (off + ds.length)).toArray := by
  have key : ∀ (ds : List Value) (j : Nat) (cs : List Value), off + j + ds.length ≤ cs.length →
      ((ds.zipIdx j).foldl (fun (c : Array Value) (p : Value × Nat) => c.setIfInBounds (off + p.2) p.1) cs.toArray) = (cs.take (off + j) ++ ds ++ cs.drop (off + j + ds.length)).toArray := by
    intro ds
    induction ds with
    | nil => intro j cs h; simp
    | cons d ds ih =>
      intro j cs h
      simp only [List.length_cons] at h
      rw [List.zipIdx_cons, List.foldl_cons]
      have e : cs.toArray.setIfInBounds (off + j) d = (cs.set (off + j) d).toArray := by simp
      show List.foldl _ (cs.toArray.setIfInBounds (off + j) d) _ = _
      rw [e, ih (j + 1) (cs.set (off + j) d) (by simp; omega)]
      congr 1
      have := list_seg_step cs (off + j) d ds (by omega)
      rw [show off + (j + 1) = off + j + 1 by omega]
      simpa [Nat.add_assoc, Nat.add_comm 1] using this
  rw [← Array.foldl_toList]
  have := key ds 0 cs (by simpa using h)
  simpa using this

theorem BuildOk.fill {E : Env} {α : Type} {K : Kd α} {place : Nat → Option (Nat × Nat)} {C : Ctx} {B : List OF} {a : Act} {w : World} (h : St C B E a w) {x x' : α} {l : List (Nat × Operand)} (hb : BuildOk E K place x l x') :
    ∀ cs, K.rel (okB C (idsOf B)) w x cs → ∃ cs', Instr.fill place cs.toArray (l.map fun p => (p.1, a.eval p.2)) = some cs'.toArray ∧ K.rel (okB C (idsOf B)) w x' cs' := by
  induction hb with
  | nil x => exact fun cs hr => ⟨cs, rfl, hr⟩
  | @cons β k x x1 x2 y i off o l hx hp ls t ih =>
    intro cs hr
    obtain ⟨ds, hd, hv⟩ := h.arg hx
    obtain ⟨hb, hr'⟩ := ls _ _ _ _ hr hd
    have hdl := k.len hd
    have hcl := K.len hr
    have hcells : (mkv k.agg ds).cells = ds.toArray := by have := Kd.cells hd; rw [← Array.toList_inj, this]
    obtain ⟨cs', h1, h2⟩ := ih _ hr'
    refine ⟨cs', ?_, h2⟩
    rw [← h1]
    simp only [List.map_cons, Instr.fill, hp, hv, hcells]
    have e1 : ¬ ds.toArray.size ≠ k.sz := by simp [hdl]
    have e2 : ¬ (off + ds.toArray.size > cs.toArray.size) := by simp [hdl, hcl]; omega
    rw [if_neg (by simp [hdl, hcl]; omega)]
    congr 1
    rw [put_cells cs ds off (by rw [hdl, hcl]; exact hb), hdl]

section
variable {P : Program} {C : Ctx} {B : List OF} {E : Env} {o : Oper} {α β : Type} {K : Kd α} {k : Kd β} {T T' e : TypeId} {x y : Operand} {X0 X : α}

theorem ob_buildStruct {fs : Array Field} {z : Value} {places : List (Nat × Nat)} {parts : List (Nat × Operand)} (ho : o.op = .build T parts.toArray) (hT : P.underlying T = some (.struct fs)) (hz : ((P.info? T).bind (·.zero)) = some z) (hK : K.agg = true)
    (hp : fs.toList.mapM (fun f => (P.info? f.type).map fun i => (f.offset, i.size)) = some places) (h0 : ∀ ok w, K.rel ok w X0 z.cells.toList) (hb : BuildOk E K (fun x : Nat => places[x]?) X0 parts X) : Ob P C B E o (K.V X) := fun a w h => by
  obtain ⟨cs', h1, h2⟩ := hb.fill h z.cells.toList (h0 _ _)
  obtain ⟨i, hi⟩ : ∃ i, P.info? T = some i := by
    cases hq : P.info? T with
    | none => rw [hq] at hz; cases hz
    | some i => exact ⟨i, rfl⟩
  have hz' : i.zero = some z := by simpa [hi] using hz
  have hbt : P.built T (parts.map fun p => (p.1, a.eval p.2)) = some cs'.toArray := by
    unfold Program.built
    rw [hi, hT]
    simp only [hz', hp]
    have hf : (fun x : Nat => places.toArray[x]?) = fun x : Nat => places[x]? := by funext x; simp
    rw [hf, ← h1]
  refine .value (w' := w) (v := .agg cs'.toArray) ?_ ⟨⟨cs', h2, by simp [mkv, hK]⟩, .refl _ _⟩
  simp only [execOp, ho, Sem.run_bind, List.map_toArray]
  rw [run_build w T _ cs'.toArray (by simpa using hbt)]
  rfl

theorem ob_buildArr {n : Nat} {z : Value} {parts : List (Nat × Operand)} {xs0 xs : List β} (ho : o.op = .build T parts.toArray) (hT : P.underlying T = some (.array n e)) (hz : ((P.info? T).bind (·.zero)) = some z)
    (hs : (P.info? e).map (·.size) = some k.sz) (h0 : ∀ ok w, (karr n k).rel ok w xs0 z.cells.toList) (hb : BuildOk E (karr n k) (fun i => some (i * k.sz, k.sz)) xs0 parts xs) : Ob P C B E o ((karr n k).V xs) := fun a w h => by
  obtain ⟨cs', h1, h2⟩ := hb.fill h z.cells.toList (h0 _ _)
  obtain ⟨i, hi⟩ : ∃ i, P.info? T = some i := by
    cases hq : P.info? T with
    | none => rw [hq] at hz; cases hz
    | some i => exact ⟨i, rfl⟩
  obtain ⟨ie, hie⟩ : ∃ i, P.info? e = some i := by
    cases hq : P.info? e with
    | none => rw [hq] at hs; cases hs
    | some i => exact ⟨i, rfl⟩
  have hz' : i.zero = some z := by simpa [hi] using hz
  have hs' : ie.size = k.sz := by simpa [hie] using hs
  have hbt : P.built T (parts.map fun p => (p.1, a.eval p.2)) = some cs'.toArray := by
    unfold Program.built
    rw [hi, hT]
    simp only [hz', hie, hs']
    rw [← h1]
  refine .value (w' := w) (v := .agg cs'.toArray) ?_ ⟨⟨cs', h2, by simp [mkv, karr]⟩, .refl _ _⟩
  simp only [execOp, ho, Sem.run_bind, List.map_toArray]
  rw [run_build w T _ cs'.toArray (by simpa using hbt)]
  rfl

/-- a row of noughts -/
theorem relL_zeros {ok : Ok} {w : World} {y0 : β} {zs : List Value} (hz : k.rel ok w y0 zs) (n : Nat) : relL k ok w (List.replicate n y0) ((List.range (n * zs.length)).map fun j => zs.toArray[j % zs.length]!) := by
  induction n with
  | zero => simp [relL]
  | succ n ih =>
    rw [List.replicate_succ]
    refine ⟨zs, _, ?_, hz, ih⟩
    have hl : (n + 1) * zs.length = zs.length + n * zs.length := by rw [Nat.succ_mul, Nat.add_comm]
    rw [hl, List.range_add, List.map_append, List.map_map]
    congr 1
    · refine List.ext_getElem (by simp) fun i h1 h2 => ?_
      simp only [List.length_map, List.length_range] at h1
      simp [Nat.mod_eq_of_lt h1, h1]
    · refine List.map_congr_left fun j _ => ?_
      simp [Function.comp]

/-- a slice that is written out -/
theorem ob_buildSlice {n : Nat} {z : Value} {y0 : β} {parts : List (Nat × Operand)} {xs : List β} (ho : o.op = .buildSlice T n parts.toArray) (hT : P.underlying T = some (.slice e)) (hz : ((P.info? e).bind (·.zero)) = some z)
    (hs : (P.info? e).map (·.size) = some k.sz) (h0 : ∀ ok w, k.rel ok w y0 z.cells.toList) (hn : n * k.sz ≤ 16777216) (hk : 0 < k.sz) (hb : BuildOk E (karr n k) (fun i => some (i * k.sz, k.sz)) (List.replicate n y0) parts xs) : Ob P C B E o ((ksl k).V xs) := fun a w h => by
  have hzl : z.cells.toList.length = k.sz := k.len (h0 (okB C (idsOf B)) w)
  have hz0 := relL_zeros (h0 (okB C (idsOf B)) w) n
  obtain ⟨cs', h1, h2⟩ := hb.fill h _ ⟨by simp, hz0⟩
  have hrow : ((Array.range (n * k.sz)).map fun j => (if n * k.sz = 0 then #[] else z.cells)[j % (if n * k.sz = 0 then #[] else z.cells).size]!) = ((List.range (n * z.cells.toList.length)).map fun j => z.cells.toList.toArray[j % z.cells.toList.length]!).toArray := by
    rw [hzl]
    by_cases hm : n * k.sz = 0
    · rw [hm]; simp
    · simp only [hm, if_false, ← List.toArray_range, List.map_toArray]
      congr 1
      refine List.map_congr_left fun j _ => ?_
      rw [show z.cells.size = k.sz by simpa using hzl]
  have hlen : cs'.length = n * k.sz := (karr n k).len h2
  refine .value (w' := w.alloc (.cells cs'.toArray e)) (v := .slice (some ⟨w.heap.size, 0, none⟩) n n) ?_ ⟨⟨[.slice (some ⟨w.heap.size, 0, none⟩) n n], ?_, rfl⟩, Ev.alloc _ _⟩
  · simp only [execOp, ho, Sem.run_bind, Instr.buildSlice, run_underlying hT, Result.andThen_ok, run_sizeOf' hs]
    rw [Sem.run_ite, if_neg (by omega)]
    simp only [Sem.run_bind, Sem.run_pure, Result.andThen_ok]
    by_cases hm : n * k.sz = 0
    · simp only [hm, if_true] at hrow h1 ⊢
      simp only [List.map_toArray, Sem.run_bind, Sem.run_pure, Result.andThen_ok, hrow, h1]
      simp only [newRow, newObj, Sem.run_bind, Sem.run, Result.andThen_ok, Sem.run_pure]
      rfl
    · simp only [hm, if_false] at hrow h1 ⊢
      simp only [List.map_toArray, Sem.run_bind, run_zero hz, Sem.run_pure, Result.andThen_ok, hrow, h1]
      simp only [newRow, newObj, Sem.run_bind, Sem.run, Result.andThen_ok, Sem.run_pure]
      rfl
  · refine ⟨some ⟨w.heap.size, 0, none⟩, n, ?_, ?_, by simp, cs', relL_mono h2.2 (.of_ev_nil (Ev.alloc w _)), fun p hp => ?_⟩
    · rw [h2.1]
    · rw [h2.1]; refine ⟨Nat.le_refl _, ?_⟩
      have : n ≤ n * k.sz := Nat.le_mul_of_pos_right n hk
      unfold maxLen; omega
    · cases hp
      intro j v hj
      refine ⟨?_, ?_⟩
      · rw [add_lit]
        simp only [World.cell?]
        rw [show (w.alloc (.cells cs'.toArray e)).heap[w.heap.size]? = some (.cells cs'.toArray e) from heap_alloc_new w _]
        simpa using hj
      · exact ⟨fun hc => absurd hc (by have := h.ev.size; show ¬ w.heap.size < _; omega), fun hm => absurd (h.lt hm) (by show ¬ w.heap.size < _; omega)⟩

end


def ownIds : Value → List Nat
  | .slice (some a) _ _ => [a.block]
  | _ => []

/-- a slice of the call's own: it may grow in place, or anew -/
def RowF (v : Value) (e : TypeId) {β : Type} (k : Kd β) (xs : List β) : OF where
  ids := ownIds v
  holds ok w := ∃ rs, relL k ok w xs rs ∧ w.ownsRow 0 e k.sz v xs.length rs
  lt := by
    rintro ok w ⟨rs, _, h, h2⟩ b hb
    rcases h2 with ⟨rfl, _⟩ | ⟨g, cap, cur, rfl, _, hg, _⟩
    · simp [ownIds] at hb
    · simp [ownIds] at hb; subst hb; exact lt_of_heap hg
  mono := by
    rintro ok ok' w w' ⟨rs, h1, h, h2⟩ kp hs
    refine ⟨rs, relL_mono h1 kp, h, ?_⟩
    rcases h2 with h3 | ⟨g, cap, cur, rfl, h4, hg, h5⟩
    · exact .inl h3
    · exact .inr ⟨g, cap, cur, rfl, h4, (hs g (by simp [ownIds])).trans hg, h5⟩

/-- what is owned in one place turns, and may come to lie in a new block: the others stay -/
theorem St.turn' {C : Ctx} {A B : List OF} {f g : OF} {E : Env} {a : Act} {w w' : World} (h : St C (A ++ f :: B) E a w) (hi : ∀ b, b ∈ g.ids → b ∈ f.ids ∨ w.heap.size ≤ b) (hn : g.ids.Nodup) (e : Ev f.ids w w')
    (hg : Keep (okB C (idsOf (A ++ f :: B))) (okB C (idsOf (A ++ g :: B))) w w' → g.holds (okB C (idsOf (A ++ g :: B))) w') : St C (A ++ g :: B) E a w' := by
  have hin : ∀ b, b ∈ f.ids → b ∈ idsOf (A ++ f :: B) := fun b hb => mem_idsOf (f := f) (by simp) hb
  have hsub : ∀ b, b ∈ idsOf (A ++ g :: B) → b ∈ idsOf (A ++ f :: B) ∨ (w.heap.size ≤ b ∧ b ∈ g.ids) := by
    intro b hb
    simp only [idsOf_append, idsOf, List.mem_append] at hb ⊢
    rcases hb with h1 | h1 | h1
    · exact .inl (.inl h1)
    · rcases hi b h1 with h2 | h2
      · exact .inl (.inr (.inl h2))
      · exact .inr ⟨h2, h1⟩
    · exact .inl (.inr (.inr h1))
  have kp : Keep (okB C (idsOf (A ++ f :: B))) (okB C (idsOf (A ++ g :: B))) w w' := fun b hb ho =>
    ⟨e.block b hb (fun hm => ho.2 (hin b hm)), ho.1, fun hm => by
      rcases hsub b hm with h1 | h1
      · exact ho.2 h1
      · omega⟩
  have hnod := h.nod
  rw [idsOf_append] at hnod
  have hnod' : (idsOf A ++ (f.ids ++ idsOf B)).Nodup := hnod
  rw [List.nodup_append] at hnod'
  obtain ⟨nA, nfB, dA⟩ := hnod'
  rw [List.nodup_append] at nfB
  obtain ⟨nf, nB, dfB⟩ := nfB
  have ltA : ∀ b, b ∈ idsOf A → b < w.heap.size := fun b hb => h.lt (by simp [idsOf_append, hb])
  have ltB : ∀ b, b ∈ idsOf B → b < w.heap.size := fun b hb => h.lt (by simp [idsOf_append, idsOf, hb])
  refine { size := h.size, dfr := h.dfr, nod := ?_, fresh := ?_, ev := ?_, own := ?_, env := fun t F ht => F.mono (h.env t F ht) kp }
  · rw [idsOf_append]
    show (idsOf A ++ (g.ids ++ idsOf B)).Nodup
    rw [List.nodup_append, List.nodup_append]
    refine ⟨nA, ⟨hn, nB, fun x hx y hy hxy => ?_⟩, fun x hx y hy hxy => ?_⟩
    · subst hxy
      rcases hi x hx with h1 | h1
      · exact dfB x h1 x hy rfl
      · have := ltB x hy; omega
    · subst hxy
      rcases List.mem_append.1 hy with h1 | h1
      · rcases hi x h1 with h2 | h2
        · exact dA x hx x (by simp [h2]) rfl
        · have := ltA x hx; omega
      · exact dA x hx x (by simp [h1]) rfl
  · intro b hb
    rcases hsub b hb with h1 | h1
    · exact h.fresh b h1
    · exact .inl (Nat.le_trans h.ev.size h1.1)
  · refine ⟨e.os.trans h.ev.os, e.tape.trans h.ev.tape, e.output.trans h.ev.output, Nat.le_trans h.ev.size e.size, fun k hk hM => ?_⟩
    rw [e.block k (Nat.lt_of_lt_of_le hk h.ev.size) ?_, h.ev.block k hk hM]
    intro hm
    rcases h.fresh k (hin k hm) with h1 | h1
    · omega
    · exact hM h1
  · intro q hq
    have other : ∀ q, q ∈ A ∨ q ∈ B → q.holds (okB C (idsOf (A ++ g :: B))) w' := by
      intro q hq
      have hqm : q ∈ A ++ f :: B := by rcases hq with h1 | h1 <;> simp [h1]
      refine q.mono (h.own q hqm) kp (fun b hb => e.block b (q.lt (h.own q hqm) b hb) ?_)
      intro hbf
      rcases hq with h1 | h1
      · exact dA b (mem_idsOf h1 hb) b (by simp [hbf]) rfl
      · exact dfB b hbf b (mem_idsOf h1 hb) rfl
    rcases List.mem_append.1 hq with h1 | h1
    · exact other q (.inl h1)
    · rcases List.mem_cons.1 h1 with h2 | h2
      · rw [h2]; exact hg kp
      · exact other q (.inr h2)

/-- a new thing is owned: in no block, or in a block that is new -/
theorem St.adopt {C : Ctx} {B : List OF} {E : Env} {a : Act} {w : World} (h : St C B E a w) {G : OF} (hi : G.ids = []) (hG : G.holds (okB C (idsOf B)) w) : St C (G :: B) E a w := by
  have e : idsOf (G :: B) = idsOf B := by simp [idsOf, hi]
  refine { size := h.size, dfr := h.dfr, nod := by rw [e]; exact h.nod, fresh := by rw [e]; exact h.fresh, ev := h.ev, own := fun f hf => ?_, env := by rw [e]; exact h.env }
  rw [e]
  rcases List.mem_cons.1 hf with h1 | h1
  · rw [h1]; exact hG
  · exact h.own f h1

theorem rowNil (e : TypeId) {β : Type} (k : Kd β) (ok : Ok) (w : World) : (RowF (.slice none 0 0) e k []).holds ok w := ⟨[], rfl, by simp, .inl ⟨rfl, rfl⟩⟩

section
variable {P : Program} {C : Ctx} {E : Env} {o : Oper} {β : Type} {k : Kd β} {T T' e : TypeId} {x y : Operand} {A D B B' : List OF}

/-- 'append' of a slice's elements to a row of the call's own -/
theorem ob_append {v z : Value} {i : TypeInfo} {xs ys : List β} (ho : o.op = .call { callee := .builtin .append, args := #[x, y], argTypes := #[T, T] }) (hT : P.underlying T = some (.slice e)) (hi : P.info? e = some i) (hz : i.zero = some z)
    (hs : i.size = k.sz) (hzs : z.cells.size = k.sz) (hsz : 0 < k.sz) (hx : Opd E x (is v)) (hy : Opd E y ((ksl k).V ys)) (hB : B = A ++ RowF v e k xs :: D) (hb : (xs.length + ys.length) * i.bytes ≤ 140737488355328) (hb' : xs.length + ys.length ≤ maxLen) :
    ObX P C B E o (fun g => A ++ RowF g e k (xs ++ ys) :: D) (fun g => is g) := fun a w h => by
  subst hB
  obtain ⟨rs, hr, hown⟩ := h.own (RowF v e k xs) (by simp)
  obtain ⟨p, cap, hp, hcap, hnil, ns, hnr, hc⟩ := V_sl (h.arg hy)
  have hv : a.eval x = v := h.arg hx
  have hnl := relL_len hnr
  cases p with
  | none =>
    have h0 : ys = [] := by
      have := hnil rfl
      exact List.eq_nil_of_length_eq_zero (by omega)
    subst h0
    have h0c : cap = 0 := hnil rfl
    subst h0c
    have hrun := run_append_owned_none (P := P) (w := w) 0 T o.type e i k.sz hT hi v xs.length rs hown
    refine .value (w' := w) (v := v) ?_ ⟨v, rfl, ?_⟩
    · simp only [execOp, ho, resolve, invoke, builtin, Sem.run_bind, Sem.run_pure, Result.andThen_ok, List.map_toArray, List.map_cons, List.map_nil, hv, hp]
      simp only [List.length_nil] at hrun ⊢
      rw [hrun]; rfl
    · rw [List.append_nil]; exact h
  | some p =>
    obtain ⟨v', w', hrun, hown', hgr, _⟩ := run_append_own (P := P) w 0 T o.type e i z k.sz i.bytes hT hi hz hs rfl hzs hsz v xs.length rs hown p ys.length cap ns hnl (fun j u hj => (hc p rfl j u hj).1) (relL_cell1 hnr) hb' hb (Nat.zero_le _)
    have hfresh : ∀ b, b ∈ ownIds v' → b ∈ ownIds v ∨ w.heap.size ≤ b := by
      rcases hown.2 with ⟨rfl, h0⟩ | ⟨g, cap', cur', rfl, _, hg', hc1, hc2, hc3, hc4⟩
      · have hrs : rs = [] := List.eq_nil_of_length_eq_zero (by rw [hown.1, h0]; simp)
        have hxs : xs.length = 0 := h0
        obtain ⟨v2, w2, hrun2, hown2, _, _⟩ := run_append_own (P := P) w w.heap.size T o.type e i z k.sz i.bytes hT hi hz hs rfl hzs hsz (.slice none 0 0) 0 [] (World.ownsRow_nil w _ e k.sz) p ys.length cap ns hnl (fun j u hj => (hc p rfl j u hj).1) (relL_cell1 hnr) (by omega) (by rw [hxs] at hb; exact hb) (Nat.le_refl _)
        rw [hrun] at hrun2
        injection hrun2 with e1 e2
        subst e1
        intro b hbm
        rcases hown2.2 with ⟨rfl, _⟩ | ⟨g, cap', cur', rfl, hge, _⟩
        · simp [ownIds] at hbm
        · simp [ownIds] at hbm; subst hbm; exact .inr hge
      · intro b hbm
        by_cases hroom : xs.length + ys.length ≤ cap'
        · have r1 := run_append_room (P := P) w T o.type e i hT hi g xs.length cap' cur' hg' p ys.length cap ns (by rw [hs]; exact hnl) (fun j u hj => (hc p rfl j u hj).1) (relL_cell1 hnr) hroom (by rw [hs, hnl, hc3, ← Nat.add_mul]; exact Nat.mul_le_mul_right _ hroom)
          rw [hrun] at r1
          injection r1 with e1 e2
          rw [e1] at hbm
          simp [ownIds] at hbm ⊢; exact .inl hbm
        · have holds : ∀ j u, rs[j]? = some u → w.cell? ((⟨g, 0, none⟩ : Addr).add j) = some u := hown.cells (g := g) rfl
          have r2 := run_append_grow (P := P) w T o.type e i z hT hi hz ⟨g, 0, none⟩ xs.length cap' rs (by rw [hs]; exact hown.1) holds p ys.length cap ns (by rw [hs]; exact hnl) (fun j u hj => (hc p rfl j u hj).1) (by omega) (by unfold maxLen at hb'; omega) (growslice_fits (by omega) hb)
          rw [hrun] at r2
          injection r2 with e1 e2
          rw [e1] at hbm
          simp [ownIds] at hbm; exact .inr (by omega)
    refine .value (w' := w') (v := v') ?_ ⟨v', rfl, ?_⟩
    · simp only [execOp, ho, resolve, invoke, builtin, Sem.run_bind, Sem.run_pure, Result.andThen_ok, List.map_toArray, List.map_cons, List.map_nil, hv, hp]
      rw [hrun]; rfl
    · have hev : Ev (RowF v e k xs).ids w w' := ⟨hgr.os, hgr.tape, hgr.output, hgr.size, fun q hq hn => hgr.block q hq (by
        intro e1
        rcases hown.2 with ⟨rfl, _⟩ | ⟨g, cap', cur', rfl, _⟩
        · simp [Value.ownBlock] at e1
        · simp [Value.ownBlock] at e1
          exact hn (by simp [RowF, ownIds, e1]))⟩
      refine h.turn' hfresh ?_ hev (fun kp => ⟨rs ++ ns, ?_, by simpa using hown'⟩)
      · show (ownIds v').Nodup
        unfold ownIds; split <;> simp
      · exact relL_mono (relL_append hr hnr) kp

/-- how many a row of the call's own has -/
theorem ob_lenRow {v : Value} {xs : List β} (ho : o.op = .call { callee := .builtin .len, args := #[x], argTypes := #[T] }) (hT : P.underlying T = some (.slice e)) (hx : Opd E x (is v)) (hB : RowF v T' k xs ∈ B) : Ob P C B E o ((kint .i64).V xs.length) := fun a w h => by
  obtain ⟨rs, hr, hl, hown⟩ := h.own _ hB
  have hv : a.eval x = v := h.arg hx
  rcases hown with ⟨rfl, h0⟩ | ⟨g, cap, cur, rfl, _, _, h1, h2, _⟩
  · exact .value (w' := w) (v := .int .i64 xs.length) (by simp [execOp, ho, hv, resolve, invoke, builtin, Builtin.len_, run_underlying hT, goInt, h0]) ⟨V_int.2 ⟨rfl, has_len (by omega)⟩, .refl _ _⟩
  · exact .value (w' := w) (v := .int .i64 xs.length) (by simp [execOp, ho, hv, resolve, invoke, builtin, Builtin.len_, run_underlying hT, goInt]) ⟨V_int.2 ⟨rfl, has_len (by omega)⟩, .refl _ _⟩
end

end Go.Proofs.Kit
