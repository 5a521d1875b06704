/- A kit of this claim's own, part 19: places in rows of the call's own; objects that hold rows; turns under a guard. No condition. -/
import Derived.Test.YtdlnfgpcnfbjiaaKx18
namespace Go.Proofs.Kit
open Go Go.RowKit
set_option linter.unusedSimpArgs false
set_option linter.unusedVariables false


/-- a pointer into the row v, 'off' cells behind its beginning -/
def ptrR (v : Value) (off : Nat) : Fact := ⟨fun _ _ u => ∃ g n c, v = .slice (some ⟨g, 0, none⟩) n c ∧ u = .pointer (some ⟨g, off, none⟩), fun h _ => h⟩
section
variable {P : Program} {C : Ctx} {B B' A D : List OF} {E : Env} {o : Oper} {α β : Type} {k : Kd α} {l : Kd β} {T T' U e : TypeId} {x y i : Operand} {v : Value} {xs xs' : List α} {off off' : Nat} {Y : β} {ik : IntKind} {n : Int}

/-- what an owned row's block is -/
theorem row_block {ok : Ok} {w : World} {g n' c' : Nat} (h : (RowF v e k xs).holds ok w) (hv : v = .slice (some ⟨g, 0, none⟩) n' c') : ∃ (cur : Array Value) (rs : List Value), n' = xs.length ∧ w.heap[g]? = some (.cells cur e (0, 0)) ∧ xs.length ≤ c' ∧ c' ≤ maxLen ∧ cur.size = c' * k.sz ∧ cur.toList.take (xs.length * k.sz) = rs ∧ relL k ok w xs rs := by
  obtain ⟨rs, hr, hl, h2⟩ := h
  rcases h2 with ⟨rfl, _⟩ | ⟨g', cap, cur, e1, _, hg, h3, h4, h5, h6⟩
  · cases hv
  · rw [hv] at e1
    injection e1 with e2 e3 e4
    cases e2; subst e3 e4
    exact ⟨cur, rs, rfl, hg, h3, h4, h5, h6, hr⟩

theorem ob_rowAt (ho : o.op = .indexAddr T x i) (hT : P.underlying T = some (.slice e)) (hs : (P.info? e).map (·.size) = some k.sz) (hx : Opd E x (is v)) (hB : RowF v T' k xs ∈ B)
    (hi : Opd E i ((kint ik).V n)) (hb : 0 ≤ n ∧ n < xs.length) : Ob P C B E o (ptrR v (n.toNat * k.sz)) := fun a w h => by
  have hx' : a.eval x = v := h.arg hx
  obtain ⟨rs, hr, hl, hv⟩ := h.own _ hB
  rcases hv with ⟨rfl, h0⟩ | ⟨g, cap, cur, rfl, _, hg, _⟩
  · omega
  · exact .value (w' := w) (v := .pointer (some ⟨g, n.toNat * k.sz, none⟩)) (by
      simp [execOp, ho, hx', (V_int.1 (h.arg hi)).1, Instr.indexAt, asIntOf, run_underlying hT, Instr.sureAddr, run_sizeOf' hs, hb.1, hb.2, add_lit]) ⟨⟨_, _, _, rfl, rfl⟩, .refl _ _⟩

theorem ob_rowLoad (ho : o.op = .load T x) (tk : TK P T l) (hx : Opd E x (ptrR v off)) (hB : RowF v e k xs ∈ B) (lg : LG (karr xs.length k) l off xs Y) : Ob P C B E o (l.V Y) := fun a w h => by
  obtain ⟨g, n', c, hv, hx'⟩ := h.arg hx
  obtain ⟨cur, rs, _, hg, hc1, hc2, hc3, hc4, hr⟩ := row_block (h.own _ hB) hv
  have hY := lg _ _ _ ⟨rfl, hr⟩
  have hload := run_loadVar' (w := w) tk hY (a := ⟨g, off, none⟩) (fun j u hj => by
    refine BF_cell (k := l) (U := e) (cs := cur.toList) (by simpa using hg) ?_
    rw [← hc4] at hj
    have hlen := l.len hY
    rw [List.getElem?_take] at hj
    split at hj
    · rename_i hj2
      rw [List.drop_take, List.getElem?_take] at hj
      split at hj
      · rw [List.getElem?_take_of_lt hj2]; exact hj
      · cases hj
    · cases hj)
  exact .value (w' := w) (v := mkv l.agg ((rs.drop off).take l.sz)) (by simp [execOp, ho, hx', Instr.loadAt, Instr.sureAddr, hload]) ⟨⟨_, hY, rfl⟩, .refl _ _⟩

theorem row_stored {ok : Ok} {w : World} {g c' : Nat} {cur : Array Value} {ds : List Value} (h5 : cur.size = c' * k.sz) (h1 : xs.length ≤ c') (h2 : c' ≤ maxLen) (hg : w.heap[g]? = some (.cells cur e (0, 0))) (hd : off + ds.length ≤ xs.length * k.sz)
    (hr : (karr xs.length k).rel ok (w.setRow g (cur.toList.take off ++ ds ++ cur.toList.drop (off + ds.length)).toArray) xs' ((cur.toList.take (xs.length * k.sz)).take off ++ ds ++ (cur.toList.take (xs.length * k.sz)).drop (off + ds.length))) :
    (RowF (.slice (some ⟨g, 0, none⟩) xs.length c') e k xs').holds ok (w.setRow g (cur.toList.take off ++ ds ++ cur.toList.drop (off + ds.length)).toArray) := by
  obtain ⟨hl', hr'⟩ := hr
  have hle : xs.length * k.sz ≤ c' * k.sz := Nat.mul_le_mul_right _ h1
  have hrl := relL_len hr'
  refine ⟨_, hr', by rw [hrl], .inr ⟨g, c', _, by rw [hl'], Nat.zero_le _, setRow_heap _ _ _ _ _ _ hg, by rw [hl']; exact h1, h2, ?_, ?_⟩⟩
  · simp only [List.size_toArray, List.length_append, List.length_take, List.length_drop, Array.length_toList, h5]; omega
  · rw [hl']
    show List.take _ (cur.toList.take off ++ ds ++ cur.toList.drop (off + ds.length)) = _
    rw [List.take_append, List.take_append, List.take_take, List.take_take, List.drop_take]
    simp only [List.length_take, Array.length_toList, h5, List.length_append]
    rw [Nat.min_eq_right (show off ≤ xs.length * k.sz by omega), Nat.min_eq_left (show off ≤ xs.length * k.sz by omega), Nat.min_eq_left (show off ≤ c' * k.sz by omega)]
    rw [List.take_of_length_le (l := ds) (by omega)]

theorem ob_rowStore (ho : o.op = .store T x y) (tk : TK P T l) (hx : Opd E x (ptrR v off)) (hy : Opd E y (l.V Y)) (hB : B = A ++ RowF v e k xs :: D) (ls : LS (karr xs.length k) l off xs Y xs') (hB' : B' = A ++ RowF v e k xs' :: D) :
    ObX P C B E o (fun _ : Unit => B') (fun _ => nofact) := fun a w h => by
  subst hB hB'
  obtain ⟨g, n', c, rfl, hx'⟩ := h.arg hx
  obtain ⟨cur, rs, hn', hg, hc1, hc2, hc3, hc4, hr⟩ := row_block (h.own (RowF (.slice (some ⟨g, 0, none⟩) n' c) e k xs) (by simp)) rfl
  subst hn'
  obtain ⟨ds, hd, hvv⟩ := h.arg hy
  have hr0 : (karr xs.length k).rel (okB C (idsOf (A ++ RowF (.slice (some ⟨g, 0, none⟩) xs.length c) e k xs :: D))) w xs rs := ⟨rfl, hr⟩
  obtain ⟨hb, hr'⟩ := ls _ _ _ _ hr0 hd
  have hdl := l.len hd
  have hcells : (mkv l.agg ds).cells = ds.toArray := by have := Kd.cells hd; rw [← Array.toList_inj, this]
  have hb' : off + ds.length ≤ xs.length * k.sz := by rw [hdl]; exact hb
  have hle2 : xs.length * k.sz ≤ c * k.sz := Nat.mul_le_mul_right _ hc1
  have hst := run_storeCells_at P g off e ds 0 cur w hg (by simp [hdl, hc3]; omega) (l.cell1 hd)
  simp only [Nat.add_zero] at hst
  refine .skip (w' := w.setRow g (cur.toList.take off ++ ds ++ cur.toList.drop (off + ds.length)).toArray) ?_ ⟨(), trivial, ?_⟩
  · simp [execOp, ho, hx', hvv, Instr.storeAt, Instr.sureAddr, storeVar, hcells, run_sizeOf' tk.size, hdl, hst]
  · refine h.turn (g := RowF (.slice (some ⟨g, 0, none⟩) xs.length c) e k xs') rfl ⟨rfl, rfl, rfl, by simp, fun q _ hq => setRow_other _ _ _ _ (by simpa [RowF, ownIds] using hq)⟩ (fun kp => ?_)
    refine row_stored hc3 hc1 hc2 hg hb' ?_
    rw [hc4, hdl]
    exact (karr xs.length k).mono hr' (by rw [hdl] at kp; exact kp)

/-- .. and the whole row -/
theorem lendRow {L : List OF} (hL : RowF v e k xs ∈ L) : ∀ ok w u, (is v).holds ok w u → (∀ q, q ∈ L → q.holds ok w) → (∀ c, c ∈ idsOf L → ok c) → ((ksl k).V xs).holds ok w u := by
  rintro ok w u rfl h1 h2
  exact ⟨[u], rowRd (h1 _ hL) (fun c hc => h2 c (mem_idsOf hL hc)), by
    have h := h1 _ hL
    obtain ⟨rs, _, _, h3⟩ := h
    rcases h3 with ⟨rfl, _⟩ | ⟨g, cap, cur, rfl, _⟩ <;> rfl⟩
/-- a variable of the call's own, or a part of one -/
theorem lendPtrB {L : List OF} {b : Nat} {K : Kd α} {X : α} (hL : BF b U K X ∈ L) (lg : LG K l off X Y) : ∀ ok w u, (ptrB b off).holds ok w u → (∀ q, q ∈ L → q.holds ok w) → (∀ c, c ∈ idsOf L → ok c) → (ptrTo l Y).holds ok w u := by
  rintro ok w u rfl h1 h2
  exact lendPtr lg ok w (h1 _ hL) (h2 b (mem_idsOf hL (by simp [BF])))


/-- what is of kind K is of kind K' too, where H holds -/
def Up {γ δ : Type} (H : Ok → World → Prop) (K : Kd γ) (K' : Kd δ) (x : γ) (x' : δ) : Prop := ∀ ok w cs, H ok w → K.rel ok w x cs → K'.rel ok w x' cs
theorem Up.refl {γ : Type} {H : Ok → World → Prop} (K : Kd γ) (x : γ) : Up H K K x x := fun _ _ _ _ h => h
theorem Up.pair {γ δ γ' δ' : Type} {H : Ok → World → Prop} {K : Kd γ} {L : Kd δ} {K' : Kd γ'} {L' : Kd δ'} {x : γ × δ} {x' : γ' × δ'} (h : Up H K K' x.1 x'.1) (g : Up H L L' x.2 x'.2) : Up H (kpair K L) (kpair K' L') x x' :=
  fun ok w cs hH ⟨c, d, e, h1, h2⟩ => ⟨c, d, e, h ok w c hH h1, g ok w d hH h2⟩
theorem Up.iso {γ δ γ' δ' : Type} {H : Ok → World → Prop} {K : Kd γ} {K' : Kd δ} {f : γ' → γ} {f' : δ' → δ} {x : γ'} {x' : δ'} (h : Up H K K' (f x) (f' x')) : Up H (kiso K f) (kiso K' f') x x' := h
theorem Up.row {H : Ok → World → Prop} (h : ∀ ok w, H ok w → (RowF v e k xs).holds ok w ∧ ∀ c, c ∈ ownIds v → ok c) : Up H (kis v) (ksl k) () xs := fun ok w cs hH ⟨e, _⟩ => by
  subst e; exact rowRd (h ok w hH).1 (h ok w hH).2

/-- all of L, let to everybody -/
def LetAll (L : List OF) : Ok → World → Prop := fun ok w => (∀ q, q ∈ L → q.holds ok w) ∧ ∀ c, c ∈ idsOf L → ok c
theorem LetAll.row {L : List OF} (hL : RowF v e k xs ∈ L) : ∀ ok w, LetAll L ok w → (RowF v e k xs).holds ok w ∧ ∀ c, c ∈ ownIds v → ok c := fun ok w h => ⟨h.1 _ hL, fun c hc => h.2 c (mem_idsOf hL hc)⟩


end


inductive BuildOkK (E : Env) (place : Nat → Option (Nat × Nat)) : {α : Type} → Kd α → α → List (Nat × Operand) → {β : Type} → Kd β → β → Prop
  | nil {α : Type} (K : Kd α) (x : α) : BuildOkK E place K x [] K x
  | cons {α β γ δ : Type} {K : Kd α} {k : Kd β} {K1 : Kd γ} {K2 : Kd δ} {x : α} {x1 : γ} {x2 : δ} {y : β} {i off : Nat} {o : Operand} {l : List (Nat × Operand)} (hx : Opd E o (k.V y)) (hp : place i = some (off, k.sz)) (ls : LSK K k K1 off x y x1) (t : BuildOkK E place K1 x1 l K2 x2) : BuildOkK E place K x ((i, o) :: l) K2 x2

theorem BuildOkK.fill {E : Env} {place : Nat → Option (Nat × Nat)} {C : Ctx} {B : List OF} {a : Act} {w : World} (h : St C B E a w) {α β : Type} {K : Kd α} {K' : Kd β} {x : α} {x' : β} {l : List (Nat × Operand)} (hb : BuildOkK E place K x l K' x') :
    ∀ cs, K.rel (okB C (idsOf B)) w x cs → ∃ cs', Instr.fill place cs.toArray (l.map fun p => (p.1, a.eval p.2)) = some cs'.toArray ∧ K'.rel (okB C (idsOf B)) w x' cs' := by
  induction hb with
  | nil K x => exact fun cs hr => ⟨cs, rfl, hr⟩
  | @cons α β γ δ K k K1 K2 x x1 x2 y i off o l hx hp ls t ih =>
    intro cs hr
    obtain ⟨ds, hd, hv⟩ := h.arg hx
    obtain ⟨hsz, hb, hr'⟩ := ls _ _ _ _ hr hd
    have hdl := k.len hd
    have hcl := K.len hr
    have hcells : (mkv k.agg ds).cells = ds.toArray := by have := Kd.cells hd; rw [← Array.toList_inj, this]
    obtain ⟨cs', h1, h2⟩ := ih _ hr'
    refine ⟨cs', ?_, h2⟩
    rw [← h1]
    simp only [List.map_cons, Instr.fill, hp, hv, hcells]
    rw [if_neg (by simp [hdl, hcl]; omega)]
    congr 1
    rw [put_cells cs ds off (by rw [hdl, hcl]; exact hb), hdl]

section
variable {P : Program} {C : Ctx} {B : List OF} {E : Env} {o : Oper} {α β γ : Type} {T : TypeId} {x : Operand}

theorem ob_mkObj {K0 : Kd α} {K : Kd β} {X0 : α} {X : β} {fs : Array Field} {zs : List Value} {places : List (Nat × Nat)} {parts : List (Nat × Operand)} (ho : o.op = .build T parts.toArray) (hT : P.underlying T = some (.struct fs)) (hz : ((P.info? T).bind (·.zero)) = some (mkv true zs)) (hK : K.agg = true) (hK0 : K0.agg = true)
    (hp : fs.toList.mapM (fun f => (P.info? f.type).map fun i => (f.offset, i.size)) = some places) (h0 : Zr K0 X0 zs) (hb : BuildOkK E (fun x : Nat => places[x]?) K0 X0 parts K X) : Ob P C B E o (K.V X) := fun a w h => by
  obtain ⟨cs', h1, h2⟩ := hb.fill h zs (h0 _ _)
  obtain ⟨i, hi⟩ : ∃ i, P.info? T = some i := by
    cases hq : P.info? T with
    | none => rw [hq] at hz; cases hz
    | some i => exact ⟨i, rfl⟩
  have hz' : i.zero = some (mkv true zs) := by simpa [hi] using hz
  have hbt : P.built T (parts.map fun p => (p.1, a.eval p.2)) = some cs'.toArray := by
    unfold Program.built
    rw [hi, hT]
    simp only [hz', hp]
    have hf : (fun x : Nat => places.toArray[x]?) = fun x : Nat => places[x]? := by funext x; simp
    rw [hf, ← h1]; rfl
  refine .value (w' := w) (v := .agg cs'.toArray) ?_ ⟨⟨cs', h2, by simp [mkv, hK]⟩, .refl _ _⟩
  simp only [execOp, ho, Sem.run_bind, List.map_toArray]
  rw [run_build w T _ cs'.toArray (by simpa using hbt)]
  rfl

/-- a row is a part that is built in -/
theorem Opd.kis {v : Value} (h : ∃ t, x = .tmp t ∧ get E t = some ((kis v).V ())) : Opd E x ((kis v).V ()) := by
  obtain ⟨t, rfl, h⟩ := h; exact .tmp h
end

end Go.Proofs.Kit
