/- Several parts of this proof in one file. No condition. -/
import Derived.Test.YtjbjladhgmknnaaDoorKyA
import Derived.Scope
import Derived.Laws.CopyRow
import Derived.MapKept
import Derived.Carry
import Derived.Lib.BytesEntry
import Derived.Laws.Externs
import Derived.Laws.Cover3
import Derived.Lib.Builder
import Derived.Lib.UnsafeStr
import Derived.Deep.AppendSrc
import Derived.Deep.Upon
section
namespace Go.Proofs.Kit
open Go Go.RowKit
set_option linter.unusedSimpArgs false
set_option linter.unusedVariables false
def ptrR (v : Value) (off : Nat) : Fact := ⟨fun _ _ u => ∃ g n c, v = .slice (some ⟨g, 0, none⟩) n c ∧ u = .pointer (some ⟨g, off, none⟩), fun h _ => h⟩
def slR (v : Value) (off len cap : Nat) : Fact := ⟨fun _ _ u => ∃ g n c, v = .slice (some ⟨g, 0, none⟩) n c ∧ u = .slice (some ⟨g, off, none⟩) len cap, fun h _ => h⟩
section
variable {P : Program} {C : Ctx} {B B' A D : List OF} {E : Env} {o : Oper} {α β : Type} {k : Kd α} {l : Kd β} {T T' U e : TypeId} {x y i : Operand} {v : Value} {xs xs' : List α} {off off' : Nat} {Y : β} {ik : IntKind} {n : Int}
theorem row_block {ok : Ok} {w : World} {g n' c' : Nat} (h : (RowF v e k xs).holds ok w) (hv : v = .slice (some ⟨g, 0, none⟩) n' c') : ∃ (cur : Array Value) (rs : List Value), n' = xs.length ∧ w.heap[g]? = some (.cells cur e (0, 0)) ∧ xs.length ≤ c' ∧ c' ≤ maxLen ∧ cur.size = c' * k.sz ∧ cur.toList.take (xs.length * k.sz) = rs ∧ relL k ok w xs rs := by
  obtain ⟨rs, hr, hl, h2⟩ := h
  rcases h2 with ⟨rfl, _⟩ | ⟨g', cap, cur, e1, _, hg, h3, h4, h5, h6⟩
  · cases hv
  · rw [hv] at e1
    injection e1 with e2 e3 e4
    cases e2; subst e3 e4
    exact ⟨cur, rs, rfl, hg, h3, h4, h5, h6, hr⟩
theorem ob_rowAt (ho : o.op = .indexAddr T x i) (hT : P.underlying T = some (.slice e)) (hs : (P.info? e).map (·.size) = some k.sz) (hx : Opd E x (is v)) (hB : RowF v T' k xs ∈ B)
    (hi : Opd E i ((kint ik).V n)) (hb : 0 ≤ n ∧ n < xs.length) : Ob P C B E o (ptrR v (n.toNat * k.sz)) := fun a w h => by
  have hx' : a.eval x = v := h.arg hx
  obtain ⟨rs, hr, hl, hv⟩ := h.own _ hB
  rcases hv with ⟨rfl, h0⟩ | ⟨g, cap, cur, rfl, _, hg, _⟩
  · omega
  · exact .value (w' := w) (v := .pointer (some ⟨g, n.toNat * k.sz, none⟩)) (by
      simp [execOp, ho, hx', (V_int.1 (h.arg hi)).1, Instr.indexAt, asIntOf, run_underlying hT, Instr.sureAddr, run_sizeOf' hs, hb.1, hb.2, add_lit]) ⟨⟨_, _, _, rfl, rfl⟩, .refl _ _⟩
theorem ob_rowLoad (ho : o.op = .load T x) (tk : TK P T l) (hx : Opd E x (ptrR v off)) (hB : RowF v e k xs ∈ B) (lg : LG (karr xs.length k) l off xs Y) : Ob P C B E o (l.V Y) := fun a w h => by
  obtain ⟨g, n', c, hv, hx'⟩ := h.arg hx
  obtain ⟨cur, rs, _, hg, hc1, hc2, hc3, hc4, hr⟩ := row_block (h.own _ hB) hv
  have hY := lg _ _ _ ⟨rfl, hr⟩
  have hload := run_loadVar' (w := w) tk hY (a := ⟨g, off, none⟩) (fun j u hj => by
    refine BF_cell (k := l) (U := e) (cs := cur.toList) (by simpa using hg) ?_
    rw [← hc4] at hj
    have hlen := l.len hY
    rw [List.getElem?_take] at hj
    split at hj
    · rename_i hj2
      rw [List.drop_take, List.getElem?_take] at hj
      split at hj
      · rw [List.getElem?_take_of_lt hj2]; exact hj
      · cases hj
    · cases hj)
  exact .value (w' := w) (v := mkv l.agg ((rs.drop off).take l.sz)) (by simp [execOp, ho, hx', Instr.loadAt, Instr.sureAddr, hload]) ⟨⟨_, hY, rfl⟩, .refl _ _⟩
theorem row_stored {ok : Ok} {w : World} {g c' : Nat} {cur : Array Value} {ds : List Value} (h5 : cur.size = c' * k.sz) (h1 : xs.length ≤ c') (h2 : c' ≤ maxLen) (hg : w.heap[g]? = some (.cells cur e (0, 0))) (hd : off + ds.length ≤ xs.length * k.sz)
    (hr : (karr xs.length k).rel ok (w.setRow g (cur.toList.take off ++ ds ++ cur.toList.drop (off + ds.length)).toArray) xs' ((cur.toList.take (xs.length * k.sz)).take off ++ ds ++ (cur.toList.take (xs.length * k.sz)).drop (off + ds.length))) :
    (RowF (.slice (some ⟨g, 0, none⟩) xs.length c') e k xs').holds ok (w.setRow g (cur.toList.take off ++ ds ++ cur.toList.drop (off + ds.length)).toArray) := by
  obtain ⟨hl', hr'⟩ := hr
  have hle : xs.length * k.sz ≤ c' * k.sz := Nat.mul_le_mul_right _ h1
  have hrl := relL_len hr'
  refine ⟨_, hr', by rw [hrl], .inr ⟨g, c', _, by rw [hl'], Nat.zero_le _, setRow_heap _ _ _ _ _ _ hg, by rw [hl']; exact h1, h2, ?_, ?_⟩⟩
  · simp only [List.size_toArray, List.length_append, List.length_take, List.length_drop, Array.length_toList, h5]; omega
  · rw [hl']
    show List.take _ (cur.toList.take off ++ ds ++ cur.toList.drop (off + ds.length)) = _
    rw [List.take_append, List.take_append, List.take_take, List.take_take, List.drop_take]
    simp only [List.length_take, Array.length_toList, h5, List.length_append]
    rw [Nat.min_eq_right (show off ≤ xs.length * k.sz by omega), Nat.min_eq_left (show off ≤ xs.length * k.sz by omega), Nat.min_eq_left (show off ≤ c' * k.sz by omega)]
    rw [List.take_of_length_le (l := ds) (by omega)]
theorem ob_rowStore (ho : o.op = .store T x y) (tk : TK P T l) (hx : Opd E x (ptrR v off)) (hy : Opd E y (l.V Y)) (hB : B = A ++ RowF v e k xs :: D) (ls : LS (karr xs.length k) l off xs Y xs') (hB' : B' = A ++ RowF v e k xs' :: D) :
    ObX P C B E o (fun _ : Unit => B') (fun _ => nofact) := fun a w h => by
  subst hB hB'
  obtain ⟨g, n', c, rfl, hx'⟩ := h.arg hx
  obtain ⟨cur, rs, hn', hg, hc1, hc2, hc3, hc4, hr⟩ := row_block (h.own (RowF (.slice (some ⟨g, 0, none⟩) n' c) e k xs) (by simp)) rfl
  subst hn'
  obtain ⟨ds, hd, hvv⟩ := h.arg hy
  have hr0 : (karr xs.length k).rel (okB C (idsOf (A ++ RowF (.slice (some ⟨g, 0, none⟩) xs.length c) e k xs :: D))) w xs rs := ⟨rfl, hr⟩
  obtain ⟨hb, hr'⟩ := ls _ _ _ _ hr0 hd
  have hdl := l.len hd
  have hcells : (mkv l.agg ds).cells = ds.toArray := by have := Kd.cells hd; rw [← Array.toList_inj, this]
  have hb' : off + ds.length ≤ xs.length * k.sz := by rw [hdl]; exact hb
  have hle2 : xs.length * k.sz ≤ c * k.sz := Nat.mul_le_mul_right _ hc1
  have hst := run_storeCells_at P g off e ds 0 cur w hg (by simp [hdl, hc3]; omega) (l.cell1 hd)
  simp only [Nat.add_zero] at hst
  refine .skip (w' := w.setRow g (cur.toList.take off ++ ds ++ cur.toList.drop (off + ds.length)).toArray) ?_ ⟨(), trivial, ?_⟩
  · simp [execOp, ho, hx', hvv, Instr.storeAt, Instr.sureAddr, storeVar, hcells, run_sizeOf' tk.size, hdl, hst]
  · refine h.turn (g := RowF (.slice (some ⟨g, 0, none⟩) xs.length c) e k xs') rfl ⟨rfl, rfl, rfl, by simp, fun q _ hq => setRow_other _ _ _ _ (by simpa [RowF, ownIds] using hq)⟩ (fun kp => ?_)
    refine row_stored hc3 hc1 hc2 hg hb' ?_
    rw [hc4, hdl]
    exact (karr xs.length k).mono hr' (by rw [hdl] at kp; exact kp)
theorem lendRow {L : List OF} (hL : RowF v e k xs ∈ L) : ∀ ok w u, (is v).holds ok w u → (∀ q, q ∈ L → q.holds ok w) → (∀ c, c ∈ idsOf L → ok c) → ((ksl k).V xs).holds ok w u := by
  rintro ok w u rfl h1 h2
  exact ⟨[u], rowRd (h1 _ hL) (fun c hc => h2 c (mem_idsOf hL hc)), by
    have h := h1 _ hL
    obtain ⟨rs, _, _, h3⟩ := h
    rcases h3 with ⟨rfl, _⟩ | ⟨g, cap, cur, rfl, _⟩ <;> rfl⟩
theorem lendPtrB {L : List OF} {b : Nat} {K : Kd α} {X : α} (hL : BF b U K X ∈ L) (lg : LG K l off X Y) : ∀ ok w u, (ptrB b off).holds ok w u → (∀ q, q ∈ L → q.holds ok w) → (∀ c, c ∈ idsOf L → ok c) → (ptrTo l Y).holds ok w u := by
  rintro ok w u rfl h1 h2
  exact lendPtr lg ok w (h1 _ hL) (h2 b (mem_idsOf hL (by simp [BF])))
def Up {γ δ : Type} (H : Ok → World → Prop) (K : Kd γ) (K' : Kd δ) (x : γ) (x' : δ) : Prop := ∀ ok w cs, H ok w → K.rel ok w x cs → K'.rel ok w x' cs
theorem Up.refl {γ : Type} {H : Ok → World → Prop} (K : Kd γ) (x : γ) : Up H K K x x := fun _ _ _ _ h => h
theorem Up.pair {γ δ γ' δ' : Type} {H : Ok → World → Prop} {K : Kd γ} {L : Kd δ} {K' : Kd γ'} {L' : Kd δ'} {x : γ × δ} {x' : γ' × δ'} (h : Up H K K' x.1 x'.1) (g : Up H L L' x.2 x'.2) : Up H (kpair K L) (kpair K' L') x x' :=
  fun ok w cs hH ⟨c, d, e, h1, h2⟩ => ⟨c, d, e, h ok w c hH h1, g ok w d hH h2⟩
theorem Up.iso {γ δ γ' δ' : Type} {H : Ok → World → Prop} {K : Kd γ} {K' : Kd δ} {f : γ' → γ} {f' : δ' → δ} {x : γ'} {x' : δ'} (h : Up H K K' (f x) (f' x')) : Up H (kiso K f) (kiso K' f') x x' := h
theorem Up.row {H : Ok → World → Prop} (h : ∀ ok w, H ok w → (RowF v e k xs).holds ok w ∧ ∀ c, c ∈ ownIds v → ok c) : Up H (kis v) (ksl k) () xs := fun ok w cs hH ⟨e, _⟩ => by
  subst e; exact rowRd (h ok w hH).1 (h ok w hH).2
def LetAll (L : List OF) : Ok → World → Prop := fun ok w => (∀ q, q ∈ L → q.holds ok w) ∧ ∀ c, c ∈ idsOf L → ok c
theorem LetAll.row {L : List OF} (hL : RowF v e k xs ∈ L) : ∀ ok w, LetAll L ok w → (RowF v e k xs).holds ok w ∧ ∀ c, c ∈ ownIds v → ok c := fun ok w h => ⟨h.1 _ hL, fun c hc => h.2 c (mem_idsOf hL hc)⟩
theorem lendObj {γ δ : Type} {L : List OF} {b : Nat} {K : Kd γ} {K' : Kd δ} {X : γ} {X' : δ} (hL : BF b U K X ∈ L) (hz : K.sz = K'.sz) (up : Up (LetAll L) K K' X X') : ∀ ok w u, (ptrB b 0).holds ok w u → (∀ q, q ∈ L → q.holds ok w) → (∀ c, c ∈ idsOf L → ok c) → (ptrTo K' X').holds ok w u := by
  rintro ok w u rfl h1 h2
  obtain ⟨cs, hg, hr⟩ := h1 _ hL
  have hc := BF_cellsAt (off := 0) hg (h2 b (mem_idsOf hL (by simp [BF]))) K.sz
  have hl := K.len hr
  rw [List.drop_zero, List.take_of_length_le (by omega)] at hc
  exact ⟨_, cs, rfl, hc, up ok w cs ⟨h1, h2⟩ hr⟩
theorem ob_loadRowV {b : Nat} {γ : Type} {K : Kd γ} {X : γ} (ho : o.op = .load T x) (tk : TK P T (kis v)) (hx : Opd E x (ptrB b off)) (hB : BF b U K X ∈ B) (lg : LG K (kis v) off X ()) : Ob P C B E o (is v) :=
  (ob_load ho tk hx hB lg).as (fun ok w u h => V_kis h)
theorem ob_storeRowV {b : Nat} {γ δ : Type} {K : Kd γ} {K' : Kd δ} {X : γ} {X' : δ} (ho : o.op = .store T x y) (tk : TK P T (kis v)) (hx : Opd E x (ptrB b off)) (hy : Opd E y (is v)) (hR : RowF v e k xs ∈ B)
    (hB : B = A ++ BF b U K X :: D) (ls : LSK K (kis v) K' off X () X') (hB' : B' = A ++ BF b U K' X' :: D) : ObX P C B E o (fun _ : Unit => B') (fun _ => nofact) := fun a w h => by
  subst hB hB'
  have hk : ((kis v).V ()).holds (okB C (idsOf (A ++ BF b U K X :: D))) w v := row_kis (h.own _ hR)
  obtain ⟨t, ht⟩ := get_fresh E
  obtain ⟨cs, hg, hr⟩ := h.own (BF b U K X) (by simp)
  obtain ⟨ds, hd, hvv⟩ := hk
  obtain ⟨hsz, hb, hr'⟩ := ls _ _ _ _ hr hd
  have hx' : a.eval x = .pointer (some ⟨b, off, none⟩) := h.arg hx
  have hy' : a.eval y = v := h.arg hy
  have hdl := (kis v).len hd
  have hcl := K.len hr
  have hcells : (mkv (kis v).agg ds).cells = ds.toArray := by have := Kd.cells hd; rw [← Array.toList_inj, this]
  have hst := run_storeCells_at P b off U ds 0 cs.toArray w hg (by simp [hdl, hcl]; omega) ((kis v).cell1 hd)
  simp only [Nat.add_zero, hdl] at hst
  refine .skip (w' := w.setRow b (cs.take off ++ ds ++ cs.drop (off + (kis v).sz)).toArray) ?_ ⟨(), trivial, ?_⟩
  · have hvv' : a.eval y = mkv (kis v).agg ds := hy'.trans hvv
    simp [execOp, ho, hx', hvv', Instr.storeAt, Instr.sureAddr, storeVar, hcells, run_sizeOf' tk.size, hdl, hst]
  · refine h.turn (g := BF b U K' X') rfl ⟨rfl, rfl, rfl, by simp, fun q _ hq => setRow_other _ _ _ _ (by simpa [BF] using hq)⟩ (fun kp => ?_)
    exact ⟨_, setRow_heap _ _ _ _ _ _ hg, K'.mono hr' kp⟩
theorem seq_opxg {j : Nat} {want : Bool} {t d : Tmp} {a : Act} {w : World} {ops : Array Oper} {rest : List Oper} {Q : Exit → Act → World → Prop} {γ : Type} {B1 : γ → List OF} {F : γ → Fact} {b : Bool} (h : St C B E a w) (hg : o.guard = some (j, want)) (hj : (ops[j]?).bind (·.dst) = some t)
    (ht : get E t = some (kbool.V b)) (hd : o.dst = some d) (hN : d < C.N) (ob : (b == want) = true → ObX P C B E o B1 F) (hn : (b == want) = false → ∃ g, B1 g = B)
    (K : ∀ g a' w', St C (B1 g) ((d, (F g).when (b == want)) :: E) a' w' → wpList P ops Q rest a' w') : wpList P ops Q (o :: rest) a w := by
  refine wpList_step fun K' hK => ?_
  rw [wanted_guard h hg hj ht]
  by_cases hb : (b == want) = true
  · rw [if_pos hb]
    exact (ob hb a w h).wp fun v w' ⟨g, hF, e⟩ => hK _ _ (K g _ _ (by rw [hd]; exact e.put hN (F := (F g).when _) ⟨fun _ => hF, fun hb' => by rw [hb] at hb'; cases hb'⟩))
  · rw [if_neg hb]
    obtain ⟨g, hg'⟩ := hn (by simpa using hb)
    exact hK _ _ (K g _ _ (by rw [hd, hg']; exact h.put hN (F := (F g).when _) ⟨fun hb' => absurd hb' hb, fun _ => rfl⟩))
end
inductive BuildOkK (E : Env) (place : Nat → Option (Nat × Nat)) : {α : Type} → Kd α → α → List (Nat × Operand) → {β : Type} → Kd β → β → Prop
  | nil {α : Type} (K : Kd α) (x : α) : BuildOkK E place K x [] K x
  | cons {α β γ δ : Type} {K : Kd α} {k : Kd β} {K1 : Kd γ} {K2 : Kd δ} {x : α} {x1 : γ} {x2 : δ} {y : β} {i off : Nat} {o : Operand} {l : List (Nat × Operand)} (hx : Opd E o (k.V y)) (hp : place i = some (off, k.sz)) (ls : LSK K k K1 off x y x1) (t : BuildOkK E place K1 x1 l K2 x2) : BuildOkK E place K x ((i, o) :: l) K2 x2
theorem BuildOkK.fill {E : Env} {place : Nat → Option (Nat × Nat)} {C : Ctx} {B : List OF} {a : Act} {w : World} (h : St C B E a w) {α β : Type} {K : Kd α} {K' : Kd β} {x : α} {x' : β} {l : List (Nat × Operand)} (hb : BuildOkK E place K x l K' x') :
    ∀ cs, K.rel (okB C (idsOf B)) w x cs → ∃ cs', Instr.fill place cs.toArray (l.map fun p => (p.1, a.eval p.2)) = some cs'.toArray ∧ K'.rel (okB C (idsOf B)) w x' cs' := by
  induction hb with
  | nil K x => exact fun cs hr => ⟨cs, rfl, hr⟩
  | @cons α β γ δ K k K1 K2 x x1 x2 y i off o l hx hp ls t ih =>
    intro cs hr
    obtain ⟨ds, hd, hv⟩ := h.arg hx
    obtain ⟨hsz, hb, hr'⟩ := ls _ _ _ _ hr hd
    have hdl := k.len hd
    have hcl := K.len hr
    have hcells : (mkv k.agg ds).cells = ds.toArray := by have := Kd.cells hd; rw [← Array.toList_inj, this]
    obtain ⟨cs', h1, h2⟩ := ih _ hr'
    refine ⟨cs', ?_, h2⟩
    rw [← h1]
    simp only [List.map_cons, Instr.fill, hp, hv, hcells]
    rw [if_neg (by simp [hdl, hcl]; omega)]
    congr 1
    rw [put_cells cs ds off (by rw [hdl, hcl]; exact hb), hdl]
section
variable {P : Program} {C : Ctx} {B : List OF} {E : Env} {o : Oper} {α β γ : Type} {T : TypeId} {x : Operand}
theorem ob_mkObj {K0 : Kd α} {K : Kd β} {X0 : α} {X : β} {fs : Array Field} {zs : List Value} {places : List (Nat × Nat)} {parts : List (Nat × Operand)} (ho : o.op = .build T parts.toArray) (hT : P.underlying T = some (.struct fs)) (hz : ((P.info? T).bind (·.zero)) = some (mkv true zs)) (hK : K.agg = true) (hK0 : K0.agg = true)
    (hp : fs.toList.mapM (fun f => (P.info? f.type).map fun i => (f.offset, i.size)) = some places) (h0 : Zr K0 X0 zs) (hb : BuildOkK E (fun x : Nat => places[x]?) K0 X0 parts K X) : Ob P C B E o (K.V X) := fun a w h => by
  obtain ⟨cs', h1, h2⟩ := hb.fill h zs (h0 _ _)
  obtain ⟨i, hi⟩ : ∃ i, P.info? T = some i := by
    cases hq : P.info? T with
    | none => rw [hq] at hz; cases hz
    | some i => exact ⟨i, rfl⟩
  have hz' : i.zero = some (mkv true zs) := by simpa [hi] using hz
  have hbt : P.built T (parts.map fun p => (p.1, a.eval p.2)) = some cs'.toArray := by
    unfold Program.built
    rw [hi, hT]
    simp only [hz', hp]
    have hf : (fun x : Nat => places.toArray[x]?) = fun x : Nat => places[x]? := by funext x; simp
    rw [hf, ← h1]; rfl
  refine .value (w' := w) (v := .agg cs'.toArray) ?_ ⟨⟨cs', h2, by simp [mkv, hK]⟩, .refl _ _⟩
  simp only [execOp, ho, Sem.run_bind, List.map_toArray]
  rw [run_build w T _ cs'.toArray (by simpa using hbt)]
  rfl
theorem Opd.kis {v : Value} (h : ∃ t, x = .tmp t ∧ get E t = some ((kis v).V ())) : Opd E x ((kis v).V ()) := by
  obtain ⟨t, rfl, h⟩ := h; exact .tmp h
end
end Go.Proofs.Kit
end
section
namespace Go.Proofs.Kit
open Go Go.RowKit
set_option linter.unusedSimpArgs false
set_option linter.unusedVariables false
def OpsOkS (P : Program) (C : Ctx) (B : List OF) (E : Env) (ops : List Oper) (Fs : List Fact) (bits : List Nat) (skip : Nat) : Nat → List Oper → Prop
  | _, [] => True
  | i, o :: r => (skip.testBit i = true ∨ OpOk P C B E ops Fs bits i o) ∧ OpsOkS P C B E ops Fs bits skip (i + 1) r
section
variable {P : Program} {C : Ctx} {B : List OF} {E : Env} {ops : List Oper} {Fs : List Fact} {bits : List Nat} {m skip todo : Nat} {Q : Exit → Act → World → Prop} {a : Act} {w : World} {D : Array Bool}
theorem opsS_nil {i : Nat} : OpsOkS P C B E ops Fs bits skip i [] := trivial
theorem opsS_skip {i : Nat} {o : Oper} {r : List Oper} (h : skip.testBit i = true) (t : OpsOkS P C B E ops Fs bits skip (i + 1) r) : OpsOkS P C B E ops Fs bits skip i (o :: r) := ⟨.inl h, t⟩
theorem opsS_cons {i : Nat} {o : Oper} {r : List Oper} (h : OpOk P C B E ops Fs bits i o) (t : OpsOkS P C B E ops Fs bits skip (i + 1) r) : OpsOkS P C B E ops Fs bits skip i (o :: r) := ⟨.inr h, t⟩
theorem OpsOkS.get : ∀ (l : List Oper) (k : Nat), OpsOkS P C B E ops Fs bits skip k l → ∀ i o, l[i]? = some o → skip.testBit (k + i) = true ∨ OpOk P C B E ops Fs bits (k + i) o
  | [], _, _, i, o, ho => by simp at ho
  | x :: l, k, ⟨h1, h2⟩, i, o, ho => by
    cases i with
    | zero => simp at ho; subst ho; exact h1
    | succ i => have := OpsOkS.get l (k + 1) h2 i o (by simpa using ho); rwa [show k + 1 + i = k + (i + 1) by omega] at this
def Goes (P : Program) (C : Ctx) (B : List OF) (E : Env) (ops : List Oper) (Fs : List Fact) (bits : List Nat) (m skip todo : Nat) (Q : Exit → Act → World → Prop) : Prop :=
  ∀ (k : Nat) (D : Array Bool) (a : Act) (w : World), D.toList.count false = k → D.size = ops.length → Closed ops D → Mid C B E ops Fs D a w → (∀ i, m ≤ i → D.getD i false = false) →
    (∀ i, i < m → skip.testBit i = true → D.getD i false = true) → (∀ i, todo.testBit i = true → D.getD i false = false) → wpAny P .any ops.toArray Q k D a w
theorem ready_first (c : Chk ops bits m) (hD : D.size = ops.length) {i₀ : Nat} (hi₀ : i₀ < m) (hni₀ : D.getD i₀ false = false) : Region.ready .any ops.toArray D ≠ [] := fun hn => by
  have key : ∀ i, i < m → D.getD i false = true := by
    intro i
    induction i using Nat.strongRecOn with
    | _ i ihi =>
      intro him
      cases hx : D.getD i false with
      | true => rfl
      | false =>
        have hil : i < ops.length := Nat.lt_of_lt_of_le him c.le
        have h5 : i < D.size := by omega
        have : i ∈ Region.ready .any ops.toArray D := by
          refine ready_mem.2 ⟨by simpa using hil, by simp [h5] at hx ⊢; exact hx, fun o ho e he hb => ?_⟩
          have h8 := c.back i o (by simpa using ho) e he hb
          exact ihi e.on h8 (by omega)
        rw [hn] at this; cases this
  rw [key i₀ hi₀] at hni₀; cases hni₀
theorem ready_in (c : Chk ops bits m) (hc : Closed ops D) {i i₀ : Nat} (hi : i ∈ Region.ready .any ops.toArray D) (hi₀ : i₀ < m) (hni₀ : D.getD i₀ false = false) : i < m := by
  obtain ⟨h1, h2, h3⟩ := ready_mem.1 hi
  have hil : i < ops.length := by simpa using h1
  obtain ⟨o, ho⟩ : ∃ o, ops[i]? = some o := ⟨_, List.getElem?_eq_getElem hil⟩
  rcases Nat.lt_or_ge i m with h6 | h6
  · exact h6
  · exfalso
    have := done_of_anc c hc i o i₀ ho (h3 o (by simpa using ho)) (by have := c.le; omega) (c.tail i hil h6 i₀ (by omega))
    rw [this] at hni₀; cases hni₀
theorem closed_set {i : Nat} {o : Oper} (hc : Closed ops D) (hD : D.size = ops.length) (ho : ops[i]? = some o) (hr : ∀ e, e ∈ o.after → Region.binds .any e = true → D.getD e.on false = true) : Closed ops (D.setIfInBounds i true) := by
  have h5 : i < D.size := by rw [hD]; exact (List.getElem?_eq_some_iff.1 ho).1
  intro j oj hoj hj e he hb
  by_cases e2 : i = j
  · subst e2
    rw [ho] at hoj; cases hoj
    rw [getD_set_true D i _ false h5]
    split
    · rfl
    · exact hr e he hb
  · rw [getD_set_true D i _ false h5, if_neg e2] at hj
    rw [getD_set_true D i _ false h5]
    split
    · rfl
    · exact hc j oj hoj hj e he hb
theorem one_step (c : Chk ops bits m) (hN : ∀ i d, Dst ops i = some d → d < C.N) {i : Nat} {o : Oper} (ho : ops[i]? = some o) (him : i < m) (hok : OpOk P C B E ops Fs bits i o) {k : Nat} (hk : D.toList.count false = k + 1) (hD : D.size = ops.length) (hc : Closed ops D) (h : Mid C B E ops Fs D a w)
    (hi : i ∈ Region.ready .any ops.toArray D)
    (ih : ∀ a' w', (D.setIfInBounds i true).toList.count false = k → Closed ops (D.setIfInBounds i true) → Mid C B E ops Fs (D.setIfInBounds i true) a' w' → wpAny P .any ops.toArray Q k (D.setIfInBounds i true) a' w') :
    wpOp P ops.toArray Q i (fun a' w' => wpAny P .any ops.toArray Q k (D.setIfInBounds i true) a' w') a w := by
  obtain ⟨h1, h2, h3⟩ := ready_mem.1 hi
  have hil : i < ops.length := by simpa using h1
  have h5 : i < D.size := by omega
  have hNo : ∀ d, o.dst = some d → d < C.N := fun d hd => hN i d (by unfold Dst; rw [ho]; exact hd)
  have next : ∀ {F : Fact} {v : Value} {w' : World}, Fs[i]? = some F → F.holds (okB C (idsOf B)) w' v → Ev [] w w' → wpAny P .any ops.toArray Q k (D.setIfInBounds i true) (a.put o.dst v) w' := fun {F v w'} hF hv e => by
    refine ih _ _ ?_ (closed_set hc hD ho (h3 o (by simpa using ho))) (h.step c hD ho hNo h2 hF hv e)
    have := count_set h5 h2; omega
  unfold wpOp
  rw [show ops.toArray[i]? = some o by simpa using ho]
  simp only []
  cases hok with
  | plain E' av hg hF ob =>
    have hst := h.at c hc hD hi ho av
    rw [if_pos (by simp [Region.wanted, hg])]
    exact .inl ((ob a w hst).wp fun v w' ⟨hv, e⟩ => next hF hv e)
  | guarded E' av hg hj htE hF ob =>
    have hst := h.at c hc hD hi ho av
    rw [wanted_guard hst hg (by simpa [Dst] using hj) htE]
    split
    · rename_i hb
      exact .inl ((ob hb a w hst).wp fun v w' ⟨hv, e⟩ => next hF ⟨fun _ => hv, fun hb' => by rw [hb] at hb'; cases hb'⟩ e)
    · rename_i hb
      exact next hF ⟨fun hb' => absurd hb' hb, fun _ => rfl⟩ (.refl _ _)
  | guarded2 E' av hg hj htE hF ob =>
    have hst := h.at c hc hD hi ho av
    rw [wanted_guard2 hst hg (by simpa [Dst] using hj) htE]
    split
    · rename_i hb
      exact .inl ((ob hb a w hst).wp fun v w' ⟨hv, e⟩ => next hF ⟨fun _ => hv, fun hb' => by rw [hb] at hb'; cases hb'⟩ e)
    · rename_i hb
      exact next hF ⟨fun hb' => absurd hb' hb, fun _ => rfl⟩ (.refl _ _)
theorem goes_end (c : Chk ops bits m) (hN : ∀ i d, Dst ops i = some d → d < C.N) (ok : OpsOkS P C B E ops Fs bits skip 0 (ops.take m))
    (K : ∀ a' w', St C B [] a' w' → (∀ t F, get E t = some F → (∀ i, i < m → Dst ops i ≠ some t) → F.holds (okB C (idsOf B)) w' (sl a' t)) → (∀ i d F, i < m → Dst ops i = some d → Fs[i]? = some F → F.holds (okB C (idsOf B)) w' (sl a' d)) → wpList P ops.toArray Q (ops.drop m) a' w') :
    Goes P C B E ops Fs bits m skip 0 Q := by
  intro k
  induction k with
  | zero =>
    intro D a w hk hD hc h ht hs _
    have all : ∀ i, i < ops.length → D.getD i false = true := by
      intro i hi
      have hi' : i < D.toList.length := by simpa [hD] using hi
      have := List.count_eq_zero.1 hk
      cases hx : D.toList[i] with
      | false => exact absurd (hx ▸ List.getElem_mem hi') this
      | true => have h5 : i < D.size := by omega
                simpa [h5] using hx
    have hm : m = ops.length := by
      rcases Nat.lt_or_ge m ops.length with h1 | h1
      · have := ht m (Nat.le_refl _); rw [all m h1] at this; cases this
      · exact Nat.le_antisymm c.le h1
    refine seq_tail c 0 m D a w (by omega) (Nat.le_refl _) hD (fun i hi => ?_) (K a w h.st (fun t F ht hn => h.old t F ht (fun i hi => ?_)) (fun i d F hi => h.new i d F (all i (by omega))))
    · rw [all i hi]; simp; omega
    · refine hn i ?_
      rcases Nat.lt_or_ge i D.size with h4 | h4
      · omega
      · rw [Array.getD_eq_getD_getElem?, Array.getElem?_eq_none h4] at hi; cases hi
  | succ k ih =>
    intro D a w hk hD hc h ht hs h0
    by_cases hall : ∀ i, i < m → D.getD i false = true
    · have hcnt : k + 1 = ops.length - m := by
        have e : D.toList = List.replicate m true ++ List.replicate (ops.length - m) false := by
          refine List.ext_getElem (by simp [hD]; have := c.le; omega) (fun i h1 h2 => ?_)
          have h5 : i < D.size := by simpa using h1
          rcases Nat.lt_or_ge i m with h6 | h6
          · have := hall i h6
            rw [List.getElem_append_left (by simpa using h6)]
            simpa [h5] using this
          · have := ht i h6
            rw [List.getElem_append_right (by simpa using h6)]
            simpa [h5] using this
        rw [e, List.count_append] at hk
        simp [List.count_replicate] at hk
        omega
      refine seq_tail c (k + 1) m D a w (by have := c.le; omega) (Nat.le_refl _) hD (fun i hi => ?_) (K a w h.st (fun t F ht' hn => h.old t F ht' (fun i hi => ?_)) (fun i d F hi => h.new i d F (hall i hi)))
      · rcases Nat.lt_or_ge i m with h6 | h6
        · rw [hall i h6]; simp [h6]
        · rw [ht i h6]; simp; omega
      · refine hn i ?_
        rcases Nat.lt_or_ge i m with h6 | h6
        · exact h6
        · rw [ht i h6] at hi; cases hi
    · obtain ⟨i₀, hi₀, hni₀⟩ : ∃ i, i < m ∧ D.getD i false = false := by
        refine Classical.byContradiction fun hne => hall fun i hi => ?_
        cases hx : D.getD i false with
        | true => rfl
        | false => exact absurd ⟨i, hi, hx⟩ hne
      refine ⟨fun hn => absurd hn (ready_first c hD hi₀ hni₀), fun i hi => ?_⟩
      obtain ⟨h1, h2, h3⟩ := ready_mem.1 hi
      have hil : i < ops.length := by simpa using h1
      have h5 : i < D.size := by omega
      obtain ⟨o, ho⟩ : ∃ o, ops[i]? = some o := ⟨_, List.getElem?_eq_getElem hil⟩
      have him := ready_in c hc hi hi₀ hni₀
      have hok : OpOk P C B E ops Fs bits i o := by
        rcases OpsOkS.get _ _ ok i o (by rw [List.getElem?_take_of_lt him]; exact ho) with h7 | h7
        · rw [Nat.zero_add] at h7
          have := hs i him h7
          simp [h5] at this h2; rw [this] at h2; cases h2
        · rwa [Nat.zero_add] at h7
      refine one_step c hN ho him hok hk hD hc h hi fun a' w' hk' hc' h' => ih _ _ _ hk' (by simpa using hD) hc' h' (fun j hj => ?_) (fun j hj hsj => ?_) (fun j hj => by simp at hj)
      · rw [getD_set_true D i _ false h5, if_neg (by omega)]; exact ht j hj
      · rw [getD_set_true D i _ false h5]; split
        · rfl
        · exact hs j hj hsj
inductive OpOkX (P : Program) (C : Ctx) (B : List OF) (E : Env) (ops : List Oper) (Fs : List Fact) (bits : List Nat) (x : Nat) (o : Oper) {γ : Type} (B' : γ → List OF) (Fs' : γ → List Fact) : Prop
  | plain {F : γ → Fact} (E' : Env) (av : Av E ops Fs bits x E') (hg : o.guard = none) (hF : ∀ g, (Fs' g)[x]? = some (F g)) (ob : ∀ R, ObX P C B (E' ++ R) o B' F)
  | guarded {F : γ → Fact} {j : Nat} {want b : Bool} {t : Tmp} (E' : Env) (av : Av E ops Fs bits x E') (hg : o.guard = some (j, want)) (hj : Dst ops j = some t) (ht : get E' t = some (kbool.V b))
      (hF : ∀ g, (Fs' g)[x]? = some ((F g).when (b == want))) (ob : (b == want) = true → ∀ R, ObX P C B (E' ++ R) o B' F) (hn : (b == want) = false → ∃ g, B' g = B)
  | guarded2 {F : γ → Fact} {j : Nat} {want b c : Bool} {t : Tmp} (E' : Env) (av : Av E ops Fs bits x E') (hg : o.guard = some (j, want)) (hj : Dst ops j = some t) (ht : get E' t = some ((kbool.V b).when c))
      (hF : ∀ g, (Fs' g)[x]? = some ((F g).when (c && (b == want)))) (ob : (c && (b == want)) = true → ∀ R, ObX P C B (E' ++ R) o B' F) (hn : (c && (b == want)) = false → ∃ g, B' g = B)
theorem Mid.stepX {i : Nat} {o : Oper} {F : Fact} {w' : World} {v : Value} {B2 : List OF} {Fs2 : List Fact} (c : Chk ops bits m) (h : Mid C B E ops Fs D a w) (hD : D.size = ops.length) (ho : ops[i]? = some o) (hN : ∀ d, o.dst = some d → d < C.N) (hni : D.getD i true = false)
    (hF : Fs2[i]? = some F) (hsame : ∀ j, j ≠ i → D.getD j false = true → Fs2[j]? = Fs[j]?) (hv : F.holds (okB C (idsOf B2)) w' v) (hst : St C B2 [] a w') (kp : Keep (okB C (idsOf B)) (okB C (idsOf B2)) w w') :
    Mid C B2 E ops Fs2 (D.setIfInBounds i true) (a.put o.dst v) w' := by
  have hi : i < ops.length := (List.getElem?_eq_some_iff.1 ho).1
  have hdi : Dst ops i = o.dst := by unfold Dst; rw [ho]; rfl
  have hold := h.old
  have hD' : ∀ j, j ≠ i → (D.setIfInBounds i true).getD j false = D.getD j false := fun j hj => by rw [getD_set_true D i j false (by omega), if_neg (Ne.symm hj)]
  have hnot : ∀ j d, D.getD j false = true → Dst ops j = some d → o.dst ≠ some d := by
    intro j d hj hjd hod
    have hjl : j < ops.length := by
      unfold Dst at hjd
      rcases Nat.lt_or_ge j ops.length with h4 | h4
      · exact h4
      · rw [List.getElem?_eq_none h4] at hjd; cases hjd
    have := c.once i j d hi hjl (by rw [hdi]; exact hod) hjd
    subst this
    have h5 : i < D.size := by omega
    simp [h5] at hj hni
    rw [hj] at hni; cases hni
  refine { st := ?_, old := ?_, new := ?_ }
  · cases hd : o.dst with
    | none => exact hst
    | some d => exact (hst.put (hN d hd) (F := nofact) trivial).sub Sub.nil
  · intro t G ht hdone
    have h1 := hold t G ht (fun j hj hjd => hdone j (by
      by_cases e2 : j = i
      · subst e2; rw [getD_set_true D j j false (by omega), if_pos rfl]
      · rw [hD' j e2]; exact hj) hjd)
    have h2 := G.mono h1 kp
    cases hd : o.dst with
    | none => exact h2
    | some d =>
      have hne : d ≠ t := by
        intro e2; subst e2
        exact hdone i (by rw [getD_set_true D i i false (by omega), if_pos rfl]) (by rw [hdi]; exact hd)
      rw [sl_put_ne a v hne]; exact h2
  · intro j d G hj hjd hG
    by_cases e2 : j = i
    · subst e2
      rw [hF] at hG; cases hG
      have hd : o.dst = some d := by rw [← hdi]; exact hjd
      rw [hd, sl_put a d d v (by rw [hst.size]; exact hN d hd), if_pos rfl]; exact hv
    · rw [hD' j e2] at hj
      rw [hsame j e2 hj] at hG
      have h1 := G.mono (h.new j d G hj hjd hG) kp
      cases hd : o.dst with
      | none => exact h1
      | some d' =>
        have hne : d' ≠ d := fun e3 => hnot j d hj hjd (by rw [hd, e3])
        rw [sl_put_ne a v hne]; exact h1
def aheadOf (bits : List Nat) (m x skip skx todo skip2 todo2 : Nat) : Bool :=
  ((List.range m).all fun i => !(skx.testBit i) || skip.testBit i || i == x || (bits.getD i 0).testBit x) &&
  ((List.range m).all fun i => !(skip2.testBit i) || skip.testBit i || i == x || (bits.getD x 0).testBit i) &&
  ((List.range (m + m)).all fun i => !(todo.testBit i) || i == x || (bits.getD i 0).testBit x) &&
  decide (x < m) && todo.testBit x && decide (todo < 2 ^ m) && ((List.range (m + m)).all fun i => !(todo2.testBit i) || (todo.testBit i && !(i == x))) && decide (todo2 < 2 ^ m)
theorem goes_x {γ : Type} {B' : γ → List OF} {Fs' : γ → List Fact} {x skx skip2 todo2 : Nat} {ox : Oper} (c : Chk ops bits m) (hN : ∀ i d, Dst ops i = some d → d < C.N) (hox : ops[x]? = some ox) (hA : aheadOf bits m x skip skx todo skip2 todo2 = true)
    (ok : OpsOkS P C B E ops Fs bits skx 0 (ops.take m)) (okx : OpOkX P C B E ops Fs bits x ox B' Fs') (hsame : ∀ g j, j ≠ x → (bits.getD j 0).testBit x = false → (Fs' g)[j]? = Fs[j]?)
    (next : ∀ g, Goes P C (B' g) E ops (Fs' g) bits m skip2 todo2 Q) : Goes P C B E ops Fs bits m skip todo Q := by
  simp only [aheadOf, Bool.and_eq_true, decide_eq_true_eq] at hA
  obtain ⟨⟨⟨⟨⟨⟨⟨a1, a2⟩, a3⟩, hxm⟩, htx⟩, htb⟩, a4⟩, htb2⟩ := hA
  have bnd : ∀ {t i : Nat}, t < 2 ^ m → t.testBit i = true → i < m := fun {t i} h1 h2 => by
    rcases Nat.lt_or_ge i m with h3 | h3
    · exact h3
    · rw [Nat.testBit_lt_two_pow (Nat.lt_of_lt_of_le h1 (Nat.pow_le_pow_right (by decide) h3))] at h2; cases h2
  have s1 : ∀ i, i < m → skx.testBit i = true → skip.testBit i = true ∨ i = x ∨ (bits.getD i 0).testBit x = true := fun i hi h => by
    have := List.all_eq_true.1 a1 i (List.mem_range.2 hi)
    rw [h] at this
    simpa [or_assoc] using this
  have s2 : ∀ i, i < m → skip2.testBit i = true → skip.testBit i = true ∨ i = x ∨ (bits.getD x 0).testBit i = true := fun i hi h => by
    have := List.all_eq_true.1 a2 i (List.mem_range.2 hi)
    rw [h] at this
    simpa [or_assoc] using this
  have s3 : ∀ i, todo.testBit i = true → i = x ∨ (bits.getD i 0).testBit x = true := fun i h => by
    have := List.all_eq_true.1 a3 i (List.mem_range.2 (by have := bnd htb h; omega))
    rw [h] at this
    simpa using this
  have s4 : ∀ i, todo2.testBit i = true → todo.testBit i = true ∧ i ≠ x := fun i h => by
    have := List.all_eq_true.1 a4 i (List.mem_range.2 (by have := bnd htb2 h; omega))
    rw [h] at this
    simpa using this
  have hxl : x < ops.length := Nat.lt_of_lt_of_le hxm c.le
  intro k
  induction k with
  | zero =>
    intro D a w hk hD hc h ht hs htd
    exfalso
    have hx0 := htd x htx
    have hi' : x < D.toList.length := by simpa [hD] using hxl
    have := List.count_eq_zero.1 hk
    have h5 : x < D.size := by omega
    have : D.toList[x] = false := by simpa [h5] using hx0
    exact absurd (this ▸ List.getElem_mem hi') (List.count_eq_zero.1 hk)
  | succ k ih =>
    intro D a w hk hD hc h ht hs htd
    have hx0 := htd x htx
    have notbehind : ∀ j, D.getD j false = true → (bits.getD j 0).testBit x = false := fun j hj => by
      cases hq : (bits.getD j 0).testBit x with
      | false => rfl
      | true =>
        have hjl : j < ops.length := by
          rcases Nat.lt_or_ge j D.size with h4 | h4
          · omega
          · rw [Array.getD_eq_getD_getElem?, Array.getElem?_eq_none h4] at hj; cases hj
        obtain ⟨oj, hoj⟩ : ∃ oj, ops[j]? = some oj := ⟨_, List.getElem?_eq_getElem hjl⟩
        have := done_of_anc c hc j oj x hoj (hc j oj hoj hj) hxl hq
        rw [this] at hx0; cases hx0
    refine ⟨fun hn => absurd hn (ready_first c hD hxm hx0), fun i hi => ?_⟩
    obtain ⟨h1, h2, h3⟩ := ready_mem.1 hi
    have hil : i < ops.length := by simpa using h1
    have h5 : i < D.size := by omega
    obtain ⟨o, ho⟩ : ∃ o, ops[i]? = some o := ⟨_, List.getElem?_eq_getElem hil⟩
    have him := ready_in c hc hi hxm hx0
    have hnx : (bits.getD i 0).testBit x = false := by
      cases hq : (bits.getD i 0).testBit x with
      | false => rfl
      | true =>
        have := done_of_anc c hc i o x ho (h3 o (by simpa using ho)) hxl hq
        rw [this] at hx0; cases hx0
    by_cases e : i = x
    ·
      subst e
      rw [hox] at ho; cases ho
      have hNo : ∀ d, ox.dst = some d → d < C.N := fun d hd => hN i d (by unfold Dst; rw [hox]; exact hd)
      have go : ∀ {g : γ} {F : Fact} {v : Value} {w' : World}, (Fs' g)[i]? = some F → F.holds (okB C (idsOf (B' g))) w' v → St C (B' g) [] a w' → Keep (okB C (idsOf B)) (okB C (idsOf (B' g))) w w' → wpAny P .any ops.toArray Q k (D.setIfInBounds i true) (a.put ox.dst v) w' := fun {g F v w'} hF hv hst kp => by
        refine next g k _ _ _ ?_ (by simpa using hD) (closed_set hc hD hox (h3 ox (by simpa using hox))) (h.stepX c hD hox hNo h2 hF (fun j hj hdj => hsame g j hj (notbehind j hdj)) hv hst kp) (fun j hj => ?_) (fun j hj hsj => ?_) (fun j hj => ?_)
        · have := count_set h5 h2; omega
        · rw [getD_set_true D i _ false h5, if_neg (by omega)]; exact ht j hj
        · rw [getD_set_true D i _ false h5]
          split
          · rfl
          · rename_i hne
            rcases s2 j hj hsj with h6 | h6 | h6
            · exact hs j hj h6
            · exact absurd h6.symm hne
            · exact done_of_anc c hc i ox j hox (h3 ox (by simpa using hox)) (Nat.lt_of_lt_of_le hj c.le) h6
        · obtain ⟨h6, h7⟩ := s4 j hj
          rw [getD_set_true D i _ false h5, if_neg (Ne.symm h7)]; exact htd j h6
      unfold wpOp
      rw [show ops.toArray[i]? = some ox by simpa using hox]
      simp only []
      cases okx with
      | plain E' av hg hF ob =>
        have hst := h.at c hc hD hi hox av
        rw [if_pos (by simp [Region.wanted, hg])]
        exact .inl ((ObX.keeps ob a w hst).wp fun v w' ⟨g, hv, hst2, kp⟩ => go (hF g) hv (hst2.sub Sub.nil) kp)
      | guarded E' av hg hj htE hF ob hn =>
        have hst := h.at c hc hD hi hox av
        rw [wanted_guard hst hg (by simpa [Dst] using hj) htE]
        split
        · rename_i hb
          exact .inl ((ObX.keeps (ob hb) a w hst).wp fun v w' ⟨g, hv, hst2, kp⟩ => go (hF g) ⟨fun _ => hv, fun hb' => by rw [hb] at hb'; cases hb'⟩ (hst2.sub Sub.nil) kp)
        · rename_i hb
          obtain ⟨g, hg'⟩ := hn (by simpa using hb)
          exact go (hF g) ⟨fun hb' => absurd hb' hb, fun _ => rfl⟩ (by rw [hg']; exact h.st) (by rw [hg']; exact Keep.refl _ _)
      | guarded2 E' av hg hj htE hF ob hn =>
        have hst := h.at c hc hD hi hox av
        rw [wanted_guard2 hst hg (by simpa [Dst] using hj) htE]
        split
        · rename_i hb
          exact .inl ((ObX.keeps (ob hb) a w hst).wp fun v w' ⟨g, hv, hst2, kp⟩ => go (hF g) ⟨fun _ => hv, fun hb' => by rw [hb] at hb'; cases hb'⟩ (hst2.sub Sub.nil) kp)
        · rename_i hb
          obtain ⟨g, hg'⟩ := hn (by simpa using hb)
          exact go (hF g) ⟨fun hb' => absurd hb' hb, fun _ => rfl⟩ (by rw [hg']; exact h.st) (by rw [hg']; exact Keep.refl _ _)
    · have hok : OpOk P C B E ops Fs bits i o := by
        rcases OpsOkS.get _ _ ok i o (by rw [List.getElem?_take_of_lt him]; exact ho) with h7 | h7
        · rw [Nat.zero_add] at h7
          rcases s1 i him h7 with h8 | h8 | h8
          · have := hs i him h8
            simp [h5] at this h2; rw [this] at h2; cases h2
          · exact absurd h8 e
          · rw [h8] at hnx; cases hnx
        · rwa [Nat.zero_add] at h7
      refine one_step c hN ho him hok hk hD hc h hi fun a' w' hk' hc' h' => ih _ _ _ hk' (by simpa using hD) hc' h' (fun j hj => ?_) (fun j hj hsj => ?_) (fun j hj => ?_)
      · rw [getD_set_true D i _ false h5, if_neg (by omega)]; exact ht j hj
      · rw [getD_set_true D i _ false h5]; split
        · rfl
        · exact hs j hj hsj
      · have hne : i ≠ j := by
          rintro rfl
          rcases s3 i hj with h6 | h6
          · exact e h6
          · rw [h6] at hnx; cases hnx
        rw [getD_set_true D i _ false h5, if_neg hne]; exact htd j hj
def dstsOk (ops : List Oper) (N : Nat) : Bool := (List.range ops.length).all (fun i => ((Dst ops i).map fun d => decide (d < N)).getD true)
theorem dsts_of {N : Nat} (hN : dstsOk ops N = true) : ∀ i d, Dst ops i = some d → d < N := by
  intro i d hd
  have hi : i < ops.length := by
    unfold Dst at hd
    rcases Nat.lt_or_ge i ops.length with h4 | h4
    · exact h4
    · rw [List.getElem?_eq_none h4] at hd; cases hd
  have := List.all_eq_true.1 hN i (List.mem_range.2 hi)
  simpa [hd] using this
theorem wp_goes {id : Nat} (hm : P.follows .mixedOrders = true) (h : St C B E a w) (hg : Goes P C B E ops Fs bits m 0 todo Q) : (Code.region id ops.toArray true).wp P Q a w := by
  refine wp_region_any hm ?_
  have h' : St C B E a { w with drawn := w.drawn + 1 } := h.grow (Ev.drawn _)
  have nodone : ∀ i, (Array.replicate ops.toArray.size false).getD i false = false := fun i => by
    rw [Array.getD_eq_getD_getElem?, Array.getElem?_replicate]; split <;> rfl
  refine hg ops.toArray.size _ a _ ?_ (by simp) ?_ ⟨h'.sub Sub.nil, fun t F ht _ => h'.env t F ht, fun i d F hi => ?_⟩ (fun i _ => nodone i) (fun i _ hs => by simp at hs) (fun i _ => nodone i)
  · simp [Array.toList_replicate, List.count_replicate]
  · intro i o ho hi; rw [nodone i] at hi; cases hi
  · rw [nodone i] at hi; cases hi
theorem goes_last (hc : chk ops bits m = true) (hN : dstsOk ops C.N = true) (ok : OpsOkS P C B E ops Fs bits skip 0 (ops.take m)) {Eo : Env}
    (hE : ∀ t F, get Eo t = some F → (get E t = some F ∧ ∀ i, i < m → Dst ops i ≠ some t) ∨ ∃ i, i < m ∧ Dst ops i = some t ∧ Fs[i]? = some F)
    (K : ∀ a' w', St C B Eo a' w' → wpList P ops.toArray Q (ops.drop m) a' w') : Goes P C B E ops Fs bits m skip 0 Q :=
  goes_end (chk_spec hc) (dsts_of hN) ok fun a' w' hs hold hnew => by
    refine K a' w' { hs with env := fun t F ht => ?_ }
    rcases hE t F ht with ⟨h1, h2⟩ | ⟨i, h1, h2, h3⟩
    · exact hold t F h1 h2
    · exact hnew i t F h1 h2 h3
theorem goes_turn {γ : Type} {B' : γ → List OF} {Fs' : γ → List Fact} (x skx skip2 todo2 : Nat) {ox : Oper} (hc : chk ops bits m = true) (hN : dstsOk ops C.N = true) (hox : ops[x]? = some ox) (hA : aheadOf bits m x skip skx todo skip2 todo2 = true)
    (ok : OpsOkS P C B E ops Fs bits skx 0 (ops.take m)) (okx : OpOkX P C B E ops Fs bits x ox B' Fs') (hsame : ∀ g j, j ≠ x → (bits.getD j 0).testBit x = false → (Fs' g)[j]? = Fs[j]?)
    (next : ∀ g, Goes P C (B' g) E ops (Fs' g) bits m skip2 todo2 Q) : Goes P C B E ops Fs bits m skip todo Q :=
  goes_x (chk_spec hc) (dsts_of hN) hox hA ok okx hsame next
def setAll (Fs : List Fact) : List (Nat × Fact) → List Fact
  | [] => Fs
  | (i, F) :: l => (setAll Fs l).set i F
theorem setAll_same {γ : Type} {x : Nat} {us : γ → List (Nat × Fact)} (h : ∀ g, (us g).all (fun p => p.1 == x || (bits.getD p.1 0).testBit x) = true) : ∀ g j, j ≠ x → (bits.getD j 0).testBit x = false → (setAll Fs (us g))[j]? = Fs[j]? := fun g j hj hb => by
  have key : ∀ l : List (Nat × Fact), l.all (fun p => p.1 == x || (bits.getD p.1 0).testBit x) = true → (setAll Fs l)[j]? = Fs[j]? := by
    intro l
    induction l with
    | nil => intro _; rfl
    | cons p l ih =>
      intro hl
      simp only [List.all_cons, Bool.and_eq_true, Bool.or_eq_true, beq_iff_eq] at hl
      have hne : p.1 ≠ j := by
        rintro rfl
        rcases hl.1 with h1 | h1
        · exact hj h1
        · rw [hb] at h1; cases h1
      show ((setAll Fs l).set p.1 p.2)[j]? = _
      rw [List.getElem?_set_ne hne]
      exact ih (by simpa using hl.2)
  exact key _ (h g)
end
end Go.Proofs.Kit
end
section
namespace Go.Proofs.Kit
open Go Go.RowKit
set_option linter.unusedSimpArgs false
set_option linter.unusedVariables false
section
variable {Q : Exit → Act → World → Prop} {a : Act} {w : World} {id : Nat}
end
theorem Flat.is {v : Value} : Flat (is v) := fun _ _ _ _ _ h => h
theorem ObX.uncond {P : Program} {C : Ctx} {B : List OF} {E : Env} {o : Oper} {γ : Type} {B' : γ → List OF} {F : γ → Fact} {c : Bool} {t : Nat} {G : Fact} (hc : c = true) (h : get E t = some (G.when c)) (ob : ObX P C B ((t, G) :: E) o B' F) : ObX P C B E o B' F := fun a w s => by
  have s' : St C B ((t, G) :: E) a w := s.fact ((s.env _ _ h).1 hc)
  refine (ob a w s').mono fun v w' ⟨g, h1, h2⟩ => ⟨g, h1, ?_⟩
  have e : ∀ u H, get E u = some H → u ≠ t → get ((t, G) :: E) u = some H := fun u H hu hne => by simp only [get]; rw [if_neg (Ne.symm hne)]; exact hu
  refine { h2 with env := fun u H hu => ?_ }
  by_cases e1 : u = t
  · subst e1
    rw [h] at hu; cases hu
    exact ⟨fun _ => h2.env u G (by simp [get]), fun hf => by rw [hc] at hf; cases hf⟩
  · exact h2.env u H (e u H hu e1)
section
variable {P : Program} {C : Ctx} {B B' A D : List OF} {E : Env} {o : Oper} {α β γ : Type} {K : Kd α} {k : Kd β} {T T' U e : TypeId} {x y : Operand} {b off : Nat} {X X' : α} {v : Value} {xs : List β} {l h : Int} {lo hi : Option Operand}
theorem ob_appendL2 {ys : List β} {y0 : β} {zs : List Value} (ho : o.op = .call { callee := .builtin .append, args := #[x, y], argTypes := #[T, T] }) (hT : P.underlying T = some (.slice e)) (ap : ApOk P e k zs) (hz : Zr k y0 zs)
    (hsz : 0 < k.sz) (hx : Opd E x (is v)) (hy : Opd E y ((ksl k).V ys)) (hB : B = A ++ RowF v e k xs :: D) (hb : xs.length + ys.length ≤ lim) :
    ObX P C B E o (fun g => A ++ RowF g e k (xs ++ ys) :: D) (fun g => is g) := ob_appendL ho hT ap hz hsz trivial hx hy hB hb
theorem ob_sliceRow {n : Nat} {s : Nat} (ho : o.op = .slice T x lo hi none) (hT : P.underlying T = some (.array n e)) (hs : (P.info? e).map (·.size) = some s) (hx : Opd E x (ptrR v off))
    (hl : Bnd E 0 lo l) (hh : Bnd E n hi h) (hb : 0 ≤ l ∧ l ≤ h ∧ h ≤ n) : Ob P C B E o (slR v (soff n off l.toNat s) (h.toNat - l.toNat) (n - l.toNat)) := fun a w st => by
  obtain ⟨g, n', c, hv, hx'⟩ := st.arg hx
  have hr := run_bounds (P := P) st false n n hl hh hb.1 hb.2.1 hb.2.2
  refine .value (w' := w) (v := .slice (some ⟨g, soff n off l.toNat s, none⟩) (h.toNat - l.toNat) (n - l.toNat)) ?_ ⟨⟨_, _, _, hv, rfl⟩, .refl _ _⟩
  simp only [execOp, ho, Instr.sliceAt, Option.map_none, Sem.run_bind, run_underlying hT, Result.andThen_ok, hx', Instr.sureAddr, Sem.run_pure, hr, run_sizeOf' hs]
  unfold soff
  by_cases hn : n = l.toNat
  · simp [hn]
  · simp [hn, add_lit]
theorem lendSlB {L : List OF} {n off0 off' cap len : Nat} {zs ys : List β} (hL : BF b U K X ∈ L) (lg : LG K (karr n k) off0 X zs) (hb : cut? zs l h = some ys) (ho : off' = soff n off0 l.toNat k.sz) (hlen : len = ys.length) (hcap : ys.length ≤ cap ∧ cap ≤ maxLen) :
    ∀ ok w u, (is (.slice (some ⟨b, off', none⟩) len cap)).holds ok w u → (∀ q, q ∈ L → q.holds ok w) → (∀ c, c ∈ idsOf L → ok c) → ((ksl k).V ys).holds ok w u := by
  rintro ok w u rfl h1 h2
  exact lendSl lg hb ho hlen hcap ok w (h1 _ hL) (h2 b (mem_idsOf hL (by simp [BF])))
theorem seg_cells {cs ds : List Value} {off lo n : Nat} (h1 : off + n ≤ cs.length) (h2 : lo + ds.length ≤ n) :
    cs.take off ++ (((cs.drop off).take n).take lo ++ ds ++ ((cs.drop off).take n).drop (lo + ds.length)) ++ cs.drop (off + n) = cs.take (off + lo) ++ ds ++ cs.drop (off + lo + ds.length) := by
  rw [List.take_take, Nat.min_eq_left (by omega), List.drop_take, List.drop_drop]
  have f1 : cs.take (off + lo) = cs.take off ++ (cs.drop off).take lo := by rw [List.take_add]
  have f2 : cs.drop (off + lo + ds.length) = (cs.drop (off + (lo + ds.length))).take (n - (lo + ds.length)) ++ cs.drop (off + n) := by
    have := (List.take_append_drop (n - (lo + ds.length)) (cs.drop (off + (lo + ds.length)))).symm
    rw [List.drop_drop, show off + (lo + ds.length) + (n - (lo + ds.length)) = off + n by omega] at this
    rw [Nat.add_assoc]; exact this
  rw [f1, f2]; simp
theorem run_copy_cells {w : World} {dT sT ty : TypeId} {g o ll cap : Nat} {cur : Array Value} {t : TypeId} {ds : List Value} {u : Value} (hT : P.underlying dT = some (.slice e)) (hs : (P.info? e).map (·.size) = some 1) (hg : w.heap[g]? = some (.cells cur t (0, 0))) (hle : ds.length ≤ ll) (hfit : o + ds.length ≤ cur.size)
    (hu : (∃ s, u = .string s ∧ ds = Go.Lib.byteCells s.data.toList) ∨ (∃ a c, u = .slice (some a) ds.length c ∧ (∀ j v, ds[j]? = some v → w.cell? (a.add j) = some v) ∧ ∀ v ∈ ds, v.oneCell' = true)) :
    (Builtin.copy_ #[dT, sT] ty #[.slice (some ⟨g, o, none⟩) ll cap, u]).run P w = .ok (goInt ds.length) (w.setRow g (cur.toList.take o ++ ds ++ cur.toList.drop (o + ds.length)).toArray) := by
  rcases hu with ⟨s, rfl, rfl⟩ | ⟨a, c, rfl, h1, h2⟩
  · have hl : (Go.Lib.byteCells s.data.toList).length = s.size := by rw [Go.Lib.byteCells_length, ← Go.Lib.size_eq]
    rw [hl] at hle hfit ⊢
    exact Go.Lib.run_copy_row_string w dT sT ty e g o ll cap s cur t hT hs hg hle hfit
  · exact run_copy_row P w dT sT ty e g o ll cap a ds.length c cur t ds hT hs hg (Nat.min_eq_left hle).symm h1 hfit h2
def SrcOk (w : World) (u : Value) (ds : List Value) : Prop :=
  (∃ s, u = .string s ∧ ds = Go.Lib.byteCells s.data.toList) ∨ (∃ a c, u = .slice (some a) ds.length c ∧ (∀ j v, ds[j]? = some v → w.cell? (a.add j) = some v) ∧ ∀ v ∈ ds, v.oneCell' = true) ∨ (u = .slice none 0 0 ∧ ds = [])
theorem run_copy_any {w : World} {dT sT ty : TypeId} {g o ll cap : Nat} {cur : Array Value} {t : TypeId} {ds : List Value} {u : Value} (hT : P.underlying dT = some (.slice e)) (hs : (P.info? e).map (·.size) = some 1) (hg : w.heap[g]? = some (.cells cur t (0, 0))) (hle : ds.length ≤ ll) (hfit : o + ds.length ≤ cur.size) (hu : SrcOk w u ds) :
    (Builtin.copy_ #[dT, sT] ty #[.slice (some ⟨g, o, none⟩) ll cap, u]).run P w = .ok (goInt ds.length) (w.setRow g (cur.toList.take o ++ ds ++ cur.toList.drop (o + ds.length)).toArray) := by
  rcases hu with h | h | ⟨rfl, rfl⟩
  · exact run_copy_cells hT hs hg hle hfit (.inl h)
  · exact run_copy_cells hT hs hg hle hfit (.inr h)
  · rw [run_copy_nil P w dT sT ty e _ ll cap hT (by rw [hs]; rfl)]
    have : (cur.toList.take o ++ [] ++ cur.toList.drop (o + ([] : List Value).length)).toArray = cur := by simp
    rw [this, setRow_self w g cur t (0, 0) hg]; rfl
def Src (P : Program) (C : Ctx) (B : List OF) (E : Env) (y : Operand) (k : Kd β) (ys : List β) : Prop := ∀ a w, St C B E a w → ∃ ds, SrcOk w (a.eval y) ds ∧ relL k (okB C (idsOf B)) w ys ds
theorem srcStr {l : List Int} (hy : Opd E y (kstr.V l)) : Src P C B E y (kint .u8) l := fun a w h => by
  obtain ⟨s, hs', rfl, hm⟩ := V_str.1 (h.arg hy)
  exact ⟨_, .inl ⟨s, hs', rfl⟩, by rw [strCells_eq]; exact relL_bl _ w s⟩
theorem srcSl {ys : List β} (hk : k.sz = 1) (hy : Opd E y ((ksl k).V ys)) : Src P C B E y k ys := fun a w h => by
  obtain ⟨p, cap, hp, hcap, hnil, rs, hr, hc⟩ := V_sl (h.arg hy)
  have hl := relL_len hr
  rw [hk, Nat.mul_one] at hl
  cases p with
  | none =>
    have h0 := hnil rfl
    have h1 : ys = [] := List.eq_nil_of_length_eq_zero (by omega)
    subst h1
    simp only [relL] at hr
    subst hr
    exact ⟨[], .inr (.inr ⟨by rw [hp, h0]; rfl, rfl⟩), rfl⟩
  | some p => exact ⟨rs, .inr (.inl ⟨p, cap, by rw [hl]; exact hp, fun j v hj => (hc p rfl j v hj).1, relL_cell1 hr⟩), hr⟩
theorem copied {ok : Ok} {w : World} {cs ds : List Value} {n lo : Nat} {zs ys : List β} (hk : k.sz = 1) (hr : K.rel ok w X cs) (lg : LG K (karr n k) off X zs) (ls : LS K (karr n k) off X (zs.take lo ++ ys ++ zs.drop (lo + ys.length)) X') (hd : relL k ok w ys ds) (hfit : lo + ys.length ≤ n) :
    ds.length = ys.length ∧ off + n ≤ cs.length ∧ K.rel ok w X' (cs.take (off + lo) ++ ds ++ cs.drop (off + lo + ds.length)) := by
  have ha := lg _ _ _ hr
  have hseg := LS.seg (k := k) (xs := zs) (ys := ys) (n := n) (lo := lo) hfit _ w _ _ ha ⟨rfl, hd⟩
  obtain ⟨hbd, hr'⟩ := ls _ _ cs _ hr hseg.2
  have hcl := K.len hr
  have e1 : (karr n k).sz = n := by simp [karr, hk]
  have e2 : (karr ys.length k).sz = ys.length := by simp [karr, hk]
  have hdl : ds.length = ys.length := by have := relL_len hd; rw [this, hk, Nat.mul_one]
  rw [e1] at hbd
  refine ⟨hdl, by omega, ?_⟩
  rw [e1, e2, hk, Nat.mul_one, ← hdl] at hr'
  rw [← seg_cells (cs := cs) (ds := ds) (off := off) (lo := lo) (n := n) (by omega) (by omega)]
  exact hr'
theorem ob_copyB {ll cap n lo : Nat} {off' : Nat} {zs ys : List β} (ho : o.op = .call { callee := .builtin .copy, args := #[x, y], argTypes := #[T, T'] }) (hT : P.underlying T = some (.slice e)) (hs : (P.info? e).map (·.size) = some 1) (hk : k.sz = 1)
    (hx : Opd E x (is (.slice (some ⟨b, off', none⟩) ll cap))) (hy : Src P C B E y k ys) (hB : B = A ++ BF b U K X :: D) (hoff : off' = soff n off lo 1) (hfit : lo + ll ≤ n) (hl : ys.length ≤ ll)
    (lg : LG K (karr n k) off X zs) (ls : LS K (karr n k) off X (zs.take lo ++ ys ++ zs.drop (lo + ys.length)) X') (hB' : B' = A ++ BF b U K X' :: D) (hm : n ≤ maxLen) :
    ObX P C B E o (fun _ : Unit => B') (fun _ => (kint .i64).V ys.length) := fun a w h => by
  subst hB hB'
  have hx' : a.eval x = .slice (some ⟨b, off', none⟩) ll cap := h.arg hx
  obtain ⟨ds, hsrc, hd⟩ := hy a w h
  obtain ⟨cs, hg, hr⟩ := h.own (BF b U K X) (by simp)
  obtain ⟨hdl, hn, hr'⟩ := copied hk hr lg ls hd (by omega)
  have hturn : St C (A ++ BF b U K X' :: D) E a (w.setRow b (cs.take (off + lo) ++ ds ++ cs.drop (off + lo + ds.length)).toArray) := by
    refine h.turn (g := BF b U K X') rfl ⟨rfl, rfl, rfl, by simp, fun q _ hq => setRow_other _ _ _ _ (by simpa [BF] using hq)⟩ (fun kp => ?_)
    exact ⟨_, setRow_heap _ _ _ _ _ _ hg, K.mono hr' kp⟩
  refine .value (w' := w.setRow b (cs.take (off + lo) ++ ds ++ cs.drop (off + lo + ds.length)).toArray) (v := goInt ds.length) ?_ ⟨(), V_int.2 ⟨by rw [hdl]; rfl, has_len (by omega)⟩, hturn⟩
  subst hoff
  simp only [execOp, ho, resolve, invoke, builtin, Sem.run_bind, Sem.run_pure, Result.andThen_ok, List.map_toArray, List.map_cons, List.map_nil, hx']
  by_cases hn' : n = lo
  · have h0 : ds = [] := List.eq_nil_of_length_eq_zero (by omega)
    subst h0
    have hsoff : soff n off lo 1 = off := by unfold soff; rw [if_pos hn']
    rw [hsoff, run_copy_any (o := off) hT hs hg (Nat.zero_le _) (by simp; omega) hsrc]
    have e1 : ∀ m, (cs.take m ++ [] ++ cs.drop (m + ([] : List Value).length)) = cs := fun m => by simp
    rw [e1, e1]; rfl
  · have hsoff : soff n off lo 1 = off + lo := by unfold soff; rw [if_neg hn', Nat.mul_one]
    rw [hsoff, run_copy_any hT hs hg (by omega) (by simp; omega) hsrc]
    rfl
theorem ob_copyR {α' : Type} {kk : Kd α'} {rs rs' : List α'} {e' : TypeId} {ll cap n lo : Nat} {off' : Nat} {zs ys : List β} (ho : o.op = .call { callee := .builtin .copy, args := #[x, y], argTypes := #[T, T'] }) (hT : P.underlying T = some (.slice e)) (hs : (P.info? e).map (·.size) = some 1) (hk : k.sz = 1)
    (hx : Opd E x (slR v off' ll cap)) (hy : Src P C B E y k ys) (hB : B = A ++ RowF v e' kk rs :: D) (hoff : off' = soff n off lo 1) (hfit : lo + ll ≤ n) (hl : ys.length ≤ ll)
    (lg : LG (karr rs.length kk) (karr n k) off rs zs) (ls : LS (karr rs.length kk) (karr n k) off rs (zs.take lo ++ ys ++ zs.drop (lo + ys.length)) rs') (hB' : B' = A ++ RowF v e' kk rs' :: D) (hm : n ≤ maxLen) :
    ObX P C B E o (fun _ : Unit => B') (fun _ => (kint .i64).V ys.length) := fun a w h => by
  subst hB hB'
  obtain ⟨g, n', c, rfl, hx'⟩ := h.arg hx
  obtain ⟨ds, hsrc, hd⟩ := hy a w h
  obtain ⟨cur, cs, hn', hg, hc1, hc2, hc3, hc4, hrel⟩ := row_block (h.own (RowF (.slice (some ⟨g, 0, none⟩) n' c) e' kk rs) (by simp)) rfl
  subst hn'
  obtain ⟨hdl, hn, hr'⟩ := copied hk (K := karr rs.length kk) ⟨rfl, hrel⟩ lg ls hd (by omega)
  have hcl := relL_len hrel
  have hle : rs.length * kk.sz ≤ c * kk.sz := Nat.mul_le_mul_right _ hc1
  have hfit2 : off + lo + ds.length ≤ rs.length * kk.sz := by omega
  have hturn : St C (A ++ RowF (.slice (some ⟨g, 0, none⟩) rs.length c) e' kk rs' :: D) E a (w.setRow g (cur.toList.take (off + lo) ++ ds ++ cur.toList.drop (off + lo + ds.length)).toArray) := by
    refine h.turn (g := RowF (.slice (some ⟨g, 0, none⟩) rs.length c) e' kk rs') rfl ⟨rfl, rfl, rfl, by simp, fun q _ hq => setRow_other _ _ _ _ (by simpa [RowF, ownIds] using hq)⟩ (fun kp => ?_)
    refine row_stored (off := off + lo) hc3 hc1 hc2 hg hfit2 ?_
    rw [hc4]
    exact (karr rs.length kk).mono hr' kp
  refine .value (w' := w.setRow g (cur.toList.take (off + lo) ++ ds ++ cur.toList.drop (off + lo + ds.length)).toArray) (v := goInt ds.length) ?_ ⟨(), V_int.2 ⟨by rw [hdl]; rfl, has_len (by omega)⟩, hturn⟩
  subst hoff
  simp only [execOp, ho, resolve, invoke, builtin, Sem.run_bind, Sem.run_pure, Result.andThen_ok, List.map_toArray, List.map_cons, List.map_nil, hx']
  by_cases hn2 : n = lo
  · have h0 : ds = [] := List.eq_nil_of_length_eq_zero (by omega)
    subst h0
    have hsoff : soff n off lo 1 = off := by unfold soff; rw [if_pos hn2]
    rw [hsoff, run_copy_any (o := off) hT hs hg (Nat.zero_le _) (by simp; omega) hsrc]
    have e1 : ∀ m, (cur.toList.take m ++ [] ++ cur.toList.drop (m + ([] : List Value).length)) = cur.toList := fun m => by simp
    rw [e1, e1]; rfl
  · have hsoff : soff n off lo 1 = off + lo := by unfold soff; rw [if_neg hn2, Nat.mul_one]
    rw [hsoff, run_copy_any hT hs hg (by omega) (by omega) hsrc]
    rfl
end
theorem St.dropTail {C : Ctx} {B D : List OF} {E : Env} {a : Act} {w : World} (h : St C (B ++ D) E a w) : St C B E a w := by
  induction D generalizing B with
  | nil => simpa using h
  | cons f D ih => exact ih h.drop
theorem leaveXD {P : Program} {fn : Func} {ok : Ok} {w : World} {γ : Type} {F : γ → Fact} {L : List OF} {L' : γ → List OF} {N : Nat} {E : Env} {l : List ResultVar} {m : List Fact} {a : Act} {w' : World} {e : Exit} (g : γ) {B D : List OF} (s : St ⟨N, w, ok, idsOf L⟩ (B ++ D) E a w') (hB : L' g = B) (he : e = .ret ∨ e = .normal) (hr : fn.results = l.toArray) (h : ResAll P ⟨N, w, ok, idsOf L⟩ (B ++ D) E l m) (hF : F g = resFact m) :
    bodyPost P fn (fun e w' => ∃ v, e = .returned v ∧ OutX ok w L F L' v w') e a w' := by
  subst hB
  obtain ⟨vs, h1, h2, h3⟩ := run_resultsX s hr h
  have s' := s.dropTail
  have kp : Keep (okB ⟨N, w, ok, idsOf L⟩ (idsOf (L' g ++ D))) (okB ⟨N, w, ok, idsOf L⟩ (idsOf (L' g))) w' w' := fun b _ ho => ⟨rfl, ho.1, fun hm => ho.2 (by rw [idsOf_append, List.mem_append]; exact .inl hm)⟩
  have key : (resFact m).holds (okOut ok w (idsOf L) (idsOf (L' g))) w' (if vs.length = 1 then vs.headD undef else .tuple vs.toArray) := by
    refine Fact.mono _ (?_ : (resFact m).holds (okB ⟨N, w, ok, idsOf L⟩ (idsOf (L' g ++ D))) w' _) kp
    match m, vs, h1 with
    | [], [], _ => exact ⟨[], rfl, rfl, fun i F u hF => by simp at hF⟩
    | [F], [v], _ => exact h2 0 F v rfl rfl
    | F :: G :: m, v :: u :: vs, hl => exact ⟨v :: u :: vs, by simp, hl, h2⟩
  have out : ∃ v, Ending.returned (if vs.length = 1 then vs.headD undef else .tuple vs.toArray) = .returned v ∧ OutX ok w L F L' v w' := ⟨_, rfl, g, by rw [hF]; exact key, s'.ev, s'.nod, s'.fresh, s'.own⟩
  rcases he with rfl | rfl <;> exact ⟨s.dfr, _, h3, out⟩
end Go.Proofs.Kit
end
section
namespace Go.Proofs.Kit
open Go Go.RowKit
set_option linter.unusedSimpArgs false
set_option linter.unusedVariables false
theorem is_kis {v : Value} (h1 : v.cells = #[v]) (h2 : v.oneCell' = true) (h3 : mkv false [v] = v) : ∀ ok w u, (is v).holds ok w u → ((kis v).V ()).holds ok w u := fun ok w u h => ⟨[v], ⟨rfl, h1, h2⟩, by rw [show u = v from h]; exact h3.symm⟩
section
variable {P : Program} {C : Ctx} {B B' A D : List OF} {E : Env} {o : Oper} {T kT eT : TypeId} {x y i : Operand} {b : Nat} {ik : IntKind} {m : List (Int × Bool)} {n : Int} {p : Bool}
end
def slNil {α : Type} (xs : List α) : Fact := ⟨fun _ _ v => ∃ q : Bool, v = .bool q ∧ (q = true → xs = []), fun h _ => h⟩
section
variable {P : Program} {C : Ctx} {B B' A D : List OF} {E : Env} {o : Oper} {α : Type} {k : Kd α} {T T' e : TypeId} {x y : Operand} {xs : List α}
theorem ob_slNil (ho : o.op = .binOp .eql T x (.const (.slice none 0 0)) T') (hT : P.underlying T = some (.slice e)) (hx : Opd E x ((ksl k).V xs)) : Ob P C B E o (slNil xs) := fun a w h => by
  obtain ⟨p, cap, hp, hcap, hnil, _⟩ := V_sl (h.arg hx)
  refine .value (w' := w) (v := .bool p.isNone) ?_ ⟨⟨p.isNone, rfl, fun hq => ?_⟩, .refl _ _⟩
  · have e1 : a.eval (.const (.slice none 0 0)) = .slice none 0 0 := rfl
    have e2 := run_equal_slice_nil (P := P) w T e p xs.length cap hT
    simp [execOp, ho, hp, e1, eqGuard, binOp, e2]
  · cases p with
    | none => have := hnil rfl; exact List.eq_nil_of_length_eq_zero (by omega)
    | some p => cases hq
theorem cond_nil {Q : Exit → Act → World → Prop} {a : Act} {w : World} {c1 c2 : Code} (s : St C B E a w) (hx : Opd E x (slNil xs)) (h1 : xs = [] → c1.wp P Q a w) (h2 : c2.wp P Q a w) : (Code.cond x c1 c2).wp P Q a w := by
  obtain ⟨q, hq, hn⟩ := s.arg hx
  exact wp_cond_split hq (fun h => h1 (hn h)) (fun _ => h2)
theorem ob_emptyRow (ho : o.op = .buildSlice T 0 #[]) (hT : P.underlying T = some (.slice e)) (hs : (P.info? e).map (·.size) = some k.sz) : ObX P C B E o (fun g => RowF g e k [] :: B) (fun g => is g) := fun a w h => by
  refine .value (w' := w.alloc (.cells #[] e)) (v := .slice (some ⟨w.heap.size, 0, none⟩) 0 0) ?_ ⟨.slice (some ⟨w.heap.size, 0, none⟩) 0 0, rfl, ?_⟩
  · simp only [execOp, ho, Sem.run_bind, Instr.buildSlice, run_underlying hT, Result.andThen_ok, run_sizeOf' hs]
    simp [newRow, newObj, Sem.run, Instr.fill]
    congr 2
    simp [Array.range]
  · exact h.new (.cells #[] e) (G := RowF (.slice (some ⟨w.heap.size, 0, none⟩) 0 0) e k []) rfl (fun _ => ⟨[], rfl, by simp, .inr ⟨w.heap.size, 0, #[], rfl, Nat.zero_le _, heap_alloc_new w _, Nat.le_refl _, Nat.zero_le _, by simp, by simp⟩⟩)
end
def ObF (P : Program) (C : Ctx) (B : List OF) (E : Env) (o : Oper) (F : Fact) : Prop :=
  ∀ a w, St C B E a w → Does P o a w fun v w' => F.holds (fun n => w.heap.size ≤ n) w' v ∧ Ev [] w w'
section
variable {P : Program} {C : Ctx} {B B2 B' A D L : List OF} {E : Env} {o : Oper} {F : Fact} {x : Operand} {f : FuncId} {Fs Gs : List Fact}
theorem ObF.ob (h : ObF P C B E o F) : Ob P C B E o F := fun a w s => (h a w s).mono fun v w' ⟨h1, h2⟩ => ⟨F.mono h1 (fun b _ ho => ⟨rfl, fun hc => absurd hc (by have := s.ev.size; show ¬ b < _; have : w.heap.size ≤ b := ho; omega), fun hm => absurd (s.lt hm) (by have : w.heap.size ≤ b := ho; omega)⟩), h2⟩
theorem ObF.uncond {c : Bool} {t : Nat} {G : Fact} (hc : c = true) (h : get E t = some (F.when c)) (ob : ObF P C B ((t, F) :: E) o G) : ObF P C B E o G := fun a w s => by
  refine ob a w { s with env := fun u H hu => ?_ }
  simp only [get] at hu
  by_cases e : t = u
  · rw [if_pos e] at hu; cases hu; subst e; exact (s.env _ _ h).1 hc
  · rw [if_neg e] at hu; exact s.env u H hu
theorem row_fresh {β : Type} {k : Kd β} {v : Value} {e : TypeId} {xs : List β} {ok : Ok} {w' : World} {n : Nat} (hk : KFlat k) (h : (RowF v e k xs).holds ok w') (hn : ∀ b, b ∈ ownIds v → n ≤ b) : ((ksl k).V xs).holds (fun b => n ≤ b) w' v :=
  ⟨[v], rowRd (FlatO.row hk _ _ _ h) hn, by
    obtain ⟨rs, _, _, h3⟩ := h
    rcases h3 with ⟨rfl, _⟩ | ⟨g, cap, cur, rfl, _⟩ <;> rfl⟩
theorem ob_callF {γ : Type} {F' : γ → Fact} {L' : γ → List OF} {argTypes : Array TypeId} {args : List Operand} (ho : o.op = .call { callee := .value x, args := args.toArray, argTypes := argTypes }) (hc : Callee E f x Fs Gs) (hb : hasBody P f)
    (hg : ∀ a w, St C B E a w → ∀ fs gs, ArgsOk (okB C (idsOf B)) w Fs fs → ArgsOk (okB C (idsOf B)) w Gs gs → GivesX P f (fs ++ args.map a.eval ++ gs) (okB C (idsOf B)) w [] F' L')
    (hF : ∀ g ok w n v, (F' g).holds ok w v → (∀ q, q ∈ L' g → q.holds ok w) → (∀ b, b ∈ idsOf (L' g) → n ≤ b) → F.holds (fun b => n ≤ b) w v) : ObF P C B E o F := fun a w h => by
  obtain ⟨fs, gs, e1, g1, g2⟩ := hc.val h
  unfold Does
  have e : (execOp a.eval o).run P w = .ok (.enter f (fs.toArray ++ args.toArray.map a.eval ++ gs.toArray)) w := by
    simp only [execOp, ho]; exact run_callV (c := { callee := .value x, args := args.toArray, argTypes := argTypes }) rfl e1 hb
  rw [e]
  have := hg a w h fs gs g1 g2
  unfold GivesX at this
  have e2 : (fs ++ args.map a.eval ++ gs).toArray = fs.toArray ++ args.toArray.map a.eval ++ gs.toArray := by simp
  rw [e2] at this
  refine this.mono fun e w' ⟨v, he, g, hF', hev, hn, hfr, hown⟩ => ⟨v, he, hF g _ w' w.heap.size v hF' hown (fun b hb => ?_), hev⟩
  rcases hfr b hb with h1 | h1
  · exact h1
  · cases h1
inductive ResF (L : List OF) : List Fact → List Fact → Prop
  | nil : ResF L [] []
  | row {β : Type} {k : Kd β} {v : Value} {e : TypeId} {xs : List β} {l m : List Fact} (hL : RowF v e k xs ∈ L) (hk : KFlat k) (t : ResF L l m) : ResF L (is v :: l) ((ksl k).V xs :: m)
  | flat {F : Fact} {l m : List Fact} (h : Flat F) (t : ResF L l m) : ResF L (F :: l) (F :: m)
theorem ResF.len {L : List OF} {l m : List Fact} (h : ResF L l m) : l.length = m.length := by induction h <;> simp_all
theorem ResF.get {L : List OF} {l m : List Fact} (h : ResF L l m) : ∀ (i : Nat) (G : Fact), m[i]? = some G → ∃ F : Fact, l[i]? = some F ∧ ∀ ok w n u, F.holds ok w u → (∀ q, q ∈ L → q.holds ok w) → (∀ b, b ∈ idsOf L → n ≤ b) → G.holds (fun b => n ≤ b) w u := by
  induction h with
  | nil => intro i G hG; simp at hG
  | @row β k v e xs l m hL hk t ih =>
    intro i G hG
    cases i with
    | zero =>
      simp at hG; subst hG
      refine ⟨_, rfl, fun ok w n u hu h1 h2 => ?_⟩
      have hu' : u = v := hu
      subst hu'
      exact row_fresh hk (h1 _ hL) (fun b hb => h2 b (mem_idsOf hL hb))
    | succ i => exact ih i G (by simpa using hG)
  | @flat F l m h t ih =>
    intro i G hG
    cases i with
    | zero => simp at hG; subst hG; exact ⟨F, rfl, fun ok w n u hu _ _ => h _ _ _ _ _ hu⟩
    | succ i => exact ih i G (by simpa using hG)
theorem ResF.all {L : List OF} {l m : List Fact} (h : ResF L l m) : ∀ ok w n v, (resFact l).holds ok w v → (∀ q, q ∈ L → q.holds ok w) → (∀ b, b ∈ idsOf L → n ≤ b) → (resFact m).holds (fun b => n ≤ b) w v := fun ok w n v hv h1 h2 => by
  have hlen := h.len
  match l, m, h, hlen with
  | [], [], _, _ => obtain ⟨vs, a1, a2, a3⟩ := hv; exact ⟨vs, a1, a2, fun i F u hF => by simp at hF⟩
  | [F], [G], h, _ =>
    obtain ⟨F', hF', hh⟩ := h.get 0 G rfl
    simp at hF'; subst hF'
    exact hh ok w n v hv h1 h2
  | F1 :: F2 :: l, G1 :: G2 :: m, h, hlen =>
    obtain ⟨vs, a1, a2, a3⟩ := hv
    refine ⟨vs, a1, a2.trans hlen, fun i G u hG hu => ?_⟩
    obtain ⟨F', hF', hh⟩ := h.get i G hG
    exact hh ok w n u (a3 i F' u hF' hu) h1 h2
end
def whenO (c : Bool) (q : OF) : OF where
  ids := if c then q.ids else []
  holds ok w := c = true → q.holds ok w
  lt := by
    intro ok w h b hb
    cases c with
    | true => exact q.lt (h rfl) b hb
    | false => cases hb
  mono := by
    intro ok ok' w w' h kp hs hc
    subst hc
    exact q.mono (h rfl) kp hs
end Go.Proofs.Kit
end
section
namespace Go.Proofs.Kit
open Go Go.RowKit
set_option linter.unusedSimpArgs false
set_option linter.unusedVariables false
section
variable {P : Program} {C : Ctx} {B B' A D : List OF} {E : Env} {o : Oper} {α β : Type} {k : Kd α} {l : Kd β} {T T' U e : TypeId} {x y i : Operand} {v : Value} {xs xs' : List α} {off off' lo len : Nat} {Y : β} {ik : IntKind} {n : Int} {bl bh : Option Operand} {m h : Int}
end
end Go.Proofs.Kit
end
section
namespace Go.Proofs.Kit
open Go Go.RowKit
set_option linter.unusedSimpArgs false
set_option linter.unusedVariables false
def bad (b : Nat) (x : Bool) : Value := .pointer (if x then some ⟨b, 0, none⟩ else none)
def kbad (b : Nat) : Kd Bool where
  sz := 1
  agg := false
  rel _ _ x cs := cs = [bad b x]
  len := by rintro ok w x cs rfl; rfl
  one := by rintro ok w x cs rfl _; exact ⟨_, rfl, rfl⟩
  cell1 := by rintro ok w x cs rfl u hu; simp at hu; subst hu; rfl
  mono := fun h _ => h
theorem V_kbad {b : Nat} {x : Bool} : ∀ ok w u, ((kbad b).V x).holds ok w u → (is (bad b x)).holds ok w u := fun ok w u ⟨cs, h, e⟩ => by
  cases h; exact e
theorem Zr.bad (b : Nat) : Zr (kbad b) false [.pointer none] := fun _ _ => rfl
theorem KFlat.bad (b : Nat) : KFlat (kbad b) := fun _ _ _ _ _ _ h => h
theorem self_bad {b : Nat} : ∀ ok w u, (ptrB b 0).holds ok w u → ((kbad b).V true).holds ok w u := fun ok w u h => ⟨[bad b true], rfl, h⟩
theorem opd_nilIface {E : Env} : Opd E (.const .nilIface) ((kis .nilIface).V ()) := .const fun _ _ => ⟨[.nilIface], ⟨rfl, rfl, rfl⟩, rfl⟩
def isNoEscape (P : Program) (f : FuncId) : Prop := ∃ fn, P.funcs[f]? = some fn ∧ (fn.name == "runtime.NumGoroutine") = false ∧ fn.body.isNone = true ∧ (Extern.findNext fn).isNone = true ∧ Extern.find fn = some Extern.AbiNoEscape.same
section
variable {P : Program} {C : Ctx} {B B' A D : List OF} {E : Env} {o : Oper} {α β : Type} {K : Kd α} {k : Kd β} {T T' T'' U u S e : TypeId} {x y : Operand} {b : Nat} {v : Value} {X : α} {p : Bool}
theorem ob_newAt {kk : Nat → Kd β} {agg : Bool} {zs : List Value} {Y : β} (ho : o.op = .alloc T) (ha : ∀ b, (kk b).agg = agg) (hz : ((P.info? T).bind (·.zero)) = some (mkv agg zs)) (hk : ∀ b, Zr (kk b) Y zs) : ObX P C B E o (fun b => BF b T (kk b) Y :: B) (fun b => ptrB b 0) := fun a w h => by
  have hc : (mkv agg zs).cells.toList = zs := by
    have := Kd.cells (hk 0 (okB C (idsOf B)) w)
    rw [ha 0] at this; exact this
  refine .value (w' := w.alloc (.cells (mkv agg zs).cells T)) (v := .pointer (some ⟨w.heap.size, 0, none⟩)) ?_ ⟨w.heap.size, rfl, ?_⟩
  · simp only [execOp, ho, Instr.alloc, newVar, newRow, newObj, Sem.run_bind, run_zero hz, Result.andThen_ok, Sem.run, Sem.run_pure]
    rfl
  · refine h.new (.cells (mkv agg zs).cells T) (G := BF w.heap.size T (kk w.heap.size) Y) rfl (fun _ => ⟨zs, ?_, hk _ _ _⟩)
    have he : (mkv agg zs).cells = zs.toArray := by rw [← Array.toList_inj, hc]
    rw [he]
    exact heap_alloc_new w _
theorem ob_badNil (ho : o.op = .binOp .eql T x y T'') (hT : P.underlying T = some (.pointer (P.pointee T))) (hx : Opd E x (is (bad b p))) (hy : Opd E y (is (.pointer none))) : Ob P C B E o (kbool.V (!p)) := fun a w h => by
  have h1 : a.eval x = bad b p := h.arg hx
  have h2 : a.eval y = .pointer none := h.arg hy
  unfold bad at h1
  cases p with
  | true => exact .value (w' := w) (v := .bool false) (by simp [execOp, ho, h1, h2, eqGuard, run_eql_pointer_nil w T _ hT]) ⟨V_bool.2 rfl, .refl _ _⟩
  | false => exact .value (w' := w) (v := .bool true) (by simp [execOp, ho, h1, h2, eqGuard, run_eql_pointer_nil w T _ hT]) ⟨V_bool.2 rfl, .refl _ _⟩
theorem ob_badSelf (ho : o.op = .binOp .neq T x y T'') (hT : P.underlying T = some (.pointer u)) (hu : (P.info? u).isSome = true) (hx : Opd E x (is (bad b p))) (hy : Opd E y (ptrB b 0)) : Ob P C B E o (kbool.V (!p)) := fun a w h => by
  have h1 : a.eval x = bad b p := h.arg hx
  have h2 : a.eval y = .pointer (some ⟨b, 0, none⟩) := h.arg hy
  obtain ⟨j, hj⟩ := Option.isSome_iff_exists.1 hu
  unfold bad at h1
  cases p with
  | true => exact .value (w' := w) (v := .bool false) (by simp [execOp, ho, h1, h2, eqGuard, Lib.run_neq_ptr_same w ⟨b, 0, none⟩ hT hj]) ⟨V_bool.2 rfl, .refl _ _⟩
  | false =>
    have hrun : (binOp .neq T (.pointer none) (.pointer (some ⟨b, 0, none⟩))).run P w = .ok (.bool true) w := by
      have h : ∀ d : Nat, (Op.equalIn (d + 1) T (.pointer none) (.pointer (some ⟨b, 0, none⟩))).run P w = .ok false w := fun d => by
        simp [Op.equalIn, run_underlying hT]
      simp only [binOp]
      simp [Op.equal, Op.maxDepth, h 9999]
    exact .value (w' := w) (v := .bool true) (by simp [execOp, ho, h1, h2, eqGuard, hrun]) ⟨V_bool.2 rfl, .refl _ _⟩
theorem BF_shape {ok : Ok} {w : World} (h : (BF b U K X).holds ok w) : w.shape? b = some (U, K.sz) := by
  obtain ⟨cs, hg, hr⟩ := h
  have := K.len hr
  simp [World.shape?, hg, this]
theorem ob_toUnsafe (ho : o.op = .convert S T x) (hS : P.underlying S = some (.pointer u)) (hT : P.underlying T = some .unsafePointer) (hu : (P.info? u).map (fun j => decide (j.size = 0)) = some false) (hx : Opd E x (ptrB b 0)) (hB : BF b U K X ∈ B) (hK : 0 < K.sz) : Ob P C B E o (ptrB b 0) := fun a w h => by
  have hx' : a.eval x = .pointer (some ⟨b, 0, none⟩) := h.arg hx
  obtain ⟨j, hj, hs⟩ := Option.map_eq_some_iff.1 hu
  have hrun := Lib.run_to_unsafe (P := P) w ⟨b, 0, none⟩ hS hT hj (by simpa using hs) (BF_shape (h.own _ hB)) hK
  exact .value (w' := w) (v := .pointer (some ⟨b, 0, none⟩)) (by simp [execOp, ho, hx', hrun]) ⟨rfl, .refl _ _⟩
theorem ob_fromUnsafe (ho : o.op = .convert S T x) (hS : P.underlying S = some .unsafePointer) (hT : P.underlying T = some (.pointer u)) (hu : (P.info? u).isSome = true) (hx : Opd E x (ptrB b 0)) (hB : BF b U K X ∈ B)
    (hl : liesAt P P.depth U (K.sz / P.cellsOf U) 0 u 1 = true) : Ob P C B E o (ptrB b 0) := fun a w h => by
  have hx' : a.eval x = .pointer (some ⟨b, 0, none⟩) := h.arg hx
  obtain ⟨j, hj⟩ := Option.isSome_iff_exists.1 hu
  have hrun := Lib.run_from_unsafe (P := P) w ⟨b, 0, none⟩ hS hT hj (BF_shape (h.own _ hB)) hl
  exact .value (w' := w) (v := .pointer (some ⟨b, 0, none⟩)) (by simp [execOp, ho, hx', hrun]) ⟨rfl, .refl _ _⟩
theorem ob_noEscape {f : FuncId} {ats : Array TypeId} (ho : o.op = .call { callee := .value (.func f), args := #[x], argTypes := ats }) (hf : isNoEscape P f) (hx : Opd E x (ptrB b 0)) : Ob P C B E o (ptrB b 0) := fun a w h => by
  obtain ⟨fn, h1, h2, h3, h4, h5⟩ := hf
  have hn : Extern.findNext fn = none := by simpa using h4
  have hx' : a.eval x = .pointer (some ⟨b, 0, none⟩) := h.arg hx
  refine .value (w' := w) (v := .pointer (some ⟨b, 0, none⟩)) ?_ ⟨rfl, .refl _ _⟩
  have e := run_callFunc_extern (P := P) (args := #[a.eval x]) (w := w) h1 h2 h3 hn h5
  simp only [execOp, ho, resolve, Deferred.ofValue, Sem.run_bind, Sem.run_pure, Result.andThen_ok, invoke]
  have e2 : a.eval (.func f) = .func (.func f) #[] #[] := rfl
  simp only [e2, Deferred.ofValue, Sem.run_pure, Result.andThen_ok, invoke, List.map_toArray, List.map_cons, List.map_nil]
  rw [hx', Lib.run_noEscape] at e
  simpa [hx'] using e
theorem ob_sliceData {xs : List β} (ho : o.op = .call { callee := .builtin .unsafeSliceData, args := #[x], argTypes := #[T] }) (hx : Opd E x (is v)) (hB : RowF v e k xs ∈ B) (h0 : 0 < xs.length) : Ob P C B E o (ptrR v 0) := fun a w h => by
  have hx' : a.eval x = v := h.arg hx
  obtain ⟨rs, hr, hl, hv⟩ := h.own _ hB
  rcases hv with ⟨rfl, h1⟩ | ⟨g, cap, cur, rfl, _, hg, h1, _⟩
  · omega
  · refine .value (w' := w) (v := .pointer (some ⟨g, 0, none⟩)) ?_ ⟨⟨_, _, _, rfl, rfl⟩, .refl _ _⟩
    have := Lib.run_unsafeSliceData_row (P := P) (w := w) #[T] o.type ⟨g, 0, none⟩ xs.length cap (by omega)
    simp only [execOp, ho, resolve, invoke, builtin, Sem.run_bind, Sem.run_pure, Result.andThen_ok, List.map_toArray, List.map_cons, List.map_nil, hx']
    rw [this]; rfl
def GoneF (v : Value) : OF where
  ids := ownIds v
  holds _ w := ∀ b, b ∈ ownIds v → b < w.heap.size
  lt := fun h b hb => h b hb
  mono := fun {ok ok' w w'} h kp hs b hb => by
    have h1 := hs b hb
    have h2 := h b hb
    rcases Nat.lt_or_ge b w'.heap.size with h3 | h3
    · exact h3
    · rw [Array.getElem?_eq_none h3, Array.getElem?_eq_getElem h2] at h1; cases h1
theorem ob_unsafeString {xs : List Int} {T2 : TypeId} (ho : o.op = .call { callee := .builtin .unsafeString, args := #[x, y], argTypes := #[T, T2] }) (hT : P.underlying T = some (.pointer e)) (hc : P.cellsOf e = 1) (hx : Opd E x (ptrR v 0)) (hy : Opd E y ((kint .i64).V (xs.length : Int)))
    (hB : B = A ++ RowF v e (kint .u8) xs :: D) (h0 : 0 < xs.length) : ObX P C B E o (fun _ : Unit => A ++ D) (fun _ => kstr.V xs) := fun a w h => by
  subst hB
  obtain ⟨g, n', c, rfl, hx'⟩ := h.arg hx
  obtain ⟨cur, rs, hn', hg, hc1, hc2, hc3, hc4, hr⟩ := row_block (h.own (RowF (.slice (some ⟨g, 0, none⟩) n' c) e (kint .u8) xs) (by simp)) rfl
  subst hn'
  have hy' : a.eval y = .int .i64 (xs.length : Int) := (V_int.1 (h.arg hy)).1
  have hcell : ∀ (l : List Int) (rs : List Value), relL (kint .u8) (okB C (idsOf (A ++ RowF (.slice (some ⟨g, 0, none⟩) xs.length c) e (kint .u8) xs :: D))) w l rs → ∃ bs : List UInt8, bs.length = l.length ∧ l = bs.map (fun (u : UInt8) => (u.toNat : Int)) ∧ ∀ (j : Nat) (u : UInt8), bs[j]? = some u → rs[j]? = some (Value.int .u8 u.toNat) := by
    intro l
    induction l with
    | nil => intro rs _; exact ⟨[], rfl, rfl, fun j u h => by simp at h⟩
    | cons z l ih =>
      intro rs hr
      obtain ⟨c1, c2, rfl, h1, h2⟩ := hr
      obtain ⟨bs, e1, e2, e3⟩ := ih c2 h2
      obtain ⟨rfl, hz⟩ := h1
      have hz2 : 0 ≤ z ∧ z ≤ 255 := hz
      refine ⟨UInt8.ofNat z.toNat :: bs, by simp [e1], ?_, fun j u hj => ?_⟩
      · have : ((UInt8.ofNat z.toNat).toNat : Int) = z := by
          rw [UInt8.toNat_ofNat_of_lt' (show z.toNat < 256 by omega)]; omega
        rw [List.map_cons, this, ← e2]
      · cases j with
        | zero =>
          simp at hj; subst hj
          have : ((UInt8.ofNat z.toNat).toNat : Int) = z := by
            rw [UInt8.toNat_ofNat_of_lt' (show z.toNat < 256 by omega)]; omega
          rw [this]; rfl
        | succ j => simp at hj ⊢; exact e3 j u hj
  obtain ⟨bs, hbl, hbx, hbc⟩ := hcell xs rs hr
  have hrun := Lib.run_unsafeString_row (P := P) w T T2 o.type e hT hc g cur.size (by simp [World.shape?, hg]) bs (by intro hn; subst hn; simp at hbl; omega) (by rw [hbl, hc3]; simp [kint]; omega) (by rw [hbl]; unfold maxLen at hc2; omega) (fun j u hj => by
    have h1 := hbc j u hj
    rw [← hc4, List.getElem?_take] at h1
    split at h1
    · rw [add_lit]
      simp only [World.cell?, hg]
      simpa using h1
    · cases h1)
  rw [hbl] at hrun
  have f1 : (w.freeze ⟨g, 0, none⟩ xs.length).os = w.os := by unfold World.freeze; split <;> rfl
  have f2 : (w.freeze ⟨g, 0, none⟩ xs.length).tape = w.tape := by unfold World.freeze; split <;> rfl
  have f3 : (w.freeze ⟨g, 0, none⟩ xs.length).output = w.output := by unfold World.freeze; split <;> rfl
  have hsz : (w.freeze ⟨g, 0, none⟩ xs.length).heap.size = w.heap.size := by unfold World.freeze; split <;> simp
  have f5 : ∀ q, g ≠ q → (w.freeze ⟨g, 0, none⟩ xs.length).heap[q]? = w.heap[q]? := fun q hq => by
    unfold World.freeze
    split
    · rfl
    · simp [Array.getElem?_modify, hq]
  refine .value (w' := w.freeze ⟨g, 0, none⟩ xs.length) (v := .string ⟨bs.toArray⟩) ?_ ⟨(), ?_, ?_⟩
  · simp only [execOp, ho, resolve, invoke, builtin, Sem.run_bind, Sem.run_pure, Result.andThen_ok, List.map_toArray, List.map_cons, List.map_nil, hx', hy']
    rw [hrun]; rfl
  · refine V_str.2 ⟨⟨bs.toArray⟩, rfl, ?_, ?_⟩
    · rw [hbx]; simp [bl]
    · show bs.toArray.size ≤ maxLen
      simp [hbl]; omega
  · have h2 := h.turn (f := RowF (.slice (some ⟨g, 0, none⟩) xs.length c) e (kint .u8) xs) (g := GoneF (.slice (some ⟨g, 0, none⟩) xs.length c)) rfl
      (w' := w.freeze ⟨g, 0, none⟩ xs.length) ⟨f1, f2, f3, by rw [hsz]; exact Nat.le_refl _, fun q _ hq => f5 q (fun e1 => hq (by simp [RowF, ownIds, e1]))⟩ (fun _ => fun q hq => by
        rw [hsz]
        simp [ownIds] at hq
        subst hq
        exact lt_of_heap hg)
    exact h2.drop
end
end Go.Proofs.Kit
end
section
namespace Go.Proofs.Kit
open Go Go.RowKit
set_option linter.unusedSimpArgs false
set_option linter.unusedVariables false
section
variable {C : Ctx} {A l D : List OF} {E : Env} {a : Act} {w : World}
end
section
variable {P : Program} {C : Ctx} {B A D : List OF} {E : Env} {o : Oper} {β : Type} {k : Kd β} {T U e : TypeId} {x y : Operand} {vs us : List Value} {xss xss' : List (List β)} {xs ys : List β} {i n b : Nat} {v g : Value} {a : Act} {w : World}
end
end Go.Proofs.Kit
end
section
namespace Go.Proofs.Kit
open Go Go.RowKit
set_option linter.unusedSimpArgs false
set_option linter.unusedVariables false
def slC {α : Type} (k : Kd α) (xs : List α) : Fact := ⟨fun ok w v => (∃ p, v = .slice p xs.length xs.length) ∧ ((ksl k).V xs).holds ok w v, fun h kp => ⟨h.1, ((ksl k).V xs).mono h.2 kp⟩⟩
section
variable {P : Program} {C : Ctx} {B : List OF} {E : Env} {o : Oper} {β : Type} {k : Kd β} {T e : TypeId} {x y z : Operand} {xs ys : List β} {ik ik' : IntKind}
theorem run_bounds3 {a : Act} {w : World} (s : St C B E a w) (len cap n : Nat) (hy : Opd E y ((kint ik).V (n : Int))) (hz : Opd E z ((kint ik').V (n : Int))) (h : n ≤ cap) :
    (Instr.sliceBounds true len cap none (some (a.eval y)) (some (a.eval z))).run P w = .ok (0, n, n) w := by
  have e1 := (V_int.1 (s.arg hy)).1
  have e2 := (V_int.1 (s.arg hz)).1
  unfold Instr.sliceBounds
  simp only [e1, e2, Sem.run_bind, Sem.run_pure, Result.andThen_ok, run_sliceBound (show (0 : Int) ≤ (n : Int) by omega) (show (n : Int) ≤ (cap : Int) by omega), Int.toNat_natCast, run_sliceBound (show (0 : Int) ≤ (n : Int) by omega) (show (n : Int) ≤ (n : Int) by omega)]
theorem ob_cut3 (ho : o.op = .slice T x none (some y) (some z)) (hT : P.underlying T = some (.slice e)) (hs : (P.info? e).map (·.size) = some k.sz) (hx : Opd E x ((ksl k).V xs)) (hy : Opd E y ((kint ik).V (xs.length : Int))) (hz : Opd E z ((kint ik').V (xs.length : Int))) :
    Ob P C B E o (slC k xs) := fun a w st => by
  obtain ⟨p, cap, hp, hcap, hnil, rs, hr, hc⟩ := V_sl (st.arg hx)
  have hrb := run_bounds3 (P := P) st xs.length cap xs.length hy hz hcap.1
  refine .value (w' := w) (v := .slice (if xs.length = 0 then p else p.map (·.add (0 * k.sz))) (xs.length - 0) (xs.length - 0)) ?_ ⟨⟨⟨_, rfl⟩, ?_⟩, .refl _ _⟩
  · simp only [execOp, ho, Instr.sliceAt, Instr.slice, Option.map_none, Option.map_some, Sem.run_bind, run_underlying hT, Result.andThen_ok, hp, Sem.run_pure, hrb]
    simp [hrb, run_sizeOf' hs]
  · refine ⟨_, ⟨_, xs.length, rfl, ⟨Nat.le_refl _, by omega⟩, fun hn => ?_, rs, hr, fun q hq => ?_⟩, rfl⟩
    · split at hn
      · assumption
      · cases p with
        | none => have := hnil rfl; omega
        | some p => cases hn
    · cases p with
      | none => split at hq <;> cases hq
      | some p =>
        split at hq
        · cases hq; exact hc _ rfl
        · have e : q = p.add (0 * k.sz) := (Option.some.inj hq).symm
          subst e
          intro j v hj
          have := hc p rfl j v hj
          rw [Nat.zero_mul, add_add, Nat.zero_add, add_block]
          exact this
theorem ob_append3 {y0 : β} {zs : List Value} (ho : o.op = .call { callee := .builtin .append, args := #[x, y], argTypes := #[T, T] }) (hT : P.underlying T = some (.slice e)) (ap : ApOk P e k zs) (hz : Zr k y0 zs)
    (hsz : 0 < k.sz) (hx : Opd E x (slC k xs)) (hy : Opd E y ((ksl k).V ys)) (hb : xs.length + ys.length ≤ lim) : Ob P C B E o ((ksl k).V (xs ++ ys)) := fun a w st => by
  obtain ⟨i, hi⟩ : ∃ i, P.info? e = some i := by
    have := ap.size
    cases hq : P.info? e with
    | none => rw [hq] at this; cases this
    | some i => exact ⟨i, rfl⟩
  have h1 : i.zero = some (mkv k.agg zs) := by simpa [hi] using ap.zero
  have h2 : i.size = k.sz := by simpa [hi] using ap.size
  have h3 : i.bytes ≤ 65536 := by simpa [hi] using ap.bytes
  obtain ⟨⟨p, hv⟩, hV⟩ := st.arg hx
  obtain ⟨p', cap', hp', hcap, hnil, rs, hr, hc⟩ := V_sl hV
  rw [hv] at hp'
  injection hp' with e1 e2 e3
  subst e1
  subst e3
  obtain ⟨q, qcap, hq, hqcap, hqnil, ns, hnr, hqc⟩ := V_sl (st.arg hy)
  have hrl := relL_len hr
  have hnl := relL_len hnr
  unfold lim at hb
  by_cases h0 : ys.length = 0
  · have hys : ys = [] := List.eq_nil_of_length_eq_zero h0
    subst hys
    have hns : ns = [] := hnr
    subst hns
    have src : Go.Src P i.size T (a.eval y) 0 [] w := by
      rw [hq]
      cases q with
      | none => exact Go.Src.ofNil w hT _
      | some qa => exact Go.Src.ofSlice w hT qa 0 qcap [] (by simp) (fun j u hj => by simp at hj) (fun u hu => by cases hu)
    have hrun := run_append_nothing (P := P) w T T o.type e i hT hi p xs.length xs.length (Nat.le_refl _) (a.eval y) src
    refine .value (w' := w) (v := .slice p xs.length xs.length) ?_ ⟨?_, .refl _ _⟩
    · simp only [execOp, ho, resolve, invoke, builtin, Sem.run_bind, Sem.run_pure, Result.andThen_ok, List.map_toArray, List.map_cons, List.map_nil, hv]
      rw [hrun]; rfl
    · rw [List.append_nil, ← hv]; exact hV
  · cases q with
    | none => have := hqnil rfl; omega
    | some qa =>
      have src : Go.Src P i.size T (a.eval y) ys.length ns w := by
        rw [hq]; exact Go.Src.ofSlice w hT qa ys.length qcap ns (by rw [hnl, h2]) (fun j u hj => (hqc qa rfl j u hj).1) (relL_cell1 hnr)
      have hold : (Builtin.firstCells i.size xs.length (.slice p xs.length xs.length)).run P w.drew = .ok rs.toArray w.drew := by
        cases p with
        | none =>
          have hx0 := hnil rfl
          have : rs = [] := List.eq_nil_of_length_eq_zero (by rw [hrl, hx0, Nat.zero_mul])
          rw [this]; exact run_firstCells_none w.drew _ _ _ _
        | some pa => exact run_firstCells_some w.drew i.size xs.length pa xs.length xs.length rs (by rw [hrl, h2]) (by simpa using fun j u hj => (hc pa rfl j u hj).1)
      have hmax : xs.length + ys.length ≤ maxLen := by unfold maxLen; omega
      have hfit : Builtin.nextslicecap (xs.length + ys.length) xs.length * i.bytes ≤ 281474976710656 := by
        have hn := nextslicecap_le (need := xs.length + ys.length) (old := xs.length) (by omega)
        calc Builtin.nextslicecap (xs.length + ys.length) xs.length * i.bytes ≤ 4294967296 * 65536 := Nat.mul_le_mul (by omega) h3
          _ ≤ 281474976710656 := by decide
      have hrun := run_append_grow_src (P := P) w T T o.type e i (mkv k.agg zs) hT hi h1 p xs.length xs.length rs hold (a.eval y) ys.length ns src (by omega) (by omega) hfit
      have hev : Ev [] w (w.drew.alloc (.cells ((rs ++ ns).toArray ++ Builtin.zeroCells (mkv k.agg zs).cells (grownCap w (xs.length + ys.length) xs.length e - (xs.length + ys.length))) e)) := (Ev.drawn (w := w) (w.drawn + 1)).trans (Ev.alloc w.drew _)
      refine .value (v := .slice (some ⟨w.heap.size, 0, none⟩) (xs.length + ys.length) (grownCap w (xs.length + ys.length) xs.length e)) (w' := w.drew.alloc (.cells ((rs ++ ns).toArray ++ Builtin.zeroCells (mkv k.agg zs).cells (grownCap w (xs.length + ys.length) xs.length e - (xs.length + ys.length))) e)) ?_ ⟨?_, hev⟩
      · simp only [execOp, ho, resolve, invoke, builtin, Sem.run_bind, Sem.run_pure, Result.andThen_ok, List.map_toArray, List.map_cons, List.map_nil, hv]
        rw [hrun]; rfl
      · refine ⟨_, ⟨some ⟨w.heap.size, 0, none⟩, _, by rw [List.length_append], ⟨by rw [List.length_append]; exact grownCap_ge w _ xs.length e, grownCap_le_maxLen w _ xs.length e hmax⟩, fun hn => (by cases hn), rs ++ ns, ?_, fun t ht => ?_⟩, rfl⟩
        · exact relL_append (relL_mono hr (.of_ev_nil hev)) (relL_mono hnr (.of_ev_nil hev))
        · obtain rfl := (Option.some.inj ht)
          intro j u hj
          have hs := st.ev.size
          refine ⟨?_, ⟨fun hc => absurd hc (by show ¬ w.heap.size < _; omega), fun hm => absurd (st.lt hm) (by show ¬ w.heap.size < _; omega)⟩⟩
          rw [add_lit]
          simp only [World.cell?]
          rw [show (w.drew.alloc (.cells ((rs ++ ns).toArray ++ Builtin.zeroCells (mkv k.agg zs).cells (grownCap w (xs.length + ys.length) xs.length e - (xs.length + ys.length))) e)).heap[w.heap.size]? = some (.cells ((rs ++ ns).toArray ++ Builtin.zeroCells (mkv k.agg zs).cells (grownCap w (xs.length + ys.length) xs.length e - (xs.length + ys.length))) e) from heap_alloc_new w.drew _]
          have hj2 : j < (rs ++ ns).length := by
            rcases Nat.lt_or_ge j (rs ++ ns).length with c | c
            · exact c
            · rw [List.getElem?_eq_none c] at hj; cases hj
          simp only [Nat.zero_add]
          rw [Array.getElem?_append_left (by simpa using hj2)]
          simpa using hj
end
end Go.Proofs.Kit
end
section
namespace Go.Proofs.Kit
open Go Go.RowKit
set_option linter.unusedVariables false
section
variable {P : Program} {C : Ctx} {B : List OF} {E E' : Env} {a : Act} {w : World} {ops : Array Oper} {o : Oper} {rest : List Oper} {Q : Exit → Act → World → Prop} {d : Tmp} {F : Fact}
theorem q1 (h : St C B E a w) (e : (o.guard, o.dst, decide (d < C.N)) = (none, some d, true)) (ob : Ob P C B E o F) (K : ∀ a' w', St C B ((d, F) :: E) a' w' → wpList P ops Q rest a' w') : wpList P ops Q (o :: rest) a w :=
  seq_op h (congrArg (·.1) e) (congrArg (·.2.1) e) (of_decide_eq_true (congrArg (·.2.2) e)) ob K
theorem qx {γ : Type} {B' : γ → List OF} {F : γ → Fact} (h : St C B E a w) (e : (o.guard, o.dst, decide (d < C.N)) = (none, some d, true)) (ob : ObX P C B E o B' F) (K : ∀ g a' w', St C (B' g) ((d, F g) :: E) a' w' → wpList P ops Q rest a' w') : wpList P ops Q (o :: rest) a w :=
  seq_opx h (congrArg (·.1) e) (congrArg (·.2.1) e) (of_decide_eq_true (congrArg (·.2.2) e)) ob K
theorem qg {j : Nat} {want b : Bool} {t : Tmp} (h : St C B E a w) (hg : o.guard = some (j, want)) (hj : (ops[j]?).bind (·.dst) = some t) (ht : get E t = some (kbool.V b)) (e : (o.dst, decide (d < C.N)) = (some d, true))
    (ob : (b == want) = true → Ob P C B E o F) (K : ∀ a' w', St C B ((d, F.when (b == want)) :: E) a' w' → wpList P ops Q rest a' w') : wpList P ops Q (o :: rest) a w :=
  seq_opg h hg hj ht (congrArg (·.1) e) (of_decide_eq_true (congrArg (·.2) e)) ob K
theorem u (t : Nat) (h : get E t = some F) (k : Sub E' E) : Sub ((t, F) :: E') E := .cons h k
theorem av {opl : List Oper} {Fs : List Fact} {bits : List Nat} {i : Nat} (t : Nat) (h : get E t = some F) (hf : freeOf opl bits i t = true) (k : Av E opl Fs bits i E') : Av E opl Fs bits i ((t, F) :: E') := .old h hf k
theorem an {opl : List Oper} {Fs : List Fact} {bits : List Nat} {i t : Nat} (j : Nat) (h : Dst opl j = some t) (hF : Fs[j]? = some F) (hb : (bits.getD i 0).testBit j = true) (k : Av E opl Fs bits i E') : Av E opl Fs bits i ((t, F) :: E') := .new h hF hb k
theorem mv {t : Tmp} (ho : o.op = .move (.tmp t)) (h : get E t = some F) : Ob P C B E o F := ob_move ho (.tmp h)
theorem oc {opl : List Oper} {Fs : List Fact} {bits : List Nat} {skip i : Nat} {r : List Oper} (v : Av E opl Fs bits i E') (hg : o.guard = none) (hF : Fs[i]? = some F) (ob : Ob P C B E' o F) (t : OpsOkS P C B E opl Fs bits skip (i + 1) r) : OpsOkS P C B E opl Fs bits skip i (o :: r) := opsS_cons (.plain _ v hg hF ob) t
theorem wn {K X : Act → World → Prop} (hK : ∀ a w, X a w → K a w) (h : X a w) : wpList P ops (Exit.then K Q) [] a w := wpList_nil (then_normal (hK a w h))
end
inductive SeqOk (P : Program) (C : Ctx) (B : List OF) (ops : Array Oper) : Env → List Oper → Env → List Oper → Prop
  | cz {E : Env} {l : List Oper} : SeqOk P C B ops E l E l
  | ce {E E' : Env} {l : List Oper} (h : Sub E' E) : SeqOk P C B ops E l E' l
  | c1 {E E' : Env} {o : Oper} {d : Tmp} {F : Fact} {r l : List Oper} (e : (o.guard, o.dst, decide (d < C.N)) = (none, some d, true)) (ob : Ob P C B E o F) (t : SeqOk P C B ops ((d, F) :: E) r E' l) : SeqOk P C B ops E (o :: r) E' l
  | c0 {E E' : Env} {o : Oper} {F : Fact} {r l : List Oper} (e : (o.guard, o.dst) = (none, none)) (ob : Ob P C B E o F) (t : SeqOk P C B ops E r E' l) : SeqOk P C B ops E (o :: r) E' l
  | cg {E E' : Env} {o : Oper} {d : Tmp} {F : Fact} {r l : List Oper} {j : Nat} {want b : Bool} {t : Tmp} (hg : o.guard = some (j, want)) (hj : (ops[j]?).bind (·.dst) = some t) (ht : get E t = some (kbool.V b)) (e : (o.dst, decide (d < C.N)) = (some d, true))
      (ob : (b == want) = true → Ob P C B E o F) (s : SeqOk P C B ops ((d, F.when (b == want)) :: E) r E' l) : SeqOk P C B ops E (o :: r) E' l
theorem qs {P : Program} {C : Ctx} {B : List OF} {ops : Array Oper} {E E' : Env} {l r : List Oper} {Q : Exit → Act → World → Prop} {a : Act} {w : World} (s : St C B E a w) (h : SeqOk P C B ops E l E' r) (K : ∀ a' w', St C B E' a' w' → wpList P ops Q r a' w') : wpList P ops Q l a w := by
  induction h generalizing a w with
  | cz => exact K _ _ s
  | ce h => exact K _ _ (s.sub h)
  | c1 e ob t ih => exact q1 s e ob fun a' w' s' => ih s' K
  | c0 e ob t ih => exact seq_op0 s (congrArg (·.1) e) (congrArg (·.2) e) ob fun a' w' s' => ih s' K
  | cg hg hj ht e ob t ih => exact qg s hg hj ht e ob fun a' w' s' => ih s' K
end Go.Proofs.Kit
end
section
namespace Go.Proofs.Kit
open Go Go.RowKit
set_option linter.unusedVariables false
theorem Zr.nilPtr : Zr (Kit.kis (.pointer none)) () [.pointer none] := fun _ _ => ⟨rfl, rfl, rfl⟩
def ptrO (c : Bool) (b : Nat) : Fact := is (.pointer (if c then some ⟨b, 0, none⟩ else none))
theorem bool_split {p : Prop} (c : Bool) (h1 : c = true → p) (h2 : c = false → p) : p := by
  cases c with
  | true => exact h1 rfl
  | false => exact h2 rfl
section
variable {C : Ctx} {B : List OF} {E : Env} {a : Act} {w : World} {q : OF} {c : Bool} {b t : Nat}
theorem St.addNo (h : St C B E a w) : St C (whenO false q :: B) E a w :=
  { size := h.size, dfr := h.dfr, nod := h.nod, fresh := h.fresh, ev := h.ev, env := h.env
    own := fun f hf => by
      rcases List.mem_cons.1 hf with e | e
      · subst e; intro hc; cases hc
      · exact h.own f e }
theorem St.addYes (h : St C (q :: B) E a w) : St C (whenO true q :: B) E a w :=
  { size := h.size, dfr := h.dfr, nod := h.nod, fresh := h.fresh, ev := h.ev, env := h.env
    own := fun f hf => by
      rcases List.mem_cons.1 hf with e | e
      · subst e; exact fun _ => h.own q (by simp)
      · exact h.own f (by simp [e]) }
theorem St.whenT (hc : c = true) (h : St C (whenO c q :: B) E a w) : St C (q :: B) E a w := by
  subst hc
  exact { size := h.size, dfr := h.dfr, nod := h.nod, fresh := h.fresh, ev := h.ev, env := h.env
          own := fun f hf => by
            rcases List.mem_cons.1 hf with e | e
            · subst e; exact h.own (whenO true f) (by simp) rfl
            · exact h.own f (by simp [e]) }
theorem St.whenF (hc : c = false) (h : St C (whenO c q :: B) E a w) : St C B E a w := by
  subst hc
  exact { size := h.size, dfr := h.dfr, nod := h.nod, fresh := h.fresh, ev := h.ev, env := h.env
          own := fun f hf => h.own f (by simp [hf]) }
theorem St.optT (hc : c = true) (hg : get E t = some (ptrO c b)) (h : St C B E a w) : St C B ((t, ptrB b 0) :: E) a w := by
  subst hc
  exact h.fact (h.env t _ hg)
theorem St.optF (hc : c = false) (hg : get E t = some (ptrO c b)) (h : St C B E a w) : St C B ((t, is (.pointer none)) :: E) a w := by
  subst hc
  exact h.fact (h.env t _ hg)
end
def ptrS (v : Value) (n : Nat) : Fact := ⟨fun ok w u => (0 < n → (ptrR v 0).holds ok w u) ∧ (n = 0 → ∃ p, u = .pointer p), fun h k => ⟨fun h0 => (ptrR v 0).mono (h.1 h0) k, h.2⟩⟩
section
variable {P : Program} {C : Ctx} {A B D : List OF} {E : Env} {o : Oper} {x y : Operand} {T T2 e e2 : TypeId} {v : Value} {β : Type} {k : Kd β}
theorem ob_sliceDataS {xs : List β} (ho : o.op = .call { callee := .builtin .unsafeSliceData, args := #[x], argTypes := #[T] }) (hty : P.underlying o.type = some (.pointer e2)) (hx : Opd E x (is v)) (hB : RowF v e k xs ∈ B) : Ob P C B E o (ptrS v xs.length) := fun a w h => by
  by_cases h0 : 0 < xs.length
  · exact (ob_sliceData ho hx hB h0 a w h).mono fun v' w' ⟨h1, h2⟩ => ⟨⟨fun _ => h1, fun hn => by omega⟩, h2⟩
  · have hx' : a.eval x = v := h.arg hx
    obtain ⟨rs, hr, hl, hv⟩ := h.own _ hB
    rcases hv with ⟨rfl, h1⟩ | ⟨g, cap, cur, rfl, _, hg, h1, _⟩
    · refine .value (w' := w) (v := .pointer none) ?_ ⟨⟨fun hn => absurd hn h0, fun _ => ⟨_, rfl⟩⟩, .refl _ _⟩
      simp only [execOp, ho, resolve, invoke, builtin, Sem.run_bind, Sem.run_pure, Result.andThen_ok, List.map_toArray, List.map_cons, List.map_nil, hx']
      rfl
    · by_cases hc : cap = 0
      · subst hc
        refine .value (w' := w.alloc (.view ⟨g, 0, none⟩ e2)) (v := .pointer (some ⟨w.heap.size, 0, none⟩)) ?_ ⟨⟨fun hn => absurd hn h0, fun _ => ⟨_, rfl⟩⟩, .alloc w _⟩
        have := Lib.run_unsafeSliceData_zero (P := P) (w := w) #[T] o.type e2 hty ⟨g, 0, none⟩ xs.length (e, cur.size) (by simp [World.shape?, hg])
        simp only [execOp, ho, resolve, invoke, builtin, Sem.run_bind, Sem.run_pure, Result.andThen_ok, List.map_toArray, List.map_cons, List.map_nil, hx']
        rw [this]; rfl
      · refine .value (w' := w) (v := .pointer (some ⟨g, 0, none⟩)) ?_ ⟨⟨fun hn => absurd hn h0, fun _ => ⟨_, rfl⟩⟩, .refl _ _⟩
        have := Lib.run_unsafeSliceData_row (P := P) (w := w) #[T] o.type ⟨g, 0, none⟩ xs.length cap hc
        simp only [execOp, ho, resolve, invoke, builtin, Sem.run_bind, Sem.run_pure, Result.andThen_ok, List.map_toArray, List.map_cons, List.map_nil, hx']
        rw [this]; rfl
theorem ob_unsafeStringS {xs : List Int} (ho : o.op = .call { callee := .builtin .unsafeString, args := #[x, y], argTypes := #[T, T2] }) (hT : P.underlying T = some (.pointer e)) (hc : P.cellsOf e = 1) (hx : Opd E x (ptrS v xs.length)) (hy : Opd E y ((kint .i64).V (xs.length : Int)))
    (hB : B = A ++ RowF v e (kint .u8) xs :: D) : ObX P C B E o (fun _ : Unit => A ++ D) (fun _ => kstr.V xs) := by
  by_cases h0 : 0 < xs.length
  · exact ob_unsafeString ho hT hc (.conv hx fun ok w u h => h.1 h0) hy hB h0
  · intro a w h
    subst hB
    have hn : xs = [] := List.eq_nil_of_length_eq_zero (by omega)
    subst hn
    obtain ⟨p, hx'⟩ := (h.arg hx).2 rfl
    have hy' : a.eval y = .int .i64 0 := (V_int.1 (h.arg hy)).1
    refine .value (w' := w) (v := .string .empty) ?_ ⟨(), V_str.2 ⟨.empty, rfl, rfl, by decide⟩, h.drop⟩
    simp only [execOp, ho, resolve, invoke, builtin, Sem.run_bind, Sem.run_pure, Result.andThen_ok, List.map_toArray, List.map_cons, List.map_nil, hx', hy']
    rw [Lib.run_unsafeString_none]; rfl
end
section
variable {P : Program} {C : Ctx} {B D L : List OF} {E : Env} {o : Oper} {f : FuncId} {x : Operand}
theorem ob_callD0 {F : Fact} {argTypes : Array TypeId} {args : List Operand} (ho : o.op = .call { callee := .value x, args := args.toArray, argTypes := argTypes }) (hc : Callee E f x [] []) (hb : hasBody P f)
    (hg : ∀ a w, St C B E a w → Gives P f (args.map a.eval) (okB C (idsOf B)) w F) : Ob P C B E o F :=
  ob_callD ho hc hb fun a w s fs gs hf hg' => by obtain rfl := hf.unnil; obtain rfl := hg'.unnil; simpa using hg a w s
theorem ob_callL0 {γ : Type} {F : γ → Fact} {L' B' : γ → List OF} {argTypes : Array TypeId} {args : List Operand} (ho : o.op = .call { callee := .value x, args := args.toArray, argTypes := argTypes }) (hc : Callee E f x [] []) (hb : hasBody P f)
    (p : B.Perm (L ++ D)) (hg : ∀ a w, St C (L ++ D) E a w → GivesX P f (args.map a.eval) (okB C (idsOf (L ++ D))) w L F L') (hB' : ∀ g, B' g = L' g ++ D) : ObX P C B E o B' F :=
  ob_callL ho hc hb p (fun a w s fs gs hf hg' => by obtain rfl := hf.unnil; obtain rfl := hg'.unnil; simpa using hg a w s) hB'
end
end Go.Proofs.Kit
end
