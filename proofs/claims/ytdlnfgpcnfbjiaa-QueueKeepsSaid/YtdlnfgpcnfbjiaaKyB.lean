/- Several parts of this proof in one file. No condition. -/
import Derived.Test.YtdlnfgpcnfbjiaaKyA
import Derived.Scope
import Derived.Laws.CopyRow
import Derived.MapKept
import Derived.Carry
import Derived.Lib.BytesEntry
import Derived.Laws.Externs
import Derived.Laws.Cover3
import Derived.Lib.Builder
import Derived.Lib.UnsafeStr
import Derived.Deep.AppendSrc
import Derived.Deep.Upon
section
namespace Go.Proofs.Kit
open Go Go.RowKit
set_option linter.unusedSimpArgs false
set_option linter.unusedVariables false
def ptrR (v : Value) (off : Nat) : Fact := ⟨fun _ _ u => ∃ g n c, v = .slice (some ⟨g, 0, none⟩) n c ∧ u = .pointer (some ⟨g, off, none⟩), fun h _ => h⟩
section
variable {P : Program} {C : Ctx} {B B' A D : List OF} {E : Env} {o : Oper} {α β : Type} {k : Kd α} {l : Kd β} {T T' U e : TypeId} {x y i : Operand} {v : Value} {xs xs' : List α} {off off' : Nat} {Y : β} {ik : IntKind} {n : Int}
theorem row_block {ok : Ok} {w : World} {g n' c' : Nat} (h : (RowF v e k xs).holds ok w) (hv : v = .slice (some ⟨g, 0, none⟩) n' c') : ∃ (cur : Array Value) (rs : List Value), n' = xs.length ∧ w.heap[g]? = some (.cells cur e (0, 0)) ∧ xs.length ≤ c' ∧ c' ≤ maxLen ∧ cur.size = c' * k.sz ∧ cur.toList.take (xs.length * k.sz) = rs ∧ relL k ok w xs rs := by
  obtain ⟨rs, hr, hl, h2⟩ := h
  rcases h2 with ⟨rfl, _⟩ | ⟨g', cap, cur, e1, _, hg, h3, h4, h5, h6⟩
  · cases hv
  · rw [hv] at e1
    injection e1 with e2 e3 e4
    cases e2; subst e3 e4
    exact ⟨cur, rs, rfl, hg, h3, h4, h5, h6, hr⟩
theorem ob_rowAt (ho : o.op = .indexAddr T x i) (hT : P.underlying T = some (.slice e)) (hs : (P.info? e).map (·.size) = some k.sz) (hx : Opd E x (is v)) (hB : RowF v T' k xs ∈ B)
    (hi : Opd E i ((kint ik).V n)) (hb : 0 ≤ n ∧ n < xs.length) : Ob P C B E o (ptrR v (n.toNat * k.sz)) := fun a w h => by
  have hx' : a.eval x = v := h.arg hx
  obtain ⟨rs, hr, hl, hv⟩ := h.own _ hB
  rcases hv with ⟨rfl, h0⟩ | ⟨g, cap, cur, rfl, _, hg, _⟩
  · omega
  · exact .value (w' := w) (v := .pointer (some ⟨g, n.toNat * k.sz, none⟩)) (by
      simp [execOp, ho, hx', (V_int.1 (h.arg hi)).1, Instr.indexAt, asIntOf, run_underlying hT, Instr.sureAddr, run_sizeOf' hs, hb.1, hb.2, add_lit]) ⟨⟨_, _, _, rfl, rfl⟩, .refl _ _⟩
theorem ob_rowLoad (ho : o.op = .load T x) (tk : TK P T l) (hx : Opd E x (ptrR v off)) (hB : RowF v e k xs ∈ B) (lg : LG (karr xs.length k) l off xs Y) : Ob P C B E o (l.V Y) := fun a w h => by
  obtain ⟨g, n', c, hv, hx'⟩ := h.arg hx
  obtain ⟨cur, rs, _, hg, hc1, hc2, hc3, hc4, hr⟩ := row_block (h.own _ hB) hv
  have hY := lg _ _ _ ⟨rfl, hr⟩
  have hload := run_loadVar' (w := w) tk hY (a := ⟨g, off, none⟩) (fun j u hj => by
    refine BF_cell (k := l) (U := e) (cs := cur.toList) (by simpa using hg) ?_
    rw [← hc4] at hj
    have hlen := l.len hY
    rw [List.getElem?_take] at hj
    split at hj
    · rename_i hj2
      rw [List.drop_take, List.getElem?_take] at hj
      split at hj
      · rw [List.getElem?_take_of_lt hj2]; exact hj
      · cases hj
    · cases hj)
  exact .value (w' := w) (v := mkv l.agg ((rs.drop off).take l.sz)) (by simp [execOp, ho, hx', Instr.loadAt, Instr.sureAddr, hload]) ⟨⟨_, hY, rfl⟩, .refl _ _⟩
theorem row_stored {ok : Ok} {w : World} {g c' : Nat} {cur : Array Value} {ds : List Value} (h5 : cur.size = c' * k.sz) (h1 : xs.length ≤ c') (h2 : c' ≤ maxLen) (hg : w.heap[g]? = some (.cells cur e (0, 0))) (hd : off + ds.length ≤ xs.length * k.sz)
    (hr : (karr xs.length k).rel ok (w.setRow g (cur.toList.take off ++ ds ++ cur.toList.drop (off + ds.length)).toArray) xs' ((cur.toList.take (xs.length * k.sz)).take off ++ ds ++ (cur.toList.take (xs.length * k.sz)).drop (off + ds.length))) :
    (RowF (.slice (some ⟨g, 0, none⟩) xs.length c') e k xs').holds ok (w.setRow g (cur.toList.take off ++ ds ++ cur.toList.drop (off + ds.length)).toArray) := by
  obtain ⟨hl', hr'⟩ := hr
  have hle : xs.length * k.sz ≤ c' * k.sz := Nat.mul_le_mul_right _ h1
  have hrl := relL_len hr'
  refine ⟨_, hr', by rw [hrl], .inr ⟨g, c', _, by rw [hl'], Nat.zero_le _, setRow_heap _ _ _ _ _ _ hg, by rw [hl']; exact h1, h2, ?_, ?_⟩⟩
  · simp only [List.size_toArray, List.length_append, List.length_take, List.length_drop, Array.length_toList, h5]; omega
  · rw [hl']
    show List.take _ (cur.toList.take off ++ ds ++ cur.toList.drop (off + ds.length)) = _
    rw [List.take_append, List.take_append, List.take_take, List.take_take, List.drop_take]
    simp only [List.length_take, Array.length_toList, h5, List.length_append]
    rw [Nat.min_eq_right (show off ≤ xs.length * k.sz by omega), Nat.min_eq_left (show off ≤ xs.length * k.sz by omega), Nat.min_eq_left (show off ≤ c' * k.sz by omega)]
    rw [List.take_of_length_le (l := ds) (by omega)]
theorem ob_rowStore (ho : o.op = .store T x y) (tk : TK P T l) (hx : Opd E x (ptrR v off)) (hy : Opd E y (l.V Y)) (hB : B = A ++ RowF v e k xs :: D) (ls : LS (karr xs.length k) l off xs Y xs') (hB' : B' = A ++ RowF v e k xs' :: D) :
    ObX P C B E o (fun _ : Unit => B') (fun _ => nofact) := fun a w h => by
  subst hB hB'
  obtain ⟨g, n', c, rfl, hx'⟩ := h.arg hx
  obtain ⟨cur, rs, hn', hg, hc1, hc2, hc3, hc4, hr⟩ := row_block (h.own (RowF (.slice (some ⟨g, 0, none⟩) n' c) e k xs) (by simp)) rfl
  subst hn'
  obtain ⟨ds, hd, hvv⟩ := h.arg hy
  have hr0 : (karr xs.length k).rel (okB C (idsOf (A ++ RowF (.slice (some ⟨g, 0, none⟩) xs.length c) e k xs :: D))) w xs rs := ⟨rfl, hr⟩
  obtain ⟨hb, hr'⟩ := ls _ _ _ _ hr0 hd
  have hdl := l.len hd
  have hcells : (mkv l.agg ds).cells = ds.toArray := by have := Kd.cells hd; rw [← Array.toList_inj, this]
  have hb' : off + ds.length ≤ xs.length * k.sz := by rw [hdl]; exact hb
  have hle2 : xs.length * k.sz ≤ c * k.sz := Nat.mul_le_mul_right _ hc1
  have hst := run_storeCells_at P g off e ds 0 cur w hg (by simp [hdl, hc3]; omega) (l.cell1 hd)
  simp only [Nat.add_zero] at hst
  refine .skip (w' := w.setRow g (cur.toList.take off ++ ds ++ cur.toList.drop (off + ds.length)).toArray) ?_ ⟨(), trivial, ?_⟩
  · simp [execOp, ho, hx', hvv, Instr.storeAt, Instr.sureAddr, storeVar, hcells, run_sizeOf' tk.size, hdl, hst]
  · refine h.turn (g := RowF (.slice (some ⟨g, 0, none⟩) xs.length c) e k xs') rfl ⟨rfl, rfl, rfl, by simp, fun q _ hq => setRow_other _ _ _ _ (by simpa [RowF, ownIds] using hq)⟩ (fun kp => ?_)
    refine row_stored hc3 hc1 hc2 hg hb' ?_
    rw [hc4, hdl]
    exact (karr xs.length k).mono hr' (by rw [hdl] at kp; exact kp)
theorem lendRow {L : List OF} (hL : RowF v e k xs ∈ L) : ∀ ok w u, (is v).holds ok w u → (∀ q, q ∈ L → q.holds ok w) → (∀ c, c ∈ idsOf L → ok c) → ((ksl k).V xs).holds ok w u := by
  rintro ok w u rfl h1 h2
  exact ⟨[u], rowRd (h1 _ hL) (fun c hc => h2 c (mem_idsOf hL hc)), by
    have h := h1 _ hL
    obtain ⟨rs, _, _, h3⟩ := h
    rcases h3 with ⟨rfl, _⟩ | ⟨g, cap, cur, rfl, _⟩ <;> rfl⟩
theorem lendPtrB {L : List OF} {b : Nat} {K : Kd α} {X : α} (hL : BF b U K X ∈ L) (lg : LG K l off X Y) : ∀ ok w u, (ptrB b off).holds ok w u → (∀ q, q ∈ L → q.holds ok w) → (∀ c, c ∈ idsOf L → ok c) → (ptrTo l Y).holds ok w u := by
  rintro ok w u rfl h1 h2
  exact lendPtr lg ok w (h1 _ hL) (h2 b (mem_idsOf hL (by simp [BF])))
def Up {γ δ : Type} (H : Ok → World → Prop) (K : Kd γ) (K' : Kd δ) (x : γ) (x' : δ) : Prop := ∀ ok w cs, H ok w → K.rel ok w x cs → K'.rel ok w x' cs
theorem Up.refl {γ : Type} {H : Ok → World → Prop} (K : Kd γ) (x : γ) : Up H K K x x := fun _ _ _ _ h => h
theorem Up.pair {γ δ γ' δ' : Type} {H : Ok → World → Prop} {K : Kd γ} {L : Kd δ} {K' : Kd γ'} {L' : Kd δ'} {x : γ × δ} {x' : γ' × δ'} (h : Up H K K' x.1 x'.1) (g : Up H L L' x.2 x'.2) : Up H (kpair K L) (kpair K' L') x x' :=
  fun ok w cs hH ⟨c, d, e, h1, h2⟩ => ⟨c, d, e, h ok w c hH h1, g ok w d hH h2⟩
theorem Up.iso {γ δ γ' δ' : Type} {H : Ok → World → Prop} {K : Kd γ} {K' : Kd δ} {f : γ' → γ} {f' : δ' → δ} {x : γ'} {x' : δ'} (h : Up H K K' (f x) (f' x')) : Up H (kiso K f) (kiso K' f') x x' := h
theorem Up.row {H : Ok → World → Prop} (h : ∀ ok w, H ok w → (RowF v e k xs).holds ok w ∧ ∀ c, c ∈ ownIds v → ok c) : Up H (kis v) (ksl k) () xs := fun ok w cs hH ⟨e, _⟩ => by
  subst e; exact rowRd (h ok w hH).1 (h ok w hH).2
def LetAll (L : List OF) : Ok → World → Prop := fun ok w => (∀ q, q ∈ L → q.holds ok w) ∧ ∀ c, c ∈ idsOf L → ok c
theorem LetAll.row {L : List OF} (hL : RowF v e k xs ∈ L) : ∀ ok w, LetAll L ok w → (RowF v e k xs).holds ok w ∧ ∀ c, c ∈ ownIds v → ok c := fun ok w h => ⟨h.1 _ hL, fun c hc => h.2 c (mem_idsOf hL hc)⟩
theorem ob_loadRowV {b : Nat} {γ : Type} {K : Kd γ} {X : γ} (ho : o.op = .load T x) (tk : TK P T (kis v)) (hx : Opd E x (ptrB b off)) (hB : BF b U K X ∈ B) (lg : LG K (kis v) off X ()) : Ob P C B E o (is v) :=
  (ob_load ho tk hx hB lg).as (fun ok w u h => V_kis h)
theorem ob_storeRowV {b : Nat} {γ δ : Type} {K : Kd γ} {K' : Kd δ} {X : γ} {X' : δ} (ho : o.op = .store T x y) (tk : TK P T (kis v)) (hx : Opd E x (ptrB b off)) (hy : Opd E y (is v)) (hR : RowF v e k xs ∈ B)
    (hB : B = A ++ BF b U K X :: D) (ls : LSK K (kis v) K' off X () X') (hB' : B' = A ++ BF b U K' X' :: D) : ObX P C B E o (fun _ : Unit => B') (fun _ => nofact) := fun a w h => by
  subst hB hB'
  have hk : ((kis v).V ()).holds (okB C (idsOf (A ++ BF b U K X :: D))) w v := row_kis (h.own _ hR)
  obtain ⟨t, ht⟩ := get_fresh E
  obtain ⟨cs, hg, hr⟩ := h.own (BF b U K X) (by simp)
  obtain ⟨ds, hd, hvv⟩ := hk
  obtain ⟨hsz, hb, hr'⟩ := ls _ _ _ _ hr hd
  have hx' : a.eval x = .pointer (some ⟨b, off, none⟩) := h.arg hx
  have hy' : a.eval y = v := h.arg hy
  have hdl := (kis v).len hd
  have hcl := K.len hr
  have hcells : (mkv (kis v).agg ds).cells = ds.toArray := by have := Kd.cells hd; rw [← Array.toList_inj, this]
  have hst := run_storeCells_at P b off U ds 0 cs.toArray w hg (by simp [hdl, hcl]; omega) ((kis v).cell1 hd)
  simp only [Nat.add_zero, hdl] at hst
  refine .skip (w' := w.setRow b (cs.take off ++ ds ++ cs.drop (off + (kis v).sz)).toArray) ?_ ⟨(), trivial, ?_⟩
  · have hvv' : a.eval y = mkv (kis v).agg ds := hy'.trans hvv
    simp [execOp, ho, hx', hvv', Instr.storeAt, Instr.sureAddr, storeVar, hcells, run_sizeOf' tk.size, hdl, hst]
  · refine h.turn (g := BF b U K' X') rfl ⟨rfl, rfl, rfl, by simp, fun q _ hq => setRow_other _ _ _ _ (by simpa [BF] using hq)⟩ (fun kp => ?_)
    exact ⟨_, setRow_heap _ _ _ _ _ _ hg, K'.mono hr' kp⟩
end
inductive BuildOkK (E : Env) (place : Nat → Option (Nat × Nat)) : {α : Type} → Kd α → α → List (Nat × Operand) → {β : Type} → Kd β → β → Prop
  | nil {α : Type} (K : Kd α) (x : α) : BuildOkK E place K x [] K x
  | cons {α β γ δ : Type} {K : Kd α} {k : Kd β} {K1 : Kd γ} {K2 : Kd δ} {x : α} {x1 : γ} {x2 : δ} {y : β} {i off : Nat} {o : Operand} {l : List (Nat × Operand)} (hx : Opd E o (k.V y)) (hp : place i = some (off, k.sz)) (ls : LSK K k K1 off x y x1) (t : BuildOkK E place K1 x1 l K2 x2) : BuildOkK E place K x ((i, o) :: l) K2 x2
theorem BuildOkK.fill {E : Env} {place : Nat → Option (Nat × Nat)} {C : Ctx} {B : List OF} {a : Act} {w : World} (h : St C B E a w) {α β : Type} {K : Kd α} {K' : Kd β} {x : α} {x' : β} {l : List (Nat × Operand)} (hb : BuildOkK E place K x l K' x') :
    ∀ cs, K.rel (okB C (idsOf B)) w x cs → ∃ cs', Instr.fill place cs.toArray (l.map fun p => (p.1, a.eval p.2)) = some cs'.toArray ∧ K'.rel (okB C (idsOf B)) w x' cs' := by
  induction hb with
  | nil K x => exact fun cs hr => ⟨cs, rfl, hr⟩
  | @cons α β γ δ K k K1 K2 x x1 x2 y i off o l hx hp ls t ih =>
    intro cs hr
    obtain ⟨ds, hd, hv⟩ := h.arg hx
    obtain ⟨hsz, hb, hr'⟩ := ls _ _ _ _ hr hd
    have hdl := k.len hd
    have hcl := K.len hr
    have hcells : (mkv k.agg ds).cells = ds.toArray := by have := Kd.cells hd; rw [← Array.toList_inj, this]
    obtain ⟨cs', h1, h2⟩ := ih _ hr'
    refine ⟨cs', ?_, h2⟩
    rw [← h1]
    simp only [List.map_cons, Instr.fill, hp, hv, hcells]
    rw [if_neg (by simp [hdl, hcl]; omega)]
    congr 1
    rw [put_cells cs ds off (by rw [hdl, hcl]; exact hb), hdl]
section
variable {P : Program} {C : Ctx} {B : List OF} {E : Env} {o : Oper} {α β γ : Type} {T : TypeId} {x : Operand}
theorem ob_mkObj {K0 : Kd α} {K : Kd β} {X0 : α} {X : β} {fs : Array Field} {zs : List Value} {places : List (Nat × Nat)} {parts : List (Nat × Operand)} (ho : o.op = .build T parts.toArray) (hT : P.underlying T = some (.struct fs)) (hz : ((P.info? T).bind (·.zero)) = some (mkv true zs)) (hK : K.agg = true) (hK0 : K0.agg = true)
    (hp : fs.toList.mapM (fun f => (P.info? f.type).map fun i => (f.offset, i.size)) = some places) (h0 : Zr K0 X0 zs) (hb : BuildOkK E (fun x : Nat => places[x]?) K0 X0 parts K X) : Ob P C B E o (K.V X) := fun a w h => by
  obtain ⟨cs', h1, h2⟩ := hb.fill h zs (h0 _ _)
  obtain ⟨i, hi⟩ : ∃ i, P.info? T = some i := by
    cases hq : P.info? T with
    | none => rw [hq] at hz; cases hz
    | some i => exact ⟨i, rfl⟩
  have hz' : i.zero = some (mkv true zs) := by simpa [hi] using hz
  have hbt : P.built T (parts.map fun p => (p.1, a.eval p.2)) = some cs'.toArray := by
    unfold Program.built
    rw [hi, hT]
    simp only [hz', hp]
    have hf : (fun x : Nat => places.toArray[x]?) = fun x : Nat => places[x]? := by funext x; simp
    rw [hf, ← h1]; rfl
  refine .value (w' := w) (v := .agg cs'.toArray) ?_ ⟨⟨cs', h2, by simp [mkv, hK]⟩, .refl _ _⟩
  simp only [execOp, ho, Sem.run_bind, List.map_toArray]
  rw [run_build w T _ cs'.toArray (by simpa using hbt)]
  rfl
theorem Opd.kis {v : Value} (h : ∃ t, x = .tmp t ∧ get E t = some ((kis v).V ())) : Opd E x ((kis v).V ()) := by
  obtain ⟨t, rfl, h⟩ := h; exact .tmp h
end
end Go.Proofs.Kit
end
section
namespace Go.Proofs.Kit
open Go Go.RowKit
set_option linter.unusedSimpArgs false
set_option linter.unusedVariables false
def OpsOkS (P : Program) (C : Ctx) (B : List OF) (E : Env) (ops : List Oper) (Fs : List Fact) (bits : List Nat) (skip : Nat) : Nat → List Oper → Prop
  | _, [] => True
  | i, o :: r => (skip.testBit i = true ∨ OpOk P C B E ops Fs bits i o) ∧ OpsOkS P C B E ops Fs bits skip (i + 1) r
section
variable {P : Program} {C : Ctx} {B : List OF} {E : Env} {ops : List Oper} {Fs : List Fact} {bits : List Nat} {m skip todo : Nat} {Q : Exit → Act → World → Prop} {a : Act} {w : World} {D : Array Bool}
theorem opsS_nil {i : Nat} : OpsOkS P C B E ops Fs bits skip i [] := trivial
theorem opsS_skip {i : Nat} {o : Oper} {r : List Oper} (h : skip.testBit i = true) (t : OpsOkS P C B E ops Fs bits skip (i + 1) r) : OpsOkS P C B E ops Fs bits skip i (o :: r) := ⟨.inl h, t⟩
theorem opsS_cons {i : Nat} {o : Oper} {r : List Oper} (h : OpOk P C B E ops Fs bits i o) (t : OpsOkS P C B E ops Fs bits skip (i + 1) r) : OpsOkS P C B E ops Fs bits skip i (o :: r) := ⟨.inr h, t⟩
theorem OpsOkS.get : ∀ (l : List Oper) (k : Nat), OpsOkS P C B E ops Fs bits skip k l → ∀ i o, l[i]? = some o → skip.testBit (k + i) = true ∨ OpOk P C B E ops Fs bits (k + i) o
  | [], _, _, i, o, ho => by simp at ho
  | x :: l, k, ⟨h1, h2⟩, i, o, ho => by
    cases i with
    | zero => simp at ho; subst ho; exact h1
    | succ i => have := OpsOkS.get l (k + 1) h2 i o (by simpa using ho); rwa [show k + 1 + i = k + (i + 1) by omega] at this
def Goes (P : Program) (C : Ctx) (B : List OF) (E : Env) (ops : List Oper) (Fs : List Fact) (bits : List Nat) (m skip todo : Nat) (Q : Exit → Act → World → Prop) : Prop :=
  ∀ (k : Nat) (D : Array Bool) (a : Act) (w : World), D.toList.count false = k → D.size = ops.length → Closed ops D → Mid C B E ops Fs D a w → (∀ i, m ≤ i → D.getD i false = false) →
    (∀ i, i < m → skip.testBit i = true → D.getD i false = true) → (∀ i, todo.testBit i = true → D.getD i false = false) → wpAny P .any ops.toArray Q k D a w
theorem ready_first (c : Chk ops bits m) (hD : D.size = ops.length) {i₀ : Nat} (hi₀ : i₀ < m) (hni₀ : D.getD i₀ false = false) : Region.ready .any ops.toArray D ≠ [] := fun hn => by
  have key : ∀ i, i < m → D.getD i false = true := by
    intro i
    induction i using Nat.strongRecOn with
    | _ i ihi =>
      intro him
      cases hx : D.getD i false with
      | true => rfl
      | false =>
        have hil : i < ops.length := Nat.lt_of_lt_of_le him c.le
        have h5 : i < D.size := by omega
        have : i ∈ Region.ready .any ops.toArray D := by
          refine ready_mem.2 ⟨by simpa using hil, by simp [h5] at hx ⊢; exact hx, fun o ho e he hb => ?_⟩
          have h8 := c.back i o (by simpa using ho) e he hb
          exact ihi e.on h8 (by omega)
        rw [hn] at this; cases this
  rw [key i₀ hi₀] at hni₀; cases hni₀
theorem ready_in (c : Chk ops bits m) (hc : Closed ops D) {i i₀ : Nat} (hi : i ∈ Region.ready .any ops.toArray D) (hi₀ : i₀ < m) (hni₀ : D.getD i₀ false = false) : i < m := by
  obtain ⟨h1, h2, h3⟩ := ready_mem.1 hi
  have hil : i < ops.length := by simpa using h1
  obtain ⟨o, ho⟩ : ∃ o, ops[i]? = some o := ⟨_, List.getElem?_eq_getElem hil⟩
  rcases Nat.lt_or_ge i m with h6 | h6
  · exact h6
  · exfalso
    have := done_of_anc c hc i o i₀ ho (h3 o (by simpa using ho)) (by have := c.le; omega) (c.tail i hil h6 i₀ (by omega))
    rw [this] at hni₀; cases hni₀
theorem closed_set {i : Nat} {o : Oper} (hc : Closed ops D) (hD : D.size = ops.length) (ho : ops[i]? = some o) (hr : ∀ e, e ∈ o.after → Region.binds .any e = true → D.getD e.on false = true) : Closed ops (D.setIfInBounds i true) := by
  have h5 : i < D.size := by rw [hD]; exact (List.getElem?_eq_some_iff.1 ho).1
  intro j oj hoj hj e he hb
  by_cases e2 : i = j
  · subst e2
    rw [ho] at hoj; cases hoj
    rw [getD_set_true D i _ false h5]
    split
    · rfl
    · exact hr e he hb
  · rw [getD_set_true D i _ false h5, if_neg e2] at hj
    rw [getD_set_true D i _ false h5]
    split
    · rfl
    · exact hc j oj hoj hj e he hb
theorem one_step (c : Chk ops bits m) (hN : ∀ i d, Dst ops i = some d → d < C.N) {i : Nat} {o : Oper} (ho : ops[i]? = some o) (him : i < m) (hok : OpOk P C B E ops Fs bits i o) {k : Nat} (hk : D.toList.count false = k + 1) (hD : D.size = ops.length) (hc : Closed ops D) (h : Mid C B E ops Fs D a w)
    (hi : i ∈ Region.ready .any ops.toArray D)
    (ih : ∀ a' w', (D.setIfInBounds i true).toList.count false = k → Closed ops (D.setIfInBounds i true) → Mid C B E ops Fs (D.setIfInBounds i true) a' w' → wpAny P .any ops.toArray Q k (D.setIfInBounds i true) a' w') :
    wpOp P ops.toArray Q i (fun a' w' => wpAny P .any ops.toArray Q k (D.setIfInBounds i true) a' w') a w := by
  obtain ⟨h1, h2, h3⟩ := ready_mem.1 hi
  have hil : i < ops.length := by simpa using h1
  have h5 : i < D.size := by omega
  have hNo : ∀ d, o.dst = some d → d < C.N := fun d hd => hN i d (by unfold Dst; rw [ho]; exact hd)
  have next : ∀ {F : Fact} {v : Value} {w' : World}, Fs[i]? = some F → F.holds (okB C (idsOf B)) w' v → Ev [] w w' → wpAny P .any ops.toArray Q k (D.setIfInBounds i true) (a.put o.dst v) w' := fun {F v w'} hF hv e => by
    refine ih _ _ ?_ (closed_set hc hD ho (h3 o (by simpa using ho))) (h.step c hD ho hNo h2 hF hv e)
    have := count_set h5 h2; omega
  unfold wpOp
  rw [show ops.toArray[i]? = some o by simpa using ho]
  simp only []
  cases hok with
  | plain E' av hg hF ob =>
    have hst := h.at c hc hD hi ho av
    rw [if_pos (by simp [Region.wanted, hg])]
    exact .inl ((ob a w hst).wp fun v w' ⟨hv, e⟩ => next hF hv e)
  | guarded E' av hg hj htE hF ob =>
    have hst := h.at c hc hD hi ho av
    rw [wanted_guard hst hg (by simpa [Dst] using hj) htE]
    split
    · rename_i hb
      exact .inl ((ob hb a w hst).wp fun v w' ⟨hv, e⟩ => next hF ⟨fun _ => hv, fun hb' => by rw [hb] at hb'; cases hb'⟩ e)
    · rename_i hb
      exact next hF ⟨fun hb' => absurd hb' hb, fun _ => rfl⟩ (.refl _ _)
  | guarded2 E' av hg hj htE hF ob =>
    have hst := h.at c hc hD hi ho av
    rw [wanted_guard2 hst hg (by simpa [Dst] using hj) htE]
    split
    · rename_i hb
      exact .inl ((ob hb a w hst).wp fun v w' ⟨hv, e⟩ => next hF ⟨fun _ => hv, fun hb' => by rw [hb] at hb'; cases hb'⟩ e)
    · rename_i hb
      exact next hF ⟨fun hb' => absurd hb' hb, fun _ => rfl⟩ (.refl _ _)
theorem goes_end (c : Chk ops bits m) (hN : ∀ i d, Dst ops i = some d → d < C.N) (ok : OpsOkS P C B E ops Fs bits skip 0 (ops.take m))
    (K : ∀ a' w', St C B [] a' w' → (∀ t F, get E t = some F → (∀ i, i < m → Dst ops i ≠ some t) → F.holds (okB C (idsOf B)) w' (sl a' t)) → (∀ i d F, i < m → Dst ops i = some d → Fs[i]? = some F → F.holds (okB C (idsOf B)) w' (sl a' d)) → wpList P ops.toArray Q (ops.drop m) a' w') :
    Goes P C B E ops Fs bits m skip 0 Q := by
  intro k
  induction k with
  | zero =>
    intro D a w hk hD hc h ht hs _
    have all : ∀ i, i < ops.length → D.getD i false = true := by
      intro i hi
      have hi' : i < D.toList.length := by simpa [hD] using hi
      have := List.count_eq_zero.1 hk
      cases hx : D.toList[i] with
      | false => exact absurd (hx ▸ List.getElem_mem hi') this
      | true => have h5 : i < D.size := by omega
                simpa [h5] using hx
    have hm : m = ops.length := by
      rcases Nat.lt_or_ge m ops.length with h1 | h1
      · have := ht m (Nat.le_refl _); rw [all m h1] at this; cases this
      · exact Nat.le_antisymm c.le h1
    refine seq_tail c 0 m D a w (by omega) (Nat.le_refl _) hD (fun i hi => ?_) (K a w h.st (fun t F ht hn => h.old t F ht (fun i hi => ?_)) (fun i d F hi => h.new i d F (all i (by omega))))
    · rw [all i hi]; simp; omega
    · refine hn i ?_
      rcases Nat.lt_or_ge i D.size with h4 | h4
      · omega
      · rw [Array.getD_eq_getD_getElem?, Array.getElem?_eq_none h4] at hi; cases hi
  | succ k ih =>
    intro D a w hk hD hc h ht hs h0
    by_cases hall : ∀ i, i < m → D.getD i false = true
    · have hcnt : k + 1 = ops.length - m := by
        have e : D.toList = List.replicate m true ++ List.replicate (ops.length - m) false := by
          refine List.ext_getElem (by simp [hD]; have := c.le; omega) (fun i h1 h2 => ?_)
          have h5 : i < D.size := by simpa using h1
          rcases Nat.lt_or_ge i m with h6 | h6
          · have := hall i h6
            rw [List.getElem_append_left (by simpa using h6)]
            simpa [h5] using this
          · have := ht i h6
            rw [List.getElem_append_right (by simpa using h6)]
            simpa [h5] using this
        rw [e, List.count_append] at hk
        simp [List.count_replicate] at hk
        omega
      refine seq_tail c (k + 1) m D a w (by have := c.le; omega) (Nat.le_refl _) hD (fun i hi => ?_) (K a w h.st (fun t F ht' hn => h.old t F ht' (fun i hi => ?_)) (fun i d F hi => h.new i d F (hall i hi)))
      · rcases Nat.lt_or_ge i m with h6 | h6
        · rw [hall i h6]; simp [h6]
        · rw [ht i h6]; simp; omega
      · refine hn i ?_
        rcases Nat.lt_or_ge i m with h6 | h6
        · exact h6
        · rw [ht i h6] at hi; cases hi
    · obtain ⟨i₀, hi₀, hni₀⟩ : ∃ i, i < m ∧ D.getD i false = false := by
        refine Classical.byContradiction fun hne => hall fun i hi => ?_
        cases hx : D.getD i false with
        | true => rfl
        | false => exact absurd ⟨i, hi, hx⟩ hne
      refine ⟨fun hn => absurd hn (ready_first c hD hi₀ hni₀), fun i hi => ?_⟩
      obtain ⟨h1, h2, h3⟩ := ready_mem.1 hi
      have hil : i < ops.length := by simpa using h1
      have h5 : i < D.size := by omega
      obtain ⟨o, ho⟩ : ∃ o, ops[i]? = some o := ⟨_, List.getElem?_eq_getElem hil⟩
      have him := ready_in c hc hi hi₀ hni₀
      have hok : OpOk P C B E ops Fs bits i o := by
        rcases OpsOkS.get _ _ ok i o (by rw [List.getElem?_take_of_lt him]; exact ho) with h7 | h7
        · rw [Nat.zero_add] at h7
          have := hs i him h7
          simp [h5] at this h2; rw [this] at h2; cases h2
        · rwa [Nat.zero_add] at h7
      refine one_step c hN ho him hok hk hD hc h hi fun a' w' hk' hc' h' => ih _ _ _ hk' (by simpa using hD) hc' h' (fun j hj => ?_) (fun j hj hsj => ?_) (fun j hj => by simp at hj)
      · rw [getD_set_true D i _ false h5, if_neg (by omega)]; exact ht j hj
      · rw [getD_set_true D i _ false h5]; split
        · rfl
        · exact hs j hj hsj
inductive OpOkX (P : Program) (C : Ctx) (B : List OF) (E : Env) (ops : List Oper) (Fs : List Fact) (bits : List Nat) (x : Nat) (o : Oper) {γ : Type} (B' : γ → List OF) (Fs' : γ → List Fact) : Prop
  | plain {F : γ → Fact} (E' : Env) (av : Av E ops Fs bits x E') (hg : o.guard = none) (hF : ∀ g, (Fs' g)[x]? = some (F g)) (ob : ∀ R, ObX P C B (E' ++ R) o B' F)
  | guarded {F : γ → Fact} {j : Nat} {want b : Bool} {t : Tmp} (E' : Env) (av : Av E ops Fs bits x E') (hg : o.guard = some (j, want)) (hj : Dst ops j = some t) (ht : get E' t = some (kbool.V b))
      (hF : ∀ g, (Fs' g)[x]? = some ((F g).when (b == want))) (ob : (b == want) = true → ∀ R, ObX P C B (E' ++ R) o B' F) (hn : (b == want) = false → ∃ g, B' g = B)
  | guarded2 {F : γ → Fact} {j : Nat} {want b c : Bool} {t : Tmp} (E' : Env) (av : Av E ops Fs bits x E') (hg : o.guard = some (j, want)) (hj : Dst ops j = some t) (ht : get E' t = some ((kbool.V b).when c))
      (hF : ∀ g, (Fs' g)[x]? = some ((F g).when (c && (b == want)))) (ob : (c && (b == want)) = true → ∀ R, ObX P C B (E' ++ R) o B' F) (hn : (c && (b == want)) = false → ∃ g, B' g = B)
theorem Mid.stepX {i : Nat} {o : Oper} {F : Fact} {w' : World} {v : Value} {B2 : List OF} {Fs2 : List Fact} (c : Chk ops bits m) (h : Mid C B E ops Fs D a w) (hD : D.size = ops.length) (ho : ops[i]? = some o) (hN : ∀ d, o.dst = some d → d < C.N) (hni : D.getD i true = false)
    (hF : Fs2[i]? = some F) (hsame : ∀ j, j ≠ i → D.getD j false = true → Fs2[j]? = Fs[j]?) (hv : F.holds (okB C (idsOf B2)) w' v) (hst : St C B2 [] a w') (kp : Keep (okB C (idsOf B)) (okB C (idsOf B2)) w w') :
    Mid C B2 E ops Fs2 (D.setIfInBounds i true) (a.put o.dst v) w' := by
  have hi : i < ops.length := (List.getElem?_eq_some_iff.1 ho).1
  have hdi : Dst ops i = o.dst := by unfold Dst; rw [ho]; rfl
  have hold := h.old
  have hD' : ∀ j, j ≠ i → (D.setIfInBounds i true).getD j false = D.getD j false := fun j hj => by rw [getD_set_true D i j false (by omega), if_neg (Ne.symm hj)]
  have hnot : ∀ j d, D.getD j false = true → Dst ops j = some d → o.dst ≠ some d := by
    intro j d hj hjd hod
    have hjl : j < ops.length := by
      unfold Dst at hjd
      rcases Nat.lt_or_ge j ops.length with h4 | h4
      · exact h4
      · rw [List.getElem?_eq_none h4] at hjd; cases hjd
    have := c.once i j d hi hjl (by rw [hdi]; exact hod) hjd
    subst this
    have h5 : i < D.size := by omega
    simp [h5] at hj hni
    rw [hj] at hni; cases hni
  refine { st := ?_, old := ?_, new := ?_ }
  · cases hd : o.dst with
    | none => exact hst
    | some d => exact (hst.put (hN d hd) (F := nofact) trivial).sub Sub.nil
  · intro t G ht hdone
    have h1 := hold t G ht (fun j hj hjd => hdone j (by
      by_cases e2 : j = i
      · subst e2; rw [getD_set_true D j j false (by omega), if_pos rfl]
      · rw [hD' j e2]; exact hj) hjd)
    have h2 := G.mono h1 kp
    cases hd : o.dst with
    | none => exact h2
    | some d =>
      have hne : d ≠ t := by
        intro e2; subst e2
        exact hdone i (by rw [getD_set_true D i i false (by omega), if_pos rfl]) (by rw [hdi]; exact hd)
      rw [sl_put_ne a v hne]; exact h2
  · intro j d G hj hjd hG
    by_cases e2 : j = i
    · subst e2
      rw [hF] at hG; cases hG
      have hd : o.dst = some d := by rw [← hdi]; exact hjd
      rw [hd, sl_put a d d v (by rw [hst.size]; exact hN d hd), if_pos rfl]; exact hv
    · rw [hD' j e2] at hj
      rw [hsame j e2 hj] at hG
      have h1 := G.mono (h.new j d G hj hjd hG) kp
      cases hd : o.dst with
      | none => exact h1
      | some d' =>
        have hne : d' ≠ d := fun e3 => hnot j d hj hjd (by rw [hd, e3])
        rw [sl_put_ne a v hne]; exact h1
def aheadOf (bits : List Nat) (m x skip skx todo skip2 todo2 : Nat) : Bool :=
  ((List.range m).all fun i => !(skx.testBit i) || skip.testBit i || i == x || (bits.getD i 0).testBit x) &&
  ((List.range m).all fun i => !(skip2.testBit i) || skip.testBit i || i == x || (bits.getD x 0).testBit i) &&
  ((List.range (m + m)).all fun i => !(todo.testBit i) || i == x || (bits.getD i 0).testBit x) &&
  decide (x < m) && todo.testBit x && decide (todo < 2 ^ m) && ((List.range (m + m)).all fun i => !(todo2.testBit i) || (todo.testBit i && !(i == x))) && decide (todo2 < 2 ^ m)
theorem goes_x {γ : Type} {B' : γ → List OF} {Fs' : γ → List Fact} {x skx skip2 todo2 : Nat} {ox : Oper} (c : Chk ops bits m) (hN : ∀ i d, Dst ops i = some d → d < C.N) (hox : ops[x]? = some ox) (hA : aheadOf bits m x skip skx todo skip2 todo2 = true)
    (ok : OpsOkS P C B E ops Fs bits skx 0 (ops.take m)) (okx : OpOkX P C B E ops Fs bits x ox B' Fs') (hsame : ∀ g j, j ≠ x → (bits.getD j 0).testBit x = false → (Fs' g)[j]? = Fs[j]?)
    (next : ∀ g, Goes P C (B' g) E ops (Fs' g) bits m skip2 todo2 Q) : Goes P C B E ops Fs bits m skip todo Q := by
  simp only [aheadOf, Bool.and_eq_true, decide_eq_true_eq] at hA
  obtain ⟨⟨⟨⟨⟨⟨⟨a1, a2⟩, a3⟩, hxm⟩, htx⟩, htb⟩, a4⟩, htb2⟩ := hA
  have bnd : ∀ {t i : Nat}, t < 2 ^ m → t.testBit i = true → i < m := fun {t i} h1 h2 => by
    rcases Nat.lt_or_ge i m with h3 | h3
    · exact h3
    · rw [Nat.testBit_lt_two_pow (Nat.lt_of_lt_of_le h1 (Nat.pow_le_pow_right (by decide) h3))] at h2; cases h2
  have s1 : ∀ i, i < m → skx.testBit i = true → skip.testBit i = true ∨ i = x ∨ (bits.getD i 0).testBit x = true := fun i hi h => by
    have := List.all_eq_true.1 a1 i (List.mem_range.2 hi)
    rw [h] at this
    simpa [or_assoc] using this
  have s2 : ∀ i, i < m → skip2.testBit i = true → skip.testBit i = true ∨ i = x ∨ (bits.getD x 0).testBit i = true := fun i hi h => by
    have := List.all_eq_true.1 a2 i (List.mem_range.2 hi)
    rw [h] at this
    simpa [or_assoc] using this
  have s3 : ∀ i, todo.testBit i = true → i = x ∨ (bits.getD i 0).testBit x = true := fun i h => by
    have := List.all_eq_true.1 a3 i (List.mem_range.2 (by have := bnd htb h; omega))
    rw [h] at this
    simpa using this
  have s4 : ∀ i, todo2.testBit i = true → todo.testBit i = true ∧ i ≠ x := fun i h => by
    have := List.all_eq_true.1 a4 i (List.mem_range.2 (by have := bnd htb2 h; omega))
    rw [h] at this
    simpa using this
  have hxl : x < ops.length := Nat.lt_of_lt_of_le hxm c.le
  intro k
  induction k with
  | zero =>
    intro D a w hk hD hc h ht hs htd
    exfalso
    have hx0 := htd x htx
    have hi' : x < D.toList.length := by simpa [hD] using hxl
    have := List.count_eq_zero.1 hk
    have h5 : x < D.size := by omega
    have : D.toList[x] = false := by simpa [h5] using hx0
    exact absurd (this ▸ List.getElem_mem hi') (List.count_eq_zero.1 hk)
  | succ k ih =>
    intro D a w hk hD hc h ht hs htd
    have hx0 := htd x htx
    have notbehind : ∀ j, D.getD j false = true → (bits.getD j 0).testBit x = false := fun j hj => by
      cases hq : (bits.getD j 0).testBit x with
      | false => rfl
      | true =>
        have hjl : j < ops.length := by
          rcases Nat.lt_or_ge j D.size with h4 | h4
          · omega
          · rw [Array.getD_eq_getD_getElem?, Array.getElem?_eq_none h4] at hj; cases hj
        obtain ⟨oj, hoj⟩ : ∃ oj, ops[j]? = some oj := ⟨_, List.getElem?_eq_getElem hjl⟩
        have := done_of_anc c hc j oj x hoj (hc j oj hoj hj) hxl hq
        rw [this] at hx0; cases hx0
    refine ⟨fun hn => absurd hn (ready_first c hD hxm hx0), fun i hi => ?_⟩
    obtain ⟨h1, h2, h3⟩ := ready_mem.1 hi
    have hil : i < ops.length := by simpa using h1
    have h5 : i < D.size := by omega
    obtain ⟨o, ho⟩ : ∃ o, ops[i]? = some o := ⟨_, List.getElem?_eq_getElem hil⟩
    have him := ready_in c hc hi hxm hx0
    have hnx : (bits.getD i 0).testBit x = false := by
      cases hq : (bits.getD i 0).testBit x with
      | false => rfl
      | true =>
        have := done_of_anc c hc i o x ho (h3 o (by simpa using ho)) hxl hq
        rw [this] at hx0; cases hx0
    by_cases e : i = x
    ·
      subst e
      rw [hox] at ho; cases ho
      have hNo : ∀ d, ox.dst = some d → d < C.N := fun d hd => hN i d (by unfold Dst; rw [hox]; exact hd)
      have go : ∀ {g : γ} {F : Fact} {v : Value} {w' : World}, (Fs' g)[i]? = some F → F.holds (okB C (idsOf (B' g))) w' v → St C (B' g) [] a w' → Keep (okB C (idsOf B)) (okB C (idsOf (B' g))) w w' → wpAny P .any ops.toArray Q k (D.setIfInBounds i true) (a.put ox.dst v) w' := fun {g F v w'} hF hv hst kp => by
        refine next g k _ _ _ ?_ (by simpa using hD) (closed_set hc hD hox (h3 ox (by simpa using hox))) (h.stepX c hD hox hNo h2 hF (fun j hj hdj => hsame g j hj (notbehind j hdj)) hv hst kp) (fun j hj => ?_) (fun j hj hsj => ?_) (fun j hj => ?_)
        · have := count_set h5 h2; omega
        · rw [getD_set_true D i _ false h5, if_neg (by omega)]; exact ht j hj
        · rw [getD_set_true D i _ false h5]
          split
          · rfl
          · rename_i hne
            rcases s2 j hj hsj with h6 | h6 | h6
            · exact hs j hj h6
            · exact absurd h6.symm hne
            · exact done_of_anc c hc i ox j hox (h3 ox (by simpa using hox)) (Nat.lt_of_lt_of_le hj c.le) h6
        · obtain ⟨h6, h7⟩ := s4 j hj
          rw [getD_set_true D i _ false h5, if_neg (Ne.symm h7)]; exact htd j h6
      unfold wpOp
      rw [show ops.toArray[i]? = some ox by simpa using hox]
      simp only []
      cases okx with
      | plain E' av hg hF ob =>
        have hst := h.at c hc hD hi hox av
        rw [if_pos (by simp [Region.wanted, hg])]
        exact .inl ((ObX.keeps ob a w hst).wp fun v w' ⟨g, hv, hst2, kp⟩ => go (hF g) hv (hst2.sub Sub.nil) kp)
      | guarded E' av hg hj htE hF ob hn =>
        have hst := h.at c hc hD hi hox av
        rw [wanted_guard hst hg (by simpa [Dst] using hj) htE]
        split
        · rename_i hb
          exact .inl ((ObX.keeps (ob hb) a w hst).wp fun v w' ⟨g, hv, hst2, kp⟩ => go (hF g) ⟨fun _ => hv, fun hb' => by rw [hb] at hb'; cases hb'⟩ (hst2.sub Sub.nil) kp)
        · rename_i hb
          obtain ⟨g, hg'⟩ := hn (by simpa using hb)
          exact go (hF g) ⟨fun hb' => absurd hb' hb, fun _ => rfl⟩ (by rw [hg']; exact h.st) (by rw [hg']; exact Keep.refl _ _)
      | guarded2 E' av hg hj htE hF ob hn =>
        have hst := h.at c hc hD hi hox av
        rw [wanted_guard2 hst hg (by simpa [Dst] using hj) htE]
        split
        · rename_i hb
          exact .inl ((ObX.keeps (ob hb) a w hst).wp fun v w' ⟨g, hv, hst2, kp⟩ => go (hF g) ⟨fun _ => hv, fun hb' => by rw [hb] at hb'; cases hb'⟩ (hst2.sub Sub.nil) kp)
        · rename_i hb
          obtain ⟨g, hg'⟩ := hn (by simpa using hb)
          exact go (hF g) ⟨fun hb' => absurd hb' hb, fun _ => rfl⟩ (by rw [hg']; exact h.st) (by rw [hg']; exact Keep.refl _ _)
    · have hok : OpOk P C B E ops Fs bits i o := by
        rcases OpsOkS.get _ _ ok i o (by rw [List.getElem?_take_of_lt him]; exact ho) with h7 | h7
        · rw [Nat.zero_add] at h7
          rcases s1 i him h7 with h8 | h8 | h8
          · have := hs i him h8
            simp [h5] at this h2; rw [this] at h2; cases h2
          · exact absurd h8 e
          · rw [h8] at hnx; cases hnx
        · rwa [Nat.zero_add] at h7
      refine one_step c hN ho him hok hk hD hc h hi fun a' w' hk' hc' h' => ih _ _ _ hk' (by simpa using hD) hc' h' (fun j hj => ?_) (fun j hj hsj => ?_) (fun j hj => ?_)
      · rw [getD_set_true D i _ false h5, if_neg (by omega)]; exact ht j hj
      · rw [getD_set_true D i _ false h5]; split
        · rfl
        · exact hs j hj hsj
      · have hne : i ≠ j := by
          rintro rfl
          rcases s3 i hj with h6 | h6
          · exact e h6
          · rw [h6] at hnx; cases hnx
        rw [getD_set_true D i _ false h5, if_neg hne]; exact htd j hj
def dstsOk (ops : List Oper) (N : Nat) : Bool := (List.range ops.length).all (fun i => ((Dst ops i).map fun d => decide (d < N)).getD true)
theorem dsts_of {N : Nat} (hN : dstsOk ops N = true) : ∀ i d, Dst ops i = some d → d < N := by
  intro i d hd
  have hi : i < ops.length := by
    unfold Dst at hd
    rcases Nat.lt_or_ge i ops.length with h4 | h4
    · exact h4
    · rw [List.getElem?_eq_none h4] at hd; cases hd
  have := List.all_eq_true.1 hN i (List.mem_range.2 hi)
  simpa [hd] using this
theorem wp_goes {id : Nat} (hm : P.follows .mixedOrders = true) (h : St C B E a w) (hg : Goes P C B E ops Fs bits m 0 todo Q) : (Code.region id ops.toArray true).wp P Q a w := by
  refine wp_region_any hm ?_
  have h' : St C B E a { w with drawn := w.drawn + 1 } := h.grow (Ev.drawn _)
  have nodone : ∀ i, (Array.replicate ops.toArray.size false).getD i false = false := fun i => by
    rw [Array.getD_eq_getD_getElem?, Array.getElem?_replicate]; split <;> rfl
  refine hg ops.toArray.size _ a _ ?_ (by simp) ?_ ⟨h'.sub Sub.nil, fun t F ht _ => h'.env t F ht, fun i d F hi => ?_⟩ (fun i _ => nodone i) (fun i _ hs => by simp at hs) (fun i _ => nodone i)
  · simp [Array.toList_replicate, List.count_replicate]
  · intro i o ho hi; rw [nodone i] at hi; cases hi
  · rw [nodone i] at hi; cases hi
theorem goes_last (hc : chk ops bits m = true) (hN : dstsOk ops C.N = true) (ok : OpsOkS P C B E ops Fs bits skip 0 (ops.take m)) {Eo : Env}
    (hE : ∀ t F, get Eo t = some F → (get E t = some F ∧ ∀ i, i < m → Dst ops i ≠ some t) ∨ ∃ i, i < m ∧ Dst ops i = some t ∧ Fs[i]? = some F)
    (K : ∀ a' w', St C B Eo a' w' → wpList P ops.toArray Q (ops.drop m) a' w') : Goes P C B E ops Fs bits m skip 0 Q :=
  goes_end (chk_spec hc) (dsts_of hN) ok fun a' w' hs hold hnew => by
    refine K a' w' { hs with env := fun t F ht => ?_ }
    rcases hE t F ht with ⟨h1, h2⟩ | ⟨i, h1, h2, h3⟩
    · exact hold t F h1 h2
    · exact hnew i t F h1 h2 h3
theorem goes_turn {γ : Type} {B' : γ → List OF} {Fs' : γ → List Fact} (x skx skip2 todo2 : Nat) {ox : Oper} (hc : chk ops bits m = true) (hN : dstsOk ops C.N = true) (hox : ops[x]? = some ox) (hA : aheadOf bits m x skip skx todo skip2 todo2 = true)
    (ok : OpsOkS P C B E ops Fs bits skx 0 (ops.take m)) (okx : OpOkX P C B E ops Fs bits x ox B' Fs') (hsame : ∀ g j, j ≠ x → (bits.getD j 0).testBit x = false → (Fs' g)[j]? = Fs[j]?)
    (next : ∀ g, Goes P C (B' g) E ops (Fs' g) bits m skip2 todo2 Q) : Goes P C B E ops Fs bits m skip todo Q :=
  goes_x (chk_spec hc) (dsts_of hN) hox hA ok okx hsame next
def setAll (Fs : List Fact) : List (Nat × Fact) → List Fact
  | [] => Fs
  | (i, F) :: l => (setAll Fs l).set i F
theorem setAll_same {γ : Type} {x : Nat} {us : γ → List (Nat × Fact)} (h : ∀ g, (us g).all (fun p => p.1 == x || (bits.getD p.1 0).testBit x) = true) : ∀ g j, j ≠ x → (bits.getD j 0).testBit x = false → (setAll Fs (us g))[j]? = Fs[j]? := fun g j hj hb => by
  have key : ∀ l : List (Nat × Fact), l.all (fun p => p.1 == x || (bits.getD p.1 0).testBit x) = true → (setAll Fs l)[j]? = Fs[j]? := by
    intro l
    induction l with
    | nil => intro _; rfl
    | cons p l ih =>
      intro hl
      simp only [List.all_cons, Bool.and_eq_true, Bool.or_eq_true, beq_iff_eq] at hl
      have hne : p.1 ≠ j := by
        rintro rfl
        rcases hl.1 with h1 | h1
        · exact hj h1
        · rw [hb] at h1; cases h1
      show ((setAll Fs l).set p.1 p.2)[j]? = _
      rw [List.getElem?_set_ne hne]
      exact ih (by simpa using hl.2)
  exact key _ (h g)
end
end Go.Proofs.Kit
end
section
namespace Go.Proofs.Kit
open Go Go.RowKit
set_option linter.unusedSimpArgs false
set_option linter.unusedVariables false
section
variable {Q : Exit → Act → World → Prop} {a : Act} {w : World} {id : Nat}
end
theorem Flat.is {v : Value} : Flat (is v) := fun _ _ _ _ _ h => h
theorem LSK.whole {α β : Type} {K : Kd α} {k : Kd β} {x : α} {y : β} (h : K.sz = k.sz) : LSK K k k 0 x y y := fun ok w cs ds h1 h2 => by
  have e1 := K.len h1
  have e2 := k.len h2
  refine ⟨h.symm, by omega, ?_⟩
  rw [Nat.zero_add, List.drop_eq_nil_of_le (by omega)]
  simpa using h2
theorem ObX.uncond {P : Program} {C : Ctx} {B : List OF} {E : Env} {o : Oper} {γ : Type} {B' : γ → List OF} {F : γ → Fact} {c : Bool} {t : Nat} {G : Fact} (hc : c = true) (h : get E t = some (G.when c)) (ob : ObX P C B ((t, G) :: E) o B' F) : ObX P C B E o B' F := fun a w s => by
  have s' : St C B ((t, G) :: E) a w := s.fact ((s.env _ _ h).1 hc)
  refine (ob a w s').mono fun v w' ⟨g, h1, h2⟩ => ⟨g, h1, ?_⟩
  have e : ∀ u H, get E u = some H → u ≠ t → get ((t, G) :: E) u = some H := fun u H hu hne => by simp only [get]; rw [if_neg (Ne.symm hne)]; exact hu
  refine { h2 with env := fun u H hu => ?_ }
  by_cases e1 : u = t
  · subst e1
    rw [h] at hu; cases hu
    exact ⟨fun _ => h2.env u G (by simp [get]), fun hf => by rw [hc] at hf; cases hf⟩
  · exact h2.env u H (e u H hu e1)
section
variable {P : Program} {C : Ctx} {B B' A D : List OF} {E : Env} {o : Oper} {α β γ : Type} {K : Kd α} {k : Kd β} {T T' U e : TypeId} {x y : Operand} {b off : Nat} {X X' : α} {v : Value} {xs : List β} {l h : Int} {lo hi : Option Operand}
theorem ob_appendL2 {ys : List β} {y0 : β} {zs : List Value} (ho : o.op = .call { callee := .builtin .append, args := #[x, y], argTypes := #[T, T] }) (hT : P.underlying T = some (.slice e)) (ap : ApOk P e k zs) (hz : Zr k y0 zs)
    (hsz : 0 < k.sz) (hx : Opd E x (is v)) (hy : Opd E y ((ksl k).V ys)) (hB : B = A ++ RowF v e k xs :: D) (hb : xs.length + ys.length ≤ lim) :
    ObX P C B E o (fun g => A ++ RowF g e k (xs ++ ys) :: D) (fun g => is g) := ob_appendL ho hT ap hz hsz trivial hx hy hB hb
theorem lendSlB {L : List OF} {n off0 off' cap len : Nat} {zs ys : List β} (hL : BF b U K X ∈ L) (lg : LG K (karr n k) off0 X zs) (hb : cut? zs l h = some ys) (ho : off' = soff n off0 l.toNat k.sz) (hlen : len = ys.length) (hcap : ys.length ≤ cap ∧ cap ≤ maxLen) :
    ∀ ok w u, (is (.slice (some ⟨b, off', none⟩) len cap)).holds ok w u → (∀ q, q ∈ L → q.holds ok w) → (∀ c, c ∈ idsOf L → ok c) → ((ksl k).V ys).holds ok w u := by
  rintro ok w u rfl h1 h2
  exact lendSl lg hb ho hlen hcap ok w (h1 _ hL) (h2 b (mem_idsOf hL (by simp [BF])))
end
theorem St.dropTail {C : Ctx} {B D : List OF} {E : Env} {a : Act} {w : World} (h : St C (B ++ D) E a w) : St C B E a w := by
  induction D generalizing B with
  | nil => simpa using h
  | cons f D ih => exact ih h.drop
theorem leaveXD {P : Program} {fn : Func} {ok : Ok} {w : World} {γ : Type} {F : γ → Fact} {L : List OF} {L' : γ → List OF} {N : Nat} {E : Env} {l : List ResultVar} {m : List Fact} {a : Act} {w' : World} {e : Exit} (g : γ) {B D : List OF} (s : St ⟨N, w, ok, idsOf L⟩ (B ++ D) E a w') (hB : L' g = B) (he : e = .ret ∨ e = .normal) (hr : fn.results = l.toArray) (h : ResAll P ⟨N, w, ok, idsOf L⟩ (B ++ D) E l m) (hF : F g = resFact m) :
    bodyPost P fn (fun e w' => ∃ v, e = .returned v ∧ OutX ok w L F L' v w') e a w' := by
  subst hB
  obtain ⟨vs, h1, h2, h3⟩ := run_resultsX s hr h
  have s' := s.dropTail
  have kp : Keep (okB ⟨N, w, ok, idsOf L⟩ (idsOf (L' g ++ D))) (okB ⟨N, w, ok, idsOf L⟩ (idsOf (L' g))) w' w' := fun b _ ho => ⟨rfl, ho.1, fun hm => ho.2 (by rw [idsOf_append, List.mem_append]; exact .inl hm)⟩
  have key : (resFact m).holds (okOut ok w (idsOf L) (idsOf (L' g))) w' (if vs.length = 1 then vs.headD undef else .tuple vs.toArray) := by
    refine Fact.mono _ (?_ : (resFact m).holds (okB ⟨N, w, ok, idsOf L⟩ (idsOf (L' g ++ D))) w' _) kp
    match m, vs, h1 with
    | [], [], _ => exact ⟨[], rfl, rfl, fun i F u hF => by simp at hF⟩
    | [F], [v], _ => exact h2 0 F v rfl rfl
    | F :: G :: m, v :: u :: vs, hl => exact ⟨v :: u :: vs, by simp, hl, h2⟩
  have out : ∃ v, Ending.returned (if vs.length = 1 then vs.headD undef else .tuple vs.toArray) = .returned v ∧ OutX ok w L F L' v w' := ⟨_, rfl, g, by rw [hF]; exact key, s'.ev, s'.nod, s'.fresh, s'.own⟩
  rcases he with rfl | rfl <;> exact ⟨s.dfr, _, h3, out⟩
end Go.Proofs.Kit
end
section
namespace Go.Proofs.Kit
open Go Go.RowKit
set_option linter.unusedSimpArgs false
set_option linter.unusedVariables false
theorem kis_is {v : Value} : ∀ ok w u, ((kis v).V ()).holds ok w u → (is v).holds ok w u := fun ok w u h => V_kis h
theorem is_kis {v : Value} (h1 : v.cells = #[v]) (h2 : v.oneCell' = true) (h3 : mkv false [v] = v) : ∀ ok w u, (is v).holds ok w u → ((kis v).V ()).holds ok w u := fun ok w u h => ⟨[v], ⟨rfl, h1, h2⟩, by rw [show u = v from h]; exact h3.symm⟩
def mget : List (Int × Bool) → Int → Bool
  | [], _ => false
  | (a, x) :: m, k => if a = k then x else mget m k
def mput : List (Int × Bool) → Int → Bool → List (Int × Bool)
  | [], k, x => [(k, x)]
  | (a, y) :: m, k, x => if a = k then (a, x) :: m else (a, y) :: mput m k x
def mlist (es : List MapEntry) : List (Value × Value) := es.map fun e => (e.key, e.val)
def mcells (ik : IntKind) (m : List (Int × Bool)) : List (Value × Value) := m.map fun p => (.int ik p.1, .bool p.2)
def MapF (b : Nat) (ik : IntKind) (m : List (Int × Bool)) : OF where
  ids := [b]
  holds ok w := ∃ es clock, w.heap[b]? = some (.map es clock) ∧ mlist es.toList = mcells ik m
  lt := by rintro ok w ⟨es, clock, h, _⟩ c hc; simp at hc; subst hc; exact lt_of_heap h
  mono := by rintro ok ok' w w' ⟨es, clock, h1, h2⟩ kp hs; exact ⟨es, clock, (hs b (by simp)).trans h1, h2⟩
theorem find_map {ik : IntKind} {n : Int} : ∀ (es : List MapEntry) (m : List (Int × Bool)) (i : Nat), mlist es = mcells ik m →
    (Instr.findNow (.int ik) (.int ik n) es i = some none ∧ mget m n = false ∧ ∀ x, mcells ik (mput m n x) = mlist es ++ [(.int ik n, .bool x)]) ∨
    ∃ j e, Instr.findNow (.int ik) (.int ik n) es i = some (some (i + j, e.val)) ∧ es[j]? = some e ∧ e.key = .int ik n ∧ e.val = .bool (mget m n) ∧ ∀ x e', e'.key = .int ik n → e'.val = .bool x → mcells ik (mput m n x) = mlist (es.set j e')
  | [], [], i, _ => .inl ⟨rfl, rfl, fun x => rfl⟩
  | [], _ :: _, _, h => by simp [mlist, mcells] at h
  | _ :: _, [], _, h => by simp [mlist, mcells] at h
  | e :: es, (a, x) :: m, i, h => by
    simp only [mlist, mcells, List.map_cons, List.cons.injEq, Prod.mk.injEq] at h
    obtain ⟨⟨hk, hv⟩, ht⟩ := h
    by_cases han : a = n
    · subst han
      refine .inr ⟨0, e, by simp [Instr.findNow, Instr.sameNow, hk], rfl, hk, by rw [hv]; simp [mget], fun x' e' h1 h2 => ?_⟩
      simp [mput, mcells, mlist, h1, h2]
      exact ht.symm
    · have hne : (n == a) = false := by simpa using Ne.symm han
      rcases find_map (n := n) es m (i + 1) ht with ⟨h1, h2, h3⟩ | ⟨j, e1, h1, h2, h3, h4, h5⟩
      · refine .inl ⟨by simp [Instr.findNow, Instr.sameNow, hk, hne, h1], by simp [mget, han, h2], fun x' => ?_⟩
        simp only [mput, if_neg han, mcells, mlist, List.map_cons, List.cons_append, hk, hv]
        exact congrArg _ (h3 x')
      · refine .inr ⟨j + 1, e1, by simp [Instr.findNow, Instr.sameNow, hk, hne, h1]; omega, by simpa using h2, h3, by simp [mget, han, h4], fun x' e' h6 h7 => ?_⟩
        simp only [mput, if_neg han, mcells, mlist, List.map_cons, List.set_cons_succ, hk, hv]
        exact congrArg _ (h5 x' e' h6 h7)
section
variable {P : Program} {C : Ctx} {B B' A D : List OF} {E : Env} {o : Oper} {T kT eT : TypeId} {x y i : Operand} {b : Nat} {ik : IntKind} {m : List (Int × Bool)} {n : Int} {p : Bool}
theorem ob_makeMap (ho : o.op = .makeMap T none) : ObX P C B E o (fun b => MapF b ik [] :: B) (fun b => is (.map (some b))) := fun a w h => by
  refine .value (w' := w.alloc (.map #[] 0)) (v := .map (some w.heap.size)) ?_ ⟨w.heap.size, rfl, ?_⟩
  · simp only [execOp, ho, Option.map_none, Sem.run_bind, run_makeMap, Result.andThen_ok, Sem.run_pure]
  · exact h.new (.map #[] 0) (G := MapF w.heap.size ik []) rfl (fun _ => ⟨#[], 0, heap_alloc_new w _, rfl⟩)
theorem run_getObj {w : World} {r : Nat} {es : Array MapEntry} {c : Nat} (h : w.heap[r]? = some (.map es c)) : (getObj r).run P w = .ok (.map es c) w := by
  simp [getObj, Sem.run, h]
theorem run_setObj {w : World} {r : Nat} {es : Array MapEntry} {c : Nat} {o' : Obj} (h : w.heap[r]? = some (.map es c)) : (setObj r o').run P w = .ok () { w with heap := w.heap.setIfInBounds r o' } := by
  simp [setObj, Sem.run, h]
theorem ob_lookup (ho : o.op = .lookup T x i false) (hT : P.underlying T = some (.map kT eT)) (hk : P.underlying kT = some (.int ik)) (hz : ((P.info? eT).bind (·.zero)) = some (.bool false)) (hx : Opd E x (is (.map (some b)))) (hi : Opd E i ((kint ik).V n)) (hB : MapF b ik m ∈ B) : Ob P C B E o (kbool.V (mget m n)) := fun a w h => by
  obtain ⟨es, clock, hg, hm⟩ := h.own _ hB
  have hx' : a.eval x = .map (some b) := h.arg hx
  have hi' := (V_int.1 (h.arg hi)).1
  have hck : ∀ em, (Instr.checkKey em 10000 kT (.int ik n)).run P w = .ok () w := fun em => MapKept.run_checkKey (k := .int ik n) hk (by simp [MapKept.IsKey]) em 9999
  have key : (Instr.lookup T (.map (some b)) (.int ik n) false).run P w = .ok (.bool (mget m n)) w := by
    unfold Instr.lookup
    rcases find_map (n := n) es.toList m 0 hm with ⟨h1, h2, _⟩ | ⟨j, e, h1, _, _, h4, _⟩
    · simp [run_underlying hT, run_getObj hg, hck, MapKept.run_findKey hk h1, run_zero hz, h2]
    · simp [run_underlying hT, run_getObj hg, hck, MapKept.run_findKey hk h1, h4]
  exact .value (w' := w) (v := .bool (mget m n)) (by simp only [execOp, ho, hx', hi', Sem.run_bind, key, Result.andThen_ok, Sem.run_pure]) ⟨V_bool.2 rfl, .refl _ _⟩
theorem ob_mapUpdate (ho : o.op = .mapUpdate T x i y) (hT : P.underlying T = some (.map kT eT)) (hk : P.underlying kT = some (.int ik)) (hx : Opd E x (is (.map (some b)))) (hi : Opd E i ((kint ik).V n)) (hy : Opd E y (kbool.V p)) (hB : B = A ++ MapF b ik m :: D) (hB' : B' = A ++ MapF b ik (mput m n p) :: D) :
    ObX P C B E o (fun _ : Unit => B') (fun _ => nofact) := fun a w h => by
  subst hB hB'
  obtain ⟨es, clock, hg, hm⟩ := h.own (MapF b ik m) (by simp)
  have hx' : a.eval x = .map (some b) := h.arg hx
  have hi' := (V_int.1 (h.arg hi)).1
  have hy' := V_bool.1 (h.arg hy)
  have hck : ∀ em, (Instr.checkKey em 10000 kT (.int ik n)).run P w = .ok () w := fun em => MapKept.run_checkKey (k := .int ik n) hk (by simp [MapKept.IsKey]) em 9999
  have fin : ∀ es' c', mlist es'.toList = mcells ik (mput m n p) → (Instr.mapUpdate T (.map (some b)) (.int ik n) (.bool p)).run P w = .ok () { w with heap := w.heap.setIfInBounds b (.map es' c') } → Does P o a w fun v w' => ∃ g : Unit, nofact.holds (okB C (idsOf (A ++ MapF b ik (mput m n p) :: D))) w' v ∧ St C (A ++ MapF b ik (mput m n p) :: D) E a w' := fun es' c' he hr => by
    refine .skip (w' := { w with heap := w.heap.setIfInBounds b (.map es' c') }) ?_ ⟨(), trivial, ?_⟩
    · simp only [execOp, ho, hx', hi', hy', Sem.run_bind, hr, Result.andThen_ok, Sem.run_pure]
    · have hset := MapKept.heap_set (o' := .map es' c') hg
      refine h.turn (g := MapF b ik (mput m n p)) rfl ⟨rfl, rfl, rfl, by simp, fun q _ hq => hset.2 q (by simpa [MapF] using hq)⟩ (fun kp => ⟨es', c', hset.1, he⟩)
  rcases find_map (n := n) es.toList m 0 hm with ⟨h1, _, h3⟩ | ⟨j, e, h1, h2, h3, h4, h5⟩
  · refine fin (es.push { key := .int ik n, val := .bool p, born := clock }) (clock + 1) ?_ ?_
    · rw [h3 p]; simp [mlist]
    · unfold Instr.mapUpdate
      simp [run_underlying hT, run_getObj hg, hck, MapKept.run_findKey hk h1, run_setObj hg]
  · have h2' : es[j]? = some e := by simpa using h2
    refine fin (es.modify j fun e => { e with key := .int ik n, val := .bool p }) clock ?_ ?_
    · rw [h5 p { e with key := .int ik n, val := .bool p } rfl rfl]
      congr 1
      rw [Array.toList_modify, List.modify_eq_set, h2]
      rfl
    · unfold Instr.mapUpdate
      have hsame : (Instr.keyThatStays (.int ik n) (.int ik n)).run P w = .ok (.int ik n) w := by
        simp [Instr.keyThatStays, Instr.sameBits]
      simp [run_underlying hT, run_getObj hg, hck, MapKept.run_findKey hk h1, h2', h3, hsame, run_setObj hg]
def cmpB (a b : List Int) : Int :=
  match a, b with
  | [], [] => 0
  | [], _ :: _ => -1
  | _ :: _, [] => 1
  | x :: a, y :: b => if x = y then cmpB a b else if x < y then -1 else 1
theorem compare_cmpB : ∀ a b : List UInt8, Go.Lib.compareBytes a b = cmpB (a.map fun u => (u.toNat : Int)) (b.map fun u => (u.toNat : Int))
  | [], [] => rfl
  | [], _ :: _ => rfl
  | _ :: _, [] => rfl
  | x :: a, y :: b => by
    simp only [Go.Lib.compareBytes, List.map_cons, cmpB]
    by_cases h : x = y
    · subst h
      have : ¬ x < x := UInt8.lt_irrefl x
      simp only [this, if_false, if_true]
      exact compare_cmpB a b
    · have hne : ¬ (x.toNat : Int) = (y.toNat : Int) := fun e => h (UInt8.toNat_inj.1 (by omega))
      rw [if_neg hne]
      by_cases h1 : x < y
      · have : (x.toNat : Int) < y.toNat := by have := UInt8.lt_iff_toNat_lt.1 h1; omega
        rw [if_pos h1, if_pos this]
      · have h2 : ¬ (x.toNat : Int) < y.toNat := fun hl => h1 (UInt8.lt_iff_toNat_lt.2 (by omega))
        have h3 : y < x := UInt8.lt_iff_toNat_lt.2 (by omega)
        rw [if_neg h1, if_pos h3, if_neg h2]
theorem cmp_bl (s t : ByteArray) : Extern.BytealgCompare.cmp s t = cmpB (bl s) (bl t) := by rw [Go.Lib.cmp_eq, compare_cmpB]; rfl
theorem run_bytesOf_sl {l : List Int} {v : Value} {ok : Ok} {w : World} (h : ((ksl (kint .u8)).V l).holds ok w v) : ∃ s, (Extern.Bytes.bytesOf v).run P w = .ok s w ∧ bl s = l := by
  obtain ⟨p, cap, hp, hcap, hnil, rs, hr, hc⟩ := V_sl h
  obtain ⟨rfl, hrng⟩ := relL_u8 hr
  cases p with
  | none =>
    have h0 := hnil rfl
    have h1 : l = [] := List.eq_nil_of_length_eq_zero (by omega)
    subst h1
    exact ⟨.empty, by rw [hp]; rfl, rfl⟩
  | some p =>
    have hl := Go.Lib.run_loadBytesX (P := P) w l p .empty (fun j x hj => (hc p rfl j (.int .u8 x) (by rw [List.getElem?_map, hj]; rfl)).1)
    refine ⟨_, by rw [hp]; exact hl, ?_⟩
    have e : (ByteArray.empty.data ++ (Go.Lib.bytesOf l).toArray).toList = Go.Lib.bytesOf l := by
      show ((#[] : Array UInt8) ++ (Go.Lib.bytesOf l).toArray).toList = _
      simp
    unfold bl
    rw [e]
    unfold Go.Lib.bytesOf
    rw [List.map_map]
    refine (List.map_congr_left fun x hx => ?_).trans (List.map_id l)
    have := hrng x hx
    show ((x.toNat.toUInt8.toNat : Nat) : Int) = x
    rw [Nat.toUInt8, UInt8.toNat_ofNat']
    omega
def isCompare (P : Program) (f : FuncId) : Prop := ∃ fn, P.funcs[f]? = some fn ∧ (fn.name == "runtime.NumGoroutine") = false ∧ fn.body.isNone = true ∧ (Extern.findNext fn).isNone = true ∧ Extern.find fn = some Extern.BytealgCompare.compare
theorem ob_compare {f : FuncId} {k l : List Int} {ats : Array TypeId} (ho : o.op = .call { callee := .value (.func f), args := #[x, y], argTypes := ats }) (hf : isCompare P f) (hx : Opd E x ((ksl (kint .u8)).V k)) (hy : Opd E y ((ksl (kint .u8)).V l)) : Ob P C B E o ((kint .i64).V (cmpB k l)) := fun a w h => by
  obtain ⟨fn, h1, h2, h3, h4, h5⟩ := hf
  obtain ⟨s, hs, rfl⟩ := run_bytesOf_sl (P := P) (h.arg hx)
  obtain ⟨t, ht, rfl⟩ := run_bytesOf_sl (P := P) (h.arg hy)
  have hn : Extern.findNext fn = none := by simpa using h4
  have hrun : (Extern.BytealgCompare.compare #[a.eval x, a.eval y]).run P w = .ok (goInt (cmpB (bl s) (bl t))) w := by
    change Sem.run P (do pure (goInt (Extern.BytealgCompare.cmp (← Extern.Bytes.bytesOf (a.eval x)) (← Extern.Bytes.bytesOf (a.eval y))))) w = _
    simp only [Sem.run_bind, hs, ht, Result.andThen_ok, Sem.run_pure, cmp_bl]
  have hc : ∀ p q : List Int, IntKind.i64.has (cmpB p q) := by
    intro p
    induction p with
    | nil =>
      intro q
      cases q with
      | nil => exact ⟨by show _ ≤ (0 : Int); decide, by show (0 : Int) ≤ _; decide⟩
      | cons _ _ => exact ⟨by show _ ≤ (-1 : Int); decide, by show (-1 : Int) ≤ _; decide⟩
    | cons u p ih =>
      intro q
      cases q with
      | nil => exact ⟨by show _ ≤ (1 : Int); decide, by show (1 : Int) ≤ _; decide⟩
      | cons v q =>
        simp only [cmpB]
        split
        · exact ih q
        · split <;> exact ⟨by decide, by decide⟩
  refine .value (w' := w) (v := goInt (cmpB (bl s) (bl t))) ?_ ⟨V_int.2 ⟨rfl, hc _ _⟩, .refl _ _⟩
  have e := run_callFunc_extern (P := P) (args := #[a.eval x, a.eval y]) (w := w) h1 h2 h3 hn h5
  simp only [execOp, ho, resolve, Deferred.ofValue, Sem.run_bind, Sem.run_pure, Result.andThen_ok, invoke]
  have e2 : a.eval (.func f) = .func (.func f) #[] #[] := rfl
  simp only [e2, Deferred.ofValue, Sem.run_pure, Result.andThen_ok, invoke, List.map_toArray, List.map_cons, List.map_nil]
  simpa [hrun] using e
end
def slNil {α : Type} (xs : List α) : Fact := ⟨fun _ _ v => ∃ q : Bool, v = .bool q ∧ (q = true → xs = []), fun h _ => h⟩
section
variable {P : Program} {C : Ctx} {B B' A D : List OF} {E : Env} {o : Oper} {α : Type} {k : Kd α} {T T' e : TypeId} {x y : Operand} {xs : List α}
theorem ob_slNil (ho : o.op = .binOp .eql T x (.const (.slice none 0 0)) T') (hT : P.underlying T = some (.slice e)) (hx : Opd E x ((ksl k).V xs)) : Ob P C B E o (slNil xs) := fun a w h => by
  obtain ⟨p, cap, hp, hcap, hnil, _⟩ := V_sl (h.arg hx)
  refine .value (w' := w) (v := .bool p.isNone) ?_ ⟨⟨p.isNone, rfl, fun hq => ?_⟩, .refl _ _⟩
  · have e1 : a.eval (.const (.slice none 0 0)) = .slice none 0 0 := rfl
    have e2 := run_equal_slice_nil (P := P) w T e p xs.length cap hT
    simp [execOp, ho, hp, e1, eqGuard, binOp, e2]
  · cases p with
    | none => have := hnil rfl; exact List.eq_nil_of_length_eq_zero (by omega)
    | some p => cases hq
theorem cond_nil {Q : Exit → Act → World → Prop} {a : Act} {w : World} {c1 c2 : Code} (s : St C B E a w) (hx : Opd E x (slNil xs)) (h1 : xs = [] → c1.wp P Q a w) (h2 : c2.wp P Q a w) : (Code.cond x c1 c2).wp P Q a w := by
  obtain ⟨q, hq, hn⟩ := s.arg hx
  exact wp_cond_split hq (fun h => h1 (hn h)) (fun _ => h2)
theorem ob_emptyRow (ho : o.op = .buildSlice T 0 #[]) (hT : P.underlying T = some (.slice e)) (hs : (P.info? e).map (·.size) = some k.sz) : ObX P C B E o (fun g => RowF g e k [] :: B) (fun g => is g) := fun a w h => by
  refine .value (w' := w.alloc (.cells #[] e)) (v := .slice (some ⟨w.heap.size, 0, none⟩) 0 0) ?_ ⟨.slice (some ⟨w.heap.size, 0, none⟩) 0 0, rfl, ?_⟩
  · simp only [execOp, ho, Sem.run_bind, Instr.buildSlice, run_underlying hT, Result.andThen_ok, run_sizeOf' hs]
    simp [newRow, newObj, Sem.run, Instr.fill]
    congr 2
    simp [Array.range]
  · exact h.new (.cells #[] e) (G := RowF (.slice (some ⟨w.heap.size, 0, none⟩) 0 0) e k []) rfl (fun _ => ⟨[], rfl, by simp, .inr ⟨w.heap.size, 0, #[], rfl, Nat.zero_le _, heap_alloc_new w _, Nat.le_refl _, Nat.zero_le _, by simp, by simp⟩⟩)
end
theorem Zr.nilFn : Zr (Kit.kis Value.nilFunc) () [Value.nilFunc] := fun _ _ => ⟨rfl, rfl, rfl⟩
def ObF (P : Program) (C : Ctx) (B : List OF) (E : Env) (o : Oper) (F : Fact) : Prop :=
  ∀ a w, St C B E a w → Does P o a w fun v w' => F.holds (fun n => w.heap.size ≤ n) w' v ∧ Ev [] w w'
section
variable {P : Program} {C : Ctx} {B B2 B' A D L : List OF} {E : Env} {o : Oper} {F : Fact} {x : Operand} {f : FuncId} {Fs Gs : List Fact}
theorem ObF.ob (h : ObF P C B E o F) : Ob P C B E o F := fun a w s => (h a w s).mono fun v w' ⟨h1, h2⟩ => ⟨F.mono h1 (fun b _ ho => ⟨rfl, fun hc => absurd hc (by have := s.ev.size; show ¬ b < _; have : w.heap.size ≤ b := ho; omega), fun hm => absurd (s.lt hm) (by have : w.heap.size ≤ b := ho; omega)⟩), h2⟩
theorem ob_lendF {ts : List (Nat × Fact)} (p : B.Perm (L ++ D)) (hl : LendOk E L ts) (ob : ∀ C', ObF P C' D (ts ++ E) o F) : ObF P C B E o F := fun a w h =>
  ob _ a w ((h.perm p).lendAll hl)
theorem ObF.uncond {c : Bool} {t : Nat} {G : Fact} (hc : c = true) (h : get E t = some (F.when c)) (ob : ObF P C B ((t, F) :: E) o G) : ObF P C B E o G := fun a w s => by
  refine ob a w { s with env := fun u H hu => ?_ }
  simp only [get] at hu
  by_cases e : t = u
  · rw [if_pos e] at hu; cases hu; subst e; exact (s.env _ _ h).1 hc
  · rw [if_neg e] at hu; exact s.env u H hu
theorem row_fresh {β : Type} {k : Kd β} {v : Value} {e : TypeId} {xs : List β} {ok : Ok} {w' : World} {n : Nat} (hk : KFlat k) (h : (RowF v e k xs).holds ok w') (hn : ∀ b, b ∈ ownIds v → n ≤ b) : ((ksl k).V xs).holds (fun b => n ≤ b) w' v :=
  ⟨[v], rowRd (FlatO.row hk _ _ _ h) hn, by
    obtain ⟨rs, _, _, h3⟩ := h
    rcases h3 with ⟨rfl, _⟩ | ⟨g, cap, cur, rfl, _⟩ <;> rfl⟩
theorem ob_callF {γ : Type} {F' : γ → Fact} {L' : γ → List OF} {argTypes : Array TypeId} {args : List Operand} (ho : o.op = .call { callee := .value x, args := args.toArray, argTypes := argTypes }) (hc : Callee E f x Fs Gs) (hb : hasBody P f)
    (hg : ∀ a w, St C B E a w → ∀ fs gs, ArgsOk (okB C (idsOf B)) w Fs fs → ArgsOk (okB C (idsOf B)) w Gs gs → GivesX P f (fs ++ args.map a.eval ++ gs) (okB C (idsOf B)) w [] F' L')
    (hF : ∀ g ok w n v, (F' g).holds ok w v → (∀ q, q ∈ L' g → q.holds ok w) → (∀ b, b ∈ idsOf (L' g) → n ≤ b) → F.holds (fun b => n ≤ b) w v) : ObF P C B E o F := fun a w h => by
  obtain ⟨fs, gs, e1, g1, g2⟩ := hc.val h
  unfold Does
  have e : (execOp a.eval o).run P w = .ok (.enter f (fs.toArray ++ args.toArray.map a.eval ++ gs.toArray)) w := by
    simp only [execOp, ho]; exact run_callV (c := { callee := .value x, args := args.toArray, argTypes := argTypes }) rfl e1 hb
  rw [e]
  have := hg a w h fs gs g1 g2
  unfold GivesX at this
  have e2 : (fs ++ args.map a.eval ++ gs).toArray = fs.toArray ++ args.toArray.map a.eval ++ gs.toArray := by simp
  rw [e2] at this
  refine this.mono fun e w' ⟨v, he, g, hF', hev, hn, hfr, hown⟩ => ⟨v, he, hF g _ w' w.heap.size v hF' hown (fun b hb => ?_), hev⟩
  rcases hfr b hb with h1 | h1
  · exact h1
  · cases h1
inductive ResF (L : List OF) : List Fact → List Fact → Prop
  | nil : ResF L [] []
  | row {β : Type} {k : Kd β} {v : Value} {e : TypeId} {xs : List β} {l m : List Fact} (hL : RowF v e k xs ∈ L) (hk : KFlat k) (t : ResF L l m) : ResF L (is v :: l) ((ksl k).V xs :: m)
  | flat {F : Fact} {l m : List Fact} (h : Flat F) (t : ResF L l m) : ResF L (F :: l) (F :: m)
theorem ResF.len {L : List OF} {l m : List Fact} (h : ResF L l m) : l.length = m.length := by induction h <;> simp_all
theorem ResF.get {L : List OF} {l m : List Fact} (h : ResF L l m) : ∀ (i : Nat) (G : Fact), m[i]? = some G → ∃ F : Fact, l[i]? = some F ∧ ∀ ok w n u, F.holds ok w u → (∀ q, q ∈ L → q.holds ok w) → (∀ b, b ∈ idsOf L → n ≤ b) → G.holds (fun b => n ≤ b) w u := by
  induction h with
  | nil => intro i G hG; simp at hG
  | @row β k v e xs l m hL hk t ih =>
    intro i G hG
    cases i with
    | zero =>
      simp at hG; subst hG
      refine ⟨_, rfl, fun ok w n u hu h1 h2 => ?_⟩
      have hu' : u = v := hu
      subst hu'
      exact row_fresh hk (h1 _ hL) (fun b hb => h2 b (mem_idsOf hL hb))
    | succ i => exact ih i G (by simpa using hG)
  | @flat F l m h t ih =>
    intro i G hG
    cases i with
    | zero => simp at hG; subst hG; exact ⟨F, rfl, fun ok w n u hu _ _ => h _ _ _ _ _ hu⟩
    | succ i => exact ih i G (by simpa using hG)
theorem ResF.all {L : List OF} {l m : List Fact} (h : ResF L l m) : ∀ ok w n v, (resFact l).holds ok w v → (∀ q, q ∈ L → q.holds ok w) → (∀ b, b ∈ idsOf L → n ≤ b) → (resFact m).holds (fun b => n ≤ b) w v := fun ok w n v hv h1 h2 => by
  have hlen := h.len
  match l, m, h, hlen with
  | [], [], _, _ => obtain ⟨vs, a1, a2, a3⟩ := hv; exact ⟨vs, a1, a2, fun i F u hF => by simp at hF⟩
  | [F], [G], h, _ =>
    obtain ⟨F', hF', hh⟩ := h.get 0 G rfl
    simp at hF'; subst hF'
    exact hh ok w n v hv h1 h2
  | F1 :: F2 :: l, G1 :: G2 :: m, h, hlen =>
    obtain ⟨vs, a1, a2, a3⟩ := hv
    refine ⟨vs, a1, a2.trans hlen, fun i G u hG hu => ?_⟩
    obtain ⟨F', hF', hh⟩ := h.get i G hG
    exact hh ok w n u (a3 i F' u hF' hu) h1 h2
end
end Go.Proofs.Kit
end
section
namespace Go.Proofs.Kit
open Go Go.RowKit
set_option linter.unusedSimpArgs false
set_option linter.unusedVariables false
def slT (v : Value) (s lo len : Nat) : Fact := ⟨fun _ _ u => (v = .slice none 0 0 ∧ u = .slice none 0 0 ∧ len = 0) ∨
  ∃ g n c, v = .slice (some ⟨g, 0, none⟩) n c ∧ lo + len ≤ c ∧ c ≤ maxLen ∧ u = .slice (some ⟨g, soff c 0 lo s, none⟩) len (c - lo), fun h _ => h⟩
section
variable {P : Program} {C : Ctx} {B B' A D : List OF} {E : Env} {o : Oper} {α β : Type} {k : Kd α} {l : Kd β} {T T' U e : TypeId} {x y i : Operand} {v : Value} {xs xs' : List α} {off off' lo len : Nat} {Y : β} {ik : IntKind} {n : Int} {bl bh : Option Operand} {m h : Int}
theorem ob_cutT (ho : o.op = .slice T x bl none none) (hT : P.underlying T = some (.slice e)) (hs : (P.info? e).map (·.size) = some k.sz) (hx : Opd E x (is v)) (hB : RowF v T' k xs ∈ B) (hl : Bnd E 0 bl m) (hb : 0 ≤ m ∧ m ≤ xs.length) :
    Ob P C B E o (slT v k.sz m.toNat (xs.length - m.toNat)) := fun a w st => by
  have hx' : a.eval x = v := st.arg hx
  obtain ⟨rs, hr, hl', hv⟩ := st.own _ hB
  rcases hv with ⟨rfl, h0⟩ | ⟨g, cap, cur, rfl, _, hg, h1, h2, h3, h4⟩
  · have hm : m = 0 := by omega
    subst hm
    have hrb := run_bounds (P := P) (hi := none) (h := ((0 : Nat) : Int)) st true 0 0 hl .none (by omega) (by omega) (by omega)
    refine .value (w' := w) (v := .slice none 0 0) ?_ ⟨.inl ⟨rfl, rfl, by omega⟩, .refl _ _⟩
    simp only [Option.map_none] at hrb
    simp only [execOp, ho, Instr.sliceAt, Instr.slice, Option.map_none, Sem.run_bind, run_underlying hT, Result.andThen_ok, hx', Sem.run_pure, hrb]
    simp [hrb, run_sizeOf' hs]
  · have hrb := run_bounds (P := P) (hi := none) (h := ((xs.length : Nat) : Int)) st true xs.length cap hl .none hb.1 hb.2 (by omega)
    refine .value (w' := w) (v := .slice (some ⟨g, soff cap 0 m.toNat k.sz, none⟩) (xs.length - m.toNat) (cap - m.toNat)) ?_ ⟨.inr ⟨g, xs.length, cap, rfl, by omega, h2, rfl⟩, .refl _ _⟩
    simp only [Option.map_none] at hrb
    simp only [execOp, ho, Instr.sliceAt, Instr.slice, Option.map_none, Sem.run_bind, run_underlying hT, Result.andThen_ok, hx', Sem.run_pure, hrb]
    unfold soff
    by_cases hc : cap = m.toNat
    · simp [hrb, run_sizeOf' hs, hc]
    · simp [hrb, run_sizeOf' hs, hc, add_lit]
theorem ob_lenT {s : Nat} (ho : o.op = .call { callee := .builtin .len, args := #[x], argTypes := #[T] }) (hT : P.underlying T = some (.slice e)) (hx : Opd E x (slT v s lo len)) : Ob P C B E o ((kint .i64).V (len : Int)) := fun a w st => by
  rcases st.arg hx with ⟨_, hu, h0⟩ | ⟨g, n, c, _, h1, h2, hu⟩
  · exact .value (w' := w) (v := .int .i64 len) (by simp [execOp, ho, hu, resolve, invoke, builtin, Builtin.len_, run_underlying hT, goInt, h0]) ⟨V_int.2 ⟨rfl, has_len (by omega)⟩, .refl _ _⟩
  · exact .value (w' := w) (v := .int .i64 len) (by simp [execOp, ho, hu, resolve, invoke, builtin, Builtin.len_, run_underlying hT, goInt]) ⟨V_int.2 ⟨rfl, has_len (by omega)⟩, .refl _ _⟩
theorem ob_restAt (ho : o.op = .indexAddr T x i) (hT : P.underlying T = some (.slice e)) (hs : (P.info? e).map (·.size) = some k.sz) (hx : Opd E x (slT v k.sz m.toNat len)) (hm : 0 ≤ m)
    (hi : Opd E i ((kint ik).V n)) (hb : 0 ≤ n ∧ n < (len : Int)) : Ob P C B E o (ptrR v ((m + n).toNat * k.sz)) := fun a w st => by
  rcases st.arg hx with ⟨_, _, h0⟩ | ⟨g, n', c, hv, h1, h2, hu⟩
  · omega
  · have hc : ¬ c = m.toNat := by omega
    have he : m.toNat * k.sz + n.toNat * k.sz = (m + n).toNat * k.sz := by rw [← Nat.add_mul]; congr 1; omega
    refine .value (w' := w) (v := .pointer (some ⟨g, (m + n).toNat * k.sz, none⟩)) ?_ ⟨⟨_, _, _, hv, rfl⟩, .refl _ _⟩
    rw [← he]
    simp [execOp, ho, hu, (V_int.1 (st.arg hi)).1, Instr.indexAt, asIntOf, run_underlying hT, Instr.sureAddr, run_sizeOf' hs, hb.1, hb.2, add_lit, soff, hc]
theorem ob_clearT {y0 : α} {zs : List Value} (ho : o.op = .call { callee := .builtin .clear, args := #[x], argTypes := #[T] }) (hT : P.underlying T = some (.slice e)) (ap : ApOk P e k zs) (hz : Zr k y0 zs) (hk : 0 < k.sz) (hx : Opd E x (slT v k.sz lo len))
    (hB : B = A ++ RowF v e k xs :: D) (hf : lo + len ≤ xs.length) (hB' : B' = A ++ RowF v e k (xs.take lo ++ List.replicate len y0 ++ xs.drop (lo + len)) :: D) : ObX P C B E o (fun _ : Unit => B') (fun _ => nofact) := fun a w st => by
  subst hB hB'
  by_cases h0 : len = 0
  · subst h0
    have e1 : xs.take lo ++ List.replicate 0 y0 ++ xs.drop (lo + 0) = xs := by simp
    rw [e1]
    refine .value (w' := w) (v := .tuple #[]) ?_ ⟨(), trivial, st⟩
    rcases st.arg hx with ⟨_, hu, _⟩ | ⟨g, n, c, _, _, _, hu⟩ <;>
      simp [execOp, ho, hu, resolve, invoke, builtin, Builtin.clear_, run_underlying hT]
  · rcases st.arg hx with ⟨_, _, h1⟩ | ⟨g, n, c, rfl, h1, h2, hu⟩
    · exact absurd h1 h0
    · obtain ⟨cur, rs, hn', hg, hc1, hc2, hc3, hc4, hr⟩ := row_block (st.own (RowF (.slice (some ⟨g, 0, none⟩) n c) e k xs) (by simp)) rfl
      subst hn'
      have hcl : ¬ c = lo := by omega
      have hzc := Kd.cells (hz (okB C (idsOf (A ++ RowF (.slice (some ⟨g, 0, none⟩) xs.length c) e k xs :: D))) w)
      have hzl := k.len (hz (okB C (idsOf (A ++ RowF (.slice (some ⟨g, 0, none⟩) xs.length c) e k xs :: D))) w)
      have hza : (mkv k.agg zs).cells = zs.toArray := by rw [← Array.toList_inj, hzc]
      have hds : (Builtin.zeroCells (mkv k.agg zs).cells len).toList = (List.range (len * zs.length)).map fun j => zs.toArray[j % zs.length]! := by
        rw [hza]; simp [Builtin.zeroCells]
      generalize hdd : (Builtin.zeroCells (mkv k.agg zs).cells len).toList = ds at hds
      have hdl : ds.length = len * k.sz := by rw [hds]; simp [hzl]
      have hrz : ∀ ok w, relL k ok w (List.replicate len y0) ds := fun ok w => by rw [hds]; exact relL_zeros (hz ok w) len
      have hle2 : xs.length * k.sz ≤ c * k.sz := Nat.mul_le_mul_right _ hc1
      have hfit : lo * k.sz + ds.length ≤ xs.length * k.sz := by rw [hdl, ← Nat.add_mul]; exact Nat.mul_le_mul_right _ hf
      have hst := run_storeCells_at P g (lo * k.sz) e ds 0 cur w hg (by rw [hc3]; omega) (fun u hu => relL_cell1 (hrz (okB C []) w) u hu)
      simp only [Nat.add_zero] at hst
      refine .value (w' := w.setRow g (cur.toList.take (lo * k.sz) ++ ds ++ cur.toList.drop (lo * k.sz + ds.length)).toArray) (v := .tuple #[]) ?_ ⟨(), trivial, ?_⟩
      · obtain ⟨len, rfl⟩ : ∃ q, len = q + 1 := ⟨len - 1, by omega⟩
        have hoff : soff c 0 lo k.sz = lo * k.sz := by unfold soff; rw [if_neg hcl, Nat.zero_add]
        simp only [execOp, ho, resolve, invoke, builtin, Builtin.clear_, Sem.run_bind, Sem.run_pure, Result.andThen_ok, List.map_toArray, List.map_cons, List.map_nil, hu, hoff]
        simp [run_underlying hT, run_zero ap.zero, hdd, hst]
      · refine st.turn (g := RowF (.slice (some ⟨g, 0, none⟩) xs.length c) e k (xs.take lo ++ List.replicate len y0 ++ xs.drop (lo + len))) rfl ⟨rfl, rfl, rfl, by simp, fun q _ hq => setRow_other _ _ _ _ (by simpa [RowF, ownIds] using hq)⟩ (fun kp => ?_)
        refine row_stored hc3 hc1 hc2 hg hfit ⟨by simp; omega, ?_⟩
        rw [hc4, hdl, ← Nat.add_mul]
        rw [hdl, ← Nat.add_mul] at kp
        have r1 := relL_mono (relL_split hr lo).1 kp
        have r2 := relL_mono (relL_split hr (lo + len)).2 kp
        exact relL_append (relL_append r1 (hrz _ _)) r2
theorem ob_cutRow (ho : o.op = .slice T x bl bh none) (hT : P.underlying T = some (.slice e)) (hs : (P.info? e).map (·.size) = some k.sz) (hx : Opd E x (is v)) (hB : B = A ++ RowF v T' k xs :: D) (hl : Bnd E 0 bl 0) (hh : Bnd E xs.length bh h) (hb : 0 ≤ h ∧ h ≤ xs.length) :
    ObX P C B E o (fun g => A ++ RowF g T' k (xs.take h.toNat) :: D) (fun g => is g) := fun a w st => by
  subst hB
  have hx' : a.eval x = v := st.arg hx
  obtain ⟨rs, hr, hl', hv⟩ := st.own (RowF v T' k xs) (by simp)
  rcases hv with ⟨rfl, h0⟩ | ⟨g, cap, cur, rfl, _, hg, h1, h2, h3, h4⟩
  · have hxs : xs = [] := List.eq_nil_of_length_eq_zero h0
    subst hxs
    have hm : h = 0 := by simp at hb; omega
    subst hm
    have hrb := run_bounds (P := P) (l := 0) (h := 0) st true 0 0 hl hh (by omega) (by omega) (by omega)
    refine .value (w' := w) (v := .slice none 0 0) ?_ ⟨.slice none 0 0, rfl, by simpa using st⟩
    simp only [execOp, ho, Instr.sliceAt, Instr.slice, Option.map_none, Sem.run_bind, run_underlying hT, Result.andThen_ok, hx', Sem.run_pure, hrb]
    simp [hrb, run_sizeOf' hs]
  · have hrb := run_bounds (P := P) (l := 0) (h := h) st true xs.length cap hl hh (by omega) hb.1 (by omega)
    have hhn : h.toNat ≤ xs.length := by omega
    have htl : (xs.take h.toNat).length = h.toNat := by simp; omega
    have hk2 := Nat.mul_le_mul_right k.sz hhn
    refine .value (w' := w) (v := .slice (some ⟨g, 0, none⟩) h.toNat cap) ?_ ⟨.slice (some ⟨g, 0, none⟩) h.toNat cap, rfl, ?_⟩
    · simp only [execOp, ho, Instr.sliceAt, Instr.slice, Option.map_none, Sem.run_bind, run_underlying hT, Result.andThen_ok, hx', Sem.run_pure, hrb]
      by_cases hc : cap = 0
      · simp [hrb, run_sizeOf' hs, hc]
      · simp [hrb, run_sizeOf' hs, hc, add_lit]
    · refine st.turn (f := RowF (.slice (some ⟨g, 0, none⟩) xs.length cap) T' k xs) (g := RowF (.slice (some ⟨g, 0, none⟩) h.toNat cap) T' k (xs.take h.toNat)) rfl (.refl _ _) (fun kp => ?_)
      refine ⟨rs.take (h.toNat * k.sz), (relL_split hr h.toNat).1, ?_, .inr ⟨g, cap, cur, by rw [htl], Nat.zero_le _, hg, by rw [htl]; omega, h2, h3, ?_⟩⟩
      · rw [htl, List.length_take, hl']; omega
      · rw [htl, ← h4, List.take_take, Nat.min_eq_left hk2]
end
end Go.Proofs.Kit
end
section
namespace Go.Proofs.Kit
open Go Go.RowKit
set_option linter.unusedSimpArgs false
set_option linter.unusedVariables false
section
variable {P : Program} {C : Ctx} {B B' A D : List OF} {E : Env} {o : Oper} {α β : Type} {K : Kd α} {k : Kd β} {T T' T'' U u S e : TypeId} {x y : Operand} {b : Nat} {v : Value} {X : α} {p : Bool}
end
end Go.Proofs.Kit
end
section
namespace Go.Proofs.Kit
open Go Go.RowKit
set_option linter.unusedSimpArgs false
set_option linter.unusedVariables false
section
variable {C : Ctx} {A l D : List OF} {E : Env} {a : Act} {w : World}
end
section
variable {P : Program} {C : Ctx} {B A D : List OF} {E : Env} {o : Oper} {β : Type} {k : Kd β} {T U e : TypeId} {x y : Operand} {vs us : List Value} {xss xss' : List (List β)} {xs ys : List β} {i n b : Nat} {v g : Value} {a : Act} {w : World}
end
end Go.Proofs.Kit
end
section
namespace Go.Proofs.Kit
open Go Go.RowKit
set_option linter.unusedSimpArgs false
set_option linter.unusedVariables false
section
variable {P : Program} {C : Ctx} {B : List OF} {E : Env} {o : Oper} {β : Type} {k : Kd β} {T e : TypeId} {x y z : Operand} {xs ys : List β} {ik ik' : IntKind}
end
end Go.Proofs.Kit
end
section
namespace Go.Proofs.Kit
open Go Go.RowKit
set_option linter.unusedVariables false
section
variable {P : Program} {C : Ctx} {B : List OF} {E E' : Env} {a : Act} {w : World} {ops : Array Oper} {o : Oper} {rest : List Oper} {Q : Exit → Act → World → Prop} {d : Tmp} {F : Fact}
theorem q1 (h : St C B E a w) (e : (o.guard, o.dst, decide (d < C.N)) = (none, some d, true)) (ob : Ob P C B E o F) (K : ∀ a' w', St C B ((d, F) :: E) a' w' → wpList P ops Q rest a' w') : wpList P ops Q (o :: rest) a w :=
  seq_op h (congrArg (·.1) e) (congrArg (·.2.1) e) (of_decide_eq_true (congrArg (·.2.2) e)) ob K
theorem qx {γ : Type} {B' : γ → List OF} {F : γ → Fact} (h : St C B E a w) (e : (o.guard, o.dst, decide (d < C.N)) = (none, some d, true)) (ob : ObX P C B E o B' F) (K : ∀ g a' w', St C (B' g) ((d, F g) :: E) a' w' → wpList P ops Q rest a' w') : wpList P ops Q (o :: rest) a w :=
  seq_opx h (congrArg (·.1) e) (congrArg (·.2.1) e) (of_decide_eq_true (congrArg (·.2.2) e)) ob K
theorem qg {j : Nat} {want b : Bool} {t : Tmp} (h : St C B E a w) (hg : o.guard = some (j, want)) (hj : (ops[j]?).bind (·.dst) = some t) (ht : get E t = some (kbool.V b)) (e : (o.dst, decide (d < C.N)) = (some d, true))
    (ob : (b == want) = true → Ob P C B E o F) (K : ∀ a' w', St C B ((d, F.when (b == want)) :: E) a' w' → wpList P ops Q rest a' w') : wpList P ops Q (o :: rest) a w :=
  seq_opg h hg hj ht (congrArg (·.1) e) (of_decide_eq_true (congrArg (·.2) e)) ob K
theorem u (t : Nat) (h : get E t = some F) (k : Sub E' E) : Sub ((t, F) :: E') E := .cons h k
theorem av {opl : List Oper} {Fs : List Fact} {bits : List Nat} {i : Nat} (t : Nat) (h : get E t = some F) (hf : freeOf opl bits i t = true) (k : Av E opl Fs bits i E') : Av E opl Fs bits i ((t, F) :: E') := .old h hf k
theorem an {opl : List Oper} {Fs : List Fact} {bits : List Nat} {i t : Nat} (j : Nat) (h : Dst opl j = some t) (hF : Fs[j]? = some F) (hb : (bits.getD i 0).testBit j = true) (k : Av E opl Fs bits i E') : Av E opl Fs bits i ((t, F) :: E') := .new h hF hb k
theorem mv {t : Tmp} (ho : o.op = .move (.tmp t)) (h : get E t = some F) : Ob P C B E o F := ob_move ho (.tmp h)
theorem oc {opl : List Oper} {Fs : List Fact} {bits : List Nat} {skip i : Nat} {r : List Oper} (v : Av E opl Fs bits i E') (hg : o.guard = none) (hF : Fs[i]? = some F) (ob : Ob P C B E' o F) (t : OpsOkS P C B E opl Fs bits skip (i + 1) r) : OpsOkS P C B E opl Fs bits skip i (o :: r) := opsS_cons (.plain _ v hg hF ob) t
theorem wn {K X : Act → World → Prop} (hK : ∀ a w, X a w → K a w) (h : X a w) : wpList P ops (Exit.then K Q) [] a w := wpList_nil (then_normal (hK a w h))
end
inductive SeqOk (P : Program) (C : Ctx) (B : List OF) (ops : Array Oper) : Env → List Oper → Env → List Oper → Prop
  | cz {E : Env} {l : List Oper} : SeqOk P C B ops E l E l
  | ce {E E' : Env} {l : List Oper} (h : Sub E' E) : SeqOk P C B ops E l E' l
  | c1 {E E' : Env} {o : Oper} {d : Tmp} {F : Fact} {r l : List Oper} (e : (o.guard, o.dst, decide (d < C.N)) = (none, some d, true)) (ob : Ob P C B E o F) (t : SeqOk P C B ops ((d, F) :: E) r E' l) : SeqOk P C B ops E (o :: r) E' l
  | c0 {E E' : Env} {o : Oper} {F : Fact} {r l : List Oper} (e : (o.guard, o.dst) = (none, none)) (ob : Ob P C B E o F) (t : SeqOk P C B ops E r E' l) : SeqOk P C B ops E (o :: r) E' l
  | cg {E E' : Env} {o : Oper} {d : Tmp} {F : Fact} {r l : List Oper} {j : Nat} {want b : Bool} {t : Tmp} (hg : o.guard = some (j, want)) (hj : (ops[j]?).bind (·.dst) = some t) (ht : get E t = some (kbool.V b)) (e : (o.dst, decide (d < C.N)) = (some d, true))
      (ob : (b == want) = true → Ob P C B E o F) (s : SeqOk P C B ops ((d, F.when (b == want)) :: E) r E' l) : SeqOk P C B ops E (o :: r) E' l
theorem qs {P : Program} {C : Ctx} {B : List OF} {ops : Array Oper} {E E' : Env} {l r : List Oper} {Q : Exit → Act → World → Prop} {a : Act} {w : World} (s : St C B E a w) (h : SeqOk P C B ops E l E' r) (K : ∀ a' w', St C B E' a' w' → wpList P ops Q r a' w') : wpList P ops Q l a w := by
  induction h generalizing a w with
  | cz => exact K _ _ s
  | ce h => exact K _ _ (s.sub h)
  | c1 e ob t ih => exact q1 s e ob fun a' w' s' => ih s' K
  | c0 e ob t ih => exact seq_op0 s (congrArg (·.1) e) (congrArg (·.2) e) ob fun a' w' s' => ih s' K
  | cg hg hj ht e ob t ih => exact qg s hg hj ht e ob fun a' w' s' => ih s' K
end Go.Proofs.Kit
end
section
namespace Go.Proofs.Kit
open Go Go.RowKit
set_option linter.unusedVariables false
section
variable {C : Ctx} {B : List OF} {E : Env} {a : Act} {w : World} {q : OF} {c : Bool} {b t : Nat}
end
section
variable {P : Program} {C : Ctx} {A B D : List OF} {E : Env} {o : Oper} {x y : Operand} {T T2 e e2 : TypeId} {v : Value} {β : Type} {k : Kd β}
end
section
variable {P : Program} {C : Ctx} {B D L : List OF} {E : Env} {o : Oper} {f : FuncId} {x : Operand}
theorem ob_callD0 {F : Fact} {argTypes : Array TypeId} {args : List Operand} (ho : o.op = .call { callee := .value x, args := args.toArray, argTypes := argTypes }) (hc : Callee E f x [] []) (hb : hasBody P f)
    (hg : ∀ a w, St C B E a w → Gives P f (args.map a.eval) (okB C (idsOf B)) w F) : Ob P C B E o F :=
  ob_callD ho hc hb fun a w s fs gs hf hg' => by obtain rfl := hf.unnil; obtain rfl := hg'.unnil; simpa using hg a w s
theorem ob_callL0 {γ : Type} {F : γ → Fact} {L' B' : γ → List OF} {argTypes : Array TypeId} {args : List Operand} (ho : o.op = .call { callee := .value x, args := args.toArray, argTypes := argTypes }) (hc : Callee E f x [] []) (hb : hasBody P f)
    (p : B.Perm (L ++ D)) (hg : ∀ a w, St C (L ++ D) E a w → GivesX P f (args.map a.eval) (okB C (idsOf (L ++ D))) w L F L') (hB' : ∀ g, B' g = L' g ++ D) : ObX P C B E o B' F :=
  ob_callL ho hc hb p (fun a w s fs gs hf hg' => by obtain rfl := hf.unnil; obtain rfl := hg'.unnil; simpa using hg a w s) hB'
end
end Go.Proofs.Kit
end
section
namespace Go.Proofs.Kit
open Go Go.RowKit
set_option linter.unusedVariables false
def kfr (S : Nat) {α : Type} (k : Kd α) : Kd α where
  sz := k.sz
  agg := k.agg
  rel ok w x cs := k.rel (fun n => ok n ∧ S ≤ n) w x cs
  len := k.len
  one := k.one
  cell1 := k.cell1
  mono h kp := k.mono h fun b hb ho => ⟨(kp b hb ho.1).1, (kp b hb ho.1).2, ho.2⟩
section
variable {P : Program} {C : Ctx} {B A D : List OF} {E : Env} {o : Oper} {α β γ : Type} {k : Kd α} {l : Kd β} {K : Kd γ} {S S' : Nat} {ok : Ok} {w : World} {x : Operand} {f : FuncId} {Fs Gs : List Fact}
theorem kfr_flat (hk : KFlat k) {X : α} {cs : List Value} (h : k.rel ok w X cs) : (kfr S k).rel ok w X cs := hk _ _ _ _ _ _ h
theorem Opd.fr {X : α} (hk : KFlat k) (h : Opd E x (k.V X)) : Opd E x ((kfr S k).V X) := .conv h fun ok w u ⟨cs, h1, h2⟩ => ⟨cs, kfr_flat hk h1, h2⟩
theorem Zr.fr {X : α} {zs : List Value} (h : Zr k X zs) : Zr (kfr S k) X zs := fun ok w => h _ w
theorem TK.fr {T : TypeId} (h : TK P T k) : TK P T (kfr S k) := ⟨h.size, h.agg⟩
theorem ApOk.fr {e : TypeId} {zs : List Value} (h : ApOk P e k zs) : ApOk P e (kfr S k) zs := ⟨h.zero, h.size, h.bytes⟩
theorem LG.fr {off : Nat} {X : α} {Y : β} (h : LG k l off X Y) : LG (kfr S k) (kfr S l) off X Y := fun ok w cs hr => h _ w cs hr
theorem LS.fr {off : Nat} {X X' : α} {Y : β} (h : LS k l off X Y X') : LS (kfr S k) (kfr S l) off X Y X' := fun ok w cs ds h1 h2 => h _ w cs ds h1 h2
theorem ObF.fr {X : α} (h : ObF P C B E o (k.V X)) : Ob P C B E o ((kfr C.w0.heap.size k).V X) := fun a w s => (h a w s).mono fun v w' ⟨h1, h2⟩ => by
  obtain ⟨cs, h3, h4⟩ := h1
  have hs := s.ev.size
  exact ⟨⟨cs, k.mono h3 fun b _ ho => ⟨rfl, ⟨fun hc => absurd hc (by have : w.heap.size ≤ b := ho; omega), fun hm => absurd (s.lt hm) (by have : w.heap.size ≤ b := ho; omega)⟩, by have : w.heap.size ≤ b := ho; omega⟩, h4⟩, h2⟩
theorem ob_callFr {X : α} {argTypes : Array TypeId} {args : List Operand} (ho : o.op = .call { callee := .value x, args := args.toArray, argTypes := argTypes }) (hc : Callee E f x [] []) (hb : hasBody P f)
    (hg : ∀ a w, St C B E a w → Gives P f (args.map a.eval) (okB C (idsOf B)) w ((kfr w.heap.size k).V X)) : ObF P C B E o (k.V X) := fun a w h => by
  obtain ⟨fs, gs, e1, g1, g2⟩ := hc.val h
  obtain rfl := g1.unnil
  obtain rfl := g2.unnil
  unfold Does
  have e : (execOp a.eval o).run P w = .ok (.enter f (args.map a.eval).toArray) w := by
    have := run_callV (P := P) (c := { callee := .value x, args := args.toArray, argTypes := argTypes }) (ρ := a.eval) (ty := o.type) (w := w) rfl e1 hb
    simp only [execOp, ho]; rw [this]; simp
  rw [e]
  have := hg a w h
  unfold Gives at this
  exact this.mono fun e w' ⟨v, he, ⟨cs, h3, h4⟩, hv⟩ => ⟨v, he, ⟨cs, k.mono h3 fun b _ ho => ⟨rfl, ho.2⟩, h4⟩, hv⟩
theorem row_freshFr {v : Value} {e : TypeId} {xs : List α} {n : Nat} (h : (RowF v e (kfr n k) xs).holds ok w) (hn : ∀ b, b ∈ ownIds v → n ≤ b) : ((ksl k).V xs).holds (fun b => n ≤ b) w v := by
  obtain ⟨rs, h1, h2⟩ := h
  have h1' : relL k (fun b => n ≤ b) w xs rs := by
    clear h2
    induction xs generalizing rs with
    | nil => exact h1
    | cons x xs ih =>
      obtain ⟨c, d, rfl, g1, g2⟩ := h1
      exact ⟨c, d, rfl, k.mono g1 fun b _ ho => ⟨rfl, ho.2⟩, ih _ g2⟩
  refine ⟨[v], rowRd (e := e) ⟨rs, h1', h2⟩ hn, ?_⟩
  rcases h2.2 with ⟨rfl, _⟩ | ⟨g, cap, cur, rfl, _⟩ <;> rfl
theorem ob_callFN {δ : Type} {F : Fact} {F' : δ → Fact} {L' : Nat → δ → List OF} {argTypes : Array TypeId} {args : List Operand} (ho : o.op = .call { callee := .value x, args := args.toArray, argTypes := argTypes }) (hc : Callee E f x [] []) (hb : hasBody P f) {B : List OF}
    (hg : ∀ a w, St C B E a w → GivesX P f (args.map a.eval) (okB C (idsOf B)) w [] F' (L' w.heap.size))
    (hF : ∀ n g ok w v, (F' g).holds ok w v → (∀ q, q ∈ L' n g → q.holds ok w) → (∀ b, b ∈ idsOf (L' n g) → n ≤ b) → F.holds (fun b => n ≤ b) w v) : ObF P C B E o F := fun a w h => by
  obtain ⟨fs, gs, e1, g1, g2⟩ := hc.val h
  obtain rfl := g1.unnil
  obtain rfl := g2.unnil
  unfold Does
  have e : (execOp a.eval o).run P w = .ok (.enter f (args.map a.eval).toArray) w := by
    have := run_callV (P := P) (c := { callee := .value x, args := args.toArray, argTypes := argTypes }) (ρ := a.eval) (ty := o.type) (w := w) rfl e1 hb
    simp only [execOp, ho]; rw [this]; simp
  rw [e]
  have := hg a w h
  unfold GivesX at this
  refine this.mono fun e w' ⟨v, he, g, hF', hev, hn, hfr, hown⟩ => ⟨v, he, hF w.heap.size g _ w' v hF' hown (fun b hb => ?_), hev⟩
  rcases hfr b hb with h1 | h1
  · exact h1
  · cases h1
theorem resFr2 {n : Nat} {g v : Value} {e : TypeId} {xs : List α} {F2 : Fact} (hv : (resFact [is g, F2]).holds ok w v) (h : (RowF g e (kfr n k) xs).holds ok w) (hn : ∀ b, b ∈ ownIds g → n ≤ b) (hf : Flat F2) : (resFact [(ksl k).V xs, F2]).holds (fun b => n ≤ b) w v := by
  obtain ⟨vs, a1, a2, a3⟩ := hv
  refine ⟨vs, a1, a2, fun i G u hG hu => ?_⟩
  match i with
  | 0 =>
    simp at hG; subst hG
    have hu' : u = g := a3 0 (is g) u rfl hu
    subst hu'
    exact row_freshFr h hn
  | 1 =>
    simp at hG; subst hG
    exact hf _ _ _ _ _ (a3 1 _ u rfl hu)
  | i + 2 => simp at hG
end
end Go.Proofs.Kit
end
section
namespace Go.Proofs.Kit
open Go Go.RowKit
set_option linter.unusedVariables false
set_option linter.unusedSimpArgs false
abbrev roomV (b m : Nat) : Value := .slice (some ⟨b, 0, none⟩) m m
abbrev roomC (b n m : Nat) : Value := .slice (some ⟨b, 0, none⟩) n m
theorem run_copy_rowN {P : Program} (w : World) (dT sT ty elem : TypeId) (es g o dLen dCap : Nat) (a : Addr) (sLen sCap : Nat) (cur : Array Value) (t : TypeId) (cs : List Value)
    (hu : P.underlying dT = some (.slice elem)) (hs : (P.info? elem).map (·.size) = some es)
    (hg : w.heap[g]? = some (.cells cur t (0, 0))) (hn : cs.length = Nat.min sLen dLen * es)
    (hsrc : ∀ j v, cs[j]? = some v → w.cell? (a.add j) = some v) (hfit : o + cs.length ≤ cur.size) (h1 : ∀ v ∈ cs, v.oneCell' = true) :
    (Builtin.copy_ #[dT, sT] ty #[.slice (some ⟨g, o, none⟩) dLen dCap, .slice (some a) sLen sCap]).run P w =
      .ok (goInt (Nat.min sLen dLen)) (w.setRow g (cur.toList.take o ++ cs ++ cur.toList.drop (o + cs.length)).toArray) := by
  have hl := run_loadCells_list (P := P) w a cs hsrc
  have hst := run_storeCells_at P g o t cs 0 cur w hg (by simpa using hfit) h1
  cases hq : P.info? elem with
  | none => simp [hq] at hs
  | some i =>
    have hi : i.size = es := by simpa [hq] using hs
    simp [Builtin.copy_, run_underlying hu, Builtin.lenOf, Builtin.firstCells, sizeOf, typeInfo, hq, hi, ← hn, hl, hst]
section
variable {P : Program} {C : Ctx} {B B' A D L : List OF} {E : Env} {o : Oper} {β : Type} {k : Kd β} {T T' e : TypeId} {x y : Operand} {i : Operand}
theorem ob_makeRoom {ik ik' : IntKind} {n m : Int} {y0 : β} {zs : List Value} (ho : o.op = .makeSlice T x y) (hT : P.underlying T = some (.slice e)) (ap : ApOk P e k zs) (hz : Zr k y0 zs) (hk : 0 < k.sz) (hx : Opd E x ((kint ik).V n)) (hy : Opd E y ((kint ik').V m)) (hn : 0 ≤ n ∧ n ≤ m ∧ m.toNat ≤ lim) :
    ObX P C B E o (fun b : Nat => RowF (roomV b m.toNat) e k (List.replicate m.toNat y0) :: B) (fun b => is (roomC b n.toNat m.toNat)) := fun a w h => by
  obtain ⟨i, hi⟩ : ∃ i, P.info? e = some i := by
    have := ap.size
    cases hq : P.info? e with
    | none => rw [hq] at this; cases this
    | some i => exact ⟨i, rfl⟩
  have h1 : i.zero = some (mkv k.agg zs) := by simpa [hi] using ap.zero
  have h2 : i.size = k.sz := by simpa [hi] using ap.size
  have h3 : i.bytes ≤ 65536 := by simpa [hi] using ap.bytes
  have hzc := Kd.cells (hz (okB C (idsOf B)) w)
  have hzl := k.len (hz (okB C (idsOf B)) w)
  obtain ⟨hn0, hnm, hnl⟩ := hn
  unfold lim at hnl
  have hb : i.bytes * m.toNat ≤ 281474976710656 := by
    calc i.bytes * m.toNat ≤ 65536 * 2147483648 := Nat.mul_le_mul h3 hnl
      _ ≤ 281474976710656 := by decide
  have hmm : ((m.toNat : Nat) : Int) = m := by omega
  have hbi : (i.bytes : Int) * m ≤ 281474976710656 := by
    have : ((i.bytes * m.toNat : Nat) : Int) ≤ 281474976710656 := by omega
    rw [Int.natCast_mul, hmm] at this; exact this
  obtain ⟨w', hr, hown, hgr⟩ := run_make_full (P := P) w 0 T e i (mkv k.agg zs) k.sz hT hi h1 h2 ik ik m.toNat hb (by unfold maxLen; omega) (Nat.zero_le _)
  rw [hmm] at hr
  have hw' : w' = w.alloc (.cells (madeCells (mkv k.agg zs).cells (m.toNat * k.sz)) e) := by
    have r2 := run_make (P := P) w T e i (mkv k.agg zs) hT hi h1 ik ik m m (by omega) (Int.le_refl _) hbi (by omega)
    rw [hr] at r2
    injection r2 with r3 r4
    rw [r4, h2]
  have hxv : a.eval x = .int ik n := (V_int.1 (h.arg hx)).1
  have hyv : a.eval y = .int ik' m := (V_int.1 (h.arg hy)).1
  have r3 := run_make (P := P) w T e i (mkv k.agg zs) hT hi h1 ik ik' n m hn0 hnm hbi (by omega)
  rw [h2, ← hw'] at r3
  refine .value (w' := w') (v := roomC w.heap.size n.toNat m.toNat) ?_ ⟨w.heap.size, rfl, ?_⟩
  · simp only [execOp, ho, hxv, hyv, r3, Sem.run_bind, Sem.run_pure, Result.andThen_ok]
  · rw [hw']
    refine h.new _ (G := RowF (roomV w.heap.size m.toNat) e k (List.replicate m.toNat y0)) rfl (fun _ => ?_)
    rw [← hw']
    refine ⟨_, ?_, by rw [List.length_replicate]; exact hown⟩
    have := relL_zeros (ok := okB C (idsOf (RowF (roomV w.heap.size m.toNat) e k (List.replicate m.toNat y0) :: B))) (w := w') (hz _ _) m.toNat
    rw [hzl] at this
    have e1 : (madeCells (mkv k.agg zs).cells (m.toNat * k.sz)).toList = (List.range (m.toNat * k.sz)).map fun j => zs.toArray[j % zs.toArray.size]! := by
      have : (mkv k.agg zs).cells = zs.toArray := by rw [← Array.toList_inj, hzc]
      rw [this]; simp [madeCells]
    rw [e1]
    simpa [hzl] using this
theorem ob_lenIs {p : Option Addr} {n m : Nat} (ho : o.op = .call { callee := .builtin .len, args := #[x], argTypes := #[T] }) (hT : P.underlying T = some (.slice e)) (hx : Opd E x (is (.slice p n m))) (hn : n ≤ maxLen) : Ob P C B E o ((kint .i64).V (n : Int)) := fun a w h => by
  have hv : a.eval x = .slice p n m := h.arg hx
  exact .value (w' := w) (v := .int .i64 n) (by simp [execOp, ho, hv, resolve, invoke, builtin, Builtin.len_, run_underlying hT, goInt]) ⟨V_int.2 ⟨rfl, has_len (by omega)⟩, .refl _ _⟩
theorem ob_capIs {p : Option Addr} {n m : Nat} (ho : o.op = .call { callee := .builtin .cap, args := #[x], argTypes := #[T] }) (hT : P.underlying T = some (.slice e)) (hx : Opd E x (is (.slice p n m))) (hn : m ≤ maxLen) : Ob P C B E o ((kint .i64).V (m : Int)) := fun a w h => by
  have hv : a.eval x = .slice p n m := h.arg hx
  exact .value (w' := w) (v := .int .i64 m) (by simp [execOp, ho, hv, resolve, invoke, builtin, Builtin.cap_, run_underlying hT, goInt]) ⟨V_int.2 ⟨rfl, has_len (by omega)⟩, .refl _ _⟩
theorem ob_indexIs {b n m : Nat} {ik : IntKind} {z : Int} (ho : o.op = .indexAddr T x i) (hT : P.underlying T = some (.slice e)) (hs : (P.info? e).map (·.size) = some k.sz) (hx : Opd E x (is (roomC b n m)))
    (hi : Opd E i ((kint ik).V z)) (hb : 0 ≤ z ∧ z < (n : Int)) : Ob P C B E o (is (rowPtr (roomV b m) (z.toNat * k.sz))) := fun a w st => by
  have hv : a.eval x = roomC b n m := st.arg hx
  refine .value (w' := w) (v := .pointer (some ⟨b, z.toNat * k.sz, none⟩)) ?_ ⟨rfl, .refl _ _⟩
  simp [execOp, ho, hv, (V_int.1 (st.arg hi)).1, Instr.indexAt, asIntOf, run_underlying hT, Instr.sureAddr, run_sizeOf' hs, hb.1, hb.2, add_lit]
theorem lendRoom {b n m : Nat} {xs : List β} (hL : RowF (roomV b m) e k xs ∈ L) (hn : n ≤ xs.length) : ∀ ok w u, (is (roomC b n m)).holds ok w u → (∀ q, q ∈ L → q.holds ok w) → (∀ c, c ∈ idsOf L → ok c) → ((ksl k).V (xs.take n)).holds ok w u := by
  rintro ok w u rfl h1 h2
  obtain ⟨cur, rs, hm, hg, hc1, hc2, hc3, hc4, hrel⟩ := row_block (h1 _ hL) rfl
  have hok : ok b := h2 b (mem_idsOf hL (by simp [RowF, ownIds]))
  obtain ⟨r1, _⟩ := relL_split hrel n
  refine ⟨[roomC b n m], ⟨some ⟨b, 0, none⟩, m, by rw [List.length_take, Nat.min_eq_left hn], ⟨by rw [List.length_take]; omega, hc2⟩, fun hn => (by cases hn), _, r1, fun p hp => ?_⟩, rfl⟩
  cases hp
  intro j u hj
  rw [add_lit]
  refine ⟨?_, hok⟩
  have hj2 : rs[j]? = some u := by
    rw [List.getElem?_take] at hj
    split at hj
    · exact hj
    · cases hj
  have : cur.toList[0 + j]? = some u := by
    rw [← hc4, List.getElem?_take] at hj2
    split at hj2
    · simpa using hj2
    · cases hj2
  simp only [World.cell?, hg]
  simpa using this
end
end Go.Proofs.Kit
end
section
namespace Go.Proofs.Kit
open Go Go.RowKit
set_option linter.unusedVariables false
set_option linter.unusedSimpArgs false
section
variable {P : Program} {C : Ctx} {B B' A D L : List OF} {E : Env} {o : Oper} {β : Type} {k : Kd β} {T T' e : TypeId} {x y : Operand} {i : Operand}
theorem ob_copyRoom {b m : Nat} {xs ys : List β} (ho : o.op = .call { callee := .builtin .copy, args := #[x, y], argTypes := #[T, T'] }) (hT : P.underlying T = some (.slice e)) (hs : (P.info? e).map (·.size) = some k.sz)
    (hx : Opd E x (is (roomC b ys.length m))) (hy : Opd E y ((ksl k).V ys)) (hB : B = A ++ RowF (roomV b m) e k xs :: D) (hl : ys.length ≤ xs.length) (hB' : B' = A ++ RowF (roomV b m) e k (ys ++ xs.drop ys.length) :: D) :
    ObX P C B E o (fun _ : Unit => B') (fun _ => (kint .i64).V (ys.length : Int)) := fun a w h => by
  subst hB hB'
  have hx' : a.eval x = roomC b ys.length m := h.arg hx
  obtain ⟨p, cap, hp, hcap, hnil, ds, hd, hc⟩ := V_sl (h.arg hy)
  obtain ⟨cur, cs, hm, hg, hc1, hc2, hc3, hc4, hrel⟩ := row_block (h.own (RowF (roomV b m) e k xs) (by simp)) rfl
  subst hm
  have hle : ys.length * k.sz ≤ xs.length * k.sz := Nat.mul_le_mul_right _ hl
  have hdl := relL_len hd
  have hseg := LS.seg (k := k) (xs := xs) (ys := ys) (n := xs.length) (lo := 0) (by omega) _ w cs ds ⟨rfl, hrel⟩ ⟨rfl, hd⟩
  obtain ⟨hbd, hr'⟩ := hseg
  have e2 : (karr ys.length k).sz = ys.length * k.sz := rfl
  rw [e2, Nat.zero_mul, Nat.zero_add, List.take_zero, List.take_zero, List.nil_append, List.nil_append, Nat.zero_add, ← hdl] at hr'
  have hfit2 : 0 + ds.length ≤ xs.length * k.sz := by omega
  have hturn : St C (A ++ RowF (roomV b xs.length) e k (ys ++ xs.drop ys.length) :: D) E a (w.setRow b (cur.toList.take 0 ++ ds ++ cur.toList.drop (0 + ds.length)).toArray) := by
    refine h.turn (g := RowF (roomV b xs.length) e k (ys ++ xs.drop ys.length)) rfl ⟨rfl, rfl, rfl, by simp, fun q _ hq => setRow_other _ _ _ _ (by simpa [RowF, ownIds] using hq)⟩ (fun kp => ?_)
    refine row_stored (off := 0) hc3 hc1 hc2 hg hfit2 ?_
    rw [hc4]
    have g := (karr xs.length k).mono hr' kp
    simpa only [List.take_zero, List.nil_append, Nat.zero_add] using g
  refine .value (w' := w.setRow b (cur.toList.take 0 ++ ds ++ cur.toList.drop (0 + ds.length)).toArray) (v := goInt ys.length) ?_ ⟨(), V_int.2 ⟨rfl, has_len (by omega)⟩, hturn⟩
  simp only [execOp, ho, resolve, invoke, builtin, Sem.run_bind, Sem.run_pure, Result.andThen_ok, List.map_toArray, List.map_cons, List.map_nil, hx', hp]
  cases p with
  | none =>
    have h0 := hnil rfl
    have h1 : ys = [] := List.eq_nil_of_length_eq_zero (by omega)
    subst h1
    simp only [relL] at hd
    subst hd
    have hs' : ((P.info? e).map (·.size)).isSome = true := by rw [hs]; rfl
    rw [h0]
    rw [show (([] : List β).length) = 0 from rfl, run_copy_nil (P := P) w T T' o.type e ⟨b, 0, none⟩ 0 xs.length hT hs']
    have : (cur.toList.take 0 ++ [] ++ cur.toList.drop (0 + ([] : List Value).length)).toArray = cur := by simp
    rw [this, setRow_self w b cur e (0, 0) hg]; rfl
  | some p =>
    have hmin : Nat.min ys.length ys.length = ys.length := Nat.min_self _
    rw [run_copy_rowN (P := P) w T T' o.type e k.sz b 0 ys.length xs.length p ys.length cap cur e ds hT hs hg (by rw [hmin, hdl]) (fun j v hj => (hc p rfl j v hj).1) (by rw [hc3]; omega) (relL_cell1 hd), hmin]
    rfl
theorem ob_sliceIs {b n m : Nat} {z : Operand} {ik : IntKind} (ho : o.op = .slice T x none (some z) none) (hT : P.underlying T = some (.slice e)) (hs : (P.info? e).map (·.size) = some k.sz) (hx : Opd E x (is (roomC b n m))) (hz : Opd E z ((kint ik).V (m : Int))) (hm : 0 < m) : Ob P C B E o (is (roomV b m)) := fun a w st => by
  have hx' : a.eval x = roomC b n m := st.arg hx
  have hrb := run_bounds (P := P) (l := 0) (h := ((m : Nat) : Int)) (lo := none) (hi := some z) st true n m .none (.some hz) (by omega) (by omega) (by omega)
  refine .value (w' := w) (v := roomV b m) ?_ ⟨rfl, .refl _ _⟩
  simp only [Option.map_none, Option.map_some] at hrb
  simp only [execOp, ho, Instr.sliceAt, Instr.slice, Option.map_none, Option.map_some, Sem.run_bind, run_underlying hT, Result.andThen_ok, hx', Sem.run_pure, hrb]
  have hc : ¬ m = 0 := by omega
  simp [hrb, run_sizeOf' hs, hc, add_lit]
theorem lendRest {b m s lo len : Nat} {xs : List β} (hL : RowF (roomV b m) e k xs ∈ L) (hs : s = k.sz) (hn : lo + len = xs.length) : ∀ ok w u, (slT (roomV b m) s lo len).holds ok w u → (∀ q, q ∈ L → q.holds ok w) → (∀ c, c ∈ idsOf L → ok c) → ((ksl k).V (xs.drop lo)).holds ok w u := by
  intro ok w u hu h1 h2
  subst hs
  obtain ⟨cur, rs, hm, hg, hc1, hc2, hc3, hc4, hrel⟩ := row_block (h1 _ hL) rfl
  have hok : ok b := h2 b (mem_idsOf hL (by simp [RowF, ownIds]))
  rcases hu with ⟨h3, _, _⟩ | ⟨g, n, c, h3, h4, h5, rfl⟩
  · cases h3
  · cases h3
    obtain ⟨_, r2⟩ := relL_split hrel lo
    have hlen : (xs.drop lo).length = len := by rw [List.length_drop]; omega
    refine ⟨[.slice (some ⟨b, soff m 0 lo k.sz, none⟩) len (m - lo)], ⟨some ⟨b, soff m 0 lo k.sz, none⟩, m - lo, by rw [hlen], ⟨by rw [hlen]; omega, by omega⟩, fun hn => (by cases hn), _, r2, fun p hp => ?_⟩, rfl⟩
    cases hp
    intro j u hj
    rw [add_lit]
    refine ⟨?_, hok⟩
    rw [List.getElem?_drop] at hj
    have hlt : lo * k.sz + j < rs.length := by
      rcases Nat.lt_or_ge (lo * k.sz + j) rs.length with q | q
      · exact q
      · rw [List.getElem?_eq_none q] at hj; cases hj
    have hrl := relL_len hrel
    have hso : soff m 0 lo k.sz = lo * k.sz := by
      unfold soff
      by_cases c : m = lo
      · exfalso
        have : lo = xs.length := by omega
        rw [hrl, this] at hlt; omega
      · rw [if_neg c]; omega
    rw [hso]
    have : cur.toList[lo * k.sz + j]? = some u := by
      rw [← hc4, List.getElem?_take] at hj
      split at hj
      · exact hj
      · cases hj
    simp only [World.cell?, hg]
    simpa using this
end
end Go.Proofs.Kit
namespace Go.Proofs.Kit
open Go Go.RowKit
section
variable {P : Program} {C : Ctx} {B : List OF} {E : Env} {o : Oper} {β : Type} {k : Kd β} {T e : TypeId} {x y : Operand}
theorem ob_makeRoomN {ik ik' : IntKind} {n m : Nat} {y0 : β} {zs : List Value} (ho : o.op = .makeSlice T x y) (hT : P.underlying T = some (.slice e)) (ap : ApOk P e k zs) (hz : Zr k y0 zs) (hk : 0 < k.sz) (hx : Opd E x ((kint ik).V (n : Int))) (hy : Opd E y ((kint ik').V (m : Int))) (hn : n ≤ m ∧ m ≤ lim) :
    ObX P C B E o (fun b : Nat => RowF (roomV b m) e k (List.replicate m y0) :: B) (fun b => is (roomC b n m)) := by
  have := ob_makeRoom (C := C) (B := B) ho hT ap hz hk hx hy ⟨by omega, by omega, by rw [Int.toNat_natCast]; exact hn.2⟩
  simpa using this
theorem ob_makeData {ik ik' : IntKind} {n : Nat} {y0 : β} {zs : List Value} (ho : o.op = .makeSlice T x y) (hT : P.underlying T = some (.slice e)) (ap : ApOk P e k zs) (hz : Zr k y0 zs) (hk : 0 < k.sz) (hx : Opd E x ((kint ik).V (n : Int))) (hy : Opd E y ((kint ik').V (n : Int))) (hn : n ≤ lim) :
    Ob P C B E o ((ksl k).V (List.replicate n y0)) := fun a w h => by
  have d := ob_makeRoomN ho hT ap hz hk hx hy ⟨Nat.le_refl _, hn⟩ a w h
  obtain ⟨i, hi⟩ : ∃ i, P.info? e = some i := by
    have := ap.size
    cases hq : P.info? e with
    | none => rw [hq] at this; cases this
    | some i => exact ⟨i, rfl⟩
  have h1 : i.zero = some (mkv k.agg zs) := by simpa [hi] using ap.zero
  have h3 : i.bytes ≤ 65536 := by simpa [hi] using ap.bytes
  have hn' := hn
  unfold lim at hn'
  have hb : i.bytes * n ≤ 281474976710656 := by
    calc i.bytes * n ≤ 65536 * 2147483648 := Nat.mul_le_mul h3 hn'
      _ ≤ 281474976710656 := by decide
  have hbi : (i.bytes : Int) * (n : Int) ≤ 281474976710656 := by
    have : ((i.bytes * n : Nat) : Int) ≤ 281474976710656 := by omega
    rw [Int.natCast_mul] at this; exact this
  have r3 := run_make (P := P) w T e i (mkv k.agg zs) hT hi h1 ik ik' (n : Int) (n : Int) (by omega) (Int.le_refl _) hbi (by omega)
  have hrun : (execOp a.eval o).run P w = .ok (.value (roomC w.heap.size n n)) (w.alloc (.cells (madeCells (mkv k.agg zs).cells (n * i.size)) e)) := by
    simp only [execOp, ho, (V_int.1 (h.arg hx)).1, (V_int.1 (h.arg hy)).1, r3, Sem.run_bind, Sem.run_pure, Result.andThen_ok]; rfl
  unfold Does at d ⊢
  rw [hrun] at d ⊢
  obtain ⟨g, hv, s⟩ := d
  have hv' : roomC w.heap.size n n = roomC g n n := hv
  refine ⟨?_, Ev.alloc _ _⟩
  rw [hv']
  exact St.rowValM (A := []) s
def upto {ρ : Type} (len : Nat) (r : Option ρ) : Nat → Nat → Option ρ
  | 0, _ => none
  | n + 1, i => if i < len then upto len r n (i + 1) else r
theorem upto_eq {ρ : Type} (len : Nat) (r : Option ρ) : ∀ (m n i : Nat), i + m = len → m < n → upto len r n i = r := by
  intro m
  induction m with
  | zero =>
    intro n i h hn
    obtain ⟨n, rfl⟩ : ∃ q, n = q + 1 := ⟨n - 1, by omega⟩
    rw [upto, if_neg (by omega)]
  | succ m ih =>
    intro n i h hn
    obtain ⟨n, rfl⟩ : ∃ q, n = q + 1 := ⟨n - 1, by omega⟩
    rw [upto, if_pos (by omega), ih n (i + 1) (by omega) (by omega)]
end
end Go.Proofs.Kit
end
section
namespace Go.Proofs.Kit
open Go Go.RowKit
set_option linter.unusedVariables false
theorem LSK.in1 {α β γ δ : Type} {k : Kd α} {m : Kd γ} {k' : Kd δ} (l : Kd β) {off : Nat} {x : α × β} {y : γ} {z : δ} (h : LSK k m k' off x.1 y z) : LSK (kpair k l) m (kpair k' l) off x y (z, x.2) := by
  rintro ok w cs ds ⟨c, d, rfl, h1, h2⟩ hy
  obtain ⟨hs, hb, hr⟩ := h ok w c ds h1 hy
  have e1 := k.len h1
  refine ⟨by simp [kpair, hs], by simp only [kpair]; omega, _, d, ?_, hr, h2⟩
  rw [List.take_append_of_le_length (by omega), List.drop_append_of_le_length (by omega)]
  simp only [List.append_assoc]
theorem LG.in1 {α β γ : Type} {k : Kd α} {m : Kd γ} (l : Kd β) {off : Nat} {x : α × β} {y : γ} (hb : off + m.sz ≤ k.sz) (h : LG k m off x.1 y) : LG (kpair k l) m off x y := by
  rintro ok w cs ⟨c, d, rfl, h1, h2⟩
  have g := h ok w c h1
  have e1 := k.len h1
  rw [List.drop_append_of_le_length (by omega), List.take_append_of_le_length (by rw [List.length_drop]; omega)]
  exact g
theorem relL_fr {α : Type} {k : Kd α} {ok : Ok} {w : World} {S S' : Nat} (h : S ≤ S') : ∀ {xs : List α} {rs : List Value}, relL (kfr S' k) ok w xs rs → relL (kfr S k) ok w xs rs := by
  intro xs
  induction xs with
  | nil => intro rs h1; exact h1
  | cons x xs ih =>
    rintro rs ⟨c, d, rfl, g1, g2⟩
    exact ⟨c, d, rfl, k.mono g1 fun b _ ho => ⟨rfl, ho.1, by have := ho.2; omega⟩, ih g2⟩
theorem GivesX.freshRow {P : Program} {f : FuncId} {args : List Value} {ok : Ok} {w : World} {α : Type} {k : Kd α} {e : TypeId} {xs : List α} {S S' : Nat} {F : Value → Fact} (h : GivesX P f args ok w [] F (fun g : Value => [RowF g e (kfr S' k) xs])) (hS : S ≤ S') :
    GivesX P f args ok w [] F (fun g : Value => [RowF g e (kfr S k) xs]) := by
  unfold GivesX at h ⊢
  refine h.mono fun e' w' ⟨v, he, g, hF, hev, hn, hfr, hown⟩ => ⟨v, he, g, hF, hev, hn, hfr, fun q hq => ?_⟩
  rw [List.mem_singleton.1 hq]
  obtain ⟨rs, h1, h2⟩ := hown _ (List.Mem.head _)
  exact ⟨rs, relL_fr hS h1, h2⟩
end Go.Proofs.Kit
end
