/- A kit of this claim's own, part 3: parts of data; operations that read and write memory. No condition. -/
import Derived.Test.YtdlnfgpcnfbjiaaKx2
namespace Go.Proofs.Kit
open Go Go.RowKit
set_option linter.unusedSimpArgs false
set_option linter.unusedVariables false


/-- y is the part of x at 'off' -/
def LG {α β : Type} (K : Kd α) (k : Kd β) (off : Nat) (x : α) (y : β) : Prop := ∀ ok w cs, K.rel ok w x cs → k.rel ok w y ((cs.drop off).take k.sz)
/-- x' is x, y in the place at 'off' -/
def LS {α β : Type} (K : Kd α) (k : Kd β) (off : Nat) (x : α) (y : β) (x' : α) : Prop :=
  ∀ ok w cs ds, K.rel ok w x cs → k.rel ok w y ds → off + k.sz ≤ K.sz ∧ K.rel ok w x' (cs.take off ++ ds ++ cs.drop (off + k.sz))

section
variable {α β γ : Type} {K : Kd α} {k : Kd β} {l : Kd γ}

theorem LG.refl (k : Kd α) (x : α) : LG k k 0 x x := fun ok w cs h => by
  simpa [List.take_of_length_le (Nat.le_of_eq (k.len h))] using h
theorem LG.fst (k : Kd α) (l : Kd β) (x : α × β) : LG (kpair k l) k 0 x x.1 := by
  rintro ok w cs ⟨c, d, rfl, h1, h2⟩
  have := k.len h1
  simpa [List.take_append_of_le_length (Nat.le_of_eq this.symm), List.take_of_length_le (Nat.le_of_eq this)] using h1
theorem LG.snd (k : Kd α) {l : Kd β} {m : Kd γ} {off : Nat} {x : α × β} {y : γ} (h : LG l m off x.2 y) : LG (kpair k l) m (k.sz + off) x y := by
  rintro ok w cs ⟨c, d, rfl, h1, h2⟩
  have := h ok w d h2
  rw [← k.len h1]
  simpa [List.drop_append, List.drop_eq_nil_of_le] using this
theorem LG.iso {f : γ → α} {off : Nat} {x : γ} {y : β} (h : LG K k off (f x) y) : LG (kiso K f) k off x y := h
theorem LG.arr {n : Nat} {xs : List β} {i : Nat} {y : β} (h : xs[i]? = some y) : LG (karr n k) k (i * k.sz) xs y := fun _ _ _ hr => relL_get hr.2 h
theorem LG.trans {o1 o2 : Nat} {x : α} {y : β} {z : γ} (h1 : LG K k o1 x y) (h2 : LG k l o2 y z) (hz : 0 < l.sz) : LG K l (o1 + o2) x z := fun ok w cs h => by
  have a := h1 ok w cs h
  have b := h2 ok w _ a
  have hl := l.len b
  have hk := k.len a
  simp only [List.length_take, List.length_drop] at hl hk
  have : o2 + l.sz ≤ k.sz := by omega
  rwa [List.drop_take, List.drop_drop, List.take_take, Nat.min_eq_left (by omega)] at b

theorem LS.refl (k : Kd α) (x y : α) : LS k k 0 x y y := fun ok w cs ds h1 h2 => by
  have := k.len h1
  refine ⟨by omega, ?_⟩
  simpa [List.drop_eq_nil_of_le (Nat.le_of_eq this)] using h2
theorem LS.fst (k : Kd α) (l : Kd β) (x : α × β) (y : α) : LS (kpair k l) k 0 x y (y, x.2) := by
  rintro ok w cs ds ⟨c, d, rfl, h1, h2⟩ hy
  refine ⟨by simp [kpair], ds, d, ?_, hy, h2⟩
  have := k.len h1
  simp [List.drop_append, List.drop_eq_nil_of_le (Nat.le_of_eq this), this]
theorem LS.snd (k : Kd α) {l : Kd β} {m : Kd γ} {off : Nat} {x : α × β} {y : γ} {z : β} (h : LS l m off x.2 y z) : LS (kpair k l) m (k.sz + off) x y (x.1, z) := by
  rintro ok w cs ds ⟨c, d, rfl, h1, h2⟩ hy
  obtain ⟨hb, hr⟩ := h ok w d ds h2 hy
  refine ⟨by simp only [kpair]; omega, c, _, ?_, h1, hr⟩
  rw [← k.len h1, Nat.add_assoc]
  simp [List.take_append, List.drop_append, List.take_of_length_le, List.drop_eq_nil_of_le]
theorem LS.iso {f : γ → α} {off : Nat} {x x' : γ} {y : β} (h : LS K k off (f x) y (f x')) : LS (kiso K f) k off x y x' := h
theorem LS.arr {n : Nat} {xs : List β} {i : Nat} {y : β} (h : i < xs.length) : LS (karr n k) k (i * k.sz) xs y (xs.set i y) := fun ok w cs ds hr hy => by
  have hb : i * k.sz + k.sz ≤ n * k.sz := by rw [← hr.1, ← Nat.succ_mul]; exact Nat.mul_le_mul_right _ h
  exact ⟨hb, by rw [List.length_set]; exact hr.1, relL_set hr.2 hy h⟩
theorem LS.trans {o1 o2 : Nat} {x x' : α} {y y' : β} {z : γ} (h1 : LG K k o1 x y) (h2 : LS k l o2 y z y') (h3 : LS K k o1 x y' x') : LS K l (o1 + o2) x z x' := fun ok w cs ds h hz => by
  have a := h1 ok w cs h
  obtain ⟨hb, b⟩ := h2 ok w _ ds a hz
  obtain ⟨hc, c⟩ := h3 ok w cs _ h b
  refine ⟨by omega, ?_⟩
  have hcs := K.len h
  have e : cs.take (o1 + o2) ++ ds ++ cs.drop (o1 + o2 + l.sz) = cs.take o1 ++ (((cs.drop o1).take k.sz).take o2 ++ ds ++ ((cs.drop o1).take k.sz).drop (o2 + l.sz)) ++ cs.drop (o1 + k.sz) := by
    rw [List.take_take, Nat.min_eq_left (by omega), List.drop_take, List.drop_drop]
    have e1 : cs.take (o1 + o2) = cs.take o1 ++ (cs.drop o1).take o2 := by rw [List.take_add]
    have e2 : cs.drop (o1 + o2 + l.sz) = (cs.drop (o1 + (o2 + l.sz))).take (k.sz - (o2 + l.sz)) ++ cs.drop (o1 + k.sz) := by
      have := (List.take_append_drop (k.sz - (o2 + l.sz)) (cs.drop (o1 + (o2 + l.sz)))).symm
      rw [List.drop_drop, show o1 + (o2 + l.sz) + (k.sz - (o2 + l.sz)) = o1 + k.sz by omega] at this
      rw [Nat.add_assoc]; exact this
    rw [e1, e2]; simp
  rw [e]; exact c
end

/-- an element, by a whole number -/
def at? {α : Type} (xs : List α) (i : Int) : Option α := if 0 ≤ i then xs[i.toNat]? else none
theorem at?_some {α : Type} {xs : List α} {i : Int} {y : α} (h : at? xs i = some y) : 0 ≤ i ∧ i < xs.length ∧ xs[i.toNat]? = some y := by
  unfold at? at h
  by_cases h0 : 0 ≤ i
  · rw [if_pos h0] at h
    have := (List.getElem?_eq_some_iff.1 h).1
    exact ⟨h0, by omega, h⟩
  · rw [if_neg h0] at h; cases h
/-- a store of an element, by a whole number -/
def set? {α : Type} (xs : List α) (i : Int) (y : α) : Option (List α) := if 0 ≤ i ∧ i < xs.length then some (xs.set i.toNat y) else none
theorem set?_some {α : Type} {xs ys : List α} {i : Int} {y : α} (h : set? xs i y = some ys) : 0 ≤ i ∧ i < xs.length ∧ ys = xs.set i.toNat y := by
  unfold set? at h
  by_cases h0 : 0 ≤ i ∧ i < xs.length
  · rw [if_pos h0] at h; cases h; exact ⟨h0.1, h0.2, rfl⟩
  · rw [if_neg h0] at h; cases h


def isAggD : TypeDesc → Bool
  | .struct _ | .array _ _ => true
  | _ => false
/-- the type T of the program is of this kind -/
structure TK (P : Program) (T : TypeId) {α : Type} (k : Kd α) : Prop where
  size : (P.info? T).map (·.size) = some k.sz
  agg : (P.underlying T).map isAggD = some k.agg

theorem run_sizeOf' {P : Program} {T : TypeId} {s : Nat} (h : (P.info? T).map (·.size) = some s) (w : World) : (sizeOf T).run P w = .ok s w := by
  cases hq : P.info? T with
  | none => simp [hq] at h
  | some i =>
    have hs : i.size = s := by simpa [hq] using h
    simp [sizeOf, typeInfo, hq, hs]
theorem run_isAgg' {P : Program} {T : TypeId} {b : Bool} (h : (P.underlying T).map isAggD = some b) (w : World) : (isAgg T).run P w = .ok b w := by
  cases hq : P.underlying T with
  | none => simp [hq] at h
  | some d =>
    have hs : isAggD d = b := by simpa [hq] using h
    unfold isAgg
    rw [Sem.run_bind, run_underlying hq w]
    subst hs
    cases d <;> rfl

section
variable {P : Program} {α : Type} {k : Kd α} {T : TypeId} {w : World}

theorem run_loadVar' (tk : TK P T k) {a : Addr} {cs : List Value} {x : α} {ok : Ok} (hr : k.rel ok w x cs) (hc : ∀ j v, cs[j]? = some v → w.cell? (a.add j) = some v) : (loadVar T a).run P w = .ok (mkv k.agg cs) w := by
  have hl := run_loadCells_list (P := P) w a cs hc
  rw [k.len hr] at hl
  unfold loadVar
  rw [Sem.run_bind, run_isAgg' tk.agg]
  cases ha : k.agg with
  | true => simp [run_sizeOf' tk.size, hl, mkv]
  | false =>
    obtain ⟨v, rfl, hv⟩ := k.one hr ha
    have : w.cell? a = some v := hc 0 v rfl
    simp [mkv, this]

theorem run_part' (tk : TK P T k) {cs : List Value} {x : α} {ok : Ok} {off : Nat} (hr : k.rel ok w x ((cs.drop off).take k.sz)) : (part T cs.toArray off).run P w = .ok (mkv k.agg ((cs.drop off).take k.sz)) w := by
  unfold part
  rw [Sem.run_bind, run_isAgg' tk.agg]
  cases ha : k.agg with
  | true =>
    simp only [Result.andThen_ok, if_true, Sem.run_bind, run_sizeOf' tk.size, Sem.run_pure, mkv]
    congr 1
    simp [List.extract_eq_take_drop]
  | false =>
    obtain ⟨v, hv, _⟩ := k.one hr ha
    have h0 : cs[off]? = some v := by
      have : ((cs.drop off).take k.sz)[0]? = some v := by rw [hv]; rfl
      rw [List.getElem?_take] at this
      split at this
      · rwa [List.getElem?_drop, Nat.add_zero] at this
      · cases this
    simp [h0, hv, mkv]
end

/-- a pointer into what is owned -/
def ptrB (b off : Nat) : Fact := is (.pointer (some ⟨b, off, none⟩))

theorem add_lit (b off n : Nat) : (⟨b, off, none⟩ : Addr).add n = ⟨b, off + n, none⟩ := by unfold Addr.add; split <;> simp_all

section
variable {P : Program} {C : Ctx} {B : List OF} {E : Env} {o : Oper} {α β γ : Type} {K : Kd α} {k : Kd β} {T U V : TypeId} {x y i : Operand} {b off : Nat} {X X' : α} {Y : β} {ik : IntKind} {n : Int}

theorem BF_cell {w : World} {cs : List Value} (hg : w.heap[b]? = some (.cells cs.toArray U (0, 0))) {j : Nat} {v : Value} (hj : ((cs.drop off).take k.sz)[j]? = some v) : w.cell? ((⟨b, off, none⟩ : Addr).add j) = some v := by
  rw [add_lit]
  have : cs[off + j]? = some v := by
    rw [List.getElem?_take] at hj
    split at hj
    · rwa [List.getElem?_drop] at hj
    · cases hj
  simp [World.cell?, hg, this]

/-- a variable of the call's own is read, whole or in part -/
theorem ob_load (ho : o.op = .load T x) (tk : TK P T k) (hx : Opd E x (ptrB b off)) (hB : BF b U K X ∈ B) (lg : LG K k off X Y) : Ob P C B E o (k.V Y) := fun a w h => by
  obtain ⟨cs, hg, hr⟩ := h.own _ hB
  have hY := lg _ _ _ hr
  have hl := run_loadVar' (w := w) tk hY (a := ⟨b, off, none⟩) (fun j v hj => BF_cell (k := k) hg hj)
  have hx' : a.eval x = .pointer (some ⟨b, off, none⟩) := h.arg hx
  exact .value (w' := w) (v := mkv k.agg ((cs.drop off).take k.sz)) (by simp [execOp, ho, hx', Instr.loadAt, Instr.sureAddr, hl]) ⟨⟨_, hY, rfl⟩, .refl _ _⟩

/-- what nobody writes is read -/
theorem ob_loadr (ho : o.op = .load T x) (tk : TK P T k) (hx : Opd E x (ptrTo k Y)) : Ob P C B E o (k.V Y) := fun a w h => by
  obtain ⟨p, cs, hp, hc, hr⟩ := h.arg hx
  have hl := run_loadVar' (w := w) tk hr (a := p) (fun j v hj => (hc j v hj).1)
  exact .value (w' := w) (v := mkv k.agg cs) (by simp [execOp, ho, hp, Instr.loadAt, Instr.sureAddr, hl]) ⟨⟨_, hr, rfl⟩, .refl _ _⟩

/-- a variable of the call's own is written, whole or in part -/
theorem ob_store {A D B' : List OF} (ho : o.op = .store T x y) (tk : TK P T k) (hx : Opd E x (ptrB b off)) (hy : Opd E y (k.V Y)) (hB : B = A ++ BF b U K X :: D) (ls : LS K k off X Y X') (hB' : B' = A ++ BF b U K X' :: D) :
    ObX P C B E o (fun _ : Unit => B') (fun _ => nofact) := fun a w h => by
  subst hB hB'
  obtain ⟨cs, hg, hr⟩ := h.own (BF b U K X) (by simp)
  obtain ⟨ds, hd, hv⟩ := h.arg hy
  obtain ⟨hb, hr'⟩ := ls _ _ _ _ hr hd
  have hx' : a.eval x = .pointer (some ⟨b, off, none⟩) := h.arg hx
  have hdl := k.len hd
  have hcl := K.len hr
  have hcells : (mkv k.agg ds).cells = ds.toArray := by have := Kd.cells hd; rw [← Array.toList_inj, this]
  have hst := run_storeCells_at P b off U ds 0 cs.toArray w hg (by simp [hdl, hcl]; omega) (k.cell1 hd)
  simp only [Nat.add_zero, hdl] at hst
  refine .skip (w' := w.setRow b (cs.take off ++ ds ++ cs.drop (off + k.sz)).toArray) ?_ ⟨(), trivial, ?_⟩
  · simp [execOp, ho, hx', hv, Instr.storeAt, Instr.sureAddr, storeVar, hcells, run_sizeOf' tk.size, hdl, hst]
  · refine h.turn (g := BF b U K X') rfl ⟨rfl, rfl, rfl, by simp, fun q _ hq => setRow_other _ _ _ _ (by simpa [BF] using hq)⟩ (fun kp => ?_)
    exact ⟨_, setRow_heap _ _ _ _ _ _ hg, K.mono hr' kp⟩

theorem run_zero {P : Program} {T : TypeId} {z : Value} (hz : ((P.info? T).bind (·.zero)) = some z) (w : World) : (zeroValue T).run P w = .ok z w := by
  cases hq : P.info? T with
  | none => simp [hq] at hz
  | some i =>
    have : i.zero = some z := by simpa [hq] using hz
    simp [zeroValue, typeInfo, hq, this]

/-- a new variable -/
theorem ob_alloc {z : Value} (ho : o.op = .alloc T) (hz : ((P.info? T).bind (·.zero)) = some z) (hk : ∀ ok w, k.rel ok w Y z.cells.toList) : ObX P C B E o (fun b => BF b T k Y :: B) (fun b => ptrB b 0) := fun a w h => by
  refine .value (w' := w.alloc (.cells z.cells T)) (v := .pointer (some ⟨w.heap.size, 0, none⟩)) ?_ ⟨w.heap.size, rfl, ?_⟩
  · simp only [execOp, ho, Instr.alloc, newVar, newRow, newObj, Sem.run_bind, run_zero hz, Result.andThen_ok, Sem.run, Sem.run_pure]
    rfl
  · exact h.new (.cells z.cells T) (G := BF w.heap.size T k Y) rfl (fun _ => ⟨z.cells.toList, by simpa using heap_alloc_new w _, hk _ _⟩)

/-- a new variable that holds a value -/
theorem ob_box (ho : o.op = .box T x) (hx : Opd E x (k.V Y)) : ObX P C B E o (fun b => BF b T k Y :: B) (fun b => ptrB b 0) := fun a w h => by
  obtain ⟨cs, hr, hv⟩ := h.arg hx
  have hcells : (mkv k.agg cs).cells = cs.toArray := by have := Kd.cells hr; rw [← Array.toList_inj, this]
  refine .value (w' := w.alloc (.cells cs.toArray T)) (v := .pointer (some ⟨w.heap.size, 0, none⟩)) ?_ ⟨w.heap.size, rfl, ?_⟩
  · simp only [execOp, ho, hv, Instr.box, newVar, newRow, newObj, Sem.run_bind, Result.andThen_ok, Sem.run, Sem.run_pure, hcells]
    rfl
  · exact h.new (.cells cs.toArray T) (G := BF w.heap.size T k Y) rfl (fun kp => ⟨cs, heap_alloc_new w _, k.mono hr kp⟩)

/-- a field's place -/
theorem ob_fieldAddr {fs : Array Field} {f : Field} {j s off' : Nat} (ho : o.op = .fieldAddr T x j) (hT : P.underlying T = some (.struct fs)) (hf : fs[j]? = some f) (hs : (P.info? f.type).map (·.size) = some s) (h0 : s ≠ 0)
    (hx : Opd E x (ptrB b off)) (he : off + f.offset = off') : Ob P C B E o (ptrB b off') := fun a w h => by
  have hx' : a.eval x = .pointer (some ⟨b, off, none⟩) := h.arg hx
  subst he
  exact .value (w' := w) (v := .pointer (some ⟨b, off + f.offset, none⟩)) (by
    simp [execOp, ho, hx', Instr.fieldAt, run_underlying hT, hf, Instr.sureAddr, fieldPlace, run_sizeOf' hs, h0, add_lit]) ⟨rfl, .refl _ _⟩

theorem ptrTo_part {w : World} {ok : Ok} {p : Addr} {cs : List Value} {X : α} (hc : cellsAt ok w p cs) (hr : K.rel ok w X cs) (lg : LG K k off X Y) : (ptrTo k Y).holds ok w (.pointer (some (p.add off))) :=
  ⟨_, _, rfl, cellsAt_take_drop hc off k.sz, lg _ _ _ hr⟩

theorem ob_fieldAddrr {fs : Array Field} {f : Field} {j s : Nat} (ho : o.op = .fieldAddr T x j) (hT : P.underlying T = some (.struct fs)) (hf : fs[j]? = some f) (hs : (P.info? f.type).map (·.size) = some s) (h0 : s ≠ 0)
    (hx : Opd E x (ptrTo K X)) (lg : LG K k f.offset X Y) : Ob P C B E o (ptrTo k Y) := fun a w h => by
  obtain ⟨p, cs, hp, hc, hr⟩ := h.arg hx
  exact .value (w' := w) (v := .pointer (some (p.add f.offset))) (by
    simp [execOp, ho, hp, Instr.fieldAt, run_underlying hT, hf, Instr.sureAddr, fieldPlace, run_sizeOf' hs, h0]) ⟨ptrTo_part hc hr lg, .refl _ _⟩

/-- an element's place: of an array of the call's own -/
theorem ob_indexAddr {len : Nat} {e : TypeId} {s off' : Nat} (ho : o.op = .indexAddr T x i) (hT : P.underlying T = some (.array len e)) (hs : (P.info? e).map (·.size) = some s)
    (hx : Opd E x (ptrB b off)) (hi : Opd E i ((kint ik).V n)) (h0 : 0 ≤ n) (h1 : n < len) (he : off + n.toNat * s = off') : Ob P C B E o (ptrB b off') := fun a w h => by
  have hx' : a.eval x = .pointer (some ⟨b, off, none⟩) := h.arg hx
  subst he
  exact .value (w' := w) (v := .pointer (some ⟨b, off + n.toNat * s, none⟩)) (by
    simp [execOp, ho, hx', (V_int.1 (h.arg hi)).1, Instr.indexAt, asIntOf, run_underlying hT, Instr.sureAddr, run_sizeOf' hs, h0, h1, add_lit]) ⟨rfl, .refl _ _⟩

/-- .. of a slice -/
theorem ob_indexAddrs {e : TypeId} {xs : List β} (ho : o.op = .indexAddr T x i) (hT : P.underlying T = some (.slice e)) (hs : (P.info? e).map (·.size) = some k.sz)
    (hx : Opd E x ((ksl k).V xs)) (hi : Opd E i ((kint ik).V n)) (hy : at? xs n = some Y) : Ob P C B E o (ptrTo k Y) := fun a w h => by
  obtain ⟨p, cap, hp, hcap, hnil, rs, hr, hc⟩ := V_sl (h.arg hx)
  obtain ⟨h0, h1, h2⟩ := at?_some hy
  cases p with
  | none => have := hnil rfl; omega
  | some p =>
    refine .value (w' := w) (v := .pointer (some (p.add (n.toNat * k.sz)))) (by
      simp [execOp, ho, hp, (V_int.1 (h.arg hi)).1, Instr.indexAt, asIntOf, run_underlying hT, run_sizeOf' hs, h0, h1]) ⟨?_, .refl _ _⟩
    exact ⟨_, _, rfl, cellsAt_take_drop (hc p rfl) _ k.sz, relL_get hr h2⟩

/-- a byte of a string -/
theorem ob_indexStr {l : List Int} {c : Int} (ho : o.op = .index T x i) (hT : P.underlying T = some .string) (hx : Opd E x (kstr.V l)) (hi : Opd E i ((kint ik).V n)) (hy : at? l n = some c) : Ob P C B E o ((kint .u8).V c) := fun a w h => by
  obtain ⟨s, hs, rfl, _⟩ := V_str.1 (h.arg hx)
  obtain ⟨h0, h1, h2⟩ := at?_some hy
  have hb : s[n.toNat]? = some (UInt8.ofNat c.toNat) ∧ ((UInt8.ofNat c.toNat).toNat : Int) = c := by
    unfold bl at h2
    rw [List.getElem?_map] at h2
    cases hq : s.data.toList[n.toNat]? with
    | none => rw [hq] at h2; cases h2
    | some u =>
      rw [hq] at h2; simp at h2; subst h2
      have : s[n.toNat]? = some u := by
        have h3 : s.data[n.toNat]? = some u := by simpa using hq
        have h4 := (Array.getElem?_eq_some_iff.1 h3)
        obtain ⟨h5, h6⟩ := h4
        have h7 : n.toNat < s.size := h5
        rw [getElem?_pos s n.toNat h7]
        exact congrArg some h6
      simp [this]
  have hc := bl_range h2
  refine .value (w' := w) (v := .int .u8 c) ?_ ⟨V_int.2 ⟨rfl, ?_⟩, .refl _ _⟩
  · simp [execOp, ho, hs, (V_int.1 (h.arg hi)).1, Instr.index, asIntOf, run_underlying hT, h0, hb.1, hb.2]; try omega
  · unfold IntKind.has; simp [IntKind.min, IntKind.max, IntKind.signed, IntKind.bits]; omega

/-- a pointer that is not nil -/
theorem ob_nilCheck (ho : o.op = .nilCheck x) (hx : Opd E x (ptrB b off)) : Ob P C B E o (ptrB b off) := fun a w h => by
  have hx' : a.eval x = .pointer (some ⟨b, off, none⟩) := h.arg hx
  exact .value (w' := w) (v := .pointer (some ⟨b, off, none⟩)) (by simp [execOp, ho, hx']) ⟨rfl, .refl _ _⟩

/-- a result out of several -/
theorem ob_extract {l : List Fact} {F : Fact} {j : Nat} (ho : o.op = .extract x j) (hx : Opd E x (tup l)) (hj : l[j]? = some F) : Ob P C B E o F := fun a w h => by
  obtain ⟨vs, hv, hl, hf⟩ := h.arg hx
  have hlt : j < vs.length := by rw [hl]; exact (List.getElem?_eq_some_iff.1 hj).1
  refine .value (w' := w) (v := vs[j]) ?_ ⟨hf j F _ hj (List.getElem?_eq_getElem hlt), .refl _ _⟩
  simp [execOp, ho, hv, Instr.extract, hlt]


theorem has_len {n : Nat} (h : n ≤ maxLen) : IntKind.i64.has n := by
  unfold IntKind.has; simp [IntKind.min, IntKind.max, IntKind.signed, IntKind.bits]; unfold maxLen at h; omega
theorem ob_lens {e : TypeId} {xs : List β} (ho : o.op = .call { callee := .builtin .len, args := #[x], argTypes := #[T] }) (hT : P.underlying T = some (.slice e)) (hx : Opd E x ((ksl k).V xs)) : Ob P C B E o ((kint .i64).V xs.length) := fun a w h => by
  obtain ⟨p, cap, hp, hcap, _⟩ := V_sl (h.arg hx)
  exact .value (w' := w) (v := .int .i64 xs.length) (by simp [execOp, ho, hp, resolve, invoke, builtin, Builtin.len_, run_underlying hT, goInt]) ⟨V_int.2 ⟨rfl, has_len (by omega)⟩, .refl _ _⟩
theorem ob_lenStr {l : List Int} (ho : o.op = .call { callee := .builtin .len, args := #[x], argTypes := #[T] }) (hT : P.underlying T = some .string) (hx : Opd E x (kstr.V l)) : Ob P C B E o ((kint .i64).V l.length) := fun a w h => by
  obtain ⟨s, hs, rfl, hm⟩ := V_str.1 (h.arg hx)
  exact .value (w' := w) (v := .int .i64 (bl s).length) (by simp [execOp, ho, hs, resolve, invoke, builtin, Builtin.len_, run_underlying hT, goInt, bl_length]) ⟨V_int.2 ⟨rfl, has_len (by rwa [bl_length])⟩, .refl _ _⟩
end

end Go.Proofs.Kit
