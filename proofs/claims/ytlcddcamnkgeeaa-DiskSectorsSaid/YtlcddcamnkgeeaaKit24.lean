/- A kit of this claim's own, part 24: strings.Builder: an object that holds its own address; a row that becomes a text. No condition. -/
import Derived.Test.YtlcddcamnkgeeaaKit23
import Derived.Lib.Builder
import Derived.Lib.UnsafeStr
namespace Go.Proofs.Kit
open Go Go.RowKit
set_option linter.unusedSimpArgs false
set_option linter.unusedVariables false

/-! #### an object's own address, or none -/
def bad (b : Nat) (x : Bool) : Value := .pointer (if x then some ⟨b, 0, none⟩ else none)
def kbad (b : Nat) : Kd Bool where
  sz := 1
  agg := false
  rel _ _ x cs := cs = [bad b x]
  len := by rintro ok w x cs rfl; rfl
  one := by rintro ok w x cs rfl _; exact ⟨_, rfl, rfl⟩
  cell1 := by rintro ok w x cs rfl u hu; simp at hu; subst hu; rfl
  mono := fun h _ => h
theorem V_kbad {b : Nat} {x : Bool} : ∀ ok w u, ((kbad b).V x).holds ok w u → (is (bad b x)).holds ok w u := fun ok w u ⟨cs, h, e⟩ => by
  cases h; exact e
theorem Zr.bad (b : Nat) : Zr (kbad b) false [.pointer none] := fun _ _ => rfl
theorem KFlat.bad (b : Nat) : KFlat (kbad b) := fun _ _ _ _ _ _ h => h
theorem self_bad {b : Nat} : ∀ ok w u, (ptrB b 0).holds ok w u → ((kbad b).V true).holds ok w u := fun ok w u h => ⟨[bad b true], rfl, h⟩
theorem opd_nilIface {E : Env} : Opd E (.const .nilIface) ((kis .nilIface).V ()) := .const fun _ _ => ⟨[.nilIface], ⟨rfl, rfl, rfl⟩, rfl⟩
theorem zr_nilIface : Zr (kis .nilIface) () [.nilIface] := fun _ _ => ⟨rfl, rfl, rfl⟩

/-- the function f has no body: it hands back what it is handed -/
def isNoEscape (P : Program) (f : FuncId) : Prop := ∃ fn, P.funcs[f]? = some fn ∧ (fn.name == "runtime.NumGoroutine") = false ∧ fn.body.isNone = true ∧ (Extern.findNext fn).isNone = true ∧ Extern.find fn = some Extern.AbiNoEscape.same

section
variable {P : Program} {C : Ctx} {B B' A D : List OF} {E : Env} {o : Oper} {α β : Type} {K : Kd α} {k : Kd β} {T T' T'' U u S e : TypeId} {x y : Operand} {b : Nat} {v : Value} {X : α} {p : Bool}

theorem ob_newAt {kk : Nat → Kd β} {agg : Bool} {zs : List Value} {Y : β} (ho : o.op = .alloc T) (ha : ∀ b, (kk b).agg = agg) (hz : ((P.info? T).bind (·.zero)) = some (mkv agg zs)) (hk : ∀ b, Zr (kk b) Y zs) : ObX P C B E o (fun b => BF b T (kk b) Y :: B) (fun b => ptrB b 0) := fun a w h => by
  have hc : (mkv agg zs).cells.toList = zs := by
    have := Kd.cells (hk 0 (okB C (idsOf B)) w)
    rw [ha 0] at this; exact this
  refine .value (w' := w.alloc (.cells (mkv agg zs).cells T)) (v := .pointer (some ⟨w.heap.size, 0, none⟩)) ?_ ⟨w.heap.size, rfl, ?_⟩
  · simp only [execOp, ho, Instr.alloc, newVar, newRow, newObj, Sem.run_bind, run_zero hz, Result.andThen_ok, Sem.run, Sem.run_pure]
    rfl
  · refine h.new (.cells (mkv agg zs).cells T) (G := BF w.heap.size T (kk w.heap.size) Y) rfl (fun _ => ⟨zs, ?_, hk _ _ _⟩)
    have he : (mkv agg zs).cells = zs.toArray := by rw [← Array.toList_inj, hc]
    rw [he]
    exact heap_alloc_new w _

theorem ob_badNil (ho : o.op = .binOp .eql T x y T'') (hT : P.underlying T = some (.pointer (P.pointee T))) (hx : Opd E x (is (bad b p))) (hy : Opd E y (is (.pointer none))) : Ob P C B E o (kbool.V (!p)) := fun a w h => by
  have h1 : a.eval x = bad b p := h.arg hx
  have h2 : a.eval y = .pointer none := h.arg hy
  unfold bad at h1
  cases p with
  | true => exact .value (w' := w) (v := .bool false) (by simp [execOp, ho, h1, h2, eqGuard, run_eql_pointer_nil w T _ hT]) ⟨V_bool.2 rfl, .refl _ _⟩
  | false => exact .value (w' := w) (v := .bool true) (by simp [execOp, ho, h1, h2, eqGuard, run_eql_pointer_nil w T _ hT]) ⟨V_bool.2 rfl, .refl _ _⟩

theorem ob_badSelf (ho : o.op = .binOp .neq T x y T'') (hT : P.underlying T = some (.pointer u)) (hu : (P.info? u).isSome = true) (hx : Opd E x (is (bad b p))) (hy : Opd E y (ptrB b 0)) : Ob P C B E o (kbool.V (!p)) := fun a w h => by
  have h1 : a.eval x = bad b p := h.arg hx
  have h2 : a.eval y = .pointer (some ⟨b, 0, none⟩) := h.arg hy
  obtain ⟨j, hj⟩ := Option.isSome_iff_exists.1 hu
  unfold bad at h1
  cases p with
  | true => exact .value (w' := w) (v := .bool false) (by simp [execOp, ho, h1, h2, eqGuard, Lib.run_neq_ptr_same w ⟨b, 0, none⟩ hT hj]) ⟨V_bool.2 rfl, .refl _ _⟩
  | false =>
    have hrun : (binOp .neq T (.pointer none) (.pointer (some ⟨b, 0, none⟩))).run P w = .ok (.bool true) w := by
      have h : ∀ d : Nat, (Op.equalIn (d + 1) T (.pointer none) (.pointer (some ⟨b, 0, none⟩))).run P w = .ok false w := fun d => by
        simp [Op.equalIn, run_underlying hT]
      simp only [binOp]
      simp [Op.equal, Op.maxDepth, h 9999]
    exact .value (w' := w) (v := .bool true) (by simp [execOp, ho, h1, h2, eqGuard, hrun]) ⟨V_bool.2 rfl, .refl _ _⟩

theorem BF_shape {ok : Ok} {w : World} (h : (BF b U K X).holds ok w) : w.shape? b = some (U, K.sz) := by
  obtain ⟨cs, hg, hr⟩ := h
  have := K.len hr
  simp [World.shape?, hg, this]

theorem ob_toUnsafe (ho : o.op = .convert S T x) (hS : P.underlying S = some (.pointer u)) (hT : P.underlying T = some .unsafePointer) (hu : (P.info? u).map (fun j => decide (j.size = 0)) = some false) (hx : Opd E x (ptrB b 0)) (hB : BF b U K X ∈ B) (hK : 0 < K.sz) : Ob P C B E o (ptrB b 0) := fun a w h => by
  have hx' : a.eval x = .pointer (some ⟨b, 0, none⟩) := h.arg hx
  obtain ⟨j, hj, hs⟩ := Option.map_eq_some_iff.1 hu
  have hrun := Lib.run_to_unsafe (P := P) w ⟨b, 0, none⟩ hS hT hj (by simpa using hs) (BF_shape (h.own _ hB)) hK
  exact .value (w' := w) (v := .pointer (some ⟨b, 0, none⟩)) (by simp [execOp, ho, hx', hrun]) ⟨rfl, .refl _ _⟩

theorem ob_fromUnsafe (ho : o.op = .convert S T x) (hS : P.underlying S = some .unsafePointer) (hT : P.underlying T = some (.pointer u)) (hu : (P.info? u).isSome = true) (hx : Opd E x (ptrB b 0)) (hB : BF b U K X ∈ B)
    (hl : liesAt P P.depth U (K.sz / P.cellsOf U) 0 u 1 = true) : Ob P C B E o (ptrB b 0) := fun a w h => by
  have hx' : a.eval x = .pointer (some ⟨b, 0, none⟩) := h.arg hx
  obtain ⟨j, hj⟩ := Option.isSome_iff_exists.1 hu
  have hrun := Lib.run_from_unsafe (P := P) w ⟨b, 0, none⟩ hS hT hj (BF_shape (h.own _ hB)) hl
  exact .value (w' := w) (v := .pointer (some ⟨b, 0, none⟩)) (by simp [execOp, ho, hx', hrun]) ⟨rfl, .refl _ _⟩

theorem ob_noEscape {f : FuncId} {ats : Array TypeId} (ho : o.op = .call { callee := .value (.func f), args := #[x], argTypes := ats }) (hf : isNoEscape P f) (hx : Opd E x (ptrB b 0)) : Ob P C B E o (ptrB b 0) := fun a w h => by
  obtain ⟨fn, h1, h2, h3, h4, h5⟩ := hf
  have hn : Extern.findNext fn = none := by simpa using h4
  have hx' : a.eval x = .pointer (some ⟨b, 0, none⟩) := h.arg hx
  refine .value (w' := w) (v := .pointer (some ⟨b, 0, none⟩)) ?_ ⟨rfl, .refl _ _⟩
  have e := run_callFunc_extern (P := P) (args := #[a.eval x]) (w := w) h1 h2 h3 hn h5
  simp only [execOp, ho, resolve, Deferred.ofValue, Sem.run_bind, Sem.run_pure, Result.andThen_ok, invoke]
  have e2 : a.eval (.func f) = .func (.func f) #[] #[] := rfl
  simp only [e2, Deferred.ofValue, Sem.run_pure, Result.andThen_ok, invoke, List.map_toArray, List.map_cons, List.map_nil]
  rw [hx', Lib.run_noEscape] at e
  simpa [hx'] using e

/-! #### a row becomes a text -/
theorem ob_sliceData {xs : List β} (ho : o.op = .call { callee := .builtin .unsafeSliceData, args := #[x], argTypes := #[T] }) (hx : Opd E x (is v)) (hB : RowF v e k xs ∈ B) (h0 : 0 < xs.length) : Ob P C B E o (ptrR v 0) := fun a w h => by
  have hx' : a.eval x = v := h.arg hx
  obtain ⟨rs, hr, hl, hv⟩ := h.own _ hB
  rcases hv with ⟨rfl, h1⟩ | ⟨g, cap, cur, rfl, _, hg, h1, _⟩
  · omega
  · refine .value (w' := w) (v := .pointer (some ⟨g, 0, none⟩)) ?_ ⟨⟨_, _, _, rfl, rfl⟩, .refl _ _⟩
    have := Lib.run_unsafeSliceData_row (P := P) (w := w) #[T] o.type ⟨g, 0, none⟩ xs.length cap (by omega)
    simp only [execOp, ho, resolve, invoke, builtin, Sem.run_bind, Sem.run_pure, Result.andThen_ok, List.map_toArray, List.map_cons, List.map_nil, hx']
    rw [this]; rfl

/-- what stands there no longer -/
def GoneF (v : Value) : OF where
  ids := ownIds v
  holds _ w := ∀ b, b ∈ ownIds v → b < w.heap.size
  lt := fun h b hb => h b hb
  mono := fun {ok ok' w w'} h kp hs b hb => by
    have h1 := hs b hb
    have h2 := h b hb
    rcases Nat.lt_or_ge b w'.heap.size with h3 | h3
    · exact h3
    · rw [Array.getElem?_eq_none h3, Array.getElem?_eq_getElem h2] at h1; cases h1

theorem ob_unsafeString {xs : List Int} {T2 : TypeId} (ho : o.op = .call { callee := .builtin .unsafeString, args := #[x, y], argTypes := #[T, T2] }) (hT : P.underlying T = some (.pointer e)) (hc : P.cellsOf e = 1) (hx : Opd E x (ptrR v 0)) (hy : Opd E y ((kint .i64).V (xs.length : Int)))
    (hB : B = A ++ RowF v e (kint .u8) xs :: D) (h0 : 0 < xs.length) : ObX P C B E o (fun _ : Unit => A ++ D) (fun _ => kstr.V xs) := fun a w h => by
  subst hB
  obtain ⟨g, n', c, rfl, hx'⟩ := h.arg hx
  obtain ⟨cur, rs, hn', hg, hc1, hc2, hc3, hc4, hr⟩ := row_block (h.own (RowF (.slice (some ⟨g, 0, none⟩) n' c) e (kint .u8) xs) (by simp)) rfl
  subst hn'
  have hy' : a.eval y = .int .i64 (xs.length : Int) := (V_int.1 (h.arg hy)).1
  -- the bytes
  have hcell : ∀ (l : List Int) (rs : List Value), relL (kint .u8) (okB C (idsOf (A ++ RowF (.slice (some ⟨g, 0, none⟩) xs.length c) e (kint .u8) xs :: D))) w l rs → ∃ bs : List UInt8, bs.length = l.length ∧ l = bs.map (fun (u : UInt8) => (u.toNat : Int)) ∧ ∀ (j : Nat) (u : UInt8), bs[j]? = some u → rs[j]? = some (Value.int .u8 u.toNat) := by
    intro l
    induction l with
    | nil => intro rs _; exact ⟨[], rfl, rfl, fun j u h => by simp at h⟩
    | cons z l ih =>
      intro rs hr
      obtain ⟨c1, c2, rfl, h1, h2⟩ := hr
      obtain ⟨bs, e1, e2, e3⟩ := ih c2 h2
      obtain ⟨rfl, hz⟩ := h1
      have hz2 : 0 ≤ z ∧ z ≤ 255 := hz
      refine ⟨UInt8.ofNat z.toNat :: bs, by simp [e1], ?_, fun j u hj => ?_⟩
      · have : ((UInt8.ofNat z.toNat).toNat : Int) = z := by
          rw [UInt8.toNat_ofNat_of_lt' (show z.toNat < 256 by omega)]; omega
        rw [List.map_cons, this, ← e2]
      · cases j with
        | zero =>
          simp at hj; subst hj
          have : ((UInt8.ofNat z.toNat).toNat : Int) = z := by
            rw [UInt8.toNat_ofNat_of_lt' (show z.toNat < 256 by omega)]; omega
          rw [this]; rfl
        | succ j => simp at hj ⊢; exact e3 j u hj
  obtain ⟨bs, hbl, hbx, hbc⟩ := hcell xs rs hr
  have hrun := Lib.run_unsafeString_row (P := P) w T T2 o.type e hT hc g cur.size (by simp [World.shape?, hg]) bs (by intro hn; subst hn; simp at hbl; omega) (by rw [hbl, hc3]; simp [kint]; omega) (by rw [hbl]; unfold maxLen at hc2; omega) (fun j u hj => by
    have h1 := hbc j u hj
    rw [← hc4, List.getElem?_take] at h1
    split at h1
    · rw [add_lit]
      simp only [World.cell?, hg]
      simpa using h1
    · cases h1)
  rw [hbl] at hrun
  have f1 : (w.freeze ⟨g, 0, none⟩ xs.length).os = w.os := by unfold World.freeze; split <;> rfl
  have f2 : (w.freeze ⟨g, 0, none⟩ xs.length).tape = w.tape := by unfold World.freeze; split <;> rfl
  have f3 : (w.freeze ⟨g, 0, none⟩ xs.length).output = w.output := by unfold World.freeze; split <;> rfl
  have hsz : (w.freeze ⟨g, 0, none⟩ xs.length).heap.size = w.heap.size := by unfold World.freeze; split <;> simp
  have f5 : ∀ q, g ≠ q → (w.freeze ⟨g, 0, none⟩ xs.length).heap[q]? = w.heap[q]? := fun q hq => by
    unfold World.freeze
    split
    · rfl
    · simp [Array.getElem?_modify, hq]
  refine .value (w' := w.freeze ⟨g, 0, none⟩ xs.length) (v := .string ⟨bs.toArray⟩) ?_ ⟨(), ?_, ?_⟩
  · simp only [execOp, ho, resolve, invoke, builtin, Sem.run_bind, Sem.run_pure, Result.andThen_ok, List.map_toArray, List.map_cons, List.map_nil, hx', hy']
    rw [hrun]; rfl
  · refine V_str.2 ⟨⟨bs.toArray⟩, rfl, ?_, ?_⟩
    · rw [hbx]; simp [bl]
    · show bs.toArray.size ≤ maxLen
      simp [hbl]; omega
  · have h2 := h.turn (f := RowF (.slice (some ⟨g, 0, none⟩) xs.length c) e (kint .u8) xs) (g := GoneF (.slice (some ⟨g, 0, none⟩) xs.length c)) rfl
      (w' := w.freeze ⟨g, 0, none⟩ xs.length) ⟨f1, f2, f3, by rw [hsz]; exact Nat.le_refl _, fun q _ hq => f5 q (fun e1 => hq (by simp [RowF, ownIds, e1]))⟩ (fun _ => fun q hq => by
        rw [hsz]
        simp [ownIds] at hq
        subst hq
        exact lt_of_heap hg)
    exact h2.drop
end

end Go.Proofs.Kit
