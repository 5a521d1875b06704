/- A kit of this claim's own, part 22: pointers as data; maps of the call's own; a comparison of bytes that has no body; things that are owned under a condition. No condition. -/
import Derived.Test.YtdlnfgpcnfbjiaaKx21
import Derived.MapKept
import Derived.Carry
import Derived.Lib.BytesEntry
import Derived.Laws.Externs
import Derived.Laws.Cover3
namespace Go.Proofs.Kit
open Go Go.RowKit
set_option linter.unusedSimpArgs false
set_option linter.unusedVariables false


theorem kis_is {v : Value} : ∀ ok w u, ((kis v).V ()).holds ok w u → (is v).holds ok w u := fun ok w u h => V_kis h
theorem is_kis {v : Value} (h1 : v.cells = #[v]) (h2 : v.oneCell' = true) (h3 : mkv false [v] = v) : ∀ ok w u, (is v).holds ok w u → ((kis v).V ()).holds ok w u := fun ok w u h => ⟨[v], ⟨rfl, h1, h2⟩, by rw [show u = v from h]; exact h3.symm⟩


def mget : List (Int × Bool) → Int → Bool
  | [], _ => false
  | (a, x) :: m, k => if a = k then x else mget m k
def mput : List (Int × Bool) → Int → Bool → List (Int × Bool)
  | [], k, x => [(k, x)]
  | (a, y) :: m, k, x => if a = k then (a, x) :: m else (a, y) :: mput m k x
theorem mget_mput (m : List (Int × Bool)) (k : Int) (x : Bool) (j : Int) : mget (mput m k x) j = if k = j then x else mget m j := by
  induction m with
  | nil => simp [mput, mget]
  | cons p m ih =>
    obtain ⟨a, y⟩ := p
    by_cases h : a = k
    · subst h
      simp only [mput, if_pos, mget]
      by_cases h2 : a = j <;> simp [h2]
    · simp only [mput, if_neg h, mget, ih]
      by_cases h2 : a = j
      · subst h2; simp [Ne.symm h]
      · simp [h2]

def mlist (es : List MapEntry) : List (Value × Value) := es.map fun e => (e.key, e.val)
def mcells (ik : IntKind) (m : List (Int × Bool)) : List (Value × Value) := m.map fun p => (.int ik p.1, .bool p.2)

def MapF (b : Nat) (ik : IntKind) (m : List (Int × Bool)) : OF where
  ids := [b]
  holds ok w := ∃ es clock, w.heap[b]? = some (.map es clock) ∧ mlist es.toList = mcells ik m
  lt := by rintro ok w ⟨es, clock, h, _⟩ c hc; simp at hc; subst hc; exact lt_of_heap h
  mono := by rintro ok ok' w w' ⟨es, clock, h1, h2⟩ kp hs; exact ⟨es, clock, (hs b (by simp)).trans h1, h2⟩

theorem find_map {ik : IntKind} {n : Int} : ∀ (es : List MapEntry) (m : List (Int × Bool)) (i : Nat), mlist es = mcells ik m →
    (Instr.findNow (.int ik) (.int ik n) es i = some none ∧ mget m n = false ∧ ∀ x, mcells ik (mput m n x) = mlist es ++ [(.int ik n, .bool x)]) ∨
    ∃ j e, Instr.findNow (.int ik) (.int ik n) es i = some (some (i + j, e.val)) ∧ es[j]? = some e ∧ e.key = .int ik n ∧ e.val = .bool (mget m n) ∧ ∀ x e', e'.key = .int ik n → e'.val = .bool x → mcells ik (mput m n x) = mlist (es.set j e')
  | [], [], i, _ => .inl ⟨rfl, rfl, fun x => rfl⟩
  | [], _ :: _, _, h => by simp [mlist, mcells] at h
  | _ :: _, [], _, h => by simp [mlist, mcells] at h
  | e :: es, (a, x) :: m, i, h => by
    simp only [mlist, mcells, List.map_cons, List.cons.injEq, Prod.mk.injEq] at h
    obtain ⟨⟨hk, hv⟩, ht⟩ := h
    by_cases han : a = n
    · subst han
      refine .inr ⟨0, e, by simp [Instr.findNow, Instr.sameNow, hk], rfl, hk, by rw [hv]; simp [mget], fun x' e' h1 h2 => ?_⟩
      simp [mput, mcells, mlist, h1, h2]
      exact ht.symm
    · have hne : (n == a) = false := by simpa using Ne.symm han
      rcases find_map (n := n) es m (i + 1) ht with ⟨h1, h2, h3⟩ | ⟨j, e1, h1, h2, h3, h4, h5⟩
      · refine .inl ⟨by simp [Instr.findNow, Instr.sameNow, hk, hne, h1], by simp [mget, han, h2], fun x' => ?_⟩
        simp only [mput, if_neg han, mcells, mlist, List.map_cons, List.cons_append, hk, hv]
        exact congrArg _ (h3 x')
      · refine .inr ⟨j + 1, e1, by simp [Instr.findNow, Instr.sameNow, hk, hne, h1]; omega, by simpa using h2, h3, by simp [mget, han, h4], fun x' e' h6 h7 => ?_⟩
        simp only [mput, if_neg han, mcells, mlist, List.map_cons, List.set_cons_succ, hk, hv]
        exact congrArg _ (h5 x' e' h6 h7)

section
variable {P : Program} {C : Ctx} {B B' A D : List OF} {E : Env} {o : Oper} {T kT eT : TypeId} {x y i : Operand} {b : Nat} {ik : IntKind} {m : List (Int × Bool)} {n : Int} {p : Bool}

theorem ob_makeMap (ho : o.op = .makeMap T none) : ObX P C B E o (fun b => MapF b ik [] :: B) (fun b => is (.map (some b))) := fun a w h => by
  refine .value (w' := w.alloc (.map #[] 0)) (v := .map (some w.heap.size)) ?_ ⟨w.heap.size, rfl, ?_⟩
  · simp only [execOp, ho, Option.map_none, Sem.run_bind, run_makeMap, Result.andThen_ok, Sem.run_pure]
  · exact h.new (.map #[] 0) (G := MapF w.heap.size ik []) rfl (fun _ => ⟨#[], 0, heap_alloc_new w _, rfl⟩)

theorem run_getObj {w : World} {r : Nat} {es : Array MapEntry} {c : Nat} (h : w.heap[r]? = some (.map es c)) : (getObj r).run P w = .ok (.map es c) w := by
  simp [getObj, Sem.run, h]
theorem run_setObj {w : World} {r : Nat} {es : Array MapEntry} {c : Nat} {o' : Obj} (h : w.heap[r]? = some (.map es c)) : (setObj r o').run P w = .ok () { w with heap := w.heap.setIfInBounds r o' } := by
  simp [setObj, Sem.run, h]

theorem ob_lookup (ho : o.op = .lookup T x i false) (hT : P.underlying T = some (.map kT eT)) (hk : P.underlying kT = some (.int ik)) (hz : ((P.info? eT).bind (·.zero)) = some (.bool false)) (hx : Opd E x (is (.map (some b)))) (hi : Opd E i ((kint ik).V n)) (hB : MapF b ik m ∈ B) : Ob P C B E o (kbool.V (mget m n)) := fun a w h => by
  obtain ⟨es, clock, hg, hm⟩ := h.own _ hB
  have hx' : a.eval x = .map (some b) := h.arg hx
  have hi' := (V_int.1 (h.arg hi)).1
  have hck : ∀ em, (Instr.checkKey em 10000 kT (.int ik n)).run P w = .ok () w := fun em => MapKept.run_checkKey (k := .int ik n) hk (by simp [MapKept.IsKey]) em 9999
  have key : (Instr.lookup T (.map (some b)) (.int ik n) false).run P w = .ok (.bool (mget m n)) w := by
    unfold Instr.lookup
    rcases find_map (n := n) es.toList m 0 hm with ⟨h1, h2, _⟩ | ⟨j, e, h1, _, _, h4, _⟩
    · simp [run_underlying hT, run_getObj hg, hck, MapKept.run_findKey hk h1, run_zero hz, h2]
    · simp [run_underlying hT, run_getObj hg, hck, MapKept.run_findKey hk h1, h4]
  exact .value (w' := w) (v := .bool (mget m n)) (by simp only [execOp, ho, hx', hi', Sem.run_bind, key, Result.andThen_ok, Sem.run_pure]) ⟨V_bool.2 rfl, .refl _ _⟩

theorem ob_mapUpdate (ho : o.op = .mapUpdate T x i y) (hT : P.underlying T = some (.map kT eT)) (hk : P.underlying kT = some (.int ik)) (hx : Opd E x (is (.map (some b)))) (hi : Opd E i ((kint ik).V n)) (hy : Opd E y (kbool.V p)) (hB : B = A ++ MapF b ik m :: D) (hB' : B' = A ++ MapF b ik (mput m n p) :: D) :
    ObX P C B E o (fun _ : Unit => B') (fun _ => nofact) := fun a w h => by
  subst hB hB'
  obtain ⟨es, clock, hg, hm⟩ := h.own (MapF b ik m) (by simp)
  have hx' : a.eval x = .map (some b) := h.arg hx
  have hi' := (V_int.1 (h.arg hi)).1
  have hy' := V_bool.1 (h.arg hy)
  have hck : ∀ em, (Instr.checkKey em 10000 kT (.int ik n)).run P w = .ok () w := fun em => MapKept.run_checkKey (k := .int ik n) hk (by simp [MapKept.IsKey]) em 9999
  have fin : ∀ es' c', mlist es'.toList = mcells ik (mput m n p) → (Instr.mapUpdate T (.map (some b)) (.int ik n) (.bool p)).run P w = .ok () { w with heap := w.heap.setIfInBounds b (.map es' c') } → Does P o a w fun v w' => ∃ g : Unit, nofact.holds (okB C (idsOf (A ++ MapF b ik (mput m n p) :: D))) w' v ∧ St C (A ++ MapF b ik (mput m n p) :: D) E a w' := fun es' c' he hr => by
    refine .skip (w' := { w with heap := w.heap.setIfInBounds b (.map es' c') }) ?_ ⟨(), trivial, ?_⟩
    · simp only [execOp, ho, hx', hi', hy', Sem.run_bind, hr, Result.andThen_ok, Sem.run_pure]
    · have hset := MapKept.heap_set (o' := .map es' c') hg
      refine h.turn (g := MapF b ik (mput m n p)) rfl ⟨rfl, rfl, rfl, by simp, fun q _ hq => hset.2 q (by simpa [MapF] using hq)⟩ (fun kp => ⟨es', c', hset.1, he⟩)
  rcases find_map (n := n) es.toList m 0 hm with ⟨h1, _, h3⟩ | ⟨j, e, h1, h2, h3, h4, h5⟩
  · refine fin (es.push { key := .int ik n, val := .bool p, born := clock }) (clock + 1) ?_ ?_
    · rw [h3 p]; simp [mlist]
    · unfold Instr.mapUpdate
      simp [run_underlying hT, run_getObj hg, hck, MapKept.run_findKey hk h1, run_setObj hg]
  · have h2' : es[j]? = some e := by simpa using h2
    refine fin (es.modify j fun e => { e with key := .int ik n, val := .bool p }) clock ?_ ?_
    · rw [h5 p { e with key := .int ik n, val := .bool p } rfl rfl]
      congr 1
      rw [Array.toList_modify, List.modify_eq_set, h2]
      rfl
    · unfold Instr.mapUpdate
      have hsame : (Instr.keyThatStays (.int ik n) (.int ik n)).run P w = .ok (.int ik n) w := by
        simp [Instr.keyThatStays, Instr.sameBits]
      simp [run_underlying hT, run_getObj hg, hck, MapKept.run_findKey hk h1, h2', h3, hsame, run_setObj hg]


def cmpB (a b : List Int) : Int :=
  match a, b with
  | [], [] => 0
  | [], _ :: _ => -1
  | _ :: _, [] => 1
  | x :: a, y :: b => if x = y then cmpB a b else if x < y then -1 else 1

theorem compare_cmpB : ∀ a b : List UInt8, Go.Lib.compareBytes a b = cmpB (a.map fun u => (u.toNat : Int)) (b.map fun u => (u.toNat : Int))
  | [], [] => rfl
  | [], _ :: _ => rfl
  | _ :: _, [] => rfl
  | x :: a, y :: b => by
    simp only [Go.Lib.compareBytes, List.map_cons, cmpB]
    by_cases h : x = y
    · subst h
      have : ¬ x < x := UInt8.lt_irrefl x
      simp only [this, if_false, if_true]
      exact compare_cmpB a b
    · have hne : ¬ (x.toNat : Int) = (y.toNat : Int) := fun e => h (UInt8.toNat_inj.1 (by omega))
      rw [if_neg hne]
      by_cases h1 : x < y
      · have : (x.toNat : Int) < y.toNat := by have := UInt8.lt_iff_toNat_lt.1 h1; omega
        rw [if_pos h1, if_pos this]
      · have h2 : ¬ (x.toNat : Int) < y.toNat := fun hl => h1 (UInt8.lt_iff_toNat_lt.2 (by omega))
        have h3 : y < x := UInt8.lt_iff_toNat_lt.2 (by omega)
        rw [if_neg h1, if_pos h3, if_neg h2]
theorem cmp_bl (s t : ByteArray) : Extern.BytealgCompare.cmp s t = cmpB (bl s) (bl t) := by rw [Go.Lib.cmp_eq, compare_cmpB]; rfl

theorem run_bytesOf_sl {l : List Int} {v : Value} {ok : Ok} {w : World} (h : ((ksl (kint .u8)).V l).holds ok w v) : ∃ s, (Extern.Bytes.bytesOf v).run P w = .ok s w ∧ bl s = l := by
  obtain ⟨p, cap, hp, hcap, hnil, rs, hr, hc⟩ := V_sl h
  obtain ⟨rfl, hrng⟩ := relL_u8 hr
  cases p with
  | none =>
    have h0 := hnil rfl
    have h1 : l = [] := List.eq_nil_of_length_eq_zero (by omega)
    subst h1
    exact ⟨.empty, by rw [hp]; rfl, rfl⟩
  | some p =>
    have hl := Go.Lib.run_loadBytesX (P := P) w l p .empty (fun j x hj => (hc p rfl j (.int .u8 x) (by rw [List.getElem?_map, hj]; rfl)).1)
    refine ⟨_, by rw [hp]; exact hl, ?_⟩
    have e : (ByteArray.empty.data ++ (Go.Lib.bytesOf l).toArray).toList = Go.Lib.bytesOf l := by
      show ((#[] : Array UInt8) ++ (Go.Lib.bytesOf l).toArray).toList = _
      simp
    unfold bl
    rw [e]
    unfold Go.Lib.bytesOf
    rw [List.map_map]
    refine (List.map_congr_left fun x hx => ?_).trans (List.map_id l)
    have := hrng x hx
    show ((x.toNat.toUInt8.toNat : Nat) : Int) = x
    rw [Nat.toUInt8, UInt8.toNat_ofNat']
    omega

/-- the function f has no body: it compares bytes -/
def isCompare (P : Program) (f : FuncId) : Prop := ∃ fn, P.funcs[f]? = some fn ∧ (fn.name == "runtime.NumGoroutine") = false ∧ fn.body.isNone = true ∧ (Extern.findNext fn).isNone = true ∧ Extern.find fn = some Extern.BytealgCompare.compare

theorem ob_compare {f : FuncId} {k l : List Int} {ats : Array TypeId} (ho : o.op = .call { callee := .value (.func f), args := #[x, y], argTypes := ats }) (hf : isCompare P f) (hx : Opd E x ((ksl (kint .u8)).V k)) (hy : Opd E y ((ksl (kint .u8)).V l)) : Ob P C B E o ((kint .i64).V (cmpB k l)) := fun a w h => by
  obtain ⟨fn, h1, h2, h3, h4, h5⟩ := hf
  obtain ⟨s, hs, rfl⟩ := run_bytesOf_sl (P := P) (h.arg hx)
  obtain ⟨t, ht, rfl⟩ := run_bytesOf_sl (P := P) (h.arg hy)
  have hn : Extern.findNext fn = none := by simpa using h4
  have hrun : (Extern.BytealgCompare.compare #[a.eval x, a.eval y]).run P w = .ok (goInt (cmpB (bl s) (bl t))) w := by
    change Sem.run P (do pure (goInt (Extern.BytealgCompare.cmp (← Extern.Bytes.bytesOf (a.eval x)) (← Extern.Bytes.bytesOf (a.eval y))))) w = _
    simp only [Sem.run_bind, hs, ht, Result.andThen_ok, Sem.run_pure, cmp_bl]
  have hc : ∀ p q : List Int, IntKind.i64.has (cmpB p q) := by
    intro p
    induction p with
    | nil =>
      intro q
      cases q with
      | nil => exact ⟨by show _ ≤ (0 : Int); decide, by show (0 : Int) ≤ _; decide⟩
      | cons _ _ => exact ⟨by show _ ≤ (-1 : Int); decide, by show (-1 : Int) ≤ _; decide⟩
    | cons u p ih =>
      intro q
      cases q with
      | nil => exact ⟨by show _ ≤ (1 : Int); decide, by show (1 : Int) ≤ _; decide⟩
      | cons v q =>
        simp only [cmpB]
        split
        · exact ih q
        · split <;> exact ⟨by decide, by decide⟩
  refine .value (w' := w) (v := goInt (cmpB (bl s) (bl t))) ?_ ⟨V_int.2 ⟨rfl, hc _ _⟩, .refl _ _⟩
  have e := run_callFunc_extern (P := P) (args := #[a.eval x, a.eval y]) (w := w) h1 h2 h3 hn h5
  simp only [execOp, ho, resolve, Deferred.ofValue, Sem.run_bind, Sem.run_pure, Result.andThen_ok, invoke]
  have e2 : a.eval (.func f) = .func (.func f) #[] #[] := rfl
  simp only [e2, Deferred.ofValue, Sem.run_pure, Result.andThen_ok, invoke, List.map_toArray, List.map_cons, List.map_nil]
  simpa [hrun] using e
end


def slNil {α : Type} (xs : List α) : Fact := ⟨fun _ _ v => ∃ q : Bool, v = .bool q ∧ (q = true → xs = []), fun h _ => h⟩

section
variable {P : Program} {C : Ctx} {B B' A D : List OF} {E : Env} {o : Oper} {α : Type} {k : Kd α} {T T' e : TypeId} {x y : Operand} {xs : List α}

theorem ob_slNil (ho : o.op = .binOp .eql T x (.const (.slice none 0 0)) T') (hT : P.underlying T = some (.slice e)) (hx : Opd E x ((ksl k).V xs)) : Ob P C B E o (slNil xs) := fun a w h => by
  obtain ⟨p, cap, hp, hcap, hnil, _⟩ := V_sl (h.arg hx)
  refine .value (w' := w) (v := .bool p.isNone) ?_ ⟨⟨p.isNone, rfl, fun hq => ?_⟩, .refl _ _⟩
  · have e1 : a.eval (.const (.slice none 0 0)) = .slice none 0 0 := rfl
    have e2 := run_equal_slice_nil (P := P) w T e p xs.length cap hT
    simp [execOp, ho, hp, e1, eqGuard, binOp, e2]
  · cases p with
    | none => have := hnil rfl; exact List.eq_nil_of_length_eq_zero (by omega)
    | some p => cases hq

theorem cond_nil {Q : Exit → Act → World → Prop} {a : Act} {w : World} {c1 c2 : Code} (s : St C B E a w) (hx : Opd E x (slNil xs)) (h1 : xs = [] → c1.wp P Q a w) (h2 : c2.wp P Q a w) : (Code.cond x c1 c2).wp P Q a w := by
  obtain ⟨q, hq, hn⟩ := s.arg hx
  exact wp_cond_split hq (fun h => h1 (hn h)) (fun _ => h2)

theorem ob_emptyRow (ho : o.op = .buildSlice T 0 #[]) (hT : P.underlying T = some (.slice e)) (hs : (P.info? e).map (·.size) = some k.sz) : ObX P C B E o (fun g => RowF g e k [] :: B) (fun g => is g) := fun a w h => by
  refine .value (w' := w.alloc (.cells #[] e)) (v := .slice (some ⟨w.heap.size, 0, none⟩) 0 0) ?_ ⟨.slice (some ⟨w.heap.size, 0, none⟩) 0 0, rfl, ?_⟩
  · simp only [execOp, ho, Sem.run_bind, Instr.buildSlice, run_underlying hT, Result.andThen_ok, run_sizeOf' hs]
    simp [newRow, newObj, Sem.run, Instr.fill]
    congr 2
    simp [Array.range]
  · exact h.new (.cells #[] e) (G := RowF (.slice (some ⟨w.heap.size, 0, none⟩) 0 0) e k []) rfl (fun _ => ⟨[], rfl, by simp, .inr ⟨w.heap.size, 0, #[], rfl, Nat.zero_le _, heap_alloc_new w _, Nat.le_refl _, Nat.zero_le _, by simp, by simp⟩⟩)
end

theorem Zr.nilFn : Zr (Kit.kis Value.nilFunc) () [Value.nilFunc] := fun _ _ => ⟨rfl, rfl, rfl⟩


/-- an operation that leaves what is owned as it is, and whose answer lies in new memory alone -/
def ObF (P : Program) (C : Ctx) (B : List OF) (E : Env) (o : Oper) (F : Fact) : Prop :=
  ∀ a w, St C B E a w → Does P o a w fun v w' => F.holds (fun n => w.heap.size ≤ n) w' v ∧ Ev [] w w'

section
variable {P : Program} {C : Ctx} {B B2 B' A D L : List OF} {E : Env} {o : Oper} {F : Fact} {x : Operand} {f : FuncId} {Fs Gs : List Fact}

theorem ObF.ob (h : ObF P C B E o F) : Ob P C B E o F := fun a w s => (h a w s).mono fun v w' ⟨h1, h2⟩ => ⟨F.mono h1 (fun b _ ho => ⟨rfl, fun hc => absurd hc (by have := s.ev.size; show ¬ b < _; have : w.heap.size ≤ b := ho; omega), fun hm => absurd (s.lt hm) (by have : w.heap.size ≤ b := ho; omega)⟩), h2⟩

theorem ObF.uncond {c : Bool} {t : Nat} {G : Fact} (hc : c = true) (h : get E t = some (F.when c)) (ob : ObF P C B ((t, F) :: E) o G) : ObF P C B E o G := fun a w s => by
  refine ob a w { s with env := fun u H hu => ?_ }
  simp only [get] at hu
  by_cases e : t = u
  · rw [if_pos e] at hu; cases hu; subst e; exact (s.env _ _ h).1 hc
  · rw [if_neg e] at hu; exact s.env u H hu

/-- a new row, read as data -/
theorem row_fresh {β : Type} {k : Kd β} {v : Value} {e : TypeId} {xs : List β} {ok : Ok} {w' : World} {n : Nat} (hk : KFlat k) (h : (RowF v e k xs).holds ok w') (hn : ∀ b, b ∈ ownIds v → n ≤ b) : ((ksl k).V xs).holds (fun b => n ≤ b) w' v :=
  ⟨[v], rowRd (FlatO.row hk _ _ _ h) hn, by
    obtain ⟨rs, _, _, h3⟩ := h
    rcases h3 with ⟨rfl, _⟩ | ⟨g, cap, cur, rfl, _⟩ <;> rfl⟩

/-- a call whose answers are rows of their own: they are read as data -/
theorem ob_callF {γ : Type} {F' : γ → Fact} {L' : γ → List OF} {argTypes : Array TypeId} {args : List Operand} (ho : o.op = .call { callee := .value x, args := args.toArray, argTypes := argTypes }) (hc : Callee E f x Fs Gs) (hb : hasBody P f)
    (hg : ∀ a w, St C B E a w → ∀ fs gs, ArgsOk (okB C (idsOf B)) w Fs fs → ArgsOk (okB C (idsOf B)) w Gs gs → GivesX P f (fs ++ args.map a.eval ++ gs) (okB C (idsOf B)) w [] F' L')
    (hF : ∀ g ok w n v, (F' g).holds ok w v → (∀ q, q ∈ L' g → q.holds ok w) → (∀ b, b ∈ idsOf (L' g) → n ≤ b) → F.holds (fun b => n ≤ b) w v) : ObF P C B E o F := fun a w h => by
  obtain ⟨fs, gs, e1, g1, g2⟩ := hc.val h
  unfold Does
  have e : (execOp a.eval o).run P w = .ok (.enter f (fs.toArray ++ args.toArray.map a.eval ++ gs.toArray)) w := by
    simp only [execOp, ho]; exact run_callV (c := { callee := .value x, args := args.toArray, argTypes := argTypes }) rfl e1 hb
  rw [e]
  have := hg a w h fs gs g1 g2
  unfold GivesX at this
  have e2 : (fs ++ args.map a.eval ++ gs).toArray = fs.toArray ++ args.toArray.map a.eval ++ gs.toArray := by simp
  rw [e2] at this
  refine this.mono fun e w' ⟨v, he, g, hF', hev, hn, hfr, hown⟩ => ⟨v, he, hF g _ w' w.heap.size v hF' hown (fun b hb => ?_), hev⟩
  rcases hfr b hb with h1 | h1
  · exact h1
  · cases h1

/-- the answers, one by one -/
inductive ResF (L : List OF) : List Fact → List Fact → Prop
  | nil : ResF L [] []
  | row {β : Type} {k : Kd β} {v : Value} {e : TypeId} {xs : List β} {l m : List Fact} (hL : RowF v e k xs ∈ L) (hk : KFlat k) (t : ResF L l m) : ResF L (is v :: l) ((ksl k).V xs :: m)
  | flat {F : Fact} {l m : List Fact} (h : Flat F) (t : ResF L l m) : ResF L (F :: l) (F :: m)
theorem ResF.len {L : List OF} {l m : List Fact} (h : ResF L l m) : l.length = m.length := by induction h <;> simp_all
theorem ResF.get {L : List OF} {l m : List Fact} (h : ResF L l m) : ∀ (i : Nat) (G : Fact), m[i]? = some G → ∃ F : Fact, l[i]? = some F ∧ ∀ ok w n u, F.holds ok w u → (∀ q, q ∈ L → q.holds ok w) → (∀ b, b ∈ idsOf L → n ≤ b) → G.holds (fun b => n ≤ b) w u := by
  induction h with
  | nil => intro i G hG; simp at hG
  | @row β k v e xs l m hL hk t ih =>
    intro i G hG
    cases i with
    | zero =>
      simp at hG; subst hG
      refine ⟨_, rfl, fun ok w n u hu h1 h2 => ?_⟩
      have hu' : u = v := hu
      subst hu'
      exact row_fresh hk (h1 _ hL) (fun b hb => h2 b (mem_idsOf hL hb))
    | succ i => exact ih i G (by simpa using hG)
  | @flat F l m h t ih =>
    intro i G hG
    cases i with
    | zero => simp at hG; subst hG; exact ⟨F, rfl, fun ok w n u hu _ _ => h _ _ _ _ _ hu⟩
    | succ i => exact ih i G (by simpa using hG)
theorem ResF.all {L : List OF} {l m : List Fact} (h : ResF L l m) : ∀ ok w n v, (resFact l).holds ok w v → (∀ q, q ∈ L → q.holds ok w) → (∀ b, b ∈ idsOf L → n ≤ b) → (resFact m).holds (fun b => n ≤ b) w v := fun ok w n v hv h1 h2 => by
  have hlen := h.len
  match l, m, h, hlen with
  | [], [], _, _ => obtain ⟨vs, a1, a2, a3⟩ := hv; exact ⟨vs, a1, a2, fun i F u hF => by simp at hF⟩
  | [F], [G], h, _ =>
    obtain ⟨F', hF', hh⟩ := h.get 0 G rfl
    simp at hF'; subst hF'
    exact hh ok w n v hv h1 h2
  | F1 :: F2 :: l, G1 :: G2 :: m, h, hlen =>
    obtain ⟨vs, a1, a2, a3⟩ := hv
    refine ⟨vs, a1, a2.trans hlen, fun i G u hG hu => ?_⟩
    obtain ⟨F', hF', hh⟩ := h.get i G hG
    exact hh ok w n u (a3 i F' u hF' hu) h1 h2
end


end Go.Proofs.Kit
