/- A kit of this claim's own, part 25: an array whose elements are rows of their own, each of which grows. No condition. -/
import Derived.Test.YtlcddcamnkgeeaaKit24
namespace Go.Proofs.Kit
open Go Go.RowKit
set_option linter.unusedSimpArgs false
set_option linter.unusedVariables false

/-- all of these -/
def allO (l : List OF) : OF where
  ids := idsOf l
  holds ok w := ∀ f, f ∈ l → f.holds ok w
  lt := by
    intro ok w h b hb
    obtain ⟨f, h1, h2⟩ := of_mem_idsOf hb
    exact f.lt (h f h1) b h2
  mono := by
    intro ok ok' w w' h kp hs f hf
    exact f.mono (h f hf) kp (fun b hb => hs b (mem_idsOf hf hb))

theorem idsOf_allO (A l D : List OF) : idsOf (A ++ allO l :: D) = idsOf (A ++ (l ++ D)) := by
  rw [idsOf_append, idsOf_append, idsOf_append]; rfl

section
variable {C : Ctx} {A l D : List OF} {E : Env} {a : Act} {w : World}
theorem St.unpack (h : St C (A ++ allO l :: D) E a w) : St C (A ++ (l ++ D)) E a w := by
  have e := idsOf_allO A l D
  refine { size := h.size, dfr := h.dfr, nod := by rw [← e]; exact h.nod, fresh := fun b hb => h.fresh b (by rw [e]; exact hb), ev := h.ev, own := fun f hf => ?_, env := by rw [← e]; exact h.env }
  rw [← e]
  rcases List.mem_append.1 hf with q | q
  · exact h.own f (by simp [q])
  · rcases List.mem_append.1 q with q | q
    · exact h.own (allO l) (by simp) f q
    · exact h.own f (by simp [q])
theorem St.pack (h : St C (A ++ (l ++ D)) E a w) : St C (A ++ allO l :: D) E a w := by
  have e := idsOf_allO A l D
  refine { size := h.size, dfr := h.dfr, nod := by rw [e]; exact h.nod, fresh := fun b hb => h.fresh b (by rw [← e]; exact hb), ev := h.ev, own := fun f hf => ?_, env := by rw [e]; exact h.env }
  rw [e]
  rcases List.mem_append.1 hf with q | q
  · exact h.own f (by simp [q])
  · rcases List.mem_cons.1 q with q | q
    · rw [q]; exact fun g hg => h.own g (by simp [hg])
    · exact h.own f (by simp [q])
end

/-- the rows of an array -/
def rowsL (e : TypeId) {β : Type} (k : Kd β) (vs : List Value) (xss : List (List β)) : List OF := List.zipWith (fun v xs => RowF v e k xs) vs xss
def rowsO (e : TypeId) {β : Type} (k : Kd β) (vs : List Value) (xss : List (List β)) : OF := allO (rowsL e k vs xss)
theorem rowsL_split (e : TypeId) {β : Type} (k : Kd β) (vs : List Value) (xss : List (List β)) (i : Nat) (h1 : i < vs.length) (h2 : i < xss.length) :
    rowsL e k vs xss = rowsL e k (vs.take i) (xss.take i) ++ RowF vs[i] e k xss[i] :: rowsL e k (vs.drop (i + 1)) (xss.drop (i + 1)) := by
  unfold rowsL
  conv => lhs; rw [← List.take_append_drop i vs, ← List.take_append_drop i xss, List.zipWith_append (by rw [List.length_take, List.length_take]; omega), List.drop_eq_getElem_cons h1, List.drop_eq_getElem_cons h2, List.zipWith_cons_cons]
theorem rowsL_set (e : TypeId) {β : Type} (k : Kd β) (vs : List Value) (xss : List (List β)) (i : Nat) (h1 : i < vs.length) (h2 : i < xss.length) (v : Value) (x : List β) :
    rowsL e k (vs.set i v) (xss.set i x) = rowsL e k (vs.take i) (xss.take i) ++ RowF v e k x :: rowsL e k (vs.drop (i + 1)) (xss.drop (i + 1)) := by
  rw [rowsL_split e k (vs.set i v) (xss.set i x) i (by rw [List.length_set]; exact h1) (by rw [List.length_set]; exact h2), List.getElem_set_self, List.getElem_set_self, List.take_set_of_le (Nat.le_refl _), List.take_set_of_le (Nat.le_refl _), List.drop_set_of_lt (Nat.lt_succ_self _), List.drop_set_of_lt (Nat.lt_succ_self _)]

/-- cells that hold just these values -/
def kvs (vs : List Value) : Kd Unit where
  sz := vs.length
  agg := true
  rel ok w _ cs := cs = vs ∧ ∀ v, v ∈ vs → v.cells = #[v] ∧ v.oneCell' = true
  len := by rintro ok w x cs ⟨rfl, _⟩; rfl
  one := by rintro ok w x cs _ h; cases h
  cell1 := by rintro ok w x cs ⟨rfl, h⟩ v hv; exact (h v hv).2
  mono := fun h _ => h
theorem LG.kvs {vs : List Value} {i : Nat} (h : i < vs.length) : LG (kvs vs) (kis vs[i]) i () () := by
  rintro ok w cs ⟨rfl, hc⟩
  refine ⟨?_, hc _ (List.getElem_mem h)⟩
  show (cs.drop i).take 1 = _
  rw [List.drop_eq_getElem_cons h]; rfl
theorem LSK.kvs {vs : List Value} {i : Nat} (h : i < vs.length) (v : Value) : LSK (kvs vs) (kis v) (kvs (vs.set i v)) i () () () := by
  rintro ok w cs ds ⟨rfl, hc⟩ ⟨rfl, h1, h2⟩
  refine ⟨List.length_set, h, ?_, fun u hu => ?_⟩
  · show cs.take i ++ [v] ++ cs.drop (i + 1) = _
    rw [List.set_eq_take_append_cons_drop, if_pos h]; simp
  · rcases List.mem_or_eq_of_mem_set hu with q | q
    · exact hc u q
    · rw [q]; exact ⟨h1, h2⟩

section
variable {P : Program} {C : Ctx} {B A D : List OF} {E : Env} {o : Oper} {β : Type} {k : Kd β} {T U e : TypeId} {x y : Operand} {vs us : List Value} {xss xss' : List (List β)} {xs ys : List β} {i n b : Nat} {v g : Value} {a : Act} {w : World}

/-- a slice that is written out: a row of one's own -/
theorem ob_mkRow {n : Nat} {zs : List Value} {y0 : β} {parts : List (Nat × Operand)} (ho : o.op = .buildSlice T n parts.toArray) (hT : P.underlying T = some (.slice e)) (hz' : ((P.info? e).bind (·.zero)) = some (mkv k.agg zs))
    (hs : (P.info? e).map (·.size) = some k.sz) (h0' : Zr k y0 zs) (hn : n * k.sz ≤ 16777216) (hk : 0 < k.sz) (hb : BuildOk E (karr n k) (fun i => some (i * k.sz, k.sz)) (List.replicate n y0) parts xs) : ObX P C B E o (fun g => RowF g e k xs :: B) (fun g => is g) := fun a w h => by
  obtain ⟨z, hz, h0⟩ : ∃ z, ((P.info? e).bind (·.zero)) = some z ∧ ∀ ok w, k.rel ok w y0 z.cells.toList := ⟨_, hz', fun ok w => by rw [Kd.cells (h0' ok w)]; exact h0' ok w⟩
  have hzl : z.cells.toList.length = k.sz := k.len (h0 (okB C (idsOf B)) w)
  have hz0 := relL_zeros (h0 (okB C (idsOf B)) w) n
  obtain ⟨cs', h1, h2⟩ := hb.fill h _ ⟨by simp, hz0⟩
  have hrow : ((Array.range (n * k.sz)).map fun j => (if n * k.sz = 0 then #[] else z.cells)[j % (if n * k.sz = 0 then #[] else z.cells).size]!) = ((List.range (n * z.cells.toList.length)).map fun j => z.cells.toList.toArray[j % z.cells.toList.length]!).toArray := by
    rw [hzl]
    by_cases hm : n * k.sz = 0
    · rw [hm]; simp
    · simp only [hm, if_false, ← List.toArray_range, List.map_toArray]
      congr 1
      refine List.map_congr_left fun j _ => ?_
      rw [show z.cells.size = k.sz by simpa using hzl]
  have hlen : cs'.length = n * k.sz := (karr n k).len h2
  have hxn : xs.length = n := h2.1
  refine .value (w' := w.alloc (.cells cs'.toArray e)) (v := .slice (some ⟨w.heap.size, 0, none⟩) n n) ?_ ⟨.slice (some ⟨w.heap.size, 0, none⟩) n n, rfl, ?_⟩
  · simp only [execOp, ho, Sem.run_bind, Instr.buildSlice, run_underlying hT, Result.andThen_ok, run_sizeOf' hs]
    rw [Sem.run_ite, if_neg (by omega)]
    simp only [Sem.run_bind, Sem.run_pure, Result.andThen_ok]
    by_cases hm : n * k.sz = 0
    · simp only [hm, if_true] at hrow h1 ⊢
      simp only [List.map_toArray, Sem.run_bind, Sem.run_pure, Result.andThen_ok, hrow, h1]
      simp only [newRow, newObj, Sem.run_bind, Sem.run, Result.andThen_ok, Sem.run_pure]
      rfl
    · simp only [hm, if_false] at hrow h1 ⊢
      simp only [List.map_toArray, Sem.run_bind, run_zero hz, Sem.run_pure, Result.andThen_ok, hrow, h1]
      simp only [newRow, newObj, Sem.run_bind, Sem.run, Result.andThen_ok, Sem.run_pure]
      rfl
  · have hmax : n ≤ maxLen := by
      have : n ≤ n * k.sz := Nat.le_mul_of_pos_right n hk
      unfold maxLen; omega
    exact h.new (.cells cs'.toArray e) (G := RowF (.slice (some ⟨w.heap.size, 0, none⟩) n n) e k xs) rfl (fun kp => ⟨cs', relL_mono h2.2 kp, by
      rw [hxn]
      exact ⟨hlen, .inr ⟨w.heap.size, n, cs'.toArray, rfl, Nat.zero_le _, heap_alloc_new w _, Nat.le_refl _, hmax, by simp [hlen], by rw [← hlen]; simp⟩⟩⟩)

/-- an append to the element at i -/
theorem ob_appendAt {y0 : β} {zs : List Value} (h1 : i < us.length) (h2 : i < xss.length) (ho : o.op = .call { callee := .builtin .append, args := #[x, y], argTypes := #[T, T] }) (hT : P.underlying T = some (.slice e)) (ap : ApOk P e k zs) (hz : Zr k y0 zs)
    (hsz : 0 < k.sz) (hx : Opd E x (is us[i])) (hy : Opd E y ((ksl k).V ys)) (hB : B = A ++ (rowsL e k us xss ++ D)) (hb : xss[i].length + ys.length ≤ lim) :
    ObX P C B E o (fun g => A ++ (rowsL e k (us.set i g) (xss.set i (xss[i] ++ ys)) ++ D)) (fun g => is g) := fun a w h => by
  subst hB
  rw [rowsL_split e k us xss i h1 h2] at h
  have e1 : ∀ (L R : List OF) (r : OF), A ++ (L ++ r :: R ++ D) = (A ++ L) ++ r :: (R ++ D) := fun L R r => by simp
  rw [e1] at h
  refine Does.mono (ob_appendL (A := A ++ rowsL e k (us.take i) (xss.take i)) (D := rowsL e k (us.drop (i + 1)) (xss.drop (i + 1)) ++ D) ho hT ap hz hsz trivial hx hy rfl hb a w h) fun v w' ⟨g, hF, hs⟩ => ⟨g, hF, ?_⟩
  have hs' : St C ((A ++ rowsL e k (us.take i) (xss.take i)) ++ RowF g e k (xss[i] ++ ys) :: (rowsL e k (us.drop (i + 1)) (xss.drop (i + 1)) ++ D)) E a w' := hs
  rw [← e1, ← rowsL_set e k us xss i h1 h2 g (xss[i] ++ ys)] at hs'
  exact hs'

/-- an array b whose n elements are rows of one's own: its cells vs, the rows' slices us (the same, but between an append and its store) -/
def ArrF (b : Nat) (U : TypeId) (n : Nat) (e : TypeId) {β : Type} (k : Kd β) (vs us : List Value) (xss : List (List β)) : OF where
  ids := idsOf (BF b U (kvs vs) () :: rowsL e k us xss)
  holds ok w := vs.length = n ∧ us.length = n ∧ xss.length = n ∧ (allO (BF b U (kvs vs) () :: rowsL e k us xss)).holds ok w
  lt := fun h => (allO _).lt h.2.2.2
  mono := fun h kp hs => ⟨h.1, h.2.1, h.2.2.1, (allO _).mono h.2.2.2 kp hs⟩
theorem St.unpackA (h : St C (A ++ ArrF b U n e k vs us xss :: D) E a w) : vs.length = n ∧ us.length = n ∧ xss.length = n ∧ St C (A ++ (BF b U (kvs vs) () :: rowsL e k us xss ++ D)) E a w := by
  have q := h.own (ArrF b U n e k vs us xss) (by simp)
  refine ⟨q.1, q.2.1, q.2.2.1, St.unpack (l := BF b U (kvs vs) () :: rowsL e k us xss) ?_⟩
  have ei : idsOf (A ++ allO (BF b U (kvs vs) () :: rowsL e k us xss) :: D) = idsOf (A ++ ArrF b U n e k vs us xss :: D) := by rw [idsOf_append, idsOf_append]; rfl
  refine { size := h.size, dfr := h.dfr, nod := by rw [ei]; exact h.nod, fresh := fun b hb => h.fresh b (by rw [← ei]; exact hb), ev := h.ev, own := fun f hf => ?_, env := by rw [ei]; exact h.env }
  rw [ei]
  rcases List.mem_append.1 hf with p | p
  · exact h.own f (by simp [p])
  · rcases List.mem_cons.1 p with p | p
    · rw [p]; exact q.2.2.2
    · exact h.own f (by simp [p])
theorem St.packA (h1 : vs.length = n) (h2 : us.length = n) (h3 : xss.length = n) (h : St C (A ++ (BF b U (kvs vs) () :: rowsL e k us xss ++ D)) E a w) : St C (A ++ ArrF b U n e k vs us xss :: D) E a w := by
  have h' := St.pack (l := BF b U (kvs vs) () :: rowsL e k us xss) h
  have ei : idsOf (A ++ allO (BF b U (kvs vs) () :: rowsL e k us xss) :: D) = idsOf (A ++ ArrF b U n e k vs us xss :: D) := by rw [idsOf_append, idsOf_append]; rfl
  refine { size := h'.size, dfr := h'.dfr, nod := by rw [← ei]; exact h'.nod, fresh := fun b hb => h'.fresh b (by rw [ei]; exact hb), ev := h'.ev, own := fun f hf => ?_, env := by rw [← ei]; exact h'.env }
  rw [← ei]
  rcases List.mem_append.1 hf with p | p
  · exact h'.own f (by simp [p])
  · rcases List.mem_cons.1 p with p | p
    · rw [p]; exact ⟨h1, h2, h3, h'.own _ (by simp)⟩
    · exact h'.own f (by simp [p])

/-- what stands in the array at i -/
def at0 (vs : List Value) (i : Nat) : Value := vs.getD i (.slice none 0 0)
theorem at0_get {vs : List Value} {i : Nat} (h : i < vs.length) : at0 vs i = vs[i] := by unfold at0; rw [List.getD_eq_getElem?_getD, List.getElem?_eq_getElem h]; rfl
theorem ob_loadA (ho : o.op = .load T x) (hx : Opd E x (ptrB b i)) (tk : ∀ v, TK P T (kis v)) (hB : B = A ++ ArrF b U n e k vs us xss :: D) (hi : i < n) : Ob P C B E o (is (at0 vs i)) := fun a w h => by
  subst hB
  obtain ⟨h1, h2, h3, h'⟩ := St.unpackA h
  have hi' : i < vs.length := by omega
  rw [at0_get hi']
  exact Does.mono (ob_load (K := kvs vs) (U := U) (X := ()) (Y := ()) ho (tk vs[i]) hx (by simp) (LG.kvs hi') a w h') fun v w' ⟨q1, q2⟩ => ⟨V_kis q1, q2⟩
theorem ob_appendA {y0 : β} {zs : List Value} (ho : o.op = .call { callee := .builtin .append, args := #[x, y], argTypes := #[T, T] }) (hT : P.underlying T = some (.slice e)) (ap : ApOk P e k zs) (hz : Zr k y0 zs)
    (hsz : 0 < k.sz) (hx : Opd E x (is (at0 us i))) (hy : Opd E y ((ksl k).V ys)) (hB : B = A ++ ArrF b U n e k vs us xss :: D) (hxs : at? xss (i : Int) = some xs) (hb : xs.length + ys.length ≤ lim) (hs : set? xss (i : Int) (xs ++ ys) = some xss') :
    ObX P C B E o (fun g => A ++ ArrF b U n e k vs (us.set i g) xss' :: D) (fun g => is g) := fun a w h => by
  subst hB
  obtain ⟨h1, h2, h3, h'⟩ := St.unpackA h
  obtain ⟨_, q1, q2⟩ := at?_some hxs
  obtain ⟨_, _, q3⟩ := set?_some hs
  rw [Int.toNat_natCast] at q2 q3
  have hi : i < xss.length := by omega
  have hx2 : xss[i] = xs := by rw [List.getElem?_eq_getElem hi] at q2; exact Option.some.inj q2
  have hs2 : xss' = xss.set i (xss[i] ++ ys) := by rw [hx2]; exact q3
  rw [at0_get (by omega)] at hx
  have e1 : ∀ R : List OF, A ++ (BF b U (kvs vs) () :: R ++ D) = (A ++ [BF b U (kvs vs) ()]) ++ (R ++ D) := fun R => by simp
  rw [e1] at h'
  refine Does.mono (ob_appendAt (A := A ++ [BF b U (kvs vs) ()]) (i := i) (by omega) hi ho hT ap hz hsz hx hy rfl (by rw [hx2]; exact hb) a w h') fun v w' ⟨g, hF, hq⟩ => ⟨g, hF, ?_⟩
  have hq' : St C ((A ++ [BF b U (kvs vs) ()]) ++ (rowsL e k (us.set i g) (xss.set i (xss[i] ++ ys)) ++ D)) E a w' := hq
  rw [← e1, ← hs2] at hq'
  exact St.packA h1 (by rw [List.length_set]; exact h2) (by rw [hs2, List.length_set]; exact h3) hq'

/-- the row that was appended to is laid back -/
theorem ob_storeA (ho : o.op = .store T x y) (hx : Opd E x (ptrB b i)) (tk : ∀ v, TK P T (kis v)) (hy : Opd E y (is g)) (hB : B = A ++ ArrF b U n e k vs (vs.set i g) xss :: D) (hi : i < n) :
    ObX P C B E o (fun _ : Unit => A ++ ArrF b U n e k (vs.set i g) (vs.set i g) xss :: D) (fun _ => nofact) := fun a w h => by
  subst hB
  obtain ⟨h1, h2, h3, h'⟩ := St.unpackA h
  have hi1 : i < (vs.set i g).length := by omega
  have hi3 : i < xss.length := by omega
  have hm : RowF g e k xss[i] ∈ A ++ (BF b U (kvs vs) () :: rowsL e k (vs.set i g) xss ++ D) := by
    rw [rowsL_split e k (vs.set i g) xss i hi1 hi3, List.getElem_set_self]; simp
  have e1 : ∀ (K : OF), A ++ (K :: rowsL e k (vs.set i g) xss ++ D) = A ++ K :: (rowsL e k (vs.set i g) xss ++ D) := fun K => by simp
  rw [e1] at h' hm
  refine Does.mono (ob_storeRowV (U := U) (K := kvs vs) (K' := kvs (vs.set i g)) (X := ()) (X' := ()) (A := A) (D := rowsL e k (vs.set i g) xss ++ D) ho (tk g) hx hy hm rfl (LSK.kvs (by omega) g) rfl a w h') fun v w' ⟨u, hF, hq⟩ => ⟨u, hF, ?_⟩
  have hq' : St C (A ++ BF b U (kvs (vs.set i g)) () :: (rowsL e k (vs.set i g) xss ++ D)) E a w' := hq
  rw [← e1] at hq'
  exact St.packA (by rw [List.length_set]; exact h1) h2 h3 hq'
/-- a row of one's own is laid into the array; the one that was there is let go -/
theorem ob_storeNewA (ho : o.op = .store T x y) (hx : Opd E x (ptrB b i)) (tk : ∀ v, TK P T (kis v)) (hy : Opd E y (is g)) (hB : B.Perm (RowF g e k xs :: ArrF b U n e k vs vs xss :: D)) (hi : i < n) (hs : set? xss (i : Int) xs = some xss') :
    ObX P C B E o (fun _ : Unit => ArrF b U n e k (vs.set i g) (vs.set i g) xss' :: D) (fun _ => nofact) := fun a w h0 => by
  have h := h0.perm hB
  obtain ⟨h1, h2, h3, h'⟩ := St.unpackA (A := [RowF g e k xs]) h
  obtain ⟨_, _, q3⟩ := set?_some hs
  rw [Int.toNat_natCast] at q3
  have hi1 : i < vs.length := by omega
  have hi3 : i < xss.length := by omega
  have h'' : St C ([RowF g e k xs] ++ BF b U (kvs vs) () :: (rowsL e k vs xss ++ D)) E a w := by simpa using h'
  have hm : RowF g e k xs ∈ [RowF g e k xs] ++ BF b U (kvs vs) () :: (rowsL e k vs xss ++ D) := by simp
  refine Does.mono (ob_storeRowV (U := U) (K := kvs vs) (K' := kvs (vs.set i g)) (X := ()) (X' := ()) (A := [RowF g e k xs]) (D := rowsL e k vs xss ++ D) ho (tk g) hx hy hm rfl (LSK.kvs hi1 g) rfl a w h'') fun v w' ⟨u, hF, hq⟩ => ⟨u, trivial, ?_⟩
  have hq' : St C ([RowF g e k xs] ++ BF b U (kvs (vs.set i g)) () :: (rowsL e k vs xss ++ D)) E a w' := hq
  rw [rowsL_split e k vs xss i hi1 hi3] at hq'
  have p : ([RowF g e k xs] ++ BF b U (kvs (vs.set i g)) () :: (rowsL e k (vs.take i) (xss.take i) ++ RowF vs[i] e k xss[i] :: rowsL e k (vs.drop (i + 1)) (xss.drop (i + 1)) ++ D)).Perm ([RowF vs[i] e k xss[i]] ++ (BF b U (kvs (vs.set i g)) () :: (rowsL e k (vs.take i) (xss.take i) ++ RowF g e k xs :: rowsL e k (vs.drop (i + 1)) (xss.drop (i + 1))) ++ D)) := by
    generalize RowF g e k xs = r
    generalize RowF vs[i] e k xss[i] = r0
    generalize BF b U (kvs (vs.set i g)) () = f
    generalize rowsL e k (vs.take i) (xss.take i) = L
    generalize rowsL e k (vs.drop (i + 1)) (xss.drop (i + 1)) = R
    simp only [List.append_assoc, List.cons_append, List.singleton_append, List.nil_append]
    refine List.Perm.trans ?_ (List.Perm.swap _ _ _).symm
    refine List.Perm.trans (List.Perm.swap f r _).symm.symm ?_
    refine .cons _ ?_
    refine List.Perm.trans (.cons _ List.perm_middle) ?_
    refine List.Perm.trans (List.Perm.swap _ _ _) ?_
    exact .cons _ List.perm_middle.symm
  have hq2 := St.drop (A := []) (hq'.perm p)
  rw [← rowsL_set e k vs xss i hi1 hi3 g xs, ← q3] at hq2
  exact St.packA (A := []) (by rw [List.length_set]; exact h1) (by rw [List.length_set]; exact h1) (by rw [q3, List.length_set]; exact h3) hq2

theorem rowsL_nil (e : TypeId) {β : Type} (k : Kd β) : ∀ n, idsOf (rowsL e k (List.replicate n (.slice none 0 0)) (List.replicate n [])) = []
  | 0 => rfl
  | n + 1 => by
    have := rowsL_nil e k n
    show ownIds (.slice none 0 0) ++ idsOf (rowsL e k (List.replicate n (.slice none 0 0)) (List.replicate n [])) = []
    rw [this]; rfl
/-- a new array of slices, none of which is there yet -/
theorem ob_allocA {z : Value} (ho : o.op = .alloc T) (hz : ((P.info? T).bind (·.zero)) = some z) (hk : z.cells.toList = List.replicate n (.slice none 0 0)) :
    ObX P C B E o (fun b => ArrF b T n e k (List.replicate n (.slice none 0 0)) (List.replicate n (.slice none 0 0)) (List.replicate n []) :: B) (fun b => ptrB b 0) := fun a w h => by
  refine Does.mono (ob_alloc (k := kvs (List.replicate n (.slice none 0 0))) (Y := ()) ho hz (fun ok w => ⟨hk, fun v hv => by rw [List.eq_of_mem_replicate hv]; exact ⟨rfl, rfl⟩⟩) a w h) fun v w' ⟨b, hF, hq⟩ => ?_
  have hq' : St C (BF b T (kvs (List.replicate n (.slice none 0 0))) () :: B) E a w' := hq
  have ei : idsOf (ArrF b T n e k (List.replicate n (.slice none 0 0)) (List.replicate n (.slice none 0 0)) (List.replicate n []) :: B) = idsOf (BF b T (kvs (List.replicate n (.slice none 0 0))) () :: B) := by
    show ([b] ++ idsOf (rowsL e k (List.replicate n (.slice none 0 0)) (List.replicate n []))) ++ idsOf B = [b] ++ idsOf B
    rw [rowsL_nil]; rfl
  refine ⟨b, by rw [ei]; exact hF, ?_⟩
  refine { size := hq'.size, dfr := hq'.dfr, nod := by rw [ei]; exact hq'.nod, fresh := fun b hb => hq'.fresh b (by rw [← ei]; exact hb), ev := hq'.ev, own := fun f hf => ?_, env := by rw [ei]; exact hq'.env }
  rw [ei]
  rcases List.mem_cons.1 hf with p | p
  · rw [p]
    refine ⟨List.length_replicate, List.length_replicate, List.length_replicate, fun q hq => ?_⟩
    rcases List.mem_cons.1 hq with r | r
    · rw [r]; exact hq'.own _ (by simp)
    · have key : ∀ m, q ∈ rowsL e k (List.replicate m (.slice none 0 0)) (List.replicate m []) → q.holds (okB C (idsOf (BF b T (kvs (List.replicate n (.slice none 0 0))) () :: B))) w' := by
        intro m
        induction m with
        | zero => intro h; cases h
        | succ m ih =>
          intro h
          rcases List.mem_cons.1 h with r | r
          · rw [r]; exact rowNil e k _ _
          · exact ih r
      exact key n r
  · exact hq'.own f (by simp [p])
theorem St.letAll {f0 : OF} : ∀ (vs : List Value) (xss : List (List β)), vs.length = xss.length → St C ([f0] ++ (rowsL e k vs xss ++ D)) E a w →
    St C ([f0] ++ D) E a w ∧ relL (ksl k) (okB C (idsOf ([f0] ++ D))) w xss vs
  | [], [], _, h => ⟨h, rfl⟩
  | [], _ :: _, hl, _ => by simp at hl
  | _ :: _, [], hl, _ => by simp at hl
  | v :: vs, xs :: xss, hl, h => by
    have hv := St.rowValM (A := [f0]) h
    have h' := St.drop (A := [f0]) h
    obtain ⟨s, hs⟩ := St.letAll vs xss (by simpa using hl) h'
    refine ⟨s, [v], vs, rfl, ?_, hs⟩
    have kp : Keep (okB C (idsOf ([f0] ++ (rowsL e k vs xss ++ D)))) (okB C (idsOf ([f0] ++ D))) w w := fun b _ ho => ⟨rfl, ho.1, fun hm => ho.2 (by
      simp only [idsOf_append, List.mem_append] at hm ⊢; rcases hm with q | q
      · exact .inl q
      · exact .inr (.inr q))⟩
    have hc : v.cells = #[v] := by
      obtain ⟨rs, _, _, h3⟩ := h.own (RowF v e k xs) (by simp [rowsL])
      rcases h3 with ⟨rfl, _⟩ | ⟨g, cap, cur, rfl, _⟩ <;> rfl
    have := (ksl k).mono (Kd.V_rel hv) kp
    rw [hc] at this
    exact this
/- the same, as the printer asks for them -/
theorem ob_newA {zs : List Value} (ho : o.op = .alloc T) (hz : ((P.info? T).bind (·.zero)) = some (mkv true zs)) (hk : zs = List.replicate n (.slice none 0 0)) :
    ObX P C B E o (fun b => ArrF b T n e k (List.replicate n (.slice none 0 0)) (List.replicate n (.slice none 0 0)) (List.replicate n []) :: B) (fun b => ptrB b 0) :=
  ob_allocA ho hz (by subst hk; simp [mkv, Value.cells])
theorem ob_loadAz {z : Int} (ho : o.op = .load T x) (tk : ∀ v, TK P T (kis v)) (hx : Opd E x (ptrB b (z.toNat * 1))) (hB : B = A ++ ArrF b U n e k vs us xss :: D) (hz : 0 ≤ z ∧ z < (n : Int)) : Ob P C B E o (is (at0 vs (z.toNat * 1))) :=
  ob_loadA ho hx tk hB (by omega)
theorem ob_appendAz {y0 : β} {zs : List Value} {z : Int} (ho : o.op = .call { callee := .builtin .append, args := #[x, y], argTypes := #[T, T] }) (hT : P.underlying T = some (.slice e)) (ap : ApOk P e k zs) (hz : Zr k y0 zs)
    (hsz : 0 < k.sz) (hx : Opd E x (is (at0 us (z.toNat * 1)))) (hy : Opd E y ((ksl k).V ys)) (hB : B = A ++ ArrF b U n e k vs us xss :: D) (hz0 : 0 ≤ z ∧ z < (n : Int)) (hxs : at? xss z = some xs) (hb : xs.length + ys.length ≤ lim) (hs : set? xss z (xs ++ ys) = some xss') :
    ObX P C B E o (fun g => A ++ ArrF b U n e k vs (us.set (z.toNat * 1) g) xss' :: D) (fun g => is g) := by
  have ez : ((z.toNat * 1 : Nat) : Int) = z := by omega
  exact ob_appendA ho hT ap hz hsz hx hy hB (by rw [ez]; exact hxs) hb (by rw [ez]; exact hs)
theorem ob_storeAz {z : Int} (ho : o.op = .store T x y) (tk : ∀ v, TK P T (kis v)) (hx : Opd E x (ptrB b (z.toNat * 1))) (hy : Opd E y (is g)) (hB : B = A ++ ArrF b U n e k vs (vs.set (z.toNat * 1) g) xss :: D) (hz : 0 ≤ z ∧ z < (n : Int)) :
    ObX P C B E o (fun _ : Unit => A ++ ArrF b U n e k (vs.set (z.toNat * 1) g) (vs.set (z.toNat * 1) g) xss :: D) (fun _ => nofact) := ob_storeA ho hx tk hy hB (by omega)
theorem ob_storeNewAz {z : Int} (ho : o.op = .store T x y) (tk : ∀ v, TK P T (kis v)) (hx : Opd E x (ptrB b (z.toNat * 1))) (hy : Opd E y (is g)) (hB : B.Perm (RowF g e k xs :: ArrF b U n e k vs vs xss :: D)) (hz : 0 ≤ z ∧ z < (n : Int)) (hs : set? xss z xs = some xss') :
    ObX P C B E o (fun _ : Unit => ArrF b U n e k (vs.set (z.toNat * 1) g) (vs.set (z.toNat * 1) g) xss' :: D) (fun _ => nofact) := by
  have ez : ((z.toNat * 1 : Nat) : Int) = z := by omega
  exact ob_storeNewA ho hx tk hy hB (by omega) (by rw [ez]; exact hs)
/-- from here on the array and its rows are data -/
theorem St.letArr (h : St C (ArrF b U n e k vs vs xss :: D) E a w) : St C (BF b U (karr n (ksl k)) xss :: D) E a w := by
  obtain ⟨h1, h2, h3, h'⟩ := St.unpackA (A := []) h
  have h'' : St C ([BF b U (kvs vs) ()] ++ (rowsL e k vs xss ++ D)) E a w := by simpa using h'
  obtain ⟨s, hr⟩ := St.letAll vs xss (by omega) h''
  have hids : idsOf (BF b U (karr n (ksl k)) xss :: D) = idsOf ([BF b U (kvs vs) ()] ++ D) := rfl
  refine { size := s.size, dfr := s.dfr, nod := by rw [hids]; exact s.nod, fresh := fun b hb => s.fresh b (by rw [← hids]; exact hb), ev := s.ev, own := fun f hf => ?_, env := by rw [hids]; exact s.env }
  rw [hids]
  rcases List.mem_cons.1 hf with q | q
  · subst q
    obtain ⟨cs, hg, hc, _⟩ := s.own (BF b U (kvs vs) ()) (by simp)
    subst hc
    exact ⟨cs, hg, h3, hr⟩
  · exact s.own f (by simp [q])
end

end Go.Proofs.Kit
