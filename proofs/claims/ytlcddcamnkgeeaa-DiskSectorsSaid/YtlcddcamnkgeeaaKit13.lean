/- A kit of this claim's own, part 13: texts, copies, fresh rows that are written by index, nil pointers. No condition. -/
import Derived.Test.YtlcddcamnkgeeaaKit12
import Derived.Laws.Pointers
import Derived.Lib.AppendStr
namespace Go.Proofs.Kit
open Go Go.RowKit
set_option linter.unusedSimpArgs false
set_option linter.unusedVariables false

section
variable {P : Program} {C : Ctx} {B B' A D : List OF} {E : Env} {o : Oper} {α β : Type} {K : Kd α} {k : Kd β} {T T' T'' U e : TypeId} {x y i : Operand} {b off : Nat} {X X' : α}

/-! #### texts -/

theorem bl_append (s t : ByteArray) : bl (s ++ t) = bl s ++ bl t := by
  unfold bl; simp [ByteArray.data_append]

theorem ob_cat {p q : List Int} (ho : o.op = .binOp .add T x y T') (hx : Opd E x (kstr.V p)) (hy : Opd E y (kstr.V q)) (hl : p.length + q.length ≤ lim) : Ob P C B E o (kstr.V (p ++ q)) := fun a w h => by
  obtain ⟨s, hs, rfl, _⟩ := V_str.1 (h.arg hx)
  obtain ⟨t, ht, rfl, _⟩ := V_str.1 (h.arg hy)
  rw [bl_length, bl_length] at hl
  unfold lim at hl
  refine .value (w' := w) (v := .string (s ++ t)) ?_ ⟨V_str.2 ⟨_, rfl, (bl_append s t).symm, ?_⟩, .refl _ _⟩
  · have : ¬ (((s.size + t.size : Nat) : Int) > IntKind.i64.max) := by
      have e : IntKind.i64.max = 9223372036854775807 := by rfl
      rw [e]; omega
    simp only [execOp, ho, hs, ht, eqGuard, binOp, Op.stringOp]
    simp [this]
    omega
  · rw [ByteArray.size_append]; unfold maxLen; omega

theorem ob_convStr {p : List Int} (ho : o.op = .convert T T' x) (hT : P.underlying T = some .string) (hT' : P.underlying T' = some .string) (hx : Opd E x (kstr.V p)) : Ob P C B E o (kstr.V p) := fun a w h => by
  obtain ⟨s, hs, rfl, hm⟩ := V_str.1 (h.arg hx)
  exact .value (w' := w) (v := .string s) (by simp only [execOp, ho, hs, convert, Sem.run_bind, run_underlying hT, run_underlying hT', Result.andThen_ok, Sem.run_pure]) ⟨V_str.2 ⟨s, rfl, rfl, hm⟩, .refl _ _⟩

theorem relL_u8 {ok : Ok} {w : World} {xs : List Int} {cs : List Value} (h : relL (kint .u8) ok w xs cs) : cs = xs.map (Value.int .u8) ∧ ∀ n, n ∈ xs → 0 ≤ n ∧ n < 256 := by
  induction xs generalizing cs with
  | nil => exact ⟨h, fun _ h => by cases h⟩
  | cons n xs ih =>
    obtain ⟨c, d, rfl, ⟨rfl, h1⟩, h2⟩ := h
    obtain ⟨rfl, h3⟩ := ih h2
    refine ⟨rfl, fun m hm => ?_⟩
    rcases List.mem_cons.1 hm with rfl | hm
    · have h4 : IntKind.u8.min ≤ m ∧ m ≤ IntKind.u8.max := h1
      have e1 : IntKind.u8.min = 0 := rfl
      have e2 : IntKind.u8.max = 255 := rfl
      omega
    · exact h3 m hm

theorem bl_fold (ns : List Int) (h : ∀ n, n ∈ ns → 0 ≤ n ∧ n < 256) : ∀ s : ByteArray, bl (ns.foldl (fun r n => r.push (UInt8.ofNat n.toNat)) s) = bl s ++ ns := by
  induction ns with
  | nil => intro s; simp
  | cons n ns ih =>
    intro s
    rw [List.foldl_cons, ih (fun m hm => h m (List.mem_cons_of_mem _ hm))]
    have := h n (List.mem_cons_self ..)
    have e : bl (s.push (UInt8.ofNat n.toNat)) = bl s ++ [n] := by
      unfold bl; simp [ByteArray.data_push]; omega
    rw [e]; simp

theorem ob_bytesToStr {p : List Int} (ho : o.op = .convert T T' x) (hT : P.underlying T = some (.slice e)) (hT' : P.underlying T' = some .string) (he : P.underlying e = some (.int .u8)) (hx : Opd E x ((ksl (kint .u8)).V p)) : Ob P C B E o (kstr.V p) := fun a w h => by
  obtain ⟨q, cap, hp, hcap, hnil, rs, hr, hc⟩ := V_sl (h.arg hx)
  obtain ⟨rfl, hrng⟩ := relL_u8 hr
  have hbl := bl_fold p hrng ByteArray.empty
  have hbe : bl ByteArray.empty = [] := rfl
  rw [hbe, List.nil_append] at hbl
  refine .value (w' := w) (v := .string (p.foldl (fun r n => r.push (UInt8.ofNat n.toNat)) ByteArray.empty)) ?_ ⟨V_str.2 ⟨_, rfl, hbl.symm, ?_⟩, .refl _ _⟩
  · simp only [execOp, ho, hp, convert, Sem.run_bind, run_underlying hT, run_underlying hT', Result.andThen_ok, run_underlying he]
    cases q with
    | none =>
      have := hnil rfl
      have h0 : p = [] := List.eq_nil_of_length_eq_zero (by omega)
      subst h0
      simp [Conv.bytesToString]
    | some q =>
      have hl := run_loadCells_list (P := P) w q (p.map (Value.int .u8)) (fun j v hj => (hc q rfl j v hj).1)
      rw [List.length_map] at hl
      have := run_bytesToString (P := P) w q p.length cap p hl
      rw [this]; rfl
  · rw [← bl_length, hbl]; omega

/-! #### copies into an array of the call's own -/

theorem strCells_eq (s : ByteArray) : Go.Lib.byteCells s.data.toList = (bl s).map (Value.int .u8) := by
  unfold Go.Lib.byteCells bl; simp

theorem relL_bl (ok : Ok) (w : World) (s : ByteArray) : relL (kint .u8) ok w (bl s) ((bl s).map (Value.int .u8)) := by
  unfold bl
  induction s.data.toList with
  | nil => rfl
  | cons u l ih =>
    refine ⟨[.int .u8 u.toNat], _, rfl, ⟨rfl, ?_⟩, ih⟩
    have e1 : IntKind.u8.min = 0 := rfl
    have e2 : IntKind.u8.max = 255 := rfl
    have := u.toNat_lt
    show IntKind.u8.min ≤ (u.toNat : Int) ∧ (u.toNat : Int) ≤ IntKind.u8.max
    omega

theorem LS.seg {n lo : Nat} {k : Kd β} {xs ys : List β} (h : lo + ys.length ≤ n) : LS (karr n k) (karr ys.length k) (lo * k.sz) xs ys (xs.take lo ++ ys ++ xs.drop (lo + ys.length)) := by
  rintro ok w cs ds ⟨hl, hr⟩ ⟨_, hd⟩
  have e : lo * k.sz + ys.length * k.sz = (lo + ys.length) * k.sz := (Nat.add_mul _ _ _).symm
  refine ⟨?_, ?_, ?_⟩
  · show lo * k.sz + ys.length * k.sz ≤ n * k.sz
    rw [e]; exact Nat.mul_le_mul_right _ h
  · simp [List.length_append, List.length_take, List.length_drop, hl]; omega
  · have r1 := (relL_split hr lo).1
    have r2 := (relL_split hr (lo + ys.length)).2
    have e2 : lo * k.sz + (karr ys.length k).sz = (lo + ys.length) * k.sz := e
    rw [e2]
    exact relL_append (relL_append r1 hd) r2

theorem ob_copyStr {ll cap n lo : Nat} {off' : Nat} {l xs : List Int} (ho : o.op = .call { callee := .builtin .copy, args := #[x, y], argTypes := #[T, T'] }) (hT : P.underlying T = some (.slice e)) (hs : (P.info? e).map (·.size) = some 1)
    (hx : Opd E x (is (.slice (some ⟨b, off', none⟩) ll cap))) (hy : Opd E y (kstr.V l)) (hB : B = A ++ BF b U K X :: D) (hoff : off' = soff n off lo 1) (hfit : lo + ll ≤ n) (hl : l.length ≤ ll)
    (lg : LG K (karr n (kint .u8)) off X xs) (ls : LS K (karr n (kint .u8)) off X (xs.take lo ++ l ++ xs.drop (lo + l.length)) X') (hB' : B' = A ++ BF b U K X' :: D) :
    ObX P C B E o (fun _ : Unit => B') (fun _ => (kint .i64).V l.length) := fun a w h => by
  subst hB hB'
  obtain ⟨s, hs', rfl, hm⟩ := V_str.1 (h.arg hy)
  have hx' : a.eval x = .slice (some ⟨b, off', none⟩) ll cap := h.arg hx
  obtain ⟨cs, hg, hr⟩ := h.own (BF b U K X) (by simp)
  rw [bl_length] at hl
  have ha := lg _ _ _ hr
  obtain ⟨hxl, har⟩ := ha
  have hseg := LS.seg (k := kint .u8) (xs := xs) (ys := bl s) (n := n) (lo := lo) (by rw [bl_length]; omega) _ w _ _ ⟨hxl, har⟩ ⟨rfl, relL_bl _ w s⟩
  obtain ⟨hbd, hr'⟩ := ls _ _ cs _ hr hseg.2
  have hcl := K.len hr
  have hbd' : off + n ≤ cs.length := by rw [hcl]; simpa [karr, kint] using hbd
  have hlen2 : ((cs.drop off).take n).length = n := by simp; omega
  have fin : cs.take off ++ (((cs.drop off).take (karr n (kint .u8)).sz).take (lo * (kint .u8).sz) ++ (bl s).map (Value.int .u8) ++ ((cs.drop off).take (karr n (kint .u8)).sz).drop (lo * (kint .u8).sz + (karr (bl s).length (kint .u8)).sz)) ++ cs.drop (off + (karr n (kint .u8)).sz) = cs.take (off + lo) ++ (bl s).map (Value.int .u8) ++ cs.drop (off + lo + s.size) := by
    have e1 : (karr n (kint .u8)).sz = n := by simp [karr, kint]
    have e2 : (karr (bl s).length (kint .u8)).sz = s.size := by simp [karr, kint, bl_length]
    have e3 : (kint .u8).sz = 1 := rfl
    rw [e1, e2, e3, Nat.mul_one, List.take_take, Nat.min_eq_left (by omega), List.drop_take, List.drop_drop]
    have f1 : cs.take (off + lo) = cs.take off ++ (cs.drop off).take lo := by rw [List.take_add]
    have f2 : cs.drop (off + lo + s.size) = (cs.drop (off + (lo + s.size))).take (n - (lo + s.size)) ++ cs.drop (off + n) := by
      have := (List.take_append_drop (n - (lo + s.size)) (cs.drop (off + (lo + s.size)))).symm
      rw [List.drop_drop, show off + (lo + s.size) + (n - (lo + s.size)) = off + n by omega] at this
      rw [Nat.add_assoc]; exact this
    rw [f1, f2]; simp
  rw [fin] at hr'
  have hval : (kint .i64).V (bl s).length |>.holds (okB C (idsOf (A ++ BF b U K X' :: D))) (w.setRow b (cs.take (off + lo) ++ (bl s).map (Value.int .u8) ++ cs.drop (off + lo + s.size)).toArray) (goInt s.size) := V_int.2 ⟨by rw [bl_length]; rfl, has_len (by rw [bl_length]; omega)⟩
  have hturn : St C (A ++ BF b U K X' :: D) E a (w.setRow b (cs.take (off + lo) ++ (bl s).map (Value.int .u8) ++ cs.drop (off + lo + s.size)).toArray) := by
    refine h.turn (g := BF b U K X') rfl ⟨rfl, rfl, rfl, by simp, fun q _ hq => setRow_other _ _ _ _ (by simpa [BF] using hq)⟩ (fun kp => ?_)
    exact ⟨_, setRow_heap _ _ _ _ _ _ hg, K.mono hr' kp⟩
  refine .value (w' := w.setRow b (cs.take (off + lo) ++ (bl s).map (Value.int .u8) ++ cs.drop (off + lo + s.size)).toArray) (v := goInt s.size) ?_ ⟨(), hval, hturn⟩
  subst hoff
  simp only [execOp, ho, resolve, invoke, builtin, Sem.run_bind, Sem.run_pure, Result.andThen_ok, List.map_toArray, List.map_cons, List.map_nil, hx', hs']
  by_cases hn : n = lo
  · have h0 : s.size = 0 := by omega
    have hsoff : soff n off lo 1 = off := by unfold soff; rw [if_pos hn]
    have hbe : bl s = [] := List.eq_nil_of_length_eq_zero (by rw [bl_length, h0])
    rw [Go.Lib.run_copy_empty_string w T T' o.type e _ ll cap s hT (by rw [hs]; rfl) h0]
    have : w.setRow b (cs.take (off + lo) ++ (bl s).map (Value.int .u8) ++ cs.drop (off + lo + s.size)).toArray = w := by
      rw [hbe, h0]; simp
      exact setRow_self w b cs.toArray U (0, 0) hg
    rw [this, h0]; rfl
  · have hsoff : soff n off lo 1 = off + lo := by unfold soff; rw [if_neg hn, Nat.mul_one]
    rw [hsoff, Go.Lib.run_copy_row_string w T T' o.type e b (off + lo) ll cap s cs.toArray U hT hs hg hl (by simp; omega), strCells_eq]
    rfl

/-! #### fresh rows, written by index -/

theorem ob_makeRow {ik : IntKind} {n : Int} {y0 : β} {zs : List Value} {T8 : TypeId} (ho : o.op = .makeSlice T x x) (hT : P.underlying T = some (.slice e)) (ap : ApOk P e k zs) (hz : Zr k y0 zs) (hk : 0 < k.sz) (hx : Opd E x ((kint ik).V n)) (hn : 0 ≤ n ∧ n.toNat ≤ lim) :
    ObX P C B E o (fun g => RowF g e k (List.replicate n.toNat y0) :: B) (fun g => is g) := fun a w h => by
  obtain ⟨i, hi⟩ : ∃ i, P.info? e = some i := by
    have := ap.size
    cases hq : P.info? e with
    | none => rw [hq] at this; cases this
    | some i => exact ⟨i, rfl⟩
  have h1 : i.zero = some (mkv k.agg zs) := by simpa [hi] using ap.zero
  have h2 : i.size = k.sz := by simpa [hi] using ap.size
  have h3 : i.bytes ≤ 65536 := by simpa [hi] using ap.bytes
  have hzc := Kd.cells (hz (okB C (idsOf B)) w)
  have hzl := k.len (hz (okB C (idsOf B)) w)
  obtain ⟨hn0, hnl⟩ := hn
  unfold lim at hnl
  have hb : i.bytes * n.toNat ≤ 281474976710656 := by
    calc i.bytes * n.toNat ≤ 65536 * 2147483648 := Nat.mul_le_mul h3 hnl
      _ ≤ 281474976710656 := by decide
  obtain ⟨w', hr, hown, hgr⟩ := run_make_full (P := P) w 0 T e i (mkv k.agg zs) k.sz hT hi h1 h2 ik ik n.toNat hb (by unfold maxLen; omega) (Nat.zero_le _)
  have hxv : a.eval x = .int ik n := (V_int.1 (h.arg hx)).1
  have hnn : ((n.toNat : Nat) : Int) = n := by omega
  rw [hnn] at hr
  have hw' : w' = w.alloc (.cells (madeCells (mkv k.agg zs).cells (n.toNat * k.sz)) e) := by
    have r2 := run_make (P := P) w T e i (mkv k.agg zs) hT hi h1 ik ik n n hn0 (Int.le_refl _) (by
      have : ((i.bytes * n.toNat : Nat) : Int) ≤ 281474976710656 := by omega
      rw [Int.natCast_mul, hnn] at this; exact this) (by omega)
    rw [hr] at r2
    injection r2 with r3 r4
    rw [r4, h2]
  refine .value (w' := w') (v := .slice (some ⟨w.heap.size, 0, none⟩) n.toNat n.toNat) ?_ ⟨.slice (some ⟨w.heap.size, 0, none⟩) n.toNat n.toNat, rfl, ?_⟩
  · simp only [execOp, ho, hxv, hr, Sem.run_bind, Sem.run_pure, Result.andThen_ok]
  · rw [hw']
    refine h.new _ (G := RowF (.slice (some ⟨w.heap.size, 0, none⟩) n.toNat n.toNat) e k (List.replicate n.toNat y0)) rfl (fun _ => ?_)
    rw [← hw']
    refine ⟨_, ?_, by rw [List.length_replicate]; exact hown⟩
    have := relL_zeros (ok := okB C (idsOf (RowF (.slice (some ⟨w.heap.size, 0, none⟩) n.toNat n.toNat) e k (List.replicate n.toNat y0) :: B))) (w := w') (hz _ _) n.toNat
    rw [hzl] at this
    have e1 : (madeCells (mkv k.agg zs).cells (n.toNat * k.sz)).toList = (List.range (n.toNat * k.sz)).map fun j => zs.toArray[j % zs.toArray.size]! := by
      have : (mkv k.agg zs).cells = zs.toArray := by rw [← Array.toList_inj, hzc]
      rw [this]; simp [madeCells]
    rw [e1]
    simpa [hzl] using this

/-- an element's place in a row of the call's own -/
def rowPtr (v : Value) (off : Nat) : Value := match v with
  | .slice (some a) _ _ => .pointer (some ⟨a.block, off, none⟩)
  | _ => undef

theorem ob_indexAddrRow {v : Value} {xs : List β} {ik : IntKind} {n : Int} (ho : o.op = .indexAddr T x i) (hT : P.underlying T = some (.slice e)) (hs : (P.info? e).map (·.size) = some k.sz) (hx : Opd E x (is v)) (hB : RowF v T' k xs ∈ B)
    (hi : Opd E i ((kint ik).V n)) (hb : 0 ≤ n ∧ n < xs.length) : Ob P C B E o (is (rowPtr v (n.toNat * k.sz))) := fun a w h => by
  have hx' : a.eval x = v := h.arg hx
  obtain ⟨rs, hr, hl, hv⟩ := h.own _ hB
  rcases hv with ⟨rfl, h0⟩ | ⟨g, cap, cur, rfl, _, hg, _⟩
  · omega
  · exact .value (w' := w) (v := .pointer (some ⟨g, n.toNat * k.sz, none⟩)) (by
      simp [execOp, ho, hx', (V_int.1 (h.arg hi)).1, Instr.indexAt, asIntOf, run_underlying hT, Instr.sureAddr, run_sizeOf' hs, hb.1, hb.2, add_lit]) ⟨rfl, .refl _ _⟩

theorem ob_loadRow {v : Value} {xs : List β} {n : Int} {Y : β} (ho : o.op = .load T x) (tk : TK P T k) (hx : Opd E x (is (rowPtr v (n.toNat * k.sz)))) (hB : RowF v T' k xs ∈ B) (hy : at? xs n = some Y) : Ob P C B E o (k.V Y) := fun a w h => by
  have hx' : a.eval x = rowPtr v (n.toNat * k.sz) := h.arg hx
  obtain ⟨rs, hr, hl, hv⟩ := h.own _ hB
  obtain ⟨hy0, hy1, hy2⟩ := at?_some hy
  rcases hv with ⟨rfl, h0⟩ | ⟨g, cap, cur, rfl, _, hg, h1, h2, h3, h4⟩
  · omega
  · have hY := relL_get hr hy2
    have hle : n.toNat * k.sz + k.sz ≤ xs.length * k.sz := by rw [← Nat.succ_mul]; exact Nat.mul_le_mul_right _ (by omega)
    have hload := run_loadVar' (w := w) tk hY (a := ⟨g, n.toNat * k.sz, none⟩) (fun j u hj => by
      refine BF_cell (k := k) (U := T') (cs := cur.toList) (by simpa using hg) ?_
      rw [← h4] at hj
      rw [List.drop_take, List.take_take] at hj
      rwa [Nat.min_eq_left (by omega)] at hj)
    exact .value (w' := w) (v := mkv k.agg ((rs.drop (n.toNat * k.sz)).take k.sz)) (by simp [execOp, ho, hx', rowPtr, Instr.loadAt, Instr.sureAddr, hload]) ⟨⟨_, hY, rfl⟩, .refl _ _⟩

theorem ob_storeRow {v : Value} {xs xs' : List β} {n : Int} {Y : β} (ho : o.op = .store T x y) (tk : TK P T k) (hx : Opd E x (is (rowPtr v (n.toNat * k.sz)))) (hy : Opd E y (k.V Y)) (hB : B = A ++ RowF v e k xs :: D) (hs : set? xs n Y = some xs') (hB' : B' = A ++ RowF v e k xs' :: D) :
    ObX P C B E o (fun _ : Unit => B') (fun _ => nofact) := fun a w h => by
  subst hB hB'
  have hx' : a.eval x = rowPtr v (n.toNat * k.sz) := h.arg hx
  obtain ⟨rs, hr, hl, hv⟩ := h.own (RowF v e k xs) (by simp)
  obtain ⟨hy0, hy1, rfl⟩ := set?_some hs
  rcases hv with ⟨rfl, h0⟩ | ⟨g, cap, cur, rfl, hge, hg, h1, h2, h3, h4⟩
  · omega
  · obtain ⟨ds, hd, hv⟩ := h.arg hy
    have hdl := k.len hd
    have hcells : (mkv k.agg ds).cells = ds.toArray := by have := Kd.cells hd; rw [← Array.toList_inj, this]
    have hle : n.toNat * k.sz + k.sz ≤ xs.length * k.sz := by rw [← Nat.succ_mul]; exact Nat.mul_le_mul_right _ (by omega)
    have hle2 : xs.length * k.sz ≤ cap * k.sz := Nat.mul_le_mul_right _ h1
    have hst := run_storeCells_at P g (n.toNat * k.sz) e ds 0 cur w hg (by simp [hdl, h3]; omega) (k.cell1 hd)
    simp only [Nat.add_zero, hdl] at hst
    have hset := relL_set hr hd (i := n.toNat) (by omega)
    refine .skip (w' := w.setRow g (cur.toList.take (n.toNat * k.sz) ++ ds ++ cur.toList.drop (n.toNat * k.sz + k.sz)).toArray) ?_ ⟨(), trivial, ?_⟩
    · simp [execOp, ho, hx', hv, rowPtr, Instr.storeAt, Instr.sureAddr, storeVar, hcells, run_sizeOf' tk.size, hdl, hst]
    · refine h.turn (g := RowF (.slice (some ⟨g, 0, none⟩) xs.length cap) e k (xs.set n.toNat Y)) rfl ⟨rfl, rfl, rfl, by simp, fun q _ hq => setRow_other _ _ _ _ (by simpa [RowF, ownIds] using hq)⟩ (fun kp => ?_)
      refine ⟨_, relL_mono hset kp, ?_, .inr ⟨g, cap, _, by rw [List.length_set], hge, setRow_heap _ _ _ _ _ _ hg, by rw [List.length_set]; exact h1, h2, ?_, ?_⟩⟩
      · have := relL_len hset; rw [this]
      · simp only [List.size_toArray, List.length_append, List.length_take, List.length_drop, Array.length_toList, h3, hdl]; omega
      · rw [List.length_set]
        have hrl : rs.length = xs.length * k.sz := hl
        subst h4
        simp only [List.length_take, Array.length_toList, h3] at hrl ⊢
        rw [List.take_append, List.take_append, List.take_take, List.take_take, List.drop_take]
        simp only [List.length_take, Array.length_toList, h3, List.length_append, hdl]
        rw [Nat.min_eq_right (show n.toNat * k.sz ≤ xs.length * k.sz by omega), Nat.min_eq_left (show n.toNat * k.sz ≤ xs.length * k.sz by omega), Nat.min_eq_left (show n.toNat * k.sz ≤ cap * k.sz by omega)]
        rw [List.take_of_length_le (l := ds) (by omega)]

/-! #### a text's bytes behind a row of the call's own -/

theorem ob_appendStr {v : Value} {xs l : List Int} (ho : o.op = .call { callee := .builtin .append, args := #[x, y], argTypes := #[T, T'] }) (hT : P.underlying T = some (.slice e)) (hT' : P.underlying T' = some .string)
    (ap : ApOk P e (kint .u8) [.int .u8 0]) (hby : ((P.info? e).map (·.bytes)) = some 1) (hx : Opd E x (is v)) (hy : Opd E y (kstr.V l)) (hB : B = A ++ RowF v e (kint .u8) xs :: D) (hb : xs.length + l.length ≤ lim) :
    ObX P C B E o (fun g => A ++ RowF g e (kint .u8) (xs ++ l) :: D) (fun g => is g) := fun a w h => by
  subst hB
  obtain ⟨i, hi⟩ : ∃ i, P.info? e = some i := by
    have := ap.size
    cases hq : P.info? e with
    | none => rw [hq] at this; cases this
    | some i => exact ⟨i, rfl⟩
  have hz : i.zero = some (.int .u8 0) := by have := ap.zero; rw [hi] at this; exact this
  have hsize : i.size = 1 := by simpa [hi, kint] using ap.size
  have hby' : i.bytes = 1 := by simpa [hi] using hby
  obtain ⟨rs, hr, hown⟩ := h.own (RowF v e (kint .u8) xs) (by simp)
  obtain ⟨s, hs', rfl, hm⟩ := V_str.1 (h.arg hy)
  rw [bl_length] at hb
  unfold lim at hb
  have hv : a.eval x = v := h.arg hx
  have hb1 : xs.length + s.size ≤ maxLen := by unfold maxLen; omega
  obtain ⟨v', w', hrun, hown', hgr, _⟩ := Go.Lib.run_append_own_string (P := P) w 0 T T' o.type e i hT hT' hi hz hsize hby' v xs.length rs hown s hb1 (by omega) (Nat.zero_le _)
  have hfresh : ∀ b, b ∈ ownIds v' → b ∈ ownIds v ∨ w.heap.size ≤ b := by
    rcases hown.2 with ⟨rfl, h0⟩ | ⟨g, cap', cur', rfl, _, hg', hc1, hc2, hc3, hc4⟩
    · have hrs : rs = [] := List.eq_nil_of_length_eq_zero (by rw [hown.1, h0]; simp)
      have hxs : xs.length = 0 := h0
      obtain ⟨v2, w2, hrun2, hown2, _, _⟩ := Go.Lib.run_append_own_string (P := P) w w.heap.size T T' o.type e i hT hT' hi hz hsize hby' (.slice none 0 0) 0 [] (World.ownsRow_nil w _ e 1) s (by omega) (by omega) (Nat.le_refl _)
      rw [hrun] at hrun2
      injection hrun2 with e1 e2
      subst e1
      intro b hbm
      rcases hown2.2 with ⟨rfl, _⟩ | ⟨g, cap', cur', rfl, hge, _⟩
      · simp [ownIds] at hbm
      · simp [ownIds] at hbm; subst hbm; exact .inr hge
    · intro b hbm
      by_cases hroom : xs.length + s.size ≤ cap'
      · have r1 := Go.Lib.run_append_room_string (P := P) w T T' o.type e i hT hT' hi hsize g xs.length cap' cur' hg' s hroom (by rw [hc3]; simpa [kint] using hroom)
        rw [hrun] at r1
        injection r1 with e1 e2
        rw [e1] at hbm
        simp [ownIds] at hbm ⊢; exact .inl hbm
      · have holds : ∀ j u, rs[j]? = some u → w.cell? ((⟨g, 0, none⟩ : Addr).add j) = some u := hown.cells (g := g) rfl
        have r2 := Go.Lib.run_append_grow_string (P := P) w T T' o.type e i (.int .u8 0) hT hT' hi hz ⟨g, 0, none⟩ xs.length cap' rs (by rw [hsize]; exact hown.1) holds s (by omega) (by omega) (by rw [hby']; exact growslice_fits (by omega) (by omega))
        rw [hrun] at r2
        injection r2 with e1 e2
        rw [e1] at hbm
        simp [ownIds] at hbm; exact .inr (by omega)
  refine .value (w' := w') (v := v') ?_ ⟨v', rfl, ?_⟩
  · simp only [execOp, ho, resolve, invoke, builtin, Sem.run_bind, Sem.run_pure, Result.andThen_ok, List.map_toArray, List.map_cons, List.map_nil, hv, hs']
    rw [hrun]; rfl
  · have hev : Ev (RowF v e (kint .u8) xs).ids w w' := ⟨hgr.os, hgr.tape, hgr.output, hgr.size, fun q hq hn => hgr.block q hq (by
      intro e1
      rcases hown.2 with ⟨rfl, _⟩ | ⟨g, cap', cur', rfl, _⟩
      · simp [Value.ownBlock] at e1
      · simp [Value.ownBlock] at e1
        exact hn (by simp [RowF, ownIds, e1]))⟩
    refine h.turn' hfresh ?_ hev (fun kp => ⟨rs ++ Go.Lib.strCells s, ?_, by rw [List.length_append, bl_length]; exact hown'⟩)
    · show (ownIds v').Nodup
      unfold ownIds; split <;> simp
    · have e1 : Go.Lib.strCells s = (bl s).map (Value.int .u8) := by unfold Go.Lib.strCells bl; simp
      rw [e1]
      exact relL_append (relL_mono hr kp) (relL_bl _ _ s)

/-! #### nil pointers -/

theorem ob_ptrNil {p : Option Addr} (ho : o.op = .binOp .eql T x y T'') (hT : P.underlying T = some (.pointer (P.pointee T))) (hx : Opd E x (is (.pointer p))) (hy : Opd E y (is (.pointer none))) : Ob P C B E o (kbool.V p.isNone) := fun a w h => by
  have h1 : a.eval x = .pointer p := h.arg hx
  have h2 : a.eval y = .pointer none := h.arg hy
  exact .value (w' := w) (v := .bool p.isNone) (by simp [execOp, ho, h1, h2, eqGuard, run_eql_pointer_nil w T p hT]) ⟨V_bool.2 rfl, .refl _ _⟩
theorem ob_ptrNotNil {p : Option Addr} (ho : o.op = .binOp .neq T x y T'') (hT : P.underlying T = some (.pointer (P.pointee T))) (hx : Opd E x (is (.pointer p))) (hy : Opd E y (is (.pointer none))) : Ob P C B E o (kbool.V (!p.isNone)) := fun a w h => by
  have h1 : a.eval x = .pointer p := h.arg hx
  have h2 : a.eval y = .pointer none := h.arg hy
  exact .value (w' := w) (v := .bool (!p.isNone)) (by simp [execOp, ho, h1, h2, eqGuard, run_neq_pointer_nil w T p hT]) ⟨V_bool.2 rfl, .refl _ _⟩
theorem ob_ptrrNil {Y : β} (ho : o.op = .binOp .eql T x y T'') (hT : P.underlying T = some (.pointer (P.pointee T))) (hx : Opd E x (ptrTo k Y)) (hy : Opd E y (is (.pointer none))) : Ob P C B E o (kbool.V false) := fun a w h => by
  obtain ⟨p, cs, h1, _⟩ := h.arg hx
  have h2 : a.eval y = .pointer none := h.arg hy
  exact .value (w' := w) (v := .bool false) (by simp [execOp, ho, h1, h2, eqGuard, run_eql_pointer_nil w T (some p) hT]) ⟨V_bool.2 rfl, .refl _ _⟩
theorem ob_ptrrNotNil {Y : β} (ho : o.op = .binOp .neq T x y T'') (hT : P.underlying T = some (.pointer (P.pointee T))) (hx : Opd E x (ptrTo k Y)) (hy : Opd E y (is (.pointer none))) : Ob P C B E o (kbool.V true) := fun a w h => by
  obtain ⟨p, cs, h1, _⟩ := h.arg hx
  have h2 : a.eval y = .pointer none := h.arg hy
  exact .value (w' := w) (v := .bool true) (by simp [execOp, ho, h1, h2, eqGuard, run_neq_pointer_nil w T (some p) hT]) ⟨V_bool.2 rfl, .refl _ _⟩
theorem ob_nilCheckr {Y : β} (ho : o.op = .nilCheck x) (hx : Opd E x (ptrTo k Y)) : Ob P C B E o (ptrTo k Y) := fun a w h => by
  have hh := h.arg hx
  obtain ⟨p, cs, h1, h2, h3⟩ := hh
  exact .value (w' := w) (v := .pointer (some p)) (by simp [execOp, ho, h1]) ⟨⟨p, cs, rfl, h2, h3⟩, .refl _ _⟩
end

/-! #### a branch that is not taken -/
theorem cond_t {P : Program} {Q : Exit → Act → World → Prop} {a : Act} {w : World} {C : Ctx} {B : List OF} {E : Env} {x : Operand} {c1 c2 : Code} (s : St C B E a w) (hx : Opd E x (kbool.V true)) (h1 : c1.wp P Q a w) : (Code.cond x c1 c2).wp P Q a w :=
  cond_split s hx (fun _ => h1) (fun h => by cases h)
theorem cond_f {P : Program} {Q : Exit → Act → World → Prop} {a : Act} {w : World} {C : Ctx} {B : List OF} {E : Env} {x : Operand} {c1 c2 : Code} (s : St C B E a w) (hx : Opd E x (kbool.V false)) (h2 : c2.wp P Q a w) : (Code.cond x c1 c2).wp P Q a w :=
  cond_split s hx (fun h => by cases h) (fun _ => h2)

end Go.Proofs.Kit
