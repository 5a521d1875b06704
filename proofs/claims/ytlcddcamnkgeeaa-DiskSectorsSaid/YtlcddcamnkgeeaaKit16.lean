/- A kit of this claim's own, part 16: new things that a callee hands back; a text's bytes as a row that is written by index. No condition. -/
import Derived.Test.YtlcddcamnkgeeaaKit14
import Derived.Lib.ConvBytes
namespace Go.Proofs.Kit
open Go Go.RowKit
set_option linter.unusedSimpArgs false
set_option linter.unusedVariables false

/-! #### more is owned -/

theorem St.addAll {C : Ctx} {B L : List OF} {E : Env} {a : Act} {w w' : World} (h : St C B E a w) (e : Ev [] w w') (hn : (idsOf L).Nodup) (hf : ∀ b, b ∈ idsOf L → w.heap.size ≤ b)
    (hL : Keep (okB C (idsOf B)) (okB C (idsOf (L ++ B))) w w' → ∀ q, q ∈ L → q.holds (okB C (idsOf (L ++ B))) w') : St C (L ++ B) E a w' := by
  have kp : Keep (okB C (idsOf B)) (okB C (idsOf (L ++ B))) w w' := by
    intro b hb ho
    refine ⟨e.block b hb (by simp), ho.1, ?_⟩
    rw [idsOf_append, List.mem_append]
    rintro (hm | hm)
    · have := hf b hm; omega
    · exact ho.2 hm
  refine { size := h.size, dfr := h.dfr, nod := ?_, fresh := ?_, ev := h.ev.trans (e.mono (by simp)), own := ?_, env := fun t F ht => F.mono (h.env t F ht) kp }
  · rw [idsOf_append, List.nodup_append]
    refine ⟨hn, h.nod, fun x hx y hy hxy => ?_⟩
    subst hxy
    have := hf x hx; have := h.lt hy; omega
  · intro b hb
    rw [idsOf_append, List.mem_append] at hb
    rcases hb with hm | hm
    · left; have := hf b hm; have := h.ev.size; omega
    · exact h.fresh b hm
  · intro q hq
    rcases List.mem_append.1 hq with hm | hm
    · exact hL kp q hm
    · exact q.mono (h.own q hm) kp (fun b hb => e.block b (q.lt (h.own q hm) b hb) (by simp))

section
variable {P : Program} {C : Ctx} {B B' A D : List OF} {E : Env} {o : Oper} {f : FuncId}

/-- a callee hands back what is new and the caller's own from now on -/
theorem ob_callN {γ : Type} {F : γ → Fact} {L' : γ → List OF} {argTypes : Array TypeId} {args : List Operand} (ho : o.op = .call { callee := .value (.func f), args := args.toArray, argTypes := argTypes }) (hb : hasBody P f)
    (hg : ∀ a w, St C B E a w → GivesX P f (args.map a.eval) (okB C (idsOf B)) w [] F L') : ObX P C B E o (fun g => L' g ++ B) F := fun a w h => by
  unfold Does
  have e : (execOp a.eval o).run P w = .ok (.enter f (args.toArray.map a.eval)) w := by
    simp only [execOp, ho]; exact run_call (c := { callee := .value (.func f), args := args.toArray, argTypes := argTypes }) rfl rfl hb
  rw [e]
  have := hg a w h
  unfold GivesX at this
  have e2 : (args.map a.eval).toArray = args.toArray.map a.eval := by simp
  rw [e2] at this
  refine this.mono fun e w' ⟨v, he, g, hF, hev, hn, hfr, hown⟩ => ⟨v, he, g, ?_, ?_⟩
  all_goals
    have kp : Keep (okOut (okB C (idsOf B)) w (idsOf []) (idsOf (L' g))) (okB C (idsOf (L' g ++ B))) w' w' := by
      intro b _ ho
      refine ⟨rfl, ?_⟩
      by_cases hb : b < w.heap.size
      · have ho1 := (ho.1 hb).resolve_right (by simp [idsOf])
        refine ⟨ho1.1, ?_⟩
        rw [idsOf_append, List.mem_append]
        rintro (hm | hm)
        · exact ho.2 hm
        · exact ho1.2 hm
      · refine ⟨fun hc => absurd hc (by have := h.ev.size; omega), ?_⟩
        rw [idsOf_append, List.mem_append]
        rintro (hm | hm)
        · exact ho.2 hm
        · exact hb (h.lt hm)
  · exact (F g).mono hF kp
  · refine h.addAll hev hn (fun b hb => ?_) (fun _ q hq => q.mono (hown q hq) kp (fun _ _ => rfl))
    rcases hfr b hb with h1 | h1
    · exact h1
    · cases h1
end

/-! #### a text's bytes -/

def BytF (v : Value) (e : TypeId) (xs : List Int) : OF where
  ids := ownIds v
  holds ok w := ∃ g cap cur lo hi, v = .slice (some ⟨g, 0, none⟩) xs.length cap ∧ w.heap[g]? = some (.cells cur e (lo, hi)) ∧ xs.length ≤ lo ∧ cap ≤ maxLen ∧ xs.length ≤ cap ∧ cur.toList.take xs.length = xs.map (Value.int .u8) ∧ ∀ x, x ∈ xs → 0 ≤ x ∧ x < 256
  lt := by
    rintro ok w ⟨g, cap, cur, lo, hi, rfl, hg, _⟩ b hb
    simp [ownIds] at hb; subst hb; exact lt_of_heap hg
  mono := by
    rintro ok ok' w w' ⟨g, cap, cur, lo, hi, rfl, hg, h⟩ kp hs
    exact ⟨g, cap, cur, lo, hi, rfl, (hs g (by simp [ownIds])).trans hg, h⟩

section
variable {P : Program} {C : Ctx} {B B' A D : List OF} {E : Env} {o : Oper} {T T' e : TypeId} {x y i : Operand} {v : Value} {xs xs' l : List Int} {ik : IntKind} {n Y : Int}

theorem ob_strToBytes {d : TypeDesc} (ho : o.op = .convert T T' x) (hT : P.underlying T = some d) (hT' : P.underlying T' = some (.slice e)) (he : P.underlying e = some (.int .u8)) (hx : Opd E x (kstr.V l)) :
    ObX P C B E o (fun g => BytF g e l :: B) (fun g => is g) := fun a w h => by
  obtain ⟨s, hs, rfl, hm⟩ := V_str.1 (h.arg hx)
  have hr := Go.Lib.run_convert_string_bytes (P := P) w T T' e s hT hT' he
  have hge := grownCap_ge w s.size 0 e
  refine .value (w' := Go.Lib.bytesWorld w e s) (v := .slice (some ⟨w.heap.size, 0, none⟩) s.size (grownCap w s.size 0 e)) ?_ ⟨.slice (some ⟨w.heap.size, 0, none⟩) s.size (grownCap w s.size 0 e), rfl, ?_⟩
  · simp only [execOp, ho, hs, hr, Sem.run_bind, Sem.run_pure, Result.andThen_ok]
  · have hev : Ev [] w (Go.Lib.bytesWorld w e s) := ⟨rfl, rfl, rfl, by rw [Go.Lib.bytesWorld_size]; omega, fun k hk _ => Go.Lib.bytesWorld_at_old w e s k hk⟩
    refine h.addAll (L := [BytF (.slice (some ⟨w.heap.size, 0, none⟩) s.size (grownCap w s.size 0 e)) e (bl s)]) hev (by simp [idsOf, BytF, ownIds]) (fun b hb => by simp [idsOf, BytF, ownIds] at hb; omega) (fun kp q hq => ?_)
    simp only [List.mem_singleton] at hq
    subst hq
    have hsz : (Go.Lib.bytesCells w e s).size = grownCap w s.size 0 e := by
      unfold Go.Lib.bytesCells
      rw [Array.size_append, Array.size_map, Array.size_replicate]
      show s.size + _ = _; omega
    refine ⟨w.heap.size, _, _, _, _, by rw [bl_length], Go.Lib.bytesWorld_at_new w e s, by rw [bl_length, hsz]; exact hge, grownCap_le_maxLen w s.size 0 e hm, by rw [bl_length]; exact hge, ?_, fun c hc => ?_⟩
    · rw [bl_length]
      simp only [Go.Lib.bytesCells, Array.toList_append, Array.toList_map]
      have hdl : (List.map (fun b : UInt8 => Value.int .u8 (b.toNat : Int)) s.data.toList).length = s.size := by rw [List.length_map, Array.length_toList]; rfl
      rw [List.take_append_of_le_length (by rw [hdl]; exact Nat.le_refl _), List.take_of_length_le (by rw [hdl]; exact Nat.le_refl _)]
      unfold bl; simp
    · obtain ⟨j, hj⟩ := List.getElem?_of_mem hc
      exact bl_range hj

theorem ob_indexAddrByt (ho : o.op = .indexAddr T x i) (hT : P.underlying T = some (.slice e)) (hs : (P.info? e).map (·.size) = some 1) (hx : Opd E x (is v)) (hB : BytF v T' xs ∈ B)
    (hi : Opd E i ((kint ik).V n)) (hb : 0 ≤ n ∧ n < xs.length) : Ob P C B E o (is (rowPtr v (n.toNat * 1))) := fun a w h => by
  have hx' : a.eval x = v := h.arg hx
  obtain ⟨g, cap, cur, lo, hi', rfl, hg, _⟩ := h.own _ hB
  exact .value (w' := w) (v := .pointer (some ⟨g, n.toNat * 1, none⟩)) (by
    simp [execOp, ho, hx', (V_int.1 (h.arg hi)).1, Instr.indexAt, asIntOf, run_underlying hT, Instr.sureAddr, run_sizeOf' hs, hb.1, hb.2, add_lit]) ⟨rfl, .refl _ _⟩

theorem ob_loadByt (ho : o.op = .load T x) (tk : TK P T (kint .u8)) (hx : Opd E x (is (rowPtr v (n.toNat * 1)))) (hB : BytF v T' xs ∈ B) (hy : at? xs n = some Y) : Ob P C B E o ((kint .u8).V Y) := fun a w h => by
  have hx' : a.eval x = rowPtr v (n.toNat * 1) := h.arg hx
  obtain ⟨g, cap, cur, lo, hi, rfl, hg, h1, h2, h3, h4, h5⟩ := h.own _ hB
  obtain ⟨hy0, hy1, hy2⟩ := at?_some hy
  have hYr := h5 Y (List.mem_of_getElem? hy2)
  have hcell : w.cell? ⟨g, n.toNat, none⟩ = some (.int .u8 Y) := by
    have : (cur.toList.take xs.length)[n.toNat]? = some (.int .u8 Y) := by rw [h4, List.getElem?_map, hy2]; rfl
    rw [List.getElem?_take_of_lt (by omega)] at this
    simp only [World.cell?, hg]
    simpa using this
  have hY : (kint .u8).rel (okB C (idsOf B)) w Y [.int .u8 Y] := ⟨rfl, by
    show IntKind.u8.min ≤ Y ∧ Y ≤ IntKind.u8.max
    have e1 : IntKind.u8.min = 0 := rfl
    have e2 : IntKind.u8.max = 255 := rfl
    omega⟩
  have hload := run_loadVar' (w := w) tk hY (a := ⟨g, n.toNat * 1, none⟩) (fun j u hj => by
    have hj0 : j = 0 := by
      rcases j with _ | j
      · rfl
      · simp at hj
    subst hj0
    simp at hj; subst hj
    rw [add_lit, Nat.mul_one]; exact hcell)
  exact .value (w' := w) (v := .int .u8 Y) (by simp only [execOp, ho, hx', rowPtr, Instr.loadAt, Instr.sureAddr, Sem.run_bind, Sem.run_pure, Result.andThen_ok, hload]; rfl) ⟨⟨_, hY, rfl⟩, .refl _ _⟩

theorem ob_storeByt (ho : o.op = .store T x y) (tk : TK P T (kint .u8)) (hx : Opd E x (is (rowPtr v (n.toNat * 1)))) (hy : Opd E y ((kint .u8).V Y)) (hB : B = A ++ BytF v e xs :: D) (hs : set? xs n Y = some xs') (hB' : B' = A ++ BytF v e xs' :: D) :
    ObX P C B E o (fun _ : Unit => B') (fun _ => nofact) := fun a w h => by
  subst hB hB'
  have hx' : a.eval x = rowPtr v (n.toNat * 1) := h.arg hx
  obtain ⟨g, cap, cur, lo, hi, rfl, hg, h1, h2, h3, h4, h5⟩ := h.own (BytF v e xs) (by simp)
  obtain ⟨hy0, hy1, rfl⟩ := set?_some hs
  obtain ⟨hyv, hyr⟩ := V_int.1 (h.arg hy)
  have hYr : 0 ≤ Y ∧ Y < 256 := by
    have : IntKind.u8.min ≤ Y ∧ Y ≤ IntKind.u8.max := hyr
    have e1 : IntKind.u8.min = 0 := rfl
    have e2 : IntKind.u8.max = 255 := rfl
    omega
  have hlen : xs.length ≤ cur.size := by
    have := congrArg List.length h4
    simp at this; omega
  have hcell : w.cell? ⟨g, n.toNat, none⟩ = some (cur[n.toNat]'(by omega)) := by simp [World.cell?, hg, show n.toNat < cur.size by omega]
  have hfro : w.frozen? ⟨g, n.toNat, none⟩ = false := by simp [World.frozen?, hg]; omega
  have hst : (store ⟨g, n.toNat, none⟩ (.int .u8 Y)).run P w = .ok () (w.setRow g (cur.setIfInBounds n.toNat (.int .u8 Y))) := by
    rw [run_store P w _ _ _ rfl, hcell]
    simp [hfro, setCell_eq_setRow w g n.toNat cur e (lo, hi) _ hg]
  refine .skip (w' := w.setRow g (cur.setIfInBounds n.toNat (.int .u8 Y))) ?_ ⟨(), trivial, ?_⟩
  · have ha : (⟨g, n.toNat, none⟩ : Addr).add 0 = ⟨g, n.toNat, none⟩ := by rw [add_lit]; rfl
    simp [execOp, ho, hx', hyv, rowPtr, Instr.storeAt, Instr.sureAddr, storeVar, run_sizeOf' tk.size, kint, storeCells, Value.cells, ha, hst]
  · refine h.turn (g := BytF (.slice (some ⟨g, 0, none⟩) xs.length cap) e (xs.set n.toNat Y)) rfl ⟨rfl, rfl, rfl, by simp, fun q _ hq => setRow_other _ _ _ _ (by simpa [BytF, ownIds] using hq)⟩ (fun kp => ?_)
    refine ⟨g, cap, _, lo, hi, by rw [List.length_set], setRow_heap _ _ _ _ _ _ hg, by rw [List.length_set]; exact h1, h2, by rw [List.length_set]; exact h3, ?_, fun c hc => ?_⟩
    · rw [List.length_set, Array.toList_setIfInBounds, List.take_set, h4, List.map_set]
    · rcases List.mem_or_eq_of_mem_set hc with h6 | h6
      · exact h5 c h6
      · subst h6; exact hYr

theorem ob_lenByt (ho : o.op = .call { callee := .builtin .len, args := #[x], argTypes := #[T] }) (hT : P.underlying T = some (.slice e)) (hx : Opd E x (is v)) (hB : BytF v T' xs ∈ B) : Ob P C B E o ((kint .i64).V xs.length) := fun a w h => by
  have hx' : a.eval x = v := h.arg hx
  obtain ⟨g, cap, cur, lo, hi, rfl, hg, h1, h2, h3, h4, h5⟩ := h.own _ hB
  exact .value (w' := w) (v := .int .i64 xs.length) (by simp [execOp, ho, hx', resolve, invoke, builtin, Builtin.len_, run_underlying hT, goInt]) ⟨V_int.2 ⟨rfl, has_len (by omega)⟩, .refl _ _⟩

theorem ob_bytStr (ho : o.op = .convert T T' x) (hT : P.underlying T = some (.slice e)) (hT' : P.underlying T' = some .string) (he : P.underlying e = some (.int .u8)) (hx : Opd E x (is v)) {e' : TypeId} (hB : BytF v e' xs ∈ B) : Ob P C B E o (kstr.V xs) := fun a w h => by
  have hx' : a.eval x = v := h.arg hx
  obtain ⟨g, cap, cur, lo, hi, rfl, hg, h1, h2, h3, h4, h5⟩ := h.own _ hB
  have hbl := bl_fold xs h5 ByteArray.empty
  have hbe : bl ByteArray.empty = [] := rfl
  rw [hbe, List.nil_append] at hbl
  refine .value (w' := w) (v := .string (xs.foldl (fun r n => r.push (UInt8.ofNat n.toNat)) ByteArray.empty)) ?_ ⟨V_str.2 ⟨_, rfl, hbl.symm, by rw [← bl_length, hbl]; omega⟩, .refl _ _⟩
  simp only [execOp, ho, hx', convert, Sem.run_bind, run_underlying hT, run_underlying hT', Result.andThen_ok, run_underlying he]
  have hl := run_loadCells_list (P := P) w ⟨g, 0, none⟩ (xs.map (Value.int .u8)) (fun j u hj => by
    rw [add_lit, Nat.zero_add]
    rw [← h4] at hj
    have hjl : j < xs.length := by
      rcases Nat.lt_or_ge j xs.length with h6 | h6
      · exact h6
      · rw [List.getElem?_eq_none (by simp; omega)] at hj; cases hj
    rw [List.getElem?_take_of_lt hjl] at hj
    simp only [World.cell?, hg]
    simpa using hj)
  rw [List.length_map] at hl
  rw [run_bytesToString (P := P) w ⟨g, 0, none⟩ xs.length cap xs hl]; rfl
end

end Go.Proofs.Kit
