/- A kit of this claim's own, part 23: rows that are cut short, slices of the rest of a row, clearing. No condition. -/
import Derived.Test.YtdlnfgpcnfbjiaaKx22
namespace Go.Proofs.Kit
open Go Go.RowKit
set_option linter.unusedSimpArgs false
set_option linter.unusedVariables false

/-- the rest of the row v, from lo on: so many elements -/
def slT (v : Value) (s lo len : Nat) : Fact := ⟨fun _ _ u => (v = .slice none 0 0 ∧ u = .slice none 0 0 ∧ len = 0) ∨
  ∃ g n c, v = .slice (some ⟨g, 0, none⟩) n c ∧ lo + len ≤ c ∧ c ≤ maxLen ∧ u = .slice (some ⟨g, soff c 0 lo s, none⟩) len (c - lo), fun h _ => h⟩

section
variable {P : Program} {C : Ctx} {B B' A D : List OF} {E : Env} {o : Oper} {α β : Type} {k : Kd α} {l : Kd β} {T T' U e : TypeId} {x y i : Operand} {v : Value} {xs xs' : List α} {off off' lo len : Nat} {Y : β} {ik : IntKind} {n : Int} {bl bh : Option Operand} {m h : Int}

theorem ob_cutT (ho : o.op = .slice T x bl none none) (hT : P.underlying T = some (.slice e)) (hs : (P.info? e).map (·.size) = some k.sz) (hx : Opd E x (is v)) (hB : RowF v T' k xs ∈ B) (hl : Bnd E 0 bl m) (hb : 0 ≤ m ∧ m ≤ xs.length) :
    Ob P C B E o (slT v k.sz m.toNat (xs.length - m.toNat)) := fun a w st => by
  have hx' : a.eval x = v := st.arg hx
  obtain ⟨rs, hr, hl', hv⟩ := st.own _ hB
  rcases hv with ⟨rfl, h0⟩ | ⟨g, cap, cur, rfl, _, hg, h1, h2, h3, h4⟩
  · have hm : m = 0 := by omega
    subst hm
    have hrb := run_bounds (P := P) (hi := none) (h := ((0 : Nat) : Int)) st true 0 0 hl .none (by omega) (by omega) (by omega)
    refine .value (w' := w) (v := .slice none 0 0) ?_ ⟨.inl ⟨rfl, rfl, by omega⟩, .refl _ _⟩
    simp only [Option.map_none] at hrb
    simp only [execOp, ho, Instr.sliceAt, Instr.slice, Option.map_none, Sem.run_bind, run_underlying hT, Result.andThen_ok, hx', Sem.run_pure, hrb]
    simp [hrb, run_sizeOf' hs]
  · have hrb := run_bounds (P := P) (hi := none) (h := ((xs.length : Nat) : Int)) st true xs.length cap hl .none hb.1 hb.2 (by omega)
    refine .value (w' := w) (v := .slice (some ⟨g, soff cap 0 m.toNat k.sz, none⟩) (xs.length - m.toNat) (cap - m.toNat)) ?_ ⟨.inr ⟨g, xs.length, cap, rfl, by omega, h2, rfl⟩, .refl _ _⟩
    simp only [Option.map_none] at hrb
    simp only [execOp, ho, Instr.sliceAt, Instr.slice, Option.map_none, Sem.run_bind, run_underlying hT, Result.andThen_ok, hx', Sem.run_pure, hrb]
    unfold soff
    by_cases hc : cap = m.toNat
    · simp [hrb, run_sizeOf' hs, hc]
    · simp [hrb, run_sizeOf' hs, hc, add_lit]

theorem ob_lenT {s : Nat} (ho : o.op = .call { callee := .builtin .len, args := #[x], argTypes := #[T] }) (hT : P.underlying T = some (.slice e)) (hx : Opd E x (slT v s lo len)) : Ob P C B E o ((kint .i64).V (len : Int)) := fun a w st => by
  rcases st.arg hx with ⟨_, hu, h0⟩ | ⟨g, n, c, _, h1, h2, hu⟩
  · exact .value (w' := w) (v := .int .i64 len) (by simp [execOp, ho, hu, resolve, invoke, builtin, Builtin.len_, run_underlying hT, goInt, h0]) ⟨V_int.2 ⟨rfl, has_len (by omega)⟩, .refl _ _⟩
  · exact .value (w' := w) (v := .int .i64 len) (by simp [execOp, ho, hu, resolve, invoke, builtin, Builtin.len_, run_underlying hT, goInt]) ⟨V_int.2 ⟨rfl, has_len (by omega)⟩, .refl _ _⟩

theorem ob_restAt (ho : o.op = .indexAddr T x i) (hT : P.underlying T = some (.slice e)) (hs : (P.info? e).map (·.size) = some k.sz) (hx : Opd E x (slT v k.sz m.toNat len)) (hm : 0 ≤ m)
    (hi : Opd E i ((kint ik).V n)) (hb : 0 ≤ n ∧ n < (len : Int)) : Ob P C B E o (ptrR v ((m + n).toNat * k.sz)) := fun a w st => by
  rcases st.arg hx with ⟨_, _, h0⟩ | ⟨g, n', c, hv, h1, h2, hu⟩
  · omega
  · have hc : ¬ c = m.toNat := by omega
    have he : m.toNat * k.sz + n.toNat * k.sz = (m + n).toNat * k.sz := by rw [← Nat.add_mul]; congr 1; omega
    refine .value (w' := w) (v := .pointer (some ⟨g, (m + n).toNat * k.sz, none⟩)) ?_ ⟨⟨_, _, _, hv, rfl⟩, .refl _ _⟩
    rw [← he]
    simp [execOp, ho, hu, (V_int.1 (st.arg hi)).1, Instr.indexAt, asIntOf, run_underlying hT, Instr.sureAddr, run_sizeOf' hs, hb.1, hb.2, add_lit, soff, hc]

/-- the rest of a row becomes noughts -/
theorem ob_clearT {y0 : α} {zs : List Value} (ho : o.op = .call { callee := .builtin .clear, args := #[x], argTypes := #[T] }) (hT : P.underlying T = some (.slice e)) (ap : ApOk P e k zs) (hz : Zr k y0 zs) (hk : 0 < k.sz) (hx : Opd E x (slT v k.sz lo len))
    (hB : B = A ++ RowF v e k xs :: D) (hf : lo + len ≤ xs.length) (hB' : B' = A ++ RowF v e k (xs.take lo ++ List.replicate len y0 ++ xs.drop (lo + len)) :: D) : ObX P C B E o (fun _ : Unit => B') (fun _ => nofact) := fun a w st => by
  subst hB hB'
  by_cases h0 : len = 0
  · subst h0
    have e1 : xs.take lo ++ List.replicate 0 y0 ++ xs.drop (lo + 0) = xs := by simp
    rw [e1]
    refine .value (w' := w) (v := .tuple #[]) ?_ ⟨(), trivial, st⟩
    rcases st.arg hx with ⟨_, hu, _⟩ | ⟨g, n, c, _, _, _, hu⟩ <;>
      simp [execOp, ho, hu, resolve, invoke, builtin, Builtin.clear_, run_underlying hT]
  · rcases st.arg hx with ⟨_, _, h1⟩ | ⟨g, n, c, rfl, h1, h2, hu⟩
    · exact absurd h1 h0
    · obtain ⟨cur, rs, hn', hg, hc1, hc2, hc3, hc4, hr⟩ := row_block (st.own (RowF (.slice (some ⟨g, 0, none⟩) n c) e k xs) (by simp)) rfl
      subst hn'
      have hcl : ¬ c = lo := by omega
      have hzc := Kd.cells (hz (okB C (idsOf (A ++ RowF (.slice (some ⟨g, 0, none⟩) xs.length c) e k xs :: D))) w)
      have hzl := k.len (hz (okB C (idsOf (A ++ RowF (.slice (some ⟨g, 0, none⟩) xs.length c) e k xs :: D))) w)
      have hza : (mkv k.agg zs).cells = zs.toArray := by rw [← Array.toList_inj, hzc]
      have hds : (Builtin.zeroCells (mkv k.agg zs).cells len).toList = (List.range (len * zs.length)).map fun j => zs.toArray[j % zs.length]! := by
        rw [hza]; simp [Builtin.zeroCells]
      generalize hdd : (Builtin.zeroCells (mkv k.agg zs).cells len).toList = ds at hds
      have hdl : ds.length = len * k.sz := by rw [hds]; simp [hzl]
      have hrz : ∀ ok w, relL k ok w (List.replicate len y0) ds := fun ok w => by rw [hds]; exact relL_zeros (hz ok w) len
      have hle2 : xs.length * k.sz ≤ c * k.sz := Nat.mul_le_mul_right _ hc1
      have hfit : lo * k.sz + ds.length ≤ xs.length * k.sz := by rw [hdl, ← Nat.add_mul]; exact Nat.mul_le_mul_right _ hf
      have hst := run_storeCells_at P g (lo * k.sz) e ds 0 cur w hg (by rw [hc3]; omega) (fun u hu => relL_cell1 (hrz (okB C []) w) u hu)
      simp only [Nat.add_zero] at hst
      refine .value (w' := w.setRow g (cur.toList.take (lo * k.sz) ++ ds ++ cur.toList.drop (lo * k.sz + ds.length)).toArray) (v := .tuple #[]) ?_ ⟨(), trivial, ?_⟩
      · obtain ⟨len, rfl⟩ : ∃ q, len = q + 1 := ⟨len - 1, by omega⟩
        have hoff : soff c 0 lo k.sz = lo * k.sz := by unfold soff; rw [if_neg hcl, Nat.zero_add]
        simp only [execOp, ho, resolve, invoke, builtin, Builtin.clear_, Sem.run_bind, Sem.run_pure, Result.andThen_ok, List.map_toArray, List.map_cons, List.map_nil, hu, hoff]
        simp [run_underlying hT, run_zero ap.zero, hdd, hst]
      · refine st.turn (g := RowF (.slice (some ⟨g, 0, none⟩) xs.length c) e k (xs.take lo ++ List.replicate len y0 ++ xs.drop (lo + len))) rfl ⟨rfl, rfl, rfl, by simp, fun q _ hq => setRow_other _ _ _ _ (by simpa [RowF, ownIds] using hq)⟩ (fun kp => ?_)
        refine row_stored hc3 hc1 hc2 hg hfit ⟨by simp; omega, ?_⟩
        rw [hc4, hdl, ← Nat.add_mul]
        rw [hdl, ← Nat.add_mul] at kp
        have r1 := relL_mono (relL_split hr lo).1 kp
        have r2 := relL_mono (relL_split hr (lo + len)).2 kp
        exact relL_append (relL_append r1 (hrz _ _)) r2

/-- a row is cut short -/
theorem ob_cutRow (ho : o.op = .slice T x bl bh none) (hT : P.underlying T = some (.slice e)) (hs : (P.info? e).map (·.size) = some k.sz) (hx : Opd E x (is v)) (hB : B = A ++ RowF v T' k xs :: D) (hl : Bnd E 0 bl 0) (hh : Bnd E xs.length bh h) (hb : 0 ≤ h ∧ h ≤ xs.length) :
    ObX P C B E o (fun g => A ++ RowF g T' k (xs.take h.toNat) :: D) (fun g => is g) := fun a w st => by
  subst hB
  have hx' : a.eval x = v := st.arg hx
  obtain ⟨rs, hr, hl', hv⟩ := st.own (RowF v T' k xs) (by simp)
  rcases hv with ⟨rfl, h0⟩ | ⟨g, cap, cur, rfl, _, hg, h1, h2, h3, h4⟩
  · have hxs : xs = [] := List.eq_nil_of_length_eq_zero h0
    subst hxs
    have hm : h = 0 := by simp at hb; omega
    subst hm
    have hrb := run_bounds (P := P) (l := 0) (h := 0) st true 0 0 hl hh (by omega) (by omega) (by omega)
    refine .value (w' := w) (v := .slice none 0 0) ?_ ⟨.slice none 0 0, rfl, by simpa using st⟩
    simp only [execOp, ho, Instr.sliceAt, Instr.slice, Option.map_none, Sem.run_bind, run_underlying hT, Result.andThen_ok, hx', Sem.run_pure, hrb]
    simp [hrb, run_sizeOf' hs]
  · have hrb := run_bounds (P := P) (l := 0) (h := h) st true xs.length cap hl hh (by omega) hb.1 (by omega)
    have hhn : h.toNat ≤ xs.length := by omega
    have htl : (xs.take h.toNat).length = h.toNat := by simp; omega
    have hk2 := Nat.mul_le_mul_right k.sz hhn
    refine .value (w' := w) (v := .slice (some ⟨g, 0, none⟩) h.toNat cap) ?_ ⟨.slice (some ⟨g, 0, none⟩) h.toNat cap, rfl, ?_⟩
    · simp only [execOp, ho, Instr.sliceAt, Instr.slice, Option.map_none, Sem.run_bind, run_underlying hT, Result.andThen_ok, hx', Sem.run_pure, hrb]
      by_cases hc : cap = 0
      · simp [hrb, run_sizeOf' hs, hc]
      · simp [hrb, run_sizeOf' hs, hc, add_lit]
    · refine st.turn (f := RowF (.slice (some ⟨g, 0, none⟩) xs.length cap) T' k xs) (g := RowF (.slice (some ⟨g, 0, none⟩) h.toNat cap) T' k (xs.take h.toNat)) rfl (.refl _ _) (fun kp => ?_)
      refine ⟨rs.take (h.toNat * k.sz), (relL_split hr h.toNat).1, ?_, .inr ⟨g, cap, cur, by rw [htl], Nat.zero_le _, hg, by rw [htl]; omega, h2, h3, ?_⟩⟩
      · rw [htl, List.length_take, hl']; omega
      · rw [htl, ← h4, List.take_take, Nat.min_eq_left hk2]
end

end Go.Proofs.Kit
