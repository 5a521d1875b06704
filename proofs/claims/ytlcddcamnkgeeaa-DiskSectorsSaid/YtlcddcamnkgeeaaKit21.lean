/- A kit of this claim's own, part 21: small words of the printed proofs: scopes, slices of rows, copies, a function's end. No condition. -/
import Derived.Test.YtlcddcamnkgeeaaKit20
import Derived.Scope
import Derived.Laws.CopyRow
namespace Go.Proofs.Kit
open Go Go.RowKit
set_option linter.unusedSimpArgs false
set_option linter.unusedVariables false

section
variable {Q : Exit → Act → World → Prop} {a : Act} {w : World} {id : Nat}
theorem nog_normal (h : Q .normal a w) : Exit.noGoto Q .normal a w := h
theorem nog_exit (h : Q (.exit id) a w) : Exit.noGoto Q (.exit id) a w := h
end

theorem Flat.is {v : Value} : Flat (is v) := fun _ _ _ _ _ h => h
theorem tko {P : Program} {T : TypeId} {α β : Type} {k : Kd α} {K : Kd β} (h : TK P T k) (h1 : k.sz = K.sz) (h2 : k.agg = K.agg) : TK P T K := ⟨h1 ▸ h.size, h2 ▸ h.agg⟩
theorem LSK.whole {α β : Type} {K : Kd α} {k : Kd β} {x : α} {y : β} (h : K.sz = k.sz) : LSK K k k 0 x y y := fun ok w cs ds h1 h2 => by
  have e1 := K.len h1
  have e2 := k.len h2
  refine ⟨h.symm, by omega, ?_⟩
  rw [Nat.zero_add, List.drop_eq_nil_of_le (by omega)]
  simpa using h2

theorem ObX.uncond {P : Program} {C : Ctx} {B : List OF} {E : Env} {o : Oper} {γ : Type} {B' : γ → List OF} {F : γ → Fact} {c : Bool} {t : Nat} {G : Fact} (hc : c = true) (h : get E t = some (G.when c)) (ob : ObX P C B ((t, G) :: E) o B' F) : ObX P C B E o B' F := fun a w s => by
  have s' : St C B ((t, G) :: E) a w := s.fact ((s.env _ _ h).1 hc)
  refine (ob a w s').mono fun v w' ⟨g, h1, h2⟩ => ⟨g, h1, ?_⟩
  have e : ∀ u H, get E u = some H → u ≠ t → get ((t, G) :: E) u = some H := fun u H hu hne => by simp only [get]; rw [if_neg (Ne.symm hne)]; exact hu
  refine { h2 with env := fun u H hu => ?_ }
  by_cases e1 : u = t
  · subst e1
    rw [h] at hu; cases hu
    exact ⟨fun _ => h2.env u G (by simp [get]), fun hf => by rw [hc] at hf; cases hf⟩
  · exact h2.env u H (e u H hu e1)

section
variable {P : Program} {C : Ctx} {B B' A D : List OF} {E : Env} {o : Oper} {α β γ : Type} {K : Kd α} {k : Kd β} {T T' U e : TypeId} {x y : Operand} {b off : Nat} {X X' : α} {v : Value} {xs : List β} {l h : Int} {lo hi : Option Operand}

theorem seq_opxg2 {j : Nat} {want c : Bool} {t d : Tmp} {a : Act} {w : World} {ops : Array Oper} {rest : List Oper} {Q : Exit → Act → World → Prop} {γ : Type} {B1 : γ → List OF} {F : γ → Fact} {p : Bool} (h : St C B E a w) (hg : o.guard = some (j, want)) (hj : (ops[j]?).bind (·.dst) = some t)
    (ht : get E t = some ((kbool.V p).when c)) (hd : o.dst = some d) (hN : d < C.N) (ob : (c && (p == want)) = true → ObX P C B E o B1 F) (hn : (c && (p == want)) = false → ∃ g, B1 g = B)
    (K : ∀ g a' w', St C (B1 g) ((d, (F g).when (c && (p == want))) :: E) a' w' → wpList P ops Q rest a' w') : wpList P ops Q (o :: rest) a w := by
  refine wpList_step fun K' hK => ?_
  rw [wanted_guard2 h hg hj ht]
  by_cases hb : (c && (p == want)) = true
  · rw [if_pos hb]
    exact (ob hb a w h).wp fun v w' ⟨g, hF, e⟩ => hK _ _ (K g _ _ (by rw [hd]; exact e.put hN (F := (F g).when _) ⟨fun _ => hF, fun hb' => by rw [hb] at hb'; cases hb'⟩))
  · rw [if_neg hb]
    obtain ⟨g, hg'⟩ := hn (by simpa using hb)
    exact hK _ _ (K g _ _ (by rw [hd, hg']; exact h.put hN (F := (F g).when _) ⟨fun hb' => absurd hb' hb, fun _ => rfl⟩))

theorem ob_appendL2 {ys : List β} {y0 : β} {zs : List Value} (ho : o.op = .call { callee := .builtin .append, args := #[x, y], argTypes := #[T, T] }) (hT : P.underlying T = some (.slice e)) (ap : ApOk P e k zs) (hz : Zr k y0 zs)
    (hsz : 0 < k.sz) (hx : Opd E x (is v)) (hy : Opd E y ((ksl k).V ys)) (hB : B = A ++ RowF v e k xs :: D) (hb : xs.length + ys.length ≤ lim) :
    ObX P C B E o (fun g => A ++ RowF g e k (xs ++ ys) :: D) (fun g => is g) := ob_appendL ho hT ap hz hsz trivial hx hy hB hb

/-! #### slices of what lies in a row -/

theorem ob_sliceRow {n : Nat} {s : Nat} (ho : o.op = .slice T x lo hi none) (hT : P.underlying T = some (.array n e)) (hs : (P.info? e).map (·.size) = some s) (hx : Opd E x (ptrR v off))
    (hl : Bnd E 0 lo l) (hh : Bnd E n hi h) (hb : 0 ≤ l ∧ l ≤ h ∧ h ≤ n) : Ob P C B E o (slR v (soff n off l.toNat s) (h.toNat - l.toNat) (n - l.toNat)) := fun a w st => by
  obtain ⟨g, n', c, hv, hx'⟩ := st.arg hx
  have hr := run_bounds (P := P) st false n n hl hh hb.1 hb.2.1 hb.2.2
  refine .value (w' := w) (v := .slice (some ⟨g, soff n off l.toNat s, none⟩) (h.toNat - l.toNat) (n - l.toNat)) ?_ ⟨⟨_, _, _, hv, rfl⟩, .refl _ _⟩
  simp only [execOp, ho, Instr.sliceAt, Option.map_none, Sem.run_bind, run_underlying hT, Result.andThen_ok, hx', Instr.sureAddr, Sem.run_pure, hr, run_sizeOf' hs]
  unfold soff
  by_cases hn : n = l.toNat
  · simp [hn]
  · simp [hn, add_lit]

theorem lendSlB {L : List OF} {n off0 off' cap len : Nat} {zs ys : List β} (hL : BF b U K X ∈ L) (lg : LG K (karr n k) off0 X zs) (hb : cut? zs l h = some ys) (ho : off' = soff n off0 l.toNat k.sz) (hlen : len = ys.length) (hcap : ys.length ≤ cap ∧ cap ≤ maxLen) :
    ∀ ok w u, (is (.slice (some ⟨b, off', none⟩) len cap)).holds ok w u → (∀ q, q ∈ L → q.holds ok w) → (∀ c, c ∈ idsOf L → ok c) → ((ksl k).V ys).holds ok w u := by
  rintro ok w u rfl h1 h2
  exact lendSl lg hb ho hlen hcap ok w (h1 _ hL) (h2 b (mem_idsOf hL (by simp [BF])))

/-- a row's block, as a block of its cells -/
theorem row_asBF {ok : Ok} {w : World} {k : Kd α} {xs : List α} {g n' c' : Nat} (hr : (RowF v e k xs).holds ok w) (hv : v = .slice (some ⟨g, 0, none⟩) n' c') (h1 : ∀ cur : Array Value, w.heap[g]? = some (.cells cur e (0, 0)) → ∀ u, u ∈ cur.toList → u.oneCell' = true) :
    ∃ post h2 h3, (BF g e (kin [] (karr xs.length k) post h2 h3) xs).holds ok w := by
  obtain ⟨cur, rs, hn', hg, hc1, hc2, hc3, hc4, hrel⟩ := row_block hr hv
  refine ⟨cur.toList.drop (xs.length * k.sz), by simp, fun u hu => h1 cur hg u (List.mem_of_mem_drop hu), cur.toList, by simpa using hg, rs, ?_, rfl, hrel⟩
  rw [← hc4]; simp

theorem lendSlR {L : List OF} {n off0 off' cap len : Nat} {kk : Kd α} {rs : List α} {zs ys : List β} (hL : RowF v e kk rs ∈ L) (lg : LG (karr rs.length kk) (karr n k) off0 rs zs) (hb : cut? zs l h = some ys) (ho : off' = soff n off0 l.toNat k.sz) (hlen : len = ys.length) (hcap : ys.length ≤ cap ∧ cap ≤ maxLen) :
    ∀ ok w u, (slR v off' len cap).holds ok w u → (∀ q, q ∈ L → q.holds ok w) → (∀ c, c ∈ idsOf L → ok c) → ((ksl k).V ys).holds ok w u := by
  rintro ok w u ⟨g, n', c', hv, rfl⟩ h1 h2
  subst hlen
  obtain ⟨cur, cs, hn', hg, hc1, hc2, hc3, hc4, hrel⟩ := row_block (h1 _ hL) hv
  have hok : ok g := h2 g (mem_idsOf hL (by rw [hv]; simp [RowF, ownIds]))
  have ha := lg _ _ _ ⟨rfl, hrel⟩
  obtain ⟨b0, b1, b2, rfl⟩ := cut?_some hb
  have r1 := (relL_split ha.2 h.toNat).1
  have r2 := (relL_split r1 l.toNat).2
  have hn : zs.length = n := ha.1
  refine ⟨_, ⟨some ⟨g, off', none⟩, cap, rfl, hcap, fun hn => (by cases hn), _, r2, fun q hq => ?_⟩, rfl⟩
  cases hq
  subst ho
  have hcells : cellsAt ok w ⟨g, off0, none⟩ ((cs.drop off0).take (karr n k).sz) := by
    intro j u hj
    refine ⟨?_, hok⟩
    rw [add_lit]
    rw [← hc4, List.getElem?_take] at hj
    split at hj
    · rw [List.drop_take, List.getElem?_take] at hj
      split at hj
      · rw [List.getElem?_drop] at hj
        simp only [World.cell?, hg]
        simpa using hj
      · cases hj
    · cases hj
  unfold soff
  by_cases hnl : n = l.toNat
  · have : (((cs.drop off0).take (karr n k).sz).take (h.toNat * k.sz)).drop (l.toNat * k.sz) = [] := by
      rw [List.drop_eq_nil_of_le]; simp only [List.length_take]; have := Nat.mul_le_mul_right k.sz (show h.toNat ≤ l.toNat by omega); omega
    rw [this]; intro j v hj; simp at hj
  · rw [if_neg hnl]
    have := cellsAt_take_drop hcells (l.toNat * k.sz) ((h.toNat - l.toNat) * k.sz)
    rw [List.drop_take]
    rw [Nat.mul_sub_right_distrib, add_lit] at this
    exact this

/-! #### copies -/

/-- a segment of cells in the midst of others -/
theorem seg_cells {cs ds : List Value} {off lo n : Nat} (h1 : off + n ≤ cs.length) (h2 : lo + ds.length ≤ n) :
    cs.take off ++ (((cs.drop off).take n).take lo ++ ds ++ ((cs.drop off).take n).drop (lo + ds.length)) ++ cs.drop (off + n) = cs.take (off + lo) ++ ds ++ cs.drop (off + lo + ds.length) := by
  rw [List.take_take, Nat.min_eq_left (by omega), List.drop_take, List.drop_drop]
  have f1 : cs.take (off + lo) = cs.take off ++ (cs.drop off).take lo := by rw [List.take_add]
  have f2 : cs.drop (off + lo + ds.length) = (cs.drop (off + (lo + ds.length))).take (n - (lo + ds.length)) ++ cs.drop (off + n) := by
    have := (List.take_append_drop (n - (lo + ds.length)) (cs.drop (off + (lo + ds.length)))).symm
    rw [List.drop_drop, show off + (lo + ds.length) + (n - (lo + ds.length)) = off + n by omega] at this
    rw [Nat.add_assoc]; exact this
  rw [f1, f2]; simp

/-- what 'copy' from a text or a slice does to cells -/
theorem run_copy_cells {w : World} {dT sT ty : TypeId} {g o ll cap : Nat} {cur : Array Value} {t : TypeId} {ds : List Value} {u : Value} (hT : P.underlying dT = some (.slice e)) (hs : (P.info? e).map (·.size) = some 1) (hg : w.heap[g]? = some (.cells cur t (0, 0))) (hle : ds.length ≤ ll) (hfit : o + ds.length ≤ cur.size)
    (hu : (∃ s, u = .string s ∧ ds = Go.Lib.byteCells s.data.toList) ∨ (∃ a c, u = .slice (some a) ds.length c ∧ (∀ j v, ds[j]? = some v → w.cell? (a.add j) = some v) ∧ ∀ v ∈ ds, v.oneCell' = true)) :
    (Builtin.copy_ #[dT, sT] ty #[.slice (some ⟨g, o, none⟩) ll cap, u]).run P w = .ok (goInt ds.length) (w.setRow g (cur.toList.take o ++ ds ++ cur.toList.drop (o + ds.length)).toArray) := by
  rcases hu with ⟨s, rfl, rfl⟩ | ⟨a, c, rfl, h1, h2⟩
  · have hl : (Go.Lib.byteCells s.data.toList).length = s.size := by rw [Go.Lib.byteCells_length, ← Go.Lib.size_eq]
    rw [hl] at hle hfit ⊢
    exact Go.Lib.run_copy_row_string w dT sT ty e g o ll cap s cur t hT hs hg hle hfit
  · exact run_copy_row P w dT sT ty e g o ll cap a ds.length c cur t ds hT hs hg (Nat.min_eq_left hle).symm h1 hfit h2

/-- what is copied: a text, or a slice -/
def SrcOk (w : World) (u : Value) (ds : List Value) : Prop :=
  (∃ s, u = .string s ∧ ds = Go.Lib.byteCells s.data.toList) ∨ (∃ a c, u = .slice (some a) ds.length c ∧ (∀ j v, ds[j]? = some v → w.cell? (a.add j) = some v) ∧ ∀ v ∈ ds, v.oneCell' = true) ∨ (u = .slice none 0 0 ∧ ds = [])

theorem run_copy_any {w : World} {dT sT ty : TypeId} {g o ll cap : Nat} {cur : Array Value} {t : TypeId} {ds : List Value} {u : Value} (hT : P.underlying dT = some (.slice e)) (hs : (P.info? e).map (·.size) = some 1) (hg : w.heap[g]? = some (.cells cur t (0, 0))) (hle : ds.length ≤ ll) (hfit : o + ds.length ≤ cur.size) (hu : SrcOk w u ds) :
    (Builtin.copy_ #[dT, sT] ty #[.slice (some ⟨g, o, none⟩) ll cap, u]).run P w = .ok (goInt ds.length) (w.setRow g (cur.toList.take o ++ ds ++ cur.toList.drop (o + ds.length)).toArray) := by
  rcases hu with h | h | ⟨rfl, rfl⟩
  · exact run_copy_cells hT hs hg hle hfit (.inl h)
  · exact run_copy_cells hT hs hg hle hfit (.inr h)
  · rw [run_copy_nil P w dT sT ty e _ ll cap hT (by rw [hs]; rfl)]
    have : (cur.toList.take o ++ [] ++ cur.toList.drop (o + ([] : List Value).length)).toArray = cur := by simp
    rw [this, setRow_self w g cur t (0, 0) hg]; rfl

def Src (P : Program) (C : Ctx) (B : List OF) (E : Env) (y : Operand) (k : Kd β) (ys : List β) : Prop := ∀ a w, St C B E a w → ∃ ds, SrcOk w (a.eval y) ds ∧ relL k (okB C (idsOf B)) w ys ds
theorem srcStr {l : List Int} (hy : Opd E y (kstr.V l)) : Src P C B E y (kint .u8) l := fun a w h => by
  obtain ⟨s, hs', rfl, hm⟩ := V_str.1 (h.arg hy)
  exact ⟨_, .inl ⟨s, hs', rfl⟩, by rw [strCells_eq]; exact relL_bl _ w s⟩
theorem srcSl {ys : List β} (hk : k.sz = 1) (hy : Opd E y ((ksl k).V ys)) : Src P C B E y k ys := fun a w h => by
  obtain ⟨p, cap, hp, hcap, hnil, rs, hr, hc⟩ := V_sl (h.arg hy)
  have hl := relL_len hr
  rw [hk, Nat.mul_one] at hl
  cases p with
  | none =>
    have h0 := hnil rfl
    have h1 : ys = [] := List.eq_nil_of_length_eq_zero (by omega)
    subst h1
    simp only [relL] at hr
    subst hr
    exact ⟨[], .inr (.inr ⟨by rw [hp, h0]; rfl, rfl⟩), rfl⟩
  | some p => exact ⟨rs, .inr (.inl ⟨p, cap, by rw [hl]; exact hp, fun j v hj => (hc p rfl j v hj).1, relL_cell1 hr⟩), hr⟩

theorem copied {ok : Ok} {w : World} {cs ds : List Value} {n lo : Nat} {zs ys : List β} (hk : k.sz = 1) (hr : K.rel ok w X cs) (lg : LG K (karr n k) off X zs) (ls : LS K (karr n k) off X (zs.take lo ++ ys ++ zs.drop (lo + ys.length)) X') (hd : relL k ok w ys ds) (hfit : lo + ys.length ≤ n) :
    ds.length = ys.length ∧ off + n ≤ cs.length ∧ K.rel ok w X' (cs.take (off + lo) ++ ds ++ cs.drop (off + lo + ds.length)) := by
  have ha := lg _ _ _ hr
  have hseg := LS.seg (k := k) (xs := zs) (ys := ys) (n := n) (lo := lo) hfit _ w _ _ ha ⟨rfl, hd⟩
  obtain ⟨hbd, hr'⟩ := ls _ _ cs _ hr hseg.2
  have hcl := K.len hr
  have e1 : (karr n k).sz = n := by simp [karr, hk]
  have e2 : (karr ys.length k).sz = ys.length := by simp [karr, hk]
  have hdl : ds.length = ys.length := by have := relL_len hd; rw [this, hk, Nat.mul_one]
  rw [e1] at hbd
  refine ⟨hdl, by omega, ?_⟩
  rw [e1, e2, hk, Nat.mul_one, ← hdl] at hr'
  rw [← seg_cells (cs := cs) (ds := ds) (off := off) (lo := lo) (n := n) (by omega) (by omega)]
  exact hr'

theorem ob_copyB {ll cap n lo : Nat} {off' : Nat} {zs ys : List β} (ho : o.op = .call { callee := .builtin .copy, args := #[x, y], argTypes := #[T, T'] }) (hT : P.underlying T = some (.slice e)) (hs : (P.info? e).map (·.size) = some 1) (hk : k.sz = 1)
    (hx : Opd E x (is (.slice (some ⟨b, off', none⟩) ll cap))) (hy : Src P C B E y k ys) (hB : B = A ++ BF b U K X :: D) (hoff : off' = soff n off lo 1) (hfit : lo + ll ≤ n) (hl : ys.length ≤ ll)
    (lg : LG K (karr n k) off X zs) (ls : LS K (karr n k) off X (zs.take lo ++ ys ++ zs.drop (lo + ys.length)) X') (hB' : B' = A ++ BF b U K X' :: D) (hm : n ≤ maxLen) :
    ObX P C B E o (fun _ : Unit => B') (fun _ => (kint .i64).V ys.length) := fun a w h => by
  subst hB hB'
  have hx' : a.eval x = .slice (some ⟨b, off', none⟩) ll cap := h.arg hx
  obtain ⟨ds, hsrc, hd⟩ := hy a w h
  obtain ⟨cs, hg, hr⟩ := h.own (BF b U K X) (by simp)
  obtain ⟨hdl, hn, hr'⟩ := copied hk hr lg ls hd (by omega)
  have hturn : St C (A ++ BF b U K X' :: D) E a (w.setRow b (cs.take (off + lo) ++ ds ++ cs.drop (off + lo + ds.length)).toArray) := by
    refine h.turn (g := BF b U K X') rfl ⟨rfl, rfl, rfl, by simp, fun q _ hq => setRow_other _ _ _ _ (by simpa [BF] using hq)⟩ (fun kp => ?_)
    exact ⟨_, setRow_heap _ _ _ _ _ _ hg, K.mono hr' kp⟩
  refine .value (w' := w.setRow b (cs.take (off + lo) ++ ds ++ cs.drop (off + lo + ds.length)).toArray) (v := goInt ds.length) ?_ ⟨(), V_int.2 ⟨by rw [hdl]; rfl, has_len (by omega)⟩, hturn⟩
  subst hoff
  simp only [execOp, ho, resolve, invoke, builtin, Sem.run_bind, Sem.run_pure, Result.andThen_ok, List.map_toArray, List.map_cons, List.map_nil, hx']
  by_cases hn' : n = lo
  · have h0 : ds = [] := List.eq_nil_of_length_eq_zero (by omega)
    subst h0
    have hsoff : soff n off lo 1 = off := by unfold soff; rw [if_pos hn']
    rw [hsoff, run_copy_any (o := off) hT hs hg (Nat.zero_le _) (by simp; omega) hsrc]
    have e1 : ∀ m, (cs.take m ++ [] ++ cs.drop (m + ([] : List Value).length)) = cs := fun m => by simp
    rw [e1, e1]; rfl
  · have hsoff : soff n off lo 1 = off + lo := by unfold soff; rw [if_neg hn', Nat.mul_one]
    rw [hsoff, run_copy_any hT hs hg (by omega) (by simp; omega) hsrc]
    rfl

theorem ob_copyR {α' : Type} {kk : Kd α'} {rs rs' : List α'} {e' : TypeId} {ll cap n lo : Nat} {off' : Nat} {zs ys : List β} (ho : o.op = .call { callee := .builtin .copy, args := #[x, y], argTypes := #[T, T'] }) (hT : P.underlying T = some (.slice e)) (hs : (P.info? e).map (·.size) = some 1) (hk : k.sz = 1)
    (hx : Opd E x (slR v off' ll cap)) (hy : Src P C B E y k ys) (hB : B = A ++ RowF v e' kk rs :: D) (hoff : off' = soff n off lo 1) (hfit : lo + ll ≤ n) (hl : ys.length ≤ ll)
    (lg : LG (karr rs.length kk) (karr n k) off rs zs) (ls : LS (karr rs.length kk) (karr n k) off rs (zs.take lo ++ ys ++ zs.drop (lo + ys.length)) rs') (hB' : B' = A ++ RowF v e' kk rs' :: D) (hm : n ≤ maxLen) :
    ObX P C B E o (fun _ : Unit => B') (fun _ => (kint .i64).V ys.length) := fun a w h => by
  subst hB hB'
  obtain ⟨g, n', c, rfl, hx'⟩ := h.arg hx
  obtain ⟨ds, hsrc, hd⟩ := hy a w h
  obtain ⟨cur, cs, hn', hg, hc1, hc2, hc3, hc4, hrel⟩ := row_block (h.own (RowF (.slice (some ⟨g, 0, none⟩) n' c) e' kk rs) (by simp)) rfl
  subst hn'
  obtain ⟨hdl, hn, hr'⟩ := copied hk (K := karr rs.length kk) ⟨rfl, hrel⟩ lg ls hd (by omega)
  have hcl := relL_len hrel
  have hle : rs.length * kk.sz ≤ c * kk.sz := Nat.mul_le_mul_right _ hc1
  have hfit2 : off + lo + ds.length ≤ rs.length * kk.sz := by omega
  have hturn : St C (A ++ RowF (.slice (some ⟨g, 0, none⟩) rs.length c) e' kk rs' :: D) E a (w.setRow g (cur.toList.take (off + lo) ++ ds ++ cur.toList.drop (off + lo + ds.length)).toArray) := by
    refine h.turn (g := RowF (.slice (some ⟨g, 0, none⟩) rs.length c) e' kk rs') rfl ⟨rfl, rfl, rfl, by simp, fun q _ hq => setRow_other _ _ _ _ (by simpa [RowF, ownIds] using hq)⟩ (fun kp => ?_)
    refine row_stored (off := off + lo) hc3 hc1 hc2 hg hfit2 ?_
    rw [hc4]
    exact (karr rs.length kk).mono hr' kp
  refine .value (w' := w.setRow g (cur.toList.take (off + lo) ++ ds ++ cur.toList.drop (off + lo + ds.length)).toArray) (v := goInt ds.length) ?_ ⟨(), V_int.2 ⟨by rw [hdl]; rfl, has_len (by omega)⟩, hturn⟩
  subst hoff
  simp only [execOp, ho, resolve, invoke, builtin, Sem.run_bind, Sem.run_pure, Result.andThen_ok, List.map_toArray, List.map_cons, List.map_nil, hx']
  by_cases hn2 : n = lo
  · have h0 : ds = [] := List.eq_nil_of_length_eq_zero (by omega)
    subst h0
    have hsoff : soff n off lo 1 = off := by unfold soff; rw [if_pos hn2]
    rw [hsoff, run_copy_any (o := off) hT hs hg (Nat.zero_le _) (by simp; omega) hsrc]
    have e1 : ∀ m, (cur.toList.take m ++ [] ++ cur.toList.drop (m + ([] : List Value).length)) = cur.toList := fun m => by simp
    rw [e1, e1]; rfl
  · have hsoff : soff n off lo 1 = off + lo := by unfold soff; rw [if_neg hn2, Nat.mul_one]
    rw [hsoff, run_copy_any hT hs hg (by omega) (by omega) hsrc]
    rfl
end

/-! #### a function's end, where more is owned than is handed back -/

theorem St.dropTail {C : Ctx} {B D : List OF} {E : Env} {a : Act} {w : World} (h : St C (B ++ D) E a w) : St C B E a w := by
  induction D generalizing B with
  | nil => simpa using h
  | cons f D ih => exact ih h.drop

theorem leaveXD {P : Program} {fn : Func} {ok : Ok} {w : World} {γ : Type} {F : γ → Fact} {L : List OF} {L' : γ → List OF} {N : Nat} {E : Env} {l : List ResultVar} {m : List Fact} {a : Act} {w' : World} {e : Exit} (g : γ) {B D : List OF} (s : St ⟨N, w, ok, idsOf L⟩ (B ++ D) E a w') (hB : L' g = B) (he : e = .ret ∨ e = .normal) (hr : fn.results = l.toArray) (h : ResAll P ⟨N, w, ok, idsOf L⟩ (B ++ D) E l m) (hF : F g = resFact m) :
    bodyPost P fn (fun e w' => ∃ v, e = .returned v ∧ OutX ok w L F L' v w') e a w' := by
  subst hB
  obtain ⟨vs, h1, h2, h3⟩ := run_resultsX s hr h
  have s' := s.dropTail
  have kp : Keep (okB ⟨N, w, ok, idsOf L⟩ (idsOf (L' g ++ D))) (okB ⟨N, w, ok, idsOf L⟩ (idsOf (L' g))) w' w' := fun b _ ho => ⟨rfl, ho.1, fun hm => ho.2 (by rw [idsOf_append, List.mem_append]; exact .inl hm)⟩
  have key : (resFact m).holds (okOut ok w (idsOf L) (idsOf (L' g))) w' (if vs.length = 1 then vs.headD undef else .tuple vs.toArray) := by
    refine Fact.mono _ (?_ : (resFact m).holds (okB ⟨N, w, ok, idsOf L⟩ (idsOf (L' g ++ D))) w' _) kp
    match m, vs, h1 with
    | [], [], _ => exact ⟨[], rfl, rfl, fun i F u hF => by simp at hF⟩
    | [F], [v], _ => exact h2 0 F v rfl rfl
    | F :: G :: m, v :: u :: vs, hl => exact ⟨v :: u :: vs, by simp, hl, h2⟩
  have out : ∃ v, Ending.returned (if vs.length = 1 then vs.headD undef else .tuple vs.toArray) = .returned v ∧ OutX ok w L F L' v w' := ⟨_, rfl, g, by rw [hF]; exact key, s'.ev, s'.nod, s'.fresh, s'.own⟩
  rcases he with rfl | rfl <;> exact ⟨s.dfr, _, h3, out⟩

end Go.Proofs.Kit
