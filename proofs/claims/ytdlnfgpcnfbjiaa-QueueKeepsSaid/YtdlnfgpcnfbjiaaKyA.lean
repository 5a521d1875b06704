/- Several parts of this proof in one file. No condition. -/
import Derived.WalkKit
import Derived.KernelRfl
import Derived.Orders
import Derived.DeepKeys
import Derived.ProofKit
import Derived.OpenShut
import Derived.ShutString
import Derived.ChangeOld
import Derived.Deep.Slices
import Derived.Laws.BytesString
import Derived.Lib.BufferWrite
import Derived.Laws.Pointers
import Derived.Lib.AppendStr
import Derived.FnData
import Derived.LaidMore
import Derived.Lib.ConvBytes
section
namespace Go.Proofs.Kit
open Go Go.RowKit
set_option linter.unusedSimpArgs false
set_option linter.unusedVariables false
abbrev Ok := Nat → Prop
def Keep (ok ok' : Ok) (w w' : World) : Prop := ∀ b, b < w.heap.size → ok b → w'.heap[b]? = w.heap[b]? ∧ ok' b
structure Ev (M : List Nat) (w w' : World) : Prop where
  os : w'.os = w.os
  tape : w'.tape = w.tape
  output : w'.output = w.output
  size : w.heap.size ≤ w'.heap.size
  block : ∀ k, k < w.heap.size → k ∉ M → w'.heap[k]? = w.heap[k]?
theorem Ev.refl (M : List Nat) (w : World) : Ev M w w := ⟨rfl, rfl, rfl, Nat.le_refl _, fun _ _ _ => rfl⟩
theorem Ev.trans {M : List Nat} {a b c : World} (h : Ev M a b) (k : Ev M b c) : Ev M a c :=
  ⟨k.os.trans h.os, k.tape.trans h.tape, k.output.trans h.output, Nat.le_trans h.size k.size, fun i hi hM => (k.block i (Nat.lt_of_lt_of_le hi h.size) hM).trans (h.block i hi hM)⟩
theorem Ev.mono {M M' : List Nat} {a b : World} (h : Ev M a b) (hM : ∀ x, x ∈ M → x ∈ M') : Ev M' a b :=
  ⟨h.os, h.tape, h.output, h.size, fun i hi hn => h.block i hi (fun hx => hn (hM i hx))⟩
theorem Ev.below {a b : World} (h : Ev [] a b) : Below a.heap.size a b := ⟨h.os, h.tape, h.output, h.size, fun k hk => h.block k hk (by simp)⟩
theorem Ev.alloc (w : World) (o : Obj) : Ev [] w (w.alloc o) :=
  ⟨rfl, rfl, rfl, by show w.heap.size ≤ (w.heap.push o).size; simp, fun k hk _ => Below.heap_alloc w o k hk⟩
theorem Ev.drawn {w : World} (n : Nat) : Ev [] w { w with drawn := n } := ⟨rfl, rfl, rfl, Nat.le_refl _, fun _ _ _ => rfl⟩
theorem Keep.refl (ok : Ok) (w : World) : Keep ok ok w w := fun _ _ h => ⟨rfl, h⟩
theorem Keep.of_ev {ok : Ok} {M : List Nat} {w w' : World} (h : Ev M w w') (hM : ∀ b, ok b → b ∉ M) : Keep ok ok w w' :=
  fun b hb ho => ⟨h.block b hb (hM b ho), ho⟩
theorem Keep.of_ev_nil {ok : Ok} {w w' : World} (h : Ev [] w w') : Keep ok ok w w' := fun b hb ho => ⟨h.block b hb (by simp), ho⟩
theorem cell_of_heap {w w' : World} {p : Addr} (h : w'.heap[p.block]? = w.heap[p.block]?) : w'.cell? p = w.cell? p := World.cell?_of_block (w := w) h
theorem Keep.cell {ok ok' : Ok} {w w' : World} (h : Keep ok ok' w w') {p : Addr} {v : Value} (hc : w.cell? p = some v) (ho : ok p.block) : w'.cell? p = some v := by
  rw [cell_of_heap (h p.block (block_lt_of_cell hc) ho).1, hc]
structure Fact where
  holds : Ok → World → Value → Prop
  mono : ∀ {ok ok' w w' v}, holds ok w v → Keep ok ok' w w' → holds ok' w' v
def is (x : Value) : Fact := ⟨fun _ _ v => v = x, fun h _ => h⟩
def Fact.when (b : Bool) (F : Fact) : Fact := ⟨fun ok w v => (b = true → F.holds ok w v) ∧ (b = false → v = undef), fun h k => ⟨fun hb => F.mono (h.1 hb) k, h.2⟩⟩
def nofact : Fact := ⟨fun _ _ _ => True, fun _ _ => trivial⟩
structure Kd (α : Type) where
  sz : Nat
  agg : Bool
  rel : Ok → World → α → List Value → Prop
  len : ∀ {ok w x cs}, rel ok w x cs → cs.length = sz
  one : ∀ {ok w x cs}, rel ok w x cs → agg = false → ∃ v, cs = [v] ∧ v.cells = #[v]
  cell1 : ∀ {ok w x cs}, rel ok w x cs → ∀ v, v ∈ cs → v.oneCell' = true
  mono : ∀ {ok ok' w w' x cs}, rel ok w x cs → Keep ok ok' w w' → rel ok' w' x cs
def mkv (agg : Bool) (cs : List Value) : Value := if agg then .agg cs.toArray else cs.headD undef
def Kd.V {α : Type} (k : Kd α) (x : α) : Fact := ⟨fun ok w v => ∃ cs, k.rel ok w x cs ∧ v = mkv k.agg cs, fun ⟨cs, h, e⟩ kp => ⟨cs, k.mono h kp, e⟩⟩
theorem Kd.cells {α : Type} {k : Kd α} {x : α} {ok : Ok} {w : World} {cs : List Value} (h : k.rel ok w x cs) : (mkv k.agg cs).cells.toList = cs := by
  unfold mkv
  cases ha : k.agg with
  | true => rfl
  | false => obtain ⟨v, rfl, hv⟩ := k.one h ha; simp [hv]
theorem Kd.V_rel {α : Type} {k : Kd α} {x : α} {ok : Ok} {w : World} {v : Value} (h : (k.V x).holds ok w v) : k.rel ok w x v.cells.toList := by
  obtain ⟨cs, h, rfl⟩ := h; rw [Kd.cells h]; exact h
def kint (ik : IntKind) : Kd Int := ⟨1, false, fun _ _ n cs => cs = [.int ik n] ∧ ik.has n, fun h => by simp [h.1], fun h _ => ⟨_, h.1, rfl⟩, fun h v hv => by rw [h.1] at hv; simp at hv; subst hv; rfl, fun h _ => h⟩
def kbool : Kd Bool := ⟨1, false, fun _ _ b cs => cs = [.bool b], fun h => by simp [h], fun h _ => ⟨_, h, rfl⟩, fun h v hv => by rw [h] at hv; simp at hv; subst hv; rfl, fun h _ => h⟩
def bl (s : ByteArray) : List Int := s.data.toList.map fun u => (u.toNat : Int)
def kstr : Kd (List Int) := ⟨1, false, fun _ _ l cs => ∃ s, cs = [.string s] ∧ l = bl s ∧ s.size ≤ maxLen, fun ⟨_, h, _⟩ => by simp [h], fun ⟨_, h, _⟩ _ => ⟨_, h, rfl⟩, fun ⟨_, h, _⟩ v hv => by rw [h] at hv; simp at hv; subst hv; rfl, fun h _ => h⟩
theorem V_int {ik : IntKind} {n : Int} {ok : Ok} {w : World} {v : Value} : ((kint ik).V n).holds ok w v ↔ v = .int ik n ∧ ik.has n :=
  ⟨fun ⟨_, h, e⟩ => by rw [e, h.1]; exact ⟨rfl, h.2⟩, fun h => ⟨_, ⟨rfl, h.2⟩, h.1⟩⟩
theorem V_bool {n : Bool} {ok : Ok} {w : World} {v : Value} : (kbool.V n).holds ok w v ↔ v = .bool n :=
  ⟨fun ⟨_, h, e⟩ => by rw [e, h]; rfl, fun h => ⟨_, rfl, h⟩⟩
theorem V_str {l : List Int} {ok : Ok} {w : World} {v : Value} : (kstr.V l).holds ok w v ↔ ∃ s, v = .string s ∧ l = bl s ∧ s.size ≤ maxLen :=
  ⟨fun ⟨_, ⟨s, h, h2⟩, e⟩ => ⟨s, by rw [e, h]; rfl, h2⟩, fun ⟨s, h, h2⟩ => ⟨_, ⟨s, rfl, h2⟩, h⟩⟩
theorem bl_length (s : ByteArray) : (bl s).length = s.size := by simp [bl]
theorem bl_inj {s t : ByteArray} (h : bl s = bl t) : s = t := by
  unfold bl at h
  have hf : ∀ a b : UInt8, (a.toNat : Int) = (b.toNat : Int) → a = b := fun a b e => UInt8.toNat_inj.1 (by omega)
  have h' : s.data.toList = t.data.toList := List.map_inj_right (f := fun u : UInt8 => (u.toNat : Int)) (fun a b e => hf a b e) |>.1 h
  cases s; cases t; simp at h'; simp [h']
theorem bl_range {s : ByteArray} {i : Nat} {n : Int} (h : (bl s)[i]? = some n) : 0 ≤ n ∧ n < 256 := by
  unfold bl at h
  rw [List.getElem?_map] at h
  cases hx : s.data.toList[i]? with
  | none => rw [hx] at h; simp at h
  | some u => rw [hx] at h; simp at h; subst h; have := u.toNat_lt; omega
def knil : Kd Unit := ⟨0, true, fun _ _ _ cs => cs = [], fun h => by simp [h], fun _ h => by simp at h, fun h v hv => (by rw [h] at hv; cases hv), fun h _ => h⟩
def kpair {α β : Type} (k : Kd α) (l : Kd β) : Kd (α × β) where
  sz := k.sz + l.sz
  agg := true
  rel ok w x cs := ∃ c d, cs = c ++ d ∧ k.rel ok w x.1 c ∧ l.rel ok w x.2 d
  len := by rintro ok w x cs ⟨c, d, rfl, h1, h2⟩; simp [k.len h1, l.len h2]
  one := by intro _ _ _ _ _ h; simp at h
  cell1 := by
    rintro ok w x cs ⟨c, d, rfl, h1, h2⟩ v hv
    rcases List.mem_append.1 hv with h | h
    · exact k.cell1 h1 v h
    · exact l.cell1 h2 v h
  mono := by rintro _ _ _ _ x cs ⟨c, d, rfl, h1, h2⟩ kp; exact ⟨c, d, rfl, k.mono h1 kp, l.mono h2 kp⟩
def kiso {α β : Type} (k : Kd β) (f : α → β) : Kd α where
  sz := k.sz
  agg := k.agg
  rel ok w x cs := k.rel ok w (f x) cs
  len := k.len
  one := k.one
  cell1 := k.cell1
  mono := k.mono
def relL {α : Type} (k : Kd α) (ok : Ok) (w : World) : List α → List Value → Prop
  | [], cs => cs = []
  | x :: xs, cs => ∃ c d, cs = c ++ d ∧ k.rel ok w x c ∧ relL k ok w xs d
section
variable {α : Type} {k : Kd α} {ok ok' : Ok} {w w' : World}
theorem relL_len {xs : List α} {cs : List Value} (h : relL k ok w xs cs) : cs.length = xs.length * k.sz := by
  induction xs generalizing cs with
  | nil => simp [relL] at h; simp [h]
  | cons x xs ih => obtain ⟨c, d, rfl, h1, h2⟩ := h; simp [k.len h1, ih h2, Nat.succ_mul, Nat.add_comm]
theorem relL_mono {xs : List α} {cs : List Value} (h : relL k ok w xs cs) (kp : Keep ok ok' w w') : relL k ok' w' xs cs := by
  induction xs generalizing cs with
  | nil => exact h
  | cons x xs ih => obtain ⟨c, d, rfl, h1, h2⟩ := h; exact ⟨c, d, rfl, k.mono h1 kp, ih h2⟩
theorem relL_cell1 {xs : List α} {cs : List Value} (h : relL k ok w xs cs) : ∀ v, v ∈ cs → v.oneCell' = true := by
  induction xs generalizing cs with
  | nil => simp [relL] at h; simp [h]
  | cons x xs ih =>
    obtain ⟨c, d, rfl, h1, h2⟩ := h
    intro v hv
    rcases List.mem_append.1 hv with h | h
    · exact k.cell1 h1 v h
    · exact ih h2 v h
theorem relL_append {xs ys : List α} {cs ds : List Value} (h : relL k ok w xs cs) (h' : relL k ok w ys ds) : relL k ok w (xs ++ ys) (cs ++ ds) := by
  induction xs generalizing cs with
  | nil => simp only [relL] at h; subst h; exact h'
  | cons x xs ih => obtain ⟨c, d, rfl, h1, h2⟩ := h; exact ⟨c, d ++ ds, by simp, h1, ih h2⟩
theorem relL_get {xs : List α} {cs : List Value} (h : relL k ok w xs cs) {i : Nat} {x : α} (hi : xs[i]? = some x) : k.rel ok w x ((cs.drop (i * k.sz)).take k.sz) := by
  induction xs generalizing cs i with
  | nil => simp at hi
  | cons y xs ih =>
    obtain ⟨c, d, rfl, h1, h2⟩ := h
    have hc := k.len h1
    cases i with
    | zero =>
      simp at hi; subst hi
      simpa [List.take_append_of_le_length (Nat.le_of_eq hc.symm), List.take_of_length_le (Nat.le_of_eq hc)] using h1
    | succ i =>
      have := ih h2 (i := i) (by simpa using hi)
      rw [show (i + 1) * k.sz = c.length + i * k.sz by rw [hc, Nat.succ_mul, Nat.add_comm]]
      simpa [List.drop_append, List.drop_eq_nil_of_le] using this
theorem relL_split {xs : List α} {cs : List Value} (h : relL k ok w xs cs) (n : Nat) : relL k ok w (xs.take n) (cs.take (n * k.sz)) ∧ relL k ok w (xs.drop n) (cs.drop (n * k.sz)) := by
  induction xs generalizing cs n with
  | nil => simp only [relL] at h; subst h; simp [relL]
  | cons y xs ih =>
    cases n with
    | zero => simpa [relL] using h
    | succ n =>
      obtain ⟨c, d, rfl, h1, h2⟩ := h
      have hc := k.len h1
      have e : (n + 1) * k.sz = c.length + n * k.sz := by rw [hc, Nat.succ_mul, Nat.add_comm]
      obtain ⟨g1, g2⟩ := ih h2 n
      rw [e]
      refine ⟨⟨c, d.take (n * k.sz), ?_, h1, g1⟩, by simpa [List.drop_append, List.drop_eq_nil_of_le] using g2⟩
      rw [List.take_append]; simp [List.take_of_length_le]
theorem relL_set {xs : List α} {cs ds : List Value} {y : α} (h : relL k ok w xs cs) (hy : k.rel ok w y ds) {i : Nat} (hi : i < xs.length) :
    relL k ok w (xs.set i y) (cs.take (i * k.sz) ++ ds ++ cs.drop (i * k.sz + k.sz)) := by
  induction xs generalizing cs i with
  | nil => simp at hi
  | cons x xs ih =>
    obtain ⟨c, d, rfl, h1, h2⟩ := h
    have hc := k.len h1
    cases i with
    | zero =>
      refine ⟨ds, d, ?_, hy, h2⟩
      rw [Nat.zero_mul, Nat.zero_add, ← hc]
      simp
    | succ i =>
      have := ih h2 (i := i) (by simpa using hi)
      refine ⟨c, _, ?_, h1, this⟩
      have e : (i + 1) * k.sz = c.length + i * k.sz := by rw [hc, Nat.succ_mul, Nat.add_comm]
      rw [e, Nat.add_assoc, List.drop_append, List.take_append]
      simp [List.take_of_length_le]
end
def karr {α : Type} (n : Nat) (k : Kd α) : Kd (List α) where
  sz := n * k.sz
  agg := true
  rel ok w xs cs := xs.length = n ∧ relL k ok w xs cs
  len := by rintro ok w xs cs ⟨h1, h2⟩; rw [relL_len h2, h1]
  one := by intro _ _ _ _ _ h; simp at h
  cell1 := by rintro ok w xs cs ⟨h1, h2⟩; exact relL_cell1 h2
  mono := by rintro _ _ _ _ x cs ⟨h1, h2⟩ kp; exact ⟨h1, relL_mono h2 kp⟩
def cellsAt (ok : Ok) (w : World) (a : Addr) (cs : List Value) : Prop := ∀ j v, cs[j]? = some v → w.cell? (a.add j) = some v ∧ ok a.block
theorem add_block (a : Addr) (n : Nat) : (a.add n).block = a.block := by unfold Addr.add; split <;> rfl
theorem add_add (a : Addr) (m n : Nat) : (a.add m).add n = a.add (m + n) := by
  unfold Addr.add
  by_cases hm : m = 0
  · subst hm; simp
  · by_cases hn : n = 0
    · subst hn; simp
    · rw [if_neg hm, if_neg hn, if_neg (by omega)]; simp [Nat.add_assoc]
theorem cellsAt_mono {ok ok' : Ok} {w w' : World} {a : Addr} {cs : List Value} (h : cellsAt ok w a cs) (kp : Keep ok ok' w w') : cellsAt ok' w' a cs := by
  intro j v hj
  obtain ⟨h1, h2⟩ := h j v hj
  have hb : a.block < w.heap.size := by have := block_lt_of_cell h1; rwa [add_block] at this
  exact ⟨kp.cell h1 (by rwa [add_block]), (kp a.block hb h2).2⟩
theorem cellsAt_take_drop {ok : Ok} {w : World} {a : Addr} {cs : List Value} (h : cellsAt ok w a cs) (i n : Nat) : cellsAt ok w (a.add i) ((cs.drop i).take n) := by
  intro j v hj
  have hj' : cs[i + j]? = some v := by
    by_cases hn : j < n
    · rwa [List.getElem?_take_of_lt hn, List.getElem?_drop] at hj
    · rw [List.getElem?_eq_none (by simp; omega)] at hj; cases hj
  have := h _ _ hj'
  rw [add_add, add_block]
  exact this
def ksl {α : Type} (k : Kd α) : Kd (List α) where
  sz := 1
  agg := false
  rel ok w xs cs := ∃ a cap, cs = [.slice a xs.length cap] ∧ (xs.length ≤ cap ∧ cap ≤ maxLen) ∧ (a = none → cap = 0) ∧ ∃ rs, relL k ok w xs rs ∧ ∀ p, a = some p → cellsAt ok w p rs
  len := by rintro ok w xs cs ⟨a, cap, rfl, _⟩; rfl
  one := by rintro ok w xs cs ⟨a, cap, rfl, _⟩ _; exact ⟨_, rfl, rfl⟩
  cell1 := by rintro ok w xs cs ⟨a, cap, rfl, _⟩ v hv; simp at hv; subst hv; rfl
  mono := by
    rintro _ _ _ _ x cs ⟨a, cap, rfl, h1, h2, rs, h3, h4⟩ kp
    exact ⟨a, cap, rfl, h1, h2, rs, relL_mono h3 kp, fun p hp => cellsAt_mono (h4 p hp) kp⟩
theorem V_sl {α : Type} {k : Kd α} {xs : List α} {ok : Ok} {w : World} {v : Value} (h : ((ksl k).V xs).holds ok w v) :
    ∃ a cap, v = .slice a xs.length cap ∧ (xs.length ≤ cap ∧ cap ≤ maxLen) ∧ (a = none → cap = 0) ∧ ∃ rs, relL k ok w xs rs ∧ ∀ p, a = some p → cellsAt ok w p rs := by
  obtain ⟨cs, ⟨a, cap, rfl, h⟩, e⟩ := h
  exact ⟨a, cap, e, h⟩
def ptrTo {α : Type} (k : Kd α) (x : α) : Fact where
  holds ok w v := ∃ p cs, v = .pointer (some p) ∧ cellsAt ok w p cs ∧ k.rel ok w x cs
  mono := by rintro _ _ _ _ v ⟨p, cs, h1, h2, h3⟩ kp; exact ⟨p, cs, h1, cellsAt_mono h2 kp, k.mono h3 kp⟩
def tup : List Fact → Fact
  | l => ⟨fun ok w v => ∃ vs : List Value, v = .tuple vs.toArray ∧ vs.length = l.length ∧ ∀ (i : Nat) (F : Fact) (u : Value), l[i]? = some F → vs[i]? = some u → F.holds ok w u,
      fun ⟨vs, h1, h2, h3⟩ kp => ⟨vs, h1, h2, fun i (F : Fact) u hF hu => F.mono (h3 i F u hF hu) kp⟩⟩
structure OF where
  ids : List Nat
  holds : Ok → World → Prop
  lt : ∀ {ok w}, holds ok w → ∀ b, b ∈ ids → b < w.heap.size
  mono : ∀ {ok ok' w w'}, holds ok w → Keep ok ok' w w' → (∀ b, b ∈ ids → w'.heap[b]? = w.heap[b]?) → holds ok' w'
theorem lt_of_heap {w : World} {b : Nat} {o : Obj} (h : w.heap[b]? = some o) : b < w.heap.size := by
  rcases Nat.lt_or_ge b w.heap.size with hb | hb
  · exact hb
  · rw [Array.getElem?_eq_none hb] at h; cases h
def BF (b : Nat) (T : TypeId) {α : Type} (k : Kd α) (x : α) : OF where
  ids := [b]
  holds ok w := ∃ cs, w.heap[b]? = some (.cells cs.toArray T (0, 0)) ∧ k.rel ok w x cs
  lt := by rintro ok w ⟨cs, h, _⟩ c hc; simp at hc; subst hc; exact lt_of_heap h
  mono := by rintro ok ok' w w' ⟨cs, h1, h2⟩ kp hs; exact ⟨cs, (hs b (by simp)).trans h1, k.mono h2 kp⟩
def idsOf : List OF → List Nat
  | [] => []
  | f :: l => f.ids ++ idsOf l
theorem mem_idsOf {B : List OF} {f : OF} (hf : f ∈ B) {b : Nat} (hb : b ∈ f.ids) : b ∈ idsOf B := by
  induction B with
  | nil => cases hf
  | cons g B ih =>
    simp only [idsOf, List.mem_append]
    cases hf with
    | head => exact .inl hb
    | tail _ h => exact .inr (ih h)
theorem of_mem_idsOf {B : List OF} {b : Nat} (hb : b ∈ idsOf B) : ∃ f, f ∈ B ∧ b ∈ f.ids := by
  induction B with
  | nil => cases hb
  | cons g B ih =>
    simp only [idsOf, List.mem_append] at hb
    rcases hb with h | h
    · exact ⟨g, by simp, h⟩
    · obtain ⟨f, h1, h2⟩ := ih h; exact ⟨f, by simp [h1], h2⟩
structure Ctx where
  N : Nat
  w0 : World
  ok0 : Ok
  M0 : List Nat
def okB (C : Ctx) (ids : List Nat) : Ok := fun n => (n < C.w0.heap.size → C.ok0 n ∨ n ∈ C.M0) ∧ n ∉ ids
def sl (a : Act) (t : Nat) : Value := a.tmps.getD t undef
abbrev Env := List (Nat × Fact)
def get : Env → Nat → Option Fact
  | [], _ => none
  | (u, F) :: E, t => if u = t then some F else get E t
structure St (C : Ctx) (B : List OF) (E : Env) (a : Act) (w : World) : Prop where
  size : a.tmps.size = C.N
  dfr : a.defers = []
  nod : (idsOf B).Nodup
  fresh : ∀ b, b ∈ idsOf B → C.w0.heap.size ≤ b ∨ b ∈ C.M0
  ev : Ev C.M0 C.w0 w
  own : ∀ f, f ∈ B → f.holds (okB C (idsOf B)) w
  env : ∀ t F, get E t = some F → F.holds (okB C (idsOf B)) w (sl a t)
section
variable {C : Ctx} {B : List OF} {E : Env} {a : Act} {w w' : World}
theorem St.lt (h : St C B E a w) {b : Nat} (hb : b ∈ idsOf B) : b < w.heap.size := by
  obtain ⟨f, h1, h2⟩ := of_mem_idsOf hb
  exact f.lt (h.own f h1) b h2
theorem St.grow (h : St C B E a w) (e : Ev [] w w') : St C B E a w' :=
  { h with
    ev := h.ev.trans (e.mono (by simp))
    own := fun f hf => f.mono (h.own f hf) (.of_ev_nil e) (fun b hb => e.block b (f.lt (h.own f hf) b hb) (by simp))
    env := fun t F ht => F.mono (h.env t F ht) (.of_ev_nil e) }
theorem sl_put (a : Act) (d t : Nat) (v : Value) (hd : d < a.tmps.size) : sl (a.put (some d) v) t = if d = t then v else sl a t := by
  unfold sl Act.put
  by_cases h : d = t
  · subst h; simp [hd]
  · simp [h, Array.getElem?_setIfInBounds_ne h]
theorem sl_put_ne (a : Act) {d t : Nat} (v : Value) (h : d ≠ t) : sl (a.put (some d) v) t = sl a t := by
  unfold sl Act.put; simp [Array.getElem?_setIfInBounds_ne h]
theorem size_put (a : Act) (d : Option Tmp) (v : Value) : (a.put d v).tmps.size = a.tmps.size := by cases d <;> simp [Act.put]
theorem defers_put (a : Act) (d : Option Tmp) (v : Value) : (a.put d v).defers = a.defers := by cases d <;> rfl
theorem St.put (h : St C B E a w) {d : Nat} (hd : d < C.N) {F : Fact} {v : Value} (hv : F.holds (okB C (idsOf B)) w v) : St C B ((d, F) :: E) (a.put (some d) v) w :=
  { h with
    size := by rw [size_put, h.size]
    dfr := by rw [defers_put, h.dfr]
    env := fun t G ht => by
      rw [sl_put a d t v (by rw [h.size]; exact hd)]
      simp only [get] at ht
      by_cases e : d = t
      · rw [if_pos e] at ht ⊢; cases ht; exact hv
      · rw [if_neg e] at ht ⊢; exact h.env t G ht }
def Sub (E' E : Env) : Prop := ∀ t F, get E' t = some F → get E t = some F
theorem Sub.nil {E : Env} : Sub [] E := fun _ _ h => by cases h
theorem Sub.cons {E E' : Env} {t : Nat} {F : Fact} (h : get E t = some F) (k : Sub E' E) : Sub ((t, F) :: E') E := fun u G hu => by
  simp only [get] at hu
  by_cases e : t = u
  · rw [if_pos e] at hu; cases hu; subst e; exact h
  · rw [if_neg e] at hu; exact k u G hu
theorem St.sub (h : St C B E a w) {E' : Env} (s : Sub E' E) : St C B E' a w := { h with env := fun t F ht => h.env t F (s t F ht) }
def known (v : Value) (F : Fact) : Fact := ⟨fun ok w _ => F.holds ok w v, fun h k => F.mono h k⟩
inductive Opd (E : Env) : Operand → Fact → Prop
  | tmp {t : Nat} {F : Fact} (h : get E t = some F) : Opd E (.tmp t) F
  | const {v : Value} {F : Fact} (h : ∀ ok w, F.holds ok w v) : Opd E (.const v) F
  | func {f : FuncId} : Opd E (.func f) (is (.func (.func f) #[] #[]))
  | global {g : Nat} : Opd E (.global g) (is (.pointer (some ⟨g, 0, none⟩)))
  | kept {x : Operand} {v : Value} {t : Nat} {F : Fact} (hx : ∀ a : Act, a.eval x = v) (h : get E t = some (known v F)) : Opd E x F
  | conv {x : Operand} {F G : Fact} (h : Opd E x F) (e : ∀ ok w v, F.holds ok w v → G.holds ok w v) : Opd E x G
theorem St.arg (h : St C B E a w) {x : Operand} {F : Fact} (o : Opd E x F) : F.holds (okB C (idsOf B)) w (a.eval x) := by
  induction o with
  | tmp ht => exact h.env _ _ ht
  | const hv => exact hv _ _
  | func => rfl
  | global => rfl
  | kept hx ht => rw [hx]; exact h.env _ _ ht
  | conv _ e ih => exact e _ _ _ ih
end
theorem St.new {C : Ctx} {B : List OF} {E : Env} {a : Act} {w : World} (h : St C B E a w) (o : Obj) {G : OF} (hi : G.ids = [w.heap.size]) (hG : Keep (okB C (idsOf B)) (okB C (idsOf (G :: B))) w (w.alloc o) → G.holds (okB C (idsOf (G :: B))) (w.alloc o)) : St C (G :: B) E a (w.alloc o) := by
  have hids : idsOf (G :: B) = w.heap.size :: idsOf B := by simp [idsOf, hi]
  have kp : Keep (okB C (idsOf B)) (okB C (idsOf (G :: B))) w (w.alloc o) := by
    intro b hb ho
    refine ⟨Below.heap_alloc w o b hb, ho.1, ?_⟩
    rw [hids]
    intro hm
    rcases List.mem_cons.1 hm with e | hm
    · omega
    · exact ho.2 hm
  refine { size := h.size, dfr := h.dfr, nod := ?_, fresh := ?_, ev := h.ev.trans ((Ev.alloc w o).mono (by simp)), own := ?_, env := fun t F ht => F.mono (h.env t F ht) kp }
  · rw [hids]; exact List.nodup_cons.2 ⟨fun hm => absurd (h.lt hm) (by omega), h.nod⟩
  · rw [hids]; intro b hb
    rcases List.mem_cons.1 hb with e | hm
    · exact .inl (by rw [e]; exact h.ev.size)
    · exact h.fresh b hm
  · intro f hf
    rcases List.mem_cons.1 hf with e | hm
    · rw [e]; exact hG kp
    · exact f.mono (h.own f hm) kp (fun b hb => Below.heap_alloc w o b (f.lt (h.own f hm) b hb))
theorem idsOf_append (A B : List OF) : idsOf (A ++ B) = idsOf A ++ idsOf B := by induction A <;> simp_all [idsOf]
theorem St.turn {C : Ctx} {A B : List OF} {f g : OF} {E : Env} {a : Act} {w w' : World} (h : St C (A ++ f :: B) E a w) (hi : g.ids = f.ids) (e : Ev f.ids w w') (hg : Keep (okB C (idsOf (A ++ f :: B))) (okB C (idsOf (A ++ f :: B))) w w' → g.holds (okB C (idsOf (A ++ f :: B))) w') :
    St C (A ++ g :: B) E a w' := by
  have hids : idsOf (A ++ g :: B) = idsOf (A ++ f :: B) := by simp [idsOf_append, idsOf, hi]
  have hin : ∀ b, b ∈ f.ids → b ∈ idsOf (A ++ f :: B) := fun b hb => mem_idsOf (f := f) (by simp) hb
  have kp : Keep (okB C (idsOf (A ++ f :: B))) (okB C (idsOf (A ++ f :: B))) w w' := .of_ev e (fun b hb hm => hb.2 (hin b hm))
  have hnod := h.nod
  rw [idsOf_append] at hnod
  have hnod' : (idsOf A ++ (f.ids ++ idsOf B)).Nodup := hnod
  refine { size := h.size, dfr := h.dfr, nod := by rw [hids]; exact h.nod, fresh := by rw [hids]; exact h.fresh, ev := ?_, own := ?_, env := fun t F ht => by rw [hids]; exact F.mono (h.env t F ht) kp }
  · refine ⟨e.os.trans h.ev.os, e.tape.trans h.ev.tape, e.output.trans h.ev.output, Nat.le_trans h.ev.size e.size, fun k hk hM => ?_⟩
    rw [e.block k (Nat.lt_of_lt_of_le hk h.ev.size) ?_, h.ev.block k hk hM]
    intro hm
    rcases h.fresh k (hin k hm) with h1 | h1
    · omega
    · exact hM h1
  · intro q hq
    rw [hids]
    have other : ∀ q, q ∈ A ∨ q ∈ B → q.holds (okB C (idsOf (A ++ f :: B))) w' := by
      intro q hq
      have hqm : q ∈ A ++ f :: B := by rcases hq with h1 | h1 <;> simp [h1]
      refine q.mono (h.own q hqm) kp (fun b hb => e.block b (q.lt (h.own q hqm) b hb) ?_)
      intro hbf
      rw [List.nodup_append] at hnod'
      obtain ⟨_, h2, h3⟩ := hnod'
      rcases hq with h1 | h1
      · exact h3 b (mem_idsOf h1 hb) b (by simp [hbf]) rfl
      · rw [List.nodup_append] at h2
        exact h2.2.2 b hbf b (mem_idsOf h1 hb) rfl
    rcases List.mem_append.1 hq with h1 | h1
    · exact other q (.inl h1)
    · rcases List.mem_cons.1 h1 with h2 | h2
      · rw [h2]; exact hg kp
      · exact other q (.inr h2)
theorem St.drop {C : Ctx} {A B : List OF} {f : OF} {E : Env} {a : Act} {w : World} (h : St C (A ++ f :: B) E a w) : St C (A ++ B) E a w := by
  have hsub : ∀ b, b ∈ idsOf (A ++ B) → b ∈ idsOf (A ++ f :: B) := by
    intro b hb; simp only [idsOf_append, idsOf, List.mem_append] at hb ⊢; rcases hb with h1 | h1 <;> simp [h1]
  have kp : Keep (okB C (idsOf (A ++ f :: B))) (okB C (idsOf (A ++ B))) w w := fun b _ ho => ⟨rfl, ho.1, fun hm => ho.2 (hsub b hm)⟩
  refine { size := h.size, dfr := h.dfr, nod := ?_, fresh := fun b hb => h.fresh b (hsub b hb), ev := h.ev, own := ?_, env := fun t F ht => F.mono (h.env t F ht) kp }
  · have hn := h.nod
    simp only [idsOf_append, idsOf] at hn ⊢
    exact hn.sublist (List.Sublist.append (List.Sublist.refl _) (List.sublist_append_right _ _))
  · intro q hq
    exact q.mono (h.own q (by rcases List.mem_append.1 hq with h1 | h1 <;> simp [h1])) kp (fun _ _ => rfl)
end Go.Proofs.Kit
end
section
namespace Go.Proofs.Kit
open Go Go.RowKit
set_option linter.unusedSimpArgs false
set_option linter.unusedVariables false
def Does (P : Program) (o : Oper) (a : Act) (w : World) (R : Value → World → Prop) : Prop :=
  match (execOp a.eval o).run P w with
  | .ok (.value v) w' => R v w'
  | .ok .skip w' => R undef w'
  | .ok (.enter f args) w' => Calls P f args w' fun e w'' => ∃ v, e = .returned v ∧ R v w''
  | _ => False
theorem Does.wp {P : Program} {o : Oper} {a : Act} {w : World} {R : Value → World → Prop} {K : Act → World → Prop} {Q : Exit → Act → World → Prop} (h : Does P o a w R)
    (hK : ∀ v w', R v w' → K (a.put o.dst v) w') : o.wp P a w K Q := by
  unfold Oper.wp
  unfold Does at h
  generalize (execOp a.eval o).run P w = r at *
  cases r with
  | halt x w' => exact h.elim
  | ok n w' =>
    cases n with
    | value v => exact hK _ _ h
    | skip => exact hK _ _ h
    | enter f args => exact Calls.mono h fun e w'' ⟨v, he, hr⟩ => by subst he; exact hK _ _ hr
    | _ => exact h.elim
theorem Does.value {P : Program} {o : Oper} {a : Act} {w w' : World} {v : Value} {R : Value → World → Prop} (h : (execOp a.eval o).run P w = .ok (.value v) w') (hr : R v w') : Does P o a w R := by
  unfold Does; rw [h]; exact hr
theorem Does.skip {P : Program} {o : Oper} {a : Act} {w w' : World} {R : Value → World → Prop} (h : (execOp a.eval o).run P w = .ok .skip w') (hr : R undef w') : Does P o a w R := by
  unfold Does; rw [h]; exact hr
theorem Does.mono {P : Program} {o : Oper} {a : Act} {w : World} {R R' : Value → World → Prop} (h : Does P o a w R) (hr : ∀ v w', R v w' → R' v w') : Does P o a w R' := by
  unfold Does at *
  generalize (execOp a.eval o).run P w = r at *
  cases r with
  | halt x w' => exact h.elim
  | ok n w' =>
    cases n with
    | value v => exact hr _ _ h
    | skip => exact hr _ _ h
    | enter f args => exact Calls.mono h fun e w'' ⟨v, he, h1⟩ => ⟨v, he, hr _ _ h1⟩
    | _ => exact h.elim
def Ob (P : Program) (C : Ctx) (B : List OF) (E : Env) (o : Oper) (F : Fact) : Prop :=
  ∀ a w, St C B E a w → Does P o a w fun v w' => F.holds (okB C (idsOf B)) w' v ∧ Ev [] w w'
def ObX (P : Program) (C : Ctx) (B : List OF) (E : Env) (o : Oper) {γ : Type} (B' : γ → List OF) (F : γ → Fact) : Prop :=
  ∀ a w, St C B E a w → Does P o a w fun v w' => ∃ g, (F g).holds (okB C (idsOf (B' g))) w' v ∧ St C (B' g) E a w'
section
variable {P : Program} {C : Ctx} {B : List OF} {E : Env} {a : Act} {w : World} {ops : Array Oper} {o : Oper} {rest : List Oper} {Q : Exit → Act → World → Prop} {d : Tmp} {F : Fact}
theorem seq_op (h : St C B E a w) (hg : o.guard = none) (hd : o.dst = some d) (hN : d < C.N) (ob : Ob P C B E o F) (K : ∀ a' w', St C B ((d, F) :: E) a' w' → wpList P ops Q rest a' w') : wpList P ops Q (o :: rest) a w :=
  wpList_plain hg fun K' hK => (ob a w h).wp fun v w' ⟨hF, e⟩ => hK _ _ (K _ _ (by rw [hd]; exact (h.grow e).put hN hF))
theorem seq_op0 (h : St C B E a w) (hg : o.guard = none) (hd : o.dst = none) (ob : Ob P C B E o F) (K : ∀ a' w', St C B E a' w' → wpList P ops Q rest a' w') : wpList P ops Q (o :: rest) a w :=
  wpList_plain hg fun K' hK => (ob a w h).wp fun v w' ⟨_, e⟩ => hK _ _ (K _ _ (by rw [hd]; exact h.grow e))
theorem seq_opx {γ : Type} {B' : γ → List OF} {F : γ → Fact} (h : St C B E a w) (hg : o.guard = none) (hd : o.dst = some d) (hN : d < C.N) (ob : ObX P C B E o B' F) (K : ∀ g a' w', St C (B' g) ((d, F g) :: E) a' w' → wpList P ops Q rest a' w') : wpList P ops Q (o :: rest) a w :=
  wpList_plain hg fun K' hK => (ob a w h).wp fun v w' ⟨g, hF, e⟩ => hK _ _ (K g _ _ (by rw [hd]; exact e.put hN hF))
theorem seq_opx0 {γ : Type} {B' : γ → List OF} {F : γ → Fact} (h : St C B E a w) (hg : o.guard = none) (hd : o.dst = none) (ob : ObX P C B E o B' F) (K : ∀ g a' w', St C (B' g) E a' w' → wpList P ops Q rest a' w') : wpList P ops Q (o :: rest) a w :=
  wpList_plain hg fun K' hK => (ob a w h).wp fun v w' ⟨g, _, e⟩ => hK _ _ (K g _ _ (by rw [hd]; exact e))
theorem wanted_guard {j : Nat} {want b : Bool} {t : Tmp} (h : St C B E a w) (hg : o.guard = some (j, want)) (hj : (ops[j]?).bind (·.dst) = some t) (ht : get E t = some (kbool.V b)) : Region.wanted o (yielded ops a.tmps) = (b == want) := by
  have hv : sl a t = .bool b := V_bool.1 (h.env _ _ ht)
  have hv' : a.tmps[t]?.getD undef = .bool b := by simpa [sl] using hv
  have ht' : a.tmps[t]? = some (.bool b) := by
    cases hx : a.tmps[t]? with
    | none => rw [hx] at hv'; simp [undef] at hv'
    | some v => rw [hx] at hv'; simpa using hv'
  unfold Region.wanted
  rw [hg]
  simp only [yielded, hj]
  simp [ht']
theorem wanted_guard2 {j : Nat} {want b c : Bool} {t : Tmp} (h : St C B E a w) (hg : o.guard = some (j, want)) (hj : (ops[j]?).bind (·.dst) = some t) (ht : get E t = some ((kbool.V b).when c)) : Region.wanted o (yielded ops a.tmps) = (c && (b == want)) := by
  have hv := h.env _ _ ht
  cases c with
  | true =>
    have h2 : St C B [(t, kbool.V b)] a w := by
      refine { h with env := fun u F hu => ?_ }
      simp only [get] at hu
      by_cases e : t = u
      · rw [if_pos e] at hu; cases hu; subst e; exact hv.1 rfl
      · rw [if_neg e] at hu; cases hu
    rw [wanted_guard (ops := ops) h2 hg hj (b := b) (by simp [get]), Bool.true_and]
  | false =>
    have hu : sl a t = undef := hv.2 rfl
    have hu' : a.tmps[t]?.getD undef = undef := by simpa [sl] using hu
    unfold Region.wanted
    rw [hg]
    simp only [yielded, hj, Bool.false_and]
    cases hx : a.tmps[t]? with
    | none => simp [hx]
    | some v => rw [hx] at hu'; simp at hu'; subst hu'; simp [undef, hx]
theorem seq_opg {j : Nat} {want b : Bool} {t : Tmp} (h : St C B E a w) (hg : o.guard = some (j, want)) (hj : (ops[j]?).bind (·.dst) = some t) (ht : get E t = some (kbool.V b)) (hd : o.dst = some d) (hN : d < C.N)
    (ob : (b == want) = true → Ob P C B E o F) (K : ∀ a' w', St C B ((d, F.when (b == want)) :: E) a' w' → wpList P ops Q rest a' w') : wpList P ops Q (o :: rest) a w := by
  refine wpList_step fun K' hK => ?_
  rw [wanted_guard h hg hj ht]
  by_cases hb : (b == want) = true
  · rw [if_pos hb]
    exact (ob hb a w h).wp fun v w' ⟨hF, e⟩ => hK _ _ (K _ _ (by rw [hd]; exact (h.grow e).put hN (F := F.when _) ⟨fun _ => hF, fun hb' => by rw [hb] at hb'; cases hb'⟩))
  · rw [if_neg hb]
    exact hK _ _ (K _ _ (by rw [hd]; exact h.put hN (F := F.when _) ⟨fun hb' => absurd hb' hb, fun _ => rfl⟩))
theorem seq_opg2 {j : Nat} {want b c : Bool} {t : Tmp} (h : St C B E a w) (hg : o.guard = some (j, want)) (hj : (ops[j]?).bind (·.dst) = some t) (ht : get E t = some ((kbool.V b).when c)) (hd : o.dst = some d) (hN : d < C.N)
    (ob : (c && (b == want)) = true → Ob P C B E o F) (K : ∀ a' w', St C B ((d, F.when (c && (b == want))) :: E) a' w' → wpList P ops Q rest a' w') : wpList P ops Q (o :: rest) a w := by
  refine wpList_step fun K' hK => ?_
  rw [wanted_guard2 h hg hj ht]
  by_cases hb : (c && (b == want)) = true
  · rw [if_pos hb]
    exact (ob hb a w h).wp fun v w' ⟨hF, e⟩ => hK _ _ (K _ _ (by rw [hd]; exact (h.grow e).put hN (F := F.when _) ⟨fun _ => hF, fun hb' => by rw [hb] at hb'; cases hb'⟩))
  · rw [if_neg hb]
    exact hK _ _ (K _ _ (by rw [hd]; exact h.put hN (F := F.when _) ⟨fun hb' => absurd hb' hb, fun _ => rfl⟩))
theorem Ob.uncond {c : Bool} {t : Nat} {G : Fact} (hc : c = true) (h : get E t = some (F.when c)) (ob : Ob P C B ((t, F) :: E) o G) : Ob P C B E o G := fun a w s => by
  refine ob a w { s with env := fun u H hu => ?_ }
  simp only [get] at hu
  by_cases e : t = u
  · rw [if_pos e] at hu; cases hu; subst e; exact (s.env _ _ h).1 hc
  · rw [if_neg e] at hu; exact s.env u H hu
theorem ob_move {x : Operand} (ho : o.op = .move x) (hx : Opd E x F) : Ob P C B E o F := fun a w h =>
  .value (w' := w) (v := a.eval x) (by simp [execOp, ho]) ⟨h.arg hx, .refl _ _⟩
theorem ob_assign {x : Operand} (ho : o.op = .assign x) (hx : Opd E x F) : Ob P C B E o F := fun a w h =>
  .value (w' := w) (v := a.eval x) (by simp [execOp, ho]) ⟨h.arg hx, .refl _ _⟩
theorem has_wrap (k : IntKind) (n : Int) : k.has (k.wrap n) := by
  unfold IntKind.has IntKind.wrap IntKind.min IntKind.max
  cases k <;> simp [IntKind.signed, IntKind.bits] <;> omega
theorem has_zero (k : IntKind) : k.has 0 := by unfold IntKind.has; cases k <;> decide
theorem has_between {k : IntKind} {l m n : Int} (hl : k.has l) (h : k.has m) (h1 : l ≤ n) (h2 : n ≤ m) : k.has n := ⟨by have := hl.1; omega, by have := h.2; omega⟩
def iadd (k : IntKind) (x y : Int) : Int := k.wrap (x + y)
def isub (k : IntKind) (x y : Int) : Int := k.wrap (x - y)
def imul (k : IntKind) (x y : Int) : Int := k.wrap (x * y)
def iquo (k : IntKind) (x y : Int) : Int := k.wrap (x.tdiv y)
def irem (x y : Int) : Int := x.tmod y
def iand (k : IntKind) (x y : Int) : Int := k.wrap (BitVec.ofInt k.bits x &&& BitVec.ofInt k.bits y).toNat
def ior (k : IntKind) (x y : Int) : Int := k.wrap (BitVec.ofInt k.bits x ||| BitVec.ofInt k.bits y).toNat
def ixor (k : IntKind) (x y : Int) : Int := k.wrap (BitVec.ofInt k.bits x ^^^ BitVec.ofInt k.bits y).toNat
def iandn (k : IntKind) (x y : Int) : Int := k.wrap (BitVec.ofInt k.bits x &&& ~~~BitVec.ofInt k.bits y).toNat
def ishl (k : IntKind) (x y : Int) : Int := k.wrap (x * 2 ^ (min y.toNat k.bits))
def ishr (k : IntKind) (x y : Int) : Int := x.fdiv (2 ^ (min y.toNat k.bits))
theorem has_ishr {k : IntKind} {m : Int} (h : k.has m) (n : Int) : k.has (ishr k m n) := by
  unfold ishr
  have hp : (0 : Int) < 2 ^ (min n.toNat k.bits) := Int.pow_pos (by decide)
  generalize (2 : Int) ^ (min n.toNat k.bits) = q at hp
  rw [Int.fdiv_eq_ediv_of_nonneg _ (by omega)]
  rcases Int.le_total 0 m with hm | hm
  · exact has_between (has_zero k) h (Int.ediv_nonneg hm (Int.le_of_lt hp)) (Int.ediv_le_self q hm)
  · refine has_between h (has_zero k) ((Int.le_ediv_iff_mul_le hp).2 ?_) ?_
    · have := Int.mul_le_mul_of_nonpos_left (a := m) hm (show (1 : Int) ≤ q by omega); omega
    · have : m / q < 1 := (Int.ediv_lt_iff_lt_mul hp).2 (by omega)
      omega
section
variable {k k' : IntKind} {x y : Operand} {m n : Int} {T T' : TypeId}
theorem ob_add (ho : o.op = .binOp .add T x y T') (hx : Opd E x ((kint k).V m)) (hy : Opd E y ((kint k).V n)) : Ob P C B E o ((kint k).V (iadd k m n)) := fun a w h =>
  .value (w' := w) (v := .int k (iadd k m n)) (by simp [execOp, ho, (V_int.1 (h.arg hx)).1, (V_int.1 (h.arg hy)).1, eqGuard, binOp, Op.intArith, iadd]) ⟨V_int.2 ⟨rfl, has_wrap _ _⟩, .refl _ _⟩
theorem ob_sub (ho : o.op = .binOp .sub T x y T') (hx : Opd E x ((kint k).V m)) (hy : Opd E y ((kint k).V n)) : Ob P C B E o ((kint k).V (isub k m n)) := fun a w h =>
  .value (w' := w) (v := .int k (isub k m n)) (by simp [execOp, ho, (V_int.1 (h.arg hx)).1, (V_int.1 (h.arg hy)).1, eqGuard, binOp, Op.intArith, isub]) ⟨V_int.2 ⟨rfl, has_wrap _ _⟩, .refl _ _⟩
theorem ob_mul (ho : o.op = .binOp .mul T x y T') (hx : Opd E x ((kint k).V m)) (hy : Opd E y ((kint k).V n)) : Ob P C B E o ((kint k).V (imul k m n)) := fun a w h =>
  .value (w' := w) (v := .int k (imul k m n)) (by simp [execOp, ho, (V_int.1 (h.arg hx)).1, (V_int.1 (h.arg hy)).1, eqGuard, binOp, Op.intArith, imul]) ⟨V_int.2 ⟨rfl, has_wrap _ _⟩, .refl _ _⟩
theorem ob_quo (ho : o.op = .binOp .quo T x y T') (hx : Opd E x ((kint k).V m)) (hy : Opd E y ((kint k).V n)) (h0 : n ≠ 0) : Ob P C B E o ((kint k).V (iquo k m n)) := fun a w h =>
  .value (w' := w) (v := .int k (iquo k m n)) (by simp [execOp, ho, (V_int.1 (h.arg hx)).1, (V_int.1 (h.arg hy)).1, eqGuard, binOp, Op.intDiv, iquo, h0]) ⟨V_int.2 ⟨rfl, has_wrap _ _⟩, .refl _ _⟩
theorem ob_and (ho : o.op = .binOp .and T x y T') (hx : Opd E x ((kint k).V m)) (hy : Opd E y ((kint k).V n)) : Ob P C B E o ((kint k).V (iand k m n)) := fun a w h =>
  .value (w' := w) (v := .int k (iand k m n)) (by simp only [execOp, ho, (V_int.1 (h.arg hx)).1, (V_int.1 (h.arg hy)).1, eqGuard, binOp, Op.intBits, iand]; simp) ⟨V_int.2 ⟨rfl, has_wrap _ _⟩, .refl _ _⟩
theorem ob_xor (ho : o.op = .binOp .xor T x y T') (hx : Opd E x ((kint k).V m)) (hy : Opd E y ((kint k).V n)) : Ob P C B E o ((kint k).V (ixor k m n)) := fun a w h =>
  .value (w' := w) (v := .int k (ixor k m n)) (by simp only [execOp, ho, (V_int.1 (h.arg hx)).1, (V_int.1 (h.arg hy)).1, eqGuard, binOp, Op.intBits, ixor]; simp) ⟨V_int.2 ⟨rfl, has_wrap _ _⟩, .refl _ _⟩
theorem ob_shl (ho : o.op = .binOp .shl T x y T') (hx : Opd E x ((kint k).V m)) (hy : Opd E y ((kint k').V n)) (h0 : 0 ≤ n) : Ob P C B E o ((kint k).V (ishl k m n)) := fun a w h =>
  .value (w' := w) (v := .int k (ishl k m n)) (by simp [execOp, ho, (V_int.1 (h.arg hx)).1, (V_int.1 (h.arg hy)).1, eqGuard, binOp, Op.shift, ishl, Int.not_lt.2 h0]) ⟨V_int.2 ⟨rfl, has_wrap _ _⟩, .refl _ _⟩
theorem ob_shr (ho : o.op = .binOp .shr T x y T') (hx : Opd E x ((kint k).V m)) (hy : Opd E y ((kint k').V n)) (h0 : 0 ≤ n) : Ob P C B E o ((kint k).V (ishr k m n)) := fun a w h =>
  .value (w' := w) (v := .int k (ishr k m n)) (by simp [execOp, ho, (V_int.1 (h.arg hx)).1, (V_int.1 (h.arg hy)).1, eqGuard, binOp, Op.shift, ishr, Int.not_lt.2 h0]) ⟨V_int.2 ⟨rfl, has_ishr (V_int.1 (h.arg hx)).2 _⟩, .refl _ _⟩
theorem ob_eql (ho : o.op = .binOp .eql T x y T') (hx : Opd E x ((kint k).V m)) (hy : Opd E y ((kint k).V n)) : Ob P C B E o (kbool.V (m == n)) := fun a w h =>
  .value (w' := w) (v := .bool (m == n)) (by simp [execOp, ho, (V_int.1 (h.arg hx)).1, (V_int.1 (h.arg hy)).1, eqGuard, binOp, Op.intCmp]) ⟨V_bool.2 rfl, .refl _ _⟩
theorem ob_neq (ho : o.op = .binOp .neq T x y T') (hx : Opd E x ((kint k).V m)) (hy : Opd E y ((kint k).V n)) : Ob P C B E o (kbool.V (m != n)) := fun a w h =>
  .value (w' := w) (v := .bool (m != n)) (by simp [execOp, ho, (V_int.1 (h.arg hx)).1, (V_int.1 (h.arg hy)).1, eqGuard, binOp, Op.intCmp]) ⟨V_bool.2 rfl, .refl _ _⟩
theorem ob_lss (ho : o.op = .binOp .lss T x y T') (hx : Opd E x ((kint k).V m)) (hy : Opd E y ((kint k).V n)) : Ob P C B E o (kbool.V (decide (m < n))) := fun a w h =>
  .value (w' := w) (v := .bool (decide (m < n))) (by simp [execOp, ho, (V_int.1 (h.arg hx)).1, (V_int.1 (h.arg hy)).1, eqGuard, binOp, Op.intCmp]) ⟨V_bool.2 rfl, .refl _ _⟩
theorem ob_leq (ho : o.op = .binOp .leq T x y T') (hx : Opd E x ((kint k).V m)) (hy : Opd E y ((kint k).V n)) : Ob P C B E o (kbool.V (decide (m ≤ n))) := fun a w h =>
  .value (w' := w) (v := .bool (decide (m ≤ n))) (by simp [execOp, ho, (V_int.1 (h.arg hx)).1, (V_int.1 (h.arg hy)).1, eqGuard, binOp, Op.intCmp]) ⟨V_bool.2 rfl, .refl _ _⟩
theorem ob_gtr (ho : o.op = .binOp .gtr T x y T') (hx : Opd E x ((kint k).V m)) (hy : Opd E y ((kint k).V n)) : Ob P C B E o (kbool.V (decide (m > n))) := fun a w h =>
  .value (w' := w) (v := .bool (decide (m > n))) (by simp [execOp, ho, (V_int.1 (h.arg hx)).1, (V_int.1 (h.arg hy)).1, eqGuard, binOp, Op.intCmp]) ⟨V_bool.2 rfl, .refl _ _⟩
theorem ob_geq (ho : o.op = .binOp .geq T x y T') (hx : Opd E x ((kint k).V m)) (hy : Opd E y ((kint k).V n)) : Ob P C B E o (kbool.V (decide (m ≥ n))) := fun a w h =>
  .value (w' := w) (v := .bool (decide (m ≥ n))) (by simp [execOp, ho, (V_int.1 (h.arg hx)).1, (V_int.1 (h.arg hy)).1, eqGuard, binOp, Op.intCmp]) ⟨V_bool.2 rfl, .refl _ _⟩
theorem ob_conv (ho : o.op = .convert T T' x) (d : TypeDesc) (hT : P.underlying T = some d) (hT' : P.underlying T' = some (.int k')) (hx : Opd E x ((kint k).V m)) : Ob P C B E o ((kint k').V (k'.wrap m)) := fun a w h =>
  .value (w' := w) (v := .int k' (k'.wrap m)) (by
    simp only [execOp, ho, (V_int.1 (h.arg hx)).1, convert, Sem.run_bind, run_underlying hT, run_underlying hT', Result.andThen_ok]
    cases d <;> simp [Conv.intToInt]) ⟨V_int.2 ⟨rfl, has_wrap _ _⟩, .refl _ _⟩
end
section
variable {x y c : Operand} {p q : Bool} {T T' : TypeId}
theorem ob_not (ho : o.op = .unOp .not T x) (hx : Opd E x (kbool.V p)) : Ob P C B E o (kbool.V (!p)) := fun a w h =>
  .value (w' := w) (v := .bool (!p)) (by simp [execOp, ho, V_bool.1 (h.arg hx), Op.unary]) ⟨V_bool.2 rfl, .refl _ _⟩
theorem ob_pick (ho : o.op = .pick c x y) (hc : Opd E c (kbool.V p)) (F G H : Fact) (hx : Opd E x F) (hy : Opd E y G) (hF : p = true → ∀ ok w v, F.holds ok w v → H.holds ok w v) (hG : p = false → ∀ ok w v, G.holds ok w v → H.holds ok w v) : Ob P C B E o H := fun a w h => by
  have hc' := V_bool.1 (h.arg hc)
  refine .value (w' := w) (v := if p then a.eval x else a.eval y) (by simp [execOp, ho, hc', asBool]) ⟨?_, .refl _ _⟩
  cases p with
  | true => exact hF rfl _ _ _ (h.arg hx)
  | false => exact hG rfl _ _ _ (h.arg hy)
theorem ob_and2 (ho : o.op = .pick c x y) (hc : Opd E c (kbool.V p)) (hx : Opd E x ((kbool.V q).when (p == true))) (hy : Opd E y (kbool.V false)) : Ob P C B E o (kbool.V (if p then q else false)) :=
  ob_pick ho hc _ _ _ hx hy (fun hp ok w v hv => by subst hp; exact hv.1 rfl) (fun hp ok w v hv => by subst hp; exact hv)
theorem ob_or2 (ho : o.op = .pick c x y) (hc : Opd E c (kbool.V p)) (hx : Opd E x (kbool.V true)) (hy : Opd E y ((kbool.V q).when (p == false))) : Ob P C B E o (kbool.V (if p then true else q)) :=
  ob_pick ho hc _ _ _ hx hy (fun hp ok w v hv => by subst hp; exact hv) (fun hp ok w v hv => by subst hp; exact hv.1 rfl)
end
end
end Go.Proofs.Kit
end
section
namespace Go.Proofs.Kit
open Go Go.RowKit
set_option linter.unusedSimpArgs false
set_option linter.unusedVariables false
def LG {α β : Type} (K : Kd α) (k : Kd β) (off : Nat) (x : α) (y : β) : Prop := ∀ ok w cs, K.rel ok w x cs → k.rel ok w y ((cs.drop off).take k.sz)
def LS {α β : Type} (K : Kd α) (k : Kd β) (off : Nat) (x : α) (y : β) (x' : α) : Prop :=
  ∀ ok w cs ds, K.rel ok w x cs → k.rel ok w y ds → off + k.sz ≤ K.sz ∧ K.rel ok w x' (cs.take off ++ ds ++ cs.drop (off + k.sz))
section
variable {α β γ : Type} {K : Kd α} {k : Kd β} {l : Kd γ}
theorem LG.refl (k : Kd α) (x : α) : LG k k 0 x x := fun ok w cs h => by
  simpa [List.take_of_length_le (Nat.le_of_eq (k.len h))] using h
theorem LG.fst (k : Kd α) (l : Kd β) (x : α × β) : LG (kpair k l) k 0 x x.1 := by
  rintro ok w cs ⟨c, d, rfl, h1, h2⟩
  have := k.len h1
  simpa [List.take_append_of_le_length (Nat.le_of_eq this.symm), List.take_of_length_le (Nat.le_of_eq this)] using h1
theorem LG.snd (k : Kd α) {l : Kd β} {m : Kd γ} {off : Nat} {x : α × β} {y : γ} (h : LG l m off x.2 y) : LG (kpair k l) m (k.sz + off) x y := by
  rintro ok w cs ⟨c, d, rfl, h1, h2⟩
  have := h ok w d h2
  rw [← k.len h1]
  simpa [List.drop_append, List.drop_eq_nil_of_le] using this
theorem LG.iso {f : γ → α} {off : Nat} {x : γ} {y : β} (h : LG K k off (f x) y) : LG (kiso K f) k off x y := h
theorem LG.arr {n : Nat} {xs : List β} {i : Nat} {y : β} (h : xs[i]? = some y) : LG (karr n k) k (i * k.sz) xs y := fun _ _ _ hr => relL_get hr.2 h
theorem LG.trans {o1 o2 : Nat} {x : α} {y : β} {z : γ} (h1 : LG K k o1 x y) (h2 : LG k l o2 y z) (hz : 0 < l.sz) : LG K l (o1 + o2) x z := fun ok w cs h => by
  have a := h1 ok w cs h
  have b := h2 ok w _ a
  have hl := l.len b
  have hk := k.len a
  simp only [List.length_take, List.length_drop] at hl hk
  have : o2 + l.sz ≤ k.sz := by omega
  rwa [List.drop_take, List.drop_drop, List.take_take, Nat.min_eq_left (by omega)] at b
theorem LS.refl (k : Kd α) (x y : α) : LS k k 0 x y y := fun ok w cs ds h1 h2 => by
  have := k.len h1
  refine ⟨by omega, ?_⟩
  simpa [List.drop_eq_nil_of_le (Nat.le_of_eq this)] using h2
theorem LS.fst (k : Kd α) (l : Kd β) (x : α × β) (y : α) : LS (kpair k l) k 0 x y (y, x.2) := by
  rintro ok w cs ds ⟨c, d, rfl, h1, h2⟩ hy
  refine ⟨by simp [kpair], ds, d, ?_, hy, h2⟩
  have := k.len h1
  simp [List.drop_append, List.drop_eq_nil_of_le (Nat.le_of_eq this), this]
theorem LS.snd (k : Kd α) {l : Kd β} {m : Kd γ} {off : Nat} {x : α × β} {y : γ} {z : β} (h : LS l m off x.2 y z) : LS (kpair k l) m (k.sz + off) x y (x.1, z) := by
  rintro ok w cs ds ⟨c, d, rfl, h1, h2⟩ hy
  obtain ⟨hb, hr⟩ := h ok w d ds h2 hy
  refine ⟨by simp only [kpair]; omega, c, _, ?_, h1, hr⟩
  rw [← k.len h1, Nat.add_assoc]
  simp [List.take_append, List.drop_append, List.take_of_length_le, List.drop_eq_nil_of_le]
theorem LS.iso {f : γ → α} {off : Nat} {x x' : γ} {y : β} (h : LS K k off (f x) y (f x')) : LS (kiso K f) k off x y x' := h
theorem LS.arr {n : Nat} {xs : List β} {i : Nat} {y : β} (h : i < xs.length) : LS (karr n k) k (i * k.sz) xs y (xs.set i y) := fun ok w cs ds hr hy => by
  have hb : i * k.sz + k.sz ≤ n * k.sz := by rw [← hr.1, ← Nat.succ_mul]; exact Nat.mul_le_mul_right _ h
  exact ⟨hb, by rw [List.length_set]; exact hr.1, relL_set hr.2 hy h⟩
theorem LS.trans {o1 o2 : Nat} {x x' : α} {y y' : β} {z : γ} (h1 : LG K k o1 x y) (h2 : LS k l o2 y z y') (h3 : LS K k o1 x y' x') : LS K l (o1 + o2) x z x' := fun ok w cs ds h hz => by
  have a := h1 ok w cs h
  obtain ⟨hb, b⟩ := h2 ok w _ ds a hz
  obtain ⟨hc, c⟩ := h3 ok w cs _ h b
  refine ⟨by omega, ?_⟩
  have hcs := K.len h
  have e : cs.take (o1 + o2) ++ ds ++ cs.drop (o1 + o2 + l.sz) = cs.take o1 ++ (((cs.drop o1).take k.sz).take o2 ++ ds ++ ((cs.drop o1).take k.sz).drop (o2 + l.sz)) ++ cs.drop (o1 + k.sz) := by
    rw [List.take_take, Nat.min_eq_left (by omega), List.drop_take, List.drop_drop]
    have e1 : cs.take (o1 + o2) = cs.take o1 ++ (cs.drop o1).take o2 := by rw [List.take_add]
    have e2 : cs.drop (o1 + o2 + l.sz) = (cs.drop (o1 + (o2 + l.sz))).take (k.sz - (o2 + l.sz)) ++ cs.drop (o1 + k.sz) := by
      have := (List.take_append_drop (k.sz - (o2 + l.sz)) (cs.drop (o1 + (o2 + l.sz)))).symm
      rw [List.drop_drop, show o1 + (o2 + l.sz) + (k.sz - (o2 + l.sz)) = o1 + k.sz by omega] at this
      rw [Nat.add_assoc]; exact this
    rw [e1, e2]; simp
  rw [e]; exact c
end
def at? {α : Type} (xs : List α) (i : Int) : Option α := if 0 ≤ i then xs[i.toNat]? else none
theorem at?_some {α : Type} {xs : List α} {i : Int} {y : α} (h : at? xs i = some y) : 0 ≤ i ∧ i < xs.length ∧ xs[i.toNat]? = some y := by
  unfold at? at h
  by_cases h0 : 0 ≤ i
  · rw [if_pos h0] at h
    have := (List.getElem?_eq_some_iff.1 h).1
    exact ⟨h0, by omega, h⟩
  · rw [if_neg h0] at h; cases h
def set? {α : Type} (xs : List α) (i : Int) (y : α) : Option (List α) := if 0 ≤ i ∧ i < xs.length then some (xs.set i.toNat y) else none
theorem set?_some {α : Type} {xs ys : List α} {i : Int} {y : α} (h : set? xs i y = some ys) : 0 ≤ i ∧ i < xs.length ∧ ys = xs.set i.toNat y := by
  unfold set? at h
  by_cases h0 : 0 ≤ i ∧ i < xs.length
  · rw [if_pos h0] at h; cases h; exact ⟨h0.1, h0.2, rfl⟩
  · rw [if_neg h0] at h; cases h
def isAggD : TypeDesc → Bool
  | .struct _ | .array _ _ => true
  | _ => false
structure TK (P : Program) (T : TypeId) {α : Type} (k : Kd α) : Prop where
  size : (P.info? T).map (·.size) = some k.sz
  agg : (P.underlying T).map isAggD = some k.agg
theorem run_sizeOf' {P : Program} {T : TypeId} {s : Nat} (h : (P.info? T).map (·.size) = some s) (w : World) : (sizeOf T).run P w = .ok s w := by
  cases hq : P.info? T with
  | none => simp [hq] at h
  | some i =>
    have hs : i.size = s := by simpa [hq] using h
    simp [sizeOf, typeInfo, hq, hs]
theorem run_isAgg' {P : Program} {T : TypeId} {b : Bool} (h : (P.underlying T).map isAggD = some b) (w : World) : (isAgg T).run P w = .ok b w := by
  cases hq : P.underlying T with
  | none => simp [hq] at h
  | some d =>
    have hs : isAggD d = b := by simpa [hq] using h
    unfold isAgg
    rw [Sem.run_bind, run_underlying hq w]
    subst hs
    cases d <;> rfl
section
variable {P : Program} {α : Type} {k : Kd α} {T : TypeId} {w : World}
theorem run_loadVar' (tk : TK P T k) {a : Addr} {cs : List Value} {x : α} {ok : Ok} (hr : k.rel ok w x cs) (hc : ∀ j v, cs[j]? = some v → w.cell? (a.add j) = some v) : (loadVar T a).run P w = .ok (mkv k.agg cs) w := by
  have hl := run_loadCells_list (P := P) w a cs hc
  rw [k.len hr] at hl
  unfold loadVar
  rw [Sem.run_bind, run_isAgg' tk.agg]
  cases ha : k.agg with
  | true => simp [run_sizeOf' tk.size, hl, mkv]
  | false =>
    obtain ⟨v, rfl, hv⟩ := k.one hr ha
    have : w.cell? a = some v := hc 0 v rfl
    simp [mkv, this]
theorem run_part' (tk : TK P T k) {cs : List Value} {x : α} {ok : Ok} {off : Nat} (hr : k.rel ok w x ((cs.drop off).take k.sz)) : (part T cs.toArray off).run P w = .ok (mkv k.agg ((cs.drop off).take k.sz)) w := by
  unfold part
  rw [Sem.run_bind, run_isAgg' tk.agg]
  cases ha : k.agg with
  | true =>
    simp only [Result.andThen_ok, if_true, Sem.run_bind, run_sizeOf' tk.size, Sem.run_pure, mkv]
    congr 1
    simp [List.extract_eq_take_drop]
  | false =>
    obtain ⟨v, hv, _⟩ := k.one hr ha
    have h0 : cs[off]? = some v := by
      have : ((cs.drop off).take k.sz)[0]? = some v := by rw [hv]; rfl
      rw [List.getElem?_take] at this
      split at this
      · rwa [List.getElem?_drop, Nat.add_zero] at this
      · cases this
    simp [h0, hv, mkv]
end
def ptrB (b off : Nat) : Fact := is (.pointer (some ⟨b, off, none⟩))
theorem add_lit (b off n : Nat) : (⟨b, off, none⟩ : Addr).add n = ⟨b, off + n, none⟩ := by unfold Addr.add; split <;> simp_all
section
variable {P : Program} {C : Ctx} {B : List OF} {E : Env} {o : Oper} {α β γ : Type} {K : Kd α} {k : Kd β} {T U V : TypeId} {x y i : Operand} {b off : Nat} {X X' : α} {Y : β} {ik : IntKind} {n : Int}
theorem BF_cell {w : World} {cs : List Value} (hg : w.heap[b]? = some (.cells cs.toArray U (0, 0))) {j : Nat} {v : Value} (hj : ((cs.drop off).take k.sz)[j]? = some v) : w.cell? ((⟨b, off, none⟩ : Addr).add j) = some v := by
  rw [add_lit]
  have : cs[off + j]? = some v := by
    rw [List.getElem?_take] at hj
    split at hj
    · rwa [List.getElem?_drop] at hj
    · cases hj
  simp [World.cell?, hg, this]
theorem ob_load (ho : o.op = .load T x) (tk : TK P T k) (hx : Opd E x (ptrB b off)) (hB : BF b U K X ∈ B) (lg : LG K k off X Y) : Ob P C B E o (k.V Y) := fun a w h => by
  obtain ⟨cs, hg, hr⟩ := h.own _ hB
  have hY := lg _ _ _ hr
  have hl := run_loadVar' (w := w) tk hY (a := ⟨b, off, none⟩) (fun j v hj => BF_cell (k := k) hg hj)
  have hx' : a.eval x = .pointer (some ⟨b, off, none⟩) := h.arg hx
  exact .value (w' := w) (v := mkv k.agg ((cs.drop off).take k.sz)) (by simp [execOp, ho, hx', Instr.loadAt, Instr.sureAddr, hl]) ⟨⟨_, hY, rfl⟩, .refl _ _⟩
theorem ob_loadr (ho : o.op = .load T x) (tk : TK P T k) (hx : Opd E x (ptrTo k Y)) : Ob P C B E o (k.V Y) := fun a w h => by
  obtain ⟨p, cs, hp, hc, hr⟩ := h.arg hx
  have hl := run_loadVar' (w := w) tk hr (a := p) (fun j v hj => (hc j v hj).1)
  exact .value (w' := w) (v := mkv k.agg cs) (by simp [execOp, ho, hp, Instr.loadAt, Instr.sureAddr, hl]) ⟨⟨_, hr, rfl⟩, .refl _ _⟩
theorem ob_store {A D B' : List OF} (ho : o.op = .store T x y) (tk : TK P T k) (hx : Opd E x (ptrB b off)) (hy : Opd E y (k.V Y)) (hB : B = A ++ BF b U K X :: D) (ls : LS K k off X Y X') (hB' : B' = A ++ BF b U K X' :: D) :
    ObX P C B E o (fun _ : Unit => B') (fun _ => nofact) := fun a w h => by
  subst hB hB'
  obtain ⟨cs, hg, hr⟩ := h.own (BF b U K X) (by simp)
  obtain ⟨ds, hd, hv⟩ := h.arg hy
  obtain ⟨hb, hr'⟩ := ls _ _ _ _ hr hd
  have hx' : a.eval x = .pointer (some ⟨b, off, none⟩) := h.arg hx
  have hdl := k.len hd
  have hcl := K.len hr
  have hcells : (mkv k.agg ds).cells = ds.toArray := by have := Kd.cells hd; rw [← Array.toList_inj, this]
  have hst := run_storeCells_at P b off U ds 0 cs.toArray w hg (by simp [hdl, hcl]; omega) (k.cell1 hd)
  simp only [Nat.add_zero, hdl] at hst
  refine .skip (w' := w.setRow b (cs.take off ++ ds ++ cs.drop (off + k.sz)).toArray) ?_ ⟨(), trivial, ?_⟩
  · simp [execOp, ho, hx', hv, Instr.storeAt, Instr.sureAddr, storeVar, hcells, run_sizeOf' tk.size, hdl, hst]
  · refine h.turn (g := BF b U K X') rfl ⟨rfl, rfl, rfl, by simp, fun q _ hq => setRow_other _ _ _ _ (by simpa [BF] using hq)⟩ (fun kp => ?_)
    exact ⟨_, setRow_heap _ _ _ _ _ _ hg, K.mono hr' kp⟩
theorem run_zero {P : Program} {T : TypeId} {z : Value} (hz : ((P.info? T).bind (·.zero)) = some z) (w : World) : (zeroValue T).run P w = .ok z w := by
  cases hq : P.info? T with
  | none => simp [hq] at hz
  | some i =>
    have : i.zero = some z := by simpa [hq] using hz
    simp [zeroValue, typeInfo, hq, this]
theorem ob_alloc {z : Value} (ho : o.op = .alloc T) (hz : ((P.info? T).bind (·.zero)) = some z) (hk : ∀ ok w, k.rel ok w Y z.cells.toList) : ObX P C B E o (fun b => BF b T k Y :: B) (fun b => ptrB b 0) := fun a w h => by
  refine .value (w' := w.alloc (.cells z.cells T)) (v := .pointer (some ⟨w.heap.size, 0, none⟩)) ?_ ⟨w.heap.size, rfl, ?_⟩
  · simp only [execOp, ho, Instr.alloc, newVar, newRow, newObj, Sem.run_bind, run_zero hz, Result.andThen_ok, Sem.run, Sem.run_pure]
    rfl
  · exact h.new (.cells z.cells T) (G := BF w.heap.size T k Y) rfl (fun _ => ⟨z.cells.toList, by simpa using heap_alloc_new w _, hk _ _⟩)
theorem ob_box (ho : o.op = .box T x) (hx : Opd E x (k.V Y)) : ObX P C B E o (fun b => BF b T k Y :: B) (fun b => ptrB b 0) := fun a w h => by
  obtain ⟨cs, hr, hv⟩ := h.arg hx
  have hcells : (mkv k.agg cs).cells = cs.toArray := by have := Kd.cells hr; rw [← Array.toList_inj, this]
  refine .value (w' := w.alloc (.cells cs.toArray T)) (v := .pointer (some ⟨w.heap.size, 0, none⟩)) ?_ ⟨w.heap.size, rfl, ?_⟩
  · simp only [execOp, ho, hv, Instr.box, newVar, newRow, newObj, Sem.run_bind, Result.andThen_ok, Sem.run, Sem.run_pure, hcells]
    rfl
  · exact h.new (.cells cs.toArray T) (G := BF w.heap.size T k Y) rfl (fun kp => ⟨cs, heap_alloc_new w _, k.mono hr kp⟩)
theorem ob_fieldAddr {fs : Array Field} {f : Field} {j s off' : Nat} (ho : o.op = .fieldAddr T x j) (hT : P.underlying T = some (.struct fs)) (hf : fs[j]? = some f) (hs : (P.info? f.type).map (·.size) = some s) (h0 : s ≠ 0)
    (hx : Opd E x (ptrB b off)) (he : off + f.offset = off') : Ob P C B E o (ptrB b off') := fun a w h => by
  have hx' : a.eval x = .pointer (some ⟨b, off, none⟩) := h.arg hx
  subst he
  exact .value (w' := w) (v := .pointer (some ⟨b, off + f.offset, none⟩)) (by
    simp [execOp, ho, hx', Instr.fieldAt, run_underlying hT, hf, Instr.sureAddr, fieldPlace, run_sizeOf' hs, h0, add_lit]) ⟨rfl, .refl _ _⟩
theorem ptrTo_part {w : World} {ok : Ok} {p : Addr} {cs : List Value} {X : α} (hc : cellsAt ok w p cs) (hr : K.rel ok w X cs) (lg : LG K k off X Y) : (ptrTo k Y).holds ok w (.pointer (some (p.add off))) :=
  ⟨_, _, rfl, cellsAt_take_drop hc off k.sz, lg _ _ _ hr⟩
theorem ob_fieldAddrr {fs : Array Field} {f : Field} {j s : Nat} (ho : o.op = .fieldAddr T x j) (hT : P.underlying T = some (.struct fs)) (hf : fs[j]? = some f) (hs : (P.info? f.type).map (·.size) = some s) (h0 : s ≠ 0)
    (hx : Opd E x (ptrTo K X)) (lg : LG K k f.offset X Y) : Ob P C B E o (ptrTo k Y) := fun a w h => by
  obtain ⟨p, cs, hp, hc, hr⟩ := h.arg hx
  exact .value (w' := w) (v := .pointer (some (p.add f.offset))) (by
    simp [execOp, ho, hp, Instr.fieldAt, run_underlying hT, hf, Instr.sureAddr, fieldPlace, run_sizeOf' hs, h0]) ⟨ptrTo_part hc hr lg, .refl _ _⟩
theorem ob_indexAddr {len : Nat} {e : TypeId} {s off' : Nat} (ho : o.op = .indexAddr T x i) (hT : P.underlying T = some (.array len e)) (hs : (P.info? e).map (·.size) = some s)
    (hx : Opd E x (ptrB b off)) (hi : Opd E i ((kint ik).V n)) (h0 : 0 ≤ n) (h1 : n < len) (he : off + n.toNat * s = off') : Ob P C B E o (ptrB b off') := fun a w h => by
  have hx' : a.eval x = .pointer (some ⟨b, off, none⟩) := h.arg hx
  subst he
  exact .value (w' := w) (v := .pointer (some ⟨b, off + n.toNat * s, none⟩)) (by
    simp [execOp, ho, hx', (V_int.1 (h.arg hi)).1, Instr.indexAt, asIntOf, run_underlying hT, Instr.sureAddr, run_sizeOf' hs, h0, h1, add_lit]) ⟨rfl, .refl _ _⟩
theorem ob_indexAddrs {e : TypeId} {xs : List β} (ho : o.op = .indexAddr T x i) (hT : P.underlying T = some (.slice e)) (hs : (P.info? e).map (·.size) = some k.sz)
    (hx : Opd E x ((ksl k).V xs)) (hi : Opd E i ((kint ik).V n)) (hy : at? xs n = some Y) : Ob P C B E o (ptrTo k Y) := fun a w h => by
  obtain ⟨p, cap, hp, hcap, hnil, rs, hr, hc⟩ := V_sl (h.arg hx)
  obtain ⟨h0, h1, h2⟩ := at?_some hy
  cases p with
  | none => have := hnil rfl; omega
  | some p =>
    refine .value (w' := w) (v := .pointer (some (p.add (n.toNat * k.sz)))) (by
      simp [execOp, ho, hp, (V_int.1 (h.arg hi)).1, Instr.indexAt, asIntOf, run_underlying hT, run_sizeOf' hs, h0, h1]) ⟨?_, .refl _ _⟩
    exact ⟨_, _, rfl, cellsAt_take_drop (hc p rfl) _ k.sz, relL_get hr h2⟩
theorem ob_indexStr {l : List Int} {c : Int} (ho : o.op = .index T x i) (hT : P.underlying T = some .string) (hx : Opd E x (kstr.V l)) (hi : Opd E i ((kint ik).V n)) (hy : at? l n = some c) : Ob P C B E o ((kint .u8).V c) := fun a w h => by
  obtain ⟨s, hs, rfl, _⟩ := V_str.1 (h.arg hx)
  obtain ⟨h0, h1, h2⟩ := at?_some hy
  have hb : s[n.toNat]? = some (UInt8.ofNat c.toNat) ∧ ((UInt8.ofNat c.toNat).toNat : Int) = c := by
    unfold bl at h2
    rw [List.getElem?_map] at h2
    cases hq : s.data.toList[n.toNat]? with
    | none => rw [hq] at h2; cases h2
    | some u =>
      rw [hq] at h2; simp at h2; subst h2
      have : s[n.toNat]? = some u := by
        have h3 : s.data[n.toNat]? = some u := by simpa using hq
        have h4 := (Array.getElem?_eq_some_iff.1 h3)
        obtain ⟨h5, h6⟩ := h4
        have h7 : n.toNat < s.size := h5
        rw [getElem?_pos s n.toNat h7]
        exact congrArg some h6
      simp [this]
  have hc := bl_range h2
  refine .value (w' := w) (v := .int .u8 c) ?_ ⟨V_int.2 ⟨rfl, ?_⟩, .refl _ _⟩
  · simp [execOp, ho, hs, (V_int.1 (h.arg hi)).1, Instr.index, asIntOf, run_underlying hT, h0, hb.1, hb.2]; try omega
  · unfold IntKind.has; simp [IntKind.min, IntKind.max, IntKind.signed, IntKind.bits]; omega
theorem ob_nilCheck (ho : o.op = .nilCheck x) (hx : Opd E x (ptrB b off)) : Ob P C B E o (ptrB b off) := fun a w h => by
  have hx' : a.eval x = .pointer (some ⟨b, off, none⟩) := h.arg hx
  exact .value (w' := w) (v := .pointer (some ⟨b, off, none⟩)) (by simp [execOp, ho, hx']) ⟨rfl, .refl _ _⟩
theorem ob_extract {l : List Fact} {F : Fact} {j : Nat} (ho : o.op = .extract x j) (hx : Opd E x (tup l)) (hj : l[j]? = some F) : Ob P C B E o F := fun a w h => by
  obtain ⟨vs, hv, hl, hf⟩ := h.arg hx
  have hlt : j < vs.length := by rw [hl]; exact (List.getElem?_eq_some_iff.1 hj).1
  refine .value (w' := w) (v := vs[j]) ?_ ⟨hf j F _ hj (List.getElem?_eq_getElem hlt), .refl _ _⟩
  simp [execOp, ho, hv, Instr.extract, hlt]
theorem has_len {n : Nat} (h : n ≤ maxLen) : IntKind.i64.has n := by
  unfold IntKind.has; simp [IntKind.min, IntKind.max, IntKind.signed, IntKind.bits]; unfold maxLen at h; omega
theorem ob_lens {e : TypeId} {xs : List β} (ho : o.op = .call { callee := .builtin .len, args := #[x], argTypes := #[T] }) (hT : P.underlying T = some (.slice e)) (hx : Opd E x ((ksl k).V xs)) : Ob P C B E o ((kint .i64).V xs.length) := fun a w h => by
  obtain ⟨p, cap, hp, hcap, _⟩ := V_sl (h.arg hx)
  exact .value (w' := w) (v := .int .i64 xs.length) (by simp [execOp, ho, hp, resolve, invoke, builtin, Builtin.len_, run_underlying hT, goInt]) ⟨V_int.2 ⟨rfl, has_len (by omega)⟩, .refl _ _⟩
theorem ob_lenStr {l : List Int} (ho : o.op = .call { callee := .builtin .len, args := #[x], argTypes := #[T] }) (hT : P.underlying T = some .string) (hx : Opd E x (kstr.V l)) : Ob P C B E o ((kint .i64).V l.length) := fun a w h => by
  obtain ⟨s, hs, rfl, hm⟩ := V_str.1 (h.arg hx)
  exact .value (w' := w) (v := .int .i64 (bl s).length) (by simp [execOp, ho, hs, resolve, invoke, builtin, Builtin.len_, run_underlying hT, goInt, bl_length]) ⟨V_int.2 ⟨rfl, has_len (by rwa [bl_length])⟩, .refl _ _⟩
end
end Go.Proofs.Kit
end
section
namespace Go.Proofs.Kit
open Go Go.RowKit
set_option linter.unusedSimpArgs false
set_option linter.unusedVariables false
def okNew (ok : Ok) (w : World) : Ok := fun n => n < w.heap.size → ok n
def Gives (P : Program) (f : FuncId) (args : List Value) (ok : Ok) (w : World) (F : Fact) : Prop :=
  Calls P f args.toArray w fun e w' => ∃ v, e = .returned v ∧ F.holds (okNew ok w) w' v ∧ Ev [] w w'
theorem keep_okNew {C : Ctx} {B : List OF} {E : Env} {a : Act} {w w' : World} (h : St C B E a w) : Keep (okNew (okB C (idsOf B)) w) (okB C (idsOf B)) w' w' := fun b _ ho => by
  refine ⟨rfl, ?_⟩
  by_cases hb : b < w.heap.size
  · exact ho hb
  · exact ⟨fun hc => absurd hc (by have := h.ev.size; omega), fun hm => hb (h.lt hm)⟩
section
variable {P : Program} {C : Ctx} {B : List OF} {E : Env} {o : Oper} {f : FuncId} {fn : Func} {x y z u : Operand} {F G1 G2 G3 G4 : Fact} {T1 T2 T3 T4 : TypeId}
def hasBody (P : Program) (f : FuncId) : Prop := ∃ fn, P.funcs[f]? = some fn ∧ fn.body.isNone = false ∧ (fn.name == "runtime.NumGoroutine") = false
end
def Dst (ops : List Oper) (i : Nat) : Option Tmp := (ops[i]?).bind (·.dst)
def Av (E : Env) (ops : List Oper) (Fs : List Fact) (bits : List Nat) (i : Nat) (E' : Env) : Prop :=
  ∀ t F, get E' t = some F →
    (get E t = some F ∧ ∀ j, Dst ops j = some t → (bits.getD j 0).testBit i = true ∨ j = i) ∨
    (∃ j, Dst ops j = some t ∧ Fs[j]? = some F ∧ (bits.getD i 0).testBit j = true)
def freeOf (ops : List Oper) (bits : List Nat) (i t : Nat) : Bool := (List.range ops.length).all fun j => !(Dst ops j == some t) || (bits.getD j 0).testBit i || j == i
section
variable {E E' : Env} {ops : List Oper} {Fs : List Fact} {bits : List Nat} {i t j : Nat} {F : Fact}
theorem Av.nil : Av E ops Fs bits i [] := fun _ _ h => by cases h
theorem Av.old (h : get E t = some F) (hf : freeOf ops bits i t = true) (k : Av E ops Fs bits i E') : Av E ops Fs bits i ((t, F) :: E') := fun u G hu => by
  simp only [get] at hu
  by_cases e : t = u
  · rw [if_pos e] at hu; cases hu; subst e
    refine .inl ⟨h, fun j hj => ?_⟩
    have hlt : j < ops.length := by
      unfold Dst at hj
      rcases Nat.lt_or_ge j ops.length with h1 | h1
      · exact h1
      · rw [List.getElem?_eq_none h1] at hj; cases hj
    have := List.all_eq_true.1 hf j (List.mem_range.2 hlt)
    simp only [hj, beq_self_eq_true, Bool.not_true, Bool.false_or, Bool.or_eq_true, beq_iff_eq] at this
    exact this
  · rw [if_neg e] at hu; exact k u G hu
theorem Av.new (h : Dst ops j = some t) (hF : Fs[j]? = some F) (hb : (bits.getD i 0).testBit j = true) (k : Av E ops Fs bits i E') : Av E ops Fs bits i ((t, F) :: E') := fun u G hu => by
  simp only [get] at hu
  by_cases e : t = u
  · rw [if_pos e] at hu; cases hu; subst e; exact .inr ⟨j, h, hF, hb⟩
  · rw [if_neg e] at hu; exact k u G hu
end
inductive OpOk (P : Program) (C : Ctx) (B : List OF) (E : Env) (ops : List Oper) (Fs : List Fact) (bits : List Nat) (i : Nat) (o : Oper) : Prop
  | plain {F : Fact} (E' : Env) (av : Av E ops Fs bits i E') (hg : o.guard = none) (hF : Fs[i]? = some F) (ob : Ob P C B E' o F)
  | guarded {F : Fact} {j : Nat} {want b : Bool} {t : Tmp} (E' : Env) (av : Av E ops Fs bits i E') (hg : o.guard = some (j, want)) (hj : Dst ops j = some t) (ht : get E' t = some (kbool.V b))
      (hF : Fs[i]? = some (F.when (b == want))) (ob : (b == want) = true → Ob P C B E' o F)
  | guarded2 {F : Fact} {j : Nat} {want b c : Bool} {t : Tmp} (E' : Env) (av : Av E ops Fs bits i E') (hg : o.guard = some (j, want)) (hj : Dst ops j = some t) (ht : get E' t = some ((kbool.V b).when c))
      (hF : Fs[i]? = some (F.when (c && (b == want)))) (ob : (c && (b == want)) = true → Ob P C B E' o F)
def OpsOk (P : Program) (C : Ctx) (B : List OF) (E : Env) (ops : List Oper) (Fs : List Fact) (bits : List Nat) : Nat → List Oper → Prop
  | _, [] => True
  | i, o :: r => OpOk P C B E ops Fs bits i o ∧ OpsOk P C B E ops Fs bits (i + 1) r
def chk (ops : List Oper) (bits : List Nat) (m : Nat) : Bool :=
  ((List.range ops.length).all fun i => ((ops[i]?).map (·.after)).getD #[] |>.all fun e => !(Region.binds .any e) || decide (e.on < i)) &&
  ((List.range ops.length).all fun i => (List.range ops.length).all fun j => !((bits.getD i 0).testBit j) ||
    (((ops[i]?).map (·.after)).getD #[]).any fun e => Region.binds .any e && (e.on == j || (bits.getD e.on 0).testBit j)) &&
  ((List.range ops.length).all fun i => (List.range ops.length).all fun j => i == j || (Dst ops i).isNone || !(Dst ops i == Dst ops j)) &&
  ((List.range ops.length).all fun i => decide (i < m) || ((List.range i).all fun j => (bits.getD i 0).testBit j)) && decide (m ≤ ops.length)
structure Chk (ops : List Oper) (bits : List Nat) (m : Nat) : Prop where
  back : ∀ i o, ops[i]? = some o → ∀ e, e ∈ o.after → Region.binds .any e = true → e.on < i
  anc : ∀ i o j, ops[i]? = some o → j < ops.length → (bits.getD i 0).testBit j = true → ∃ e, e ∈ o.after ∧ Region.binds .any e = true ∧ (e.on = j ∨ (bits.getD e.on 0).testBit j = true)
  once : ∀ i j t, i < ops.length → j < ops.length → Dst ops i = some t → Dst ops j = some t → i = j
  tail : ∀ i, i < ops.length → m ≤ i → ∀ j, j < i → (bits.getD i 0).testBit j = true
  le : m ≤ ops.length
theorem chk_spec {ops : List Oper} {bits : List Nat} {m : Nat} (h : chk ops bits m = true) : Chk ops bits m := by
  simp only [chk, Bool.and_eq_true, decide_eq_true_eq] at h
  obtain ⟨⟨⟨⟨h1, h2⟩, h3⟩, h4⟩, h5⟩ := h
  refine ⟨?_, ?_, ?_, ?_, h5⟩
  · intro i o ho e he hb
    have hi := (List.getElem?_eq_some_iff.1 ho).1
    have := List.all_eq_true.1 h1 i (List.mem_range.2 hi)
    simp only [ho, Option.map_some, Option.getD_some] at this
    have := Array.all_eq_true_iff_forall_mem.1 this e he
    simpa [hb] using this
  · intro i o j ho hj hb
    have hi := (List.getElem?_eq_some_iff.1 ho).1
    have := List.all_eq_true.1 (List.all_eq_true.1 h2 i (List.mem_range.2 hi)) j (List.mem_range.2 hj)
    simp only [ho, hb, Option.map_some, Option.getD_some, Bool.not_true, Bool.false_or] at this
    obtain ⟨e, he, h6⟩ := Array.any_eq_true'.1 this
    simp only [Bool.and_eq_true, Bool.or_eq_true, beq_iff_eq] at h6
    exact ⟨e, he, h6.1, h6.2⟩
  · intro i j t hi hj hti htj
    have := List.all_eq_true.1 (List.all_eq_true.1 h3 i (List.mem_range.2 hi)) j (List.mem_range.2 hj)
    simpa [hti, htj] using this
  · intro i hi hm j hj
    have := List.all_eq_true.1 h4 i (List.mem_range.2 hi)
    have hm' : decide (i < m) = false := by simp; omega
    rw [hm', Bool.false_or] at this
    exact List.all_eq_true.1 this j (List.mem_range.2 hj)
def Closed (ops : List Oper) (D : Array Bool) : Prop := ∀ i o, ops[i]? = some o → D.getD i false = true → ∀ e, e ∈ o.after → Region.binds .any e = true → D.getD e.on false = true
theorem done_of_anc {ops : List Oper} {bits : List Nat} {m : Nat} {D : Array Bool} (c : Chk ops bits m) (hD : Closed ops D) : ∀ (i : Nat) (o : Oper) (j : Nat), ops[i]? = some o → (∀ e, e ∈ o.after → Region.binds .any e = true → D.getD e.on false = true) → j < ops.length → (bits.getD i 0).testBit j = true → D.getD j false = true := by
  intro i
  induction i using Nat.strongRecOn with
  | _ i ih =>
    intro o j ho he hj hb
    obtain ⟨e, h1, h2, h3⟩ := c.anc i o j ho hj hb
    rcases h3 with rfl | h3
    · exact he e h1 h2
    · have hlt := c.back i o ho e h1 h2
      have hel : e.on < ops.length := Nat.lt_trans hlt (List.getElem?_eq_some_iff.1 ho).1
      obtain ⟨o', ho'⟩ : ∃ o', ops[e.on]? = some o' := ⟨_, List.getElem?_eq_getElem hel⟩
      exact ih e.on hlt o' j ho' (hD e.on o' ho' (he e h1 h2)) hj h3
structure Mid (C : Ctx) (B : List OF) (E : Env) (ops : List Oper) (Fs : List Fact) (D : Array Bool) (a : Act) (w : World) : Prop where
  st : St C B [] a w
  old : ∀ t F, get E t = some F → (∀ i, D.getD i false = true → Dst ops i ≠ some t) → F.holds (okB C (idsOf B)) w (sl a t)
  new : ∀ i d F, D.getD i false = true → Dst ops i = some d → Fs[i]? = some F → F.holds (okB C (idsOf B)) w (sl a d)
theorem ready_mem {ops : Array Oper} {D : Array Bool} {i : Nat} : i ∈ Region.ready .any ops D ↔ i < ops.size ∧ D.getD i true = false ∧ ∀ o, ops[i]? = some o → ∀ e, e ∈ o.after → Region.binds .any e = true → D.getD e.on false = true := by
  unfold Region.ready
  simp only [List.mem_filter, List.mem_range, Bool.and_eq_true, Bool.not_eq_true']
  constructor
  · rintro ⟨h1, h2, h3⟩
    refine ⟨h1, h2, fun o ho e he hb => ?_⟩
    simp only [ho, Option.map_some, Option.getD_some] at h3
    have := Array.all_eq_true_iff_forall_mem.1 h3 e he
    simpa [hb] using this
  · rintro ⟨h1, h2, h3⟩
    refine ⟨h1, h2, ?_⟩
    have ho : ops[i]? = some ops[i] := Array.getElem?_eq_getElem h1
    simp only [ho, Option.map_some, Option.getD_some]
    refine Array.all_eq_true_iff_forall_mem.2 fun e he => ?_
    cases hb : Region.binds .any e with
    | false => rfl
    | true => simpa [hb] using h3 _ ho e he hb
theorem getD_set_true (D : Array Bool) (i j : Nat) (d : Bool) (hi : i < D.size) : (D.setIfInBounds i true).getD j d = if i = j then true else D.getD j d := by
  by_cases h : i = j
  · subst h; simp [hi]
  · simp [h, Array.getElem?_setIfInBounds_ne h]
theorem count_set {D : Array Bool} {i : Nat} (hi : i < D.size) (h : D.getD i true = false) : (D.setIfInBounds i true).toList.count false + 1 = D.toList.count false := by
  have hi' : i < D.toList.length := by simpa using hi
  have hf : D.toList[i] = false := by simpa [hi] using h
  have hpos : 0 < D.toList.count false := List.count_pos_iff.2 (hf ▸ List.getElem_mem hi')
  rw [Array.toList_setIfInBounds, List.count_set hi', hf]
  have e1 : (if (false == false) = true then 1 else 0) = 1 := rfl
  have e2 : (if (true == false) = true then 1 else 0) = 0 := rfl
  rw [e1, e2]; omega
section
variable {P : Program} {C : Ctx} {B : List OF} {E : Env} {ops : List Oper} {Fs : List Fact} {bits : List Nat} {m : Nat} {Q : Exit → Act → World → Prop} {a : Act} {w : World} {D : Array Bool}
theorem OpsOk.get : ∀ (l : List Oper) (k : Nat), OpsOk P C B E ops Fs bits k l → ∀ i o, l[i]? = some o → OpOk P C B E ops Fs bits (k + i) o
  | [], _, _, i, o, ho => by simp at ho
  | x :: l, k, ⟨h1, h2⟩, i, o, ho => by
    cases i with
    | zero => simp at ho; subst ho; exact h1
    | succ i => have := OpsOk.get l (k + 1) h2 i o (by simpa using ho); rwa [show k + 1 + i = k + (i + 1) by omega] at this
theorem Mid.at {i : Nat} {o : Oper} {E' : Env} (c : Chk ops bits m) (hc : Closed ops D) (h : Mid C B E ops Fs D a w) (hD : D.size = ops.length) (hr : i ∈ Region.ready .any ops.toArray D) (ho : ops[i]? = some o) (av : Av E ops Fs bits i E') : St C B E' a w := by
  obtain ⟨hlt, hni, hrd⟩ := ready_mem.1 hr
  have hi : i < ops.length := by simpa using hlt
  have ho' : ops.toArray[i]? = some o := by simpa using ho
  refine { h.st with env := fun t F ht => ?_ }
  rcases av t F ht with ⟨h1, h2⟩ | ⟨j, h1, h2, h3⟩
  · refine h.old t F h1 (fun j hj hdj => ?_)
    rcases h2 j hdj with h3 | rfl
    ·
      have hjl : j < ops.length := by
        rcases Nat.lt_or_ge j D.size with h4 | h4
        · omega
        · rw [Array.getD_eq_getD_getElem?, Array.getElem?_eq_none h4] at hj; cases hj
      obtain ⟨oj, hoj⟩ : ∃ oj, ops[j]? = some oj := ⟨_, List.getElem?_eq_getElem hjl⟩
      have := done_of_anc c hc j oj i hoj (hc j oj hoj hj) hi h3
      have h5 : i < D.size := by omega
      simp [h5] at this hni
      rw [this] at hni; cases hni
    · have h5 : j < D.size := by omega
      simp [h5] at hj hni
      rw [hj] at hni; cases hni
  · have hjl : j < ops.length := by
      unfold Dst at h1
      rcases Nat.lt_or_ge j ops.length with h4 | h4
      · exact h4
      · rw [List.getElem?_eq_none h4] at h1; cases h1
    exact h.new j t F (done_of_anc c hc i o j ho (hrd o ho') hjl h3) h1 h2
theorem Mid.step {i : Nat} {o : Oper} {F : Fact} {w' : World} {v : Value} (c : Chk ops bits m) (h : Mid C B E ops Fs D a w) (hD : D.size = ops.length) (ho : ops[i]? = some o) (hN : ∀ d, o.dst = some d → d < C.N) (hni : D.getD i true = false) (hF : Fs[i]? = some F) (hv : F.holds (okB C (idsOf B)) w' v) (e : Ev [] w w') :
    Mid C B E ops Fs (D.setIfInBounds i true) (a.put o.dst v) w' := by
  have hi : i < ops.length := (List.getElem?_eq_some_iff.1 ho).1
  have hdi : Dst ops i = o.dst := by unfold Dst; rw [ho]; rfl
  have hold := h.old
  have hst := h.st.grow e
  have kp : Keep (okB C (idsOf B)) (okB C (idsOf B)) w w' := .of_ev_nil e
  have hD' : ∀ j, j ≠ i → (D.setIfInBounds i true).getD j false = D.getD j false := fun j hj => by rw [getD_set_true D i j false (by omega), if_neg (Ne.symm hj)]
  have hnot : ∀ j d, D.getD j false = true → Dst ops j = some d → o.dst ≠ some d := by
    intro j d hj hjd hod
    have hjl : j < ops.length := by
      unfold Dst at hjd
      rcases Nat.lt_or_ge j ops.length with h4 | h4
      · exact h4
      · rw [List.getElem?_eq_none h4] at hjd; cases hjd
    have := c.once i j d hi hjl (by rw [hdi]; exact hod) hjd
    subst this
    have h5 : i < D.size := by omega
    simp [h5] at hj hni
    rw [hj] at hni; cases hni
  refine { st := ?_, old := ?_, new := ?_ }
  · cases hd : o.dst with
    | none => exact hst
    | some d => exact (hst.put (hN d hd) (F := nofact) trivial).sub Sub.nil
  · intro t G ht hdone
    have h1 := hold t G ht (fun j hj hjd => hdone j (by
      by_cases e2 : j = i
      · subst e2; rw [getD_set_true D j j false (by omega), if_pos rfl]
      · rw [hD' j e2]; exact hj) hjd)
    have h2 := G.mono h1 kp
    cases hd : o.dst with
    | none => exact h2
    | some d =>
      have hne : d ≠ t := by
        intro e2; subst e2
        exact hdone i (by rw [getD_set_true D i i false (by omega), if_pos rfl]) (by rw [hdi]; exact hd)
      rw [sl_put_ne a v hne]; exact h2
  · intro j d G hj hjd hG
    by_cases e2 : j = i
    · subst e2
      rw [hF] at hG; cases hG
      have hd : o.dst = some d := by rw [← hdi]; exact hjd
      rw [hd, sl_put a d d v (by rw [h.st.size]; exact hN d hd), if_pos rfl]; exact hv
    · rw [hD' j e2] at hj
      have h1 := G.mono (h.new j d G hj hjd hG) kp
      cases hd : o.dst with
      | none => exact h1
      | some d' =>
        have hne : d' ≠ d := fun e3 => hnot j d hj hjd (by rw [hd, e3])
        rw [sl_put_ne a v hne]; exact h1
theorem seq_tail (c : Chk ops bits m) : ∀ (k : Nat) (j : Nat) (D : Array Bool) (a : Act) (w : World), j + k = ops.length → m ≤ j → D.size = ops.length → (∀ i, i < ops.length → D.getD i false = decide (i < j)) → wpList P ops.toArray Q (ops.drop j) a w → wpAny P .any ops.toArray Q k D a w := by
  intro k
  induction k with
  | zero =>
    intro j D a w hj _ hD hd hw
    refine ⟨?_, ?_⟩
    · refine List.eq_nil_iff_forall_not_mem.2 fun i hi => ?_
      obtain ⟨h1, h2, _⟩ := ready_mem.1 hi
      have hi' : i < ops.length := by simpa using h1
      have h3 := hd i hi'
      have h5 : i < D.size := by omega
      have : decide (i < j) = true := by simp; omega
      simp [h5] at h2 h3; rw [h2] at h3; simp at h3; omega
    · rw [show ops.drop j = [] from List.drop_eq_nil_of_le (by omega)] at hw; exact hw
  | succ k ih =>
    intro j D a w hj hm hD hd hw
    have hjl : j < ops.length := by omega
    have hready : ∀ i, i ∈ Region.ready .any ops.toArray D ↔ i = j := by
      intro i
      rw [ready_mem]
      constructor
      · rintro ⟨h1, h2, h3⟩
        have hi' : i < ops.length := by simpa using h1
        have h5 : i < D.size := by omega
        have h4 := hd i hi'
        have hge : j ≤ i := by
          simp [h5] at h2 h4; rw [h2] at h4; simp at h4; omega
        rcases Nat.lt_or_ge j i with hlt | hge'
        · exfalso
          have hc : Closed ops D := by
            intro p o ho hp e he hb
            have hpl := (List.getElem?_eq_some_iff.1 ho).1
            have h6 := hd p hpl
            rw [hp] at h6
            have h7 : p < j := by simpa using h6.symm
            have h8 := c.back p o ho e he hb
            rw [hd e.on (by omega)]
            simp; omega
          obtain ⟨o, ho⟩ : ∃ o, ops[i]? = some o := ⟨_, List.getElem?_eq_getElem hi'⟩
          have h9 := done_of_anc c hc i o j ho (h3 o (by simpa using ho)) hjl (c.tail i hi' (by omega) j hlt)
          rw [hd j hjl] at h9
          simp at h9
        · omega
      · rintro rfl
        have h5 : i < D.size := by omega
        refine ⟨by simpa using hjl, ?_, fun o ho e he hb => ?_⟩
        · have := hd i hjl; simp [h5] at this ⊢; exact this
        · have h8 := c.back i o (by simpa using ho) e he hb
          rw [hd e.on (by omega)]; simp; omega
    refine ⟨fun hn => ?_, fun i hi => ?_⟩
    · have := (hready j).2 rfl; rw [hn] at this; cases this
    · have := (hready i).1 hi; subst this
      obtain ⟨o, ho⟩ : ∃ o, ops[i]? = some o := ⟨_, List.getElem?_eq_getElem hjl⟩
      have hdrop : ops.drop i = o :: ops.drop (i + 1) := by
        rw [List.drop_eq_getElem_cons hjl]; congr 1
        exact (List.getElem?_eq_some_iff.1 ho).2
      rw [hdrop] at hw
      unfold wpList at hw
      unfold wpOp
      rw [show ops.toArray[i]? = some o by simpa using ho]
      simp only []
      have next : ∀ a' w', wpList P ops.toArray Q (ops.drop (i + 1)) a' w' → wpAny P .any ops.toArray Q k (D.setIfInBounds i true) a' w' := fun a' w' h' => by
        refine ih (i + 1) _ a' w' (by omega) (by omega) (by simpa using hD) (fun p hp => ?_) h'
        rw [getD_set_true D i p false (by omega), hd p hp]
        by_cases e : i = p
        · subst e; simp
        · rw [if_neg e]; congr 1; simp; omega
      split
      · rename_i hw'
        rw [if_pos hw'] at hw
        exact hw.imp (Oper.wp_mono next) id
      · rename_i hw'
        rw [if_neg hw'] at hw
        exact next _ _ hw
theorem out_nil {ops : List Oper} {E : Env} {Fs : List Fact} {m : Nat} : ∀ t F, get ([] : Env) t = some F → (get E t = some F ∧ ∀ i, i < m → Dst ops i ≠ some t) ∨ ∃ i, i < m ∧ Dst ops i = some t ∧ Fs[i]? = some F := fun _ _ h => by cases h
theorem out_old {ops : List Oper} {E E' : Env} {Fs : List Fact} {m t : Nat} {F : Fact} (h : get E t = some F) (hf : (List.range m).all (fun i => !(Dst ops i == some t)) = true)
    (k : ∀ t F, get E' t = some F → (get E t = some F ∧ ∀ i, i < m → Dst ops i ≠ some t) ∨ ∃ i, i < m ∧ Dst ops i = some t ∧ Fs[i]? = some F) :
    ∀ u G, get ((t, F) :: E') u = some G → (get E u = some G ∧ ∀ i, i < m → Dst ops i ≠ some u) ∨ ∃ i, i < m ∧ Dst ops i = some u ∧ Fs[i]? = some G := fun u G hu => by
  simp only [get] at hu
  by_cases e : t = u
  · rw [if_pos e] at hu; cases hu; subst e
    refine .inl ⟨h, fun i hi hd => ?_⟩
    have := List.all_eq_true.1 hf i (List.mem_range.2 hi)
    simp [hd] at this
  · rw [if_neg e] at hu; exact k u G hu
theorem out_new {ops : List Oper} {E E' : Env} {Fs : List Fact} {m t i : Nat} {F : Fact} (hi : i < m) (hd : Dst ops i = some t) (hF : Fs[i]? = some F)
    (k : ∀ t F, get E' t = some F → (get E t = some F ∧ ∀ i, i < m → Dst ops i ≠ some t) ∨ ∃ i, i < m ∧ Dst ops i = some t ∧ Fs[i]? = some F) :
    ∀ u G, get ((t, F) :: E') u = some G → (get E u = some G ∧ ∀ i, i < m → Dst ops i ≠ some u) ∨ ∃ i, i < m ∧ Dst ops i = some u ∧ Fs[i]? = some G := fun u G hu => by
  simp only [get] at hu
  by_cases e : t = u
  · rw [if_pos e] at hu; cases hu; subst e; exact .inr ⟨i, hi, hd, hF⟩
  · rw [if_neg e] at hu; exact k u G hu
end
end Go.Proofs.Kit
end
section
namespace Go.Proofs.Kit
open Go Go.RowKit
set_option linter.unusedSimpArgs false
set_option linter.unusedVariables false
section
variable {P : Program} {f : FuncId} {fn : Func} {c : Code} {args : List Value} {ok : Ok} {w : World} {F : Fact}
def argEnv : Nat → List Fact → Env
  | _, [] => []
  | k, F :: l => (k, F) :: argEnv (k + 1) l
inductive ArgsOk (ok : Ok) (w : World) : List Fact → List Value → Prop
  | nil : ArgsOk ok w [] []
  | cons {F : Fact} {v : Value} {l : List Fact} {vs : List Value} (h : F.holds ok w v) (t : ArgsOk ok w l vs) : ArgsOk ok w (F :: l) (v :: vs)
theorem ArgsOk.get {l : List Fact} {vs : List Value} (h : ArgsOk ok w l vs) : ∀ k t F, Kit.get (argEnv k l) t = some F → k ≤ t ∧ ∃ v, vs[t - k]? = some v ∧ F.holds ok w v := by
  induction h with
  | nil => intro k t F h; cases h
  | @cons G v l vs h1 t1 ih =>
    intro k t F ht
    simp only [argEnv, Kit.get] at ht
    by_cases e : k = t
    · rw [if_pos e] at ht; cases ht; subst e
      exact ⟨Nat.le_refl _, v, by simp, h1⟩
    · rw [if_neg e] at ht
      obtain ⟨h2, u, h3, h4⟩ := ih (k + 1) t F ht
      refine ⟨by omega, u, ?_, h4⟩
      rw [show t - k = (t - (k + 1)) + 1 by omega]; simpa using h3
theorem ArgsOk.len {l : List Fact} {vs : List Value} (h : ArgsOk ok w l vs) : l.length = vs.length := by induction h <;> simp_all
theorem enter {l : List Fact} (hf : P.funcs[f]? = some fn) (hb : fn.body = some c) {N : Nat} (hN : fn.ntmps = N) (hl : l.length ≤ N) (ha : ArgsOk ok w l args)
    (K : ∀ a, St ⟨N, w, ok, []⟩ [] (argEnv 0 l) a w → c.wp P (bodyPost P fn fun e w' => ∃ v, e = .returned v ∧ F.holds (okNew ok w) w' v ∧ Ev [] w w') a w) : Gives P f args ok w F := by
  refine calls_of_wp hf hb (K _ ?_)
  have hlen : args.length ≤ N := by rw [← ha.len]; exact hl
  refine { size := by simp [hN]; omega, dfr := rfl, nod := List.nodup_nil, fresh := fun b hb => (by cases hb), ev := .refl _ _, own := fun f hf => (by cases hf), env := fun t G ht => ?_ }
  obtain ⟨_, v, h2, h3⟩ := ha.get 0 t G ht
  have hv : sl { tmps := args.toArray ++ Array.replicate (fn.ntmps - args.toArray.size) undef, defers := [] } t = v := by
    unfold sl
    have ht' : t < args.length := (List.getElem?_eq_some_iff.1 h2).1
    rw [Nat.sub_zero] at h2
    rw [Array.getD_eq_getD_getElem?, Array.getElem?_append_left (by simpa using ht')]
    simp [h2]
  rw [hv]
  exact G.mono h3 (fun b hb ho => ⟨rfl, fun _ => .inl ho, by simp [idsOf]⟩)
inductive ResOk (P : Program) (C : Ctx) (B : List OF) (E : Env) : ResultVar → Fact → Prop
  | tmp {t : Tmp} {F : Fact} (h : Kit.get E t = some F) : ResOk P C B E (.tmp t) F
  | cell {p : Tmp} {T U : TypeId} {b off : Nat} {α β : Type} {K : Kd α} {k : Kd β} {X : α} {Y : β} (h : Kit.get E p = some (ptrB b off)) (tk : TK P T k) (hB : BF b U K X ∈ B) (lg : LG K k off X Y) : ResOk P C B E (.cell p T) (k.V Y)
def resSem (tmps : Array Value) : ResultVar → Sem Value
  | .tmp t => pure (tmps.getD t undef)
  | .cell p t => do loadVar t (← asAddr (tmps.getD p undef))
theorem ResOk.run {C : Ctx} {B : List OF} {E : Env} {r : ResultVar} {F : Fact} {a : Act} {w : World} (h : ResOk P C B E r F) (s : St C B E a w) :
    ∃ v, F.holds (okB C (idsOf B)) w v ∧ (resSem a.tmps r).run P w = .ok v w := by
  cases h with
  | tmp h => exact ⟨_, s.env _ _ h, rfl⟩
  | @cell p T U b off α β K k X Y h tk hB lg =>
    obtain ⟨cs, hg, hr⟩ := s.own _ hB
    have hY := lg _ _ _ hr
    have hl := run_loadVar' (w := w) tk hY (a := ⟨b, off, none⟩) (fun j v hj => BF_cell (k := k) hg hj)
    have hp : a.tmps.getD p undef = .pointer (some ⟨b, off, none⟩) := s.env _ _ h
    refine ⟨mkv k.agg _, ⟨_, hY, rfl⟩, ?_⟩
    simp only [resSem, hp, asAddr, Sem.run_bind, Sem.run_pure, Result.andThen_ok, hl]
inductive ResAll (P : Program) (C : Ctx) (B : List OF) (E : Env) : List ResultVar → List Fact → Prop
  | nil : ResAll P C B E [] []
  | cons {r : ResultVar} {F : Fact} {l : List ResultVar} {m : List Fact} (h : ResOk P C B E r F) (t : ResAll P C B E l m) : ResAll P C B E (r :: l) (F :: m)
theorem ResAll.run {C : Ctx} {B : List OF} {E : Env} {l : List ResultVar} {m : List Fact} {a : Act} {w : World} (h : ResAll P C B E l m) (s : St C B E a w) :
    ∃ vs : List Value, vs.length = m.length ∧ (∀ (i : Nat) (F : Fact) (u : Value), m[i]? = some F → vs[i]? = some u → F.holds (okB C (idsOf B)) w u) ∧ (l.mapM (resSem a.tmps)).run P w = .ok vs w := by
  induction h with
  | nil => exact ⟨[], rfl, fun i F u hF => by simp at hF, rfl⟩
  | @cons r F l m h t ih =>
    obtain ⟨v, h1, h2⟩ := h.run s
    obtain ⟨vs, h3, h4, h5⟩ := ih
    refine ⟨v :: vs, by simp [h3], fun i G u hG hu => ?_, ?_⟩
    · cases i with
      | zero => simp at hG hu; subst hG hu; exact h1
      | succ i => exact h4 i G u (by simpa using hG) (by simpa using hu)
    · rw [List.mapM_cons, Sem.run_bind, h2]
      simp only [Result.andThen_ok, Sem.run_bind, h5, Sem.run_pure]
theorem keep_out {N : Nat} {w0 : World} {ok0 : Ok} {B : List OF} {w : World} : Keep (okB ⟨N, w0, ok0, []⟩ (idsOf B)) (okNew ok0 w0) w w := fun b _ ho => ⟨rfl, fun h => (ho.1 h).resolve_right (by simp)⟩
theorem run_results {N : Nat} {w0 : World} {ok0 : Ok} {B : List OF} {E : Env} {l : List ResultVar} {m : List Fact} {a : Act} {w' : World} (s : St ⟨N, w0, ok0, []⟩ B E a w') (hr : fn.results = l.toArray) (h : ResAll P ⟨N, w0, ok0, []⟩ B E l m) :
    ∃ vs : List Value, vs.length = m.length ∧ (∀ (i : Nat) (F : Fact) (u : Value), m[i]? = some F → vs[i]? = some u → F.holds (okNew ok0 w0) w' u) ∧
      (results fn a.tmps).run P w' = .ok (if vs.length = 1 then vs.headD undef else .tuple vs.toArray) w' := by
  obtain ⟨vs, h1, h2, h3⟩ := h.run s
  refine ⟨vs, h1, fun i F u hF hu => F.mono (h2 i F u hF hu) keep_out, ?_⟩
  have e : results fn a.tmps = (do let vs ← fn.results.mapM (resSem a.tmps); pure (if h : vs.size = 1 then vs[0] else .tuple vs)) := by
    unfold results; congr 2
  rw [e, hr, List.mapM_toArray]
  simp only [Sem.run_bind, Sem.run_map, h3, Result.andThen_ok, Sem.run_pure]
  match vs with
  | [] => rfl
  | [v] => rfl
  | _ :: _ :: _ => simp
def resFact : List Fact → Fact
  | [F] => F
  | l => tup l
theorem leave {N : Nat} {B : List OF} {E : Env} {l : List ResultVar} {m : List Fact} {a : Act} {w' : World} {e : Exit} (s : St ⟨N, w, ok, []⟩ B E a w') (he : e = .ret ∨ e = .normal) (hr : fn.results = l.toArray) (h : ResAll P ⟨N, w, ok, []⟩ B E l m) :
    bodyPost P fn (fun e w' => ∃ v, e = .returned v ∧ (resFact m).holds (okNew ok w) w' v ∧ Ev [] w w') e a w' := by
  obtain ⟨vs, h1, h2, h3⟩ := run_results s hr h
  have key : (resFact m).holds (okNew ok w) w' (if vs.length = 1 then vs.headD undef else .tuple vs.toArray) := by
    match m, vs, h1 with
    | [], [], _ => exact ⟨[], rfl, rfl, fun i F u hF => by simp at hF⟩
    | [F], [v], _ => exact h2 0 F v rfl rfl
    | F :: G :: m, v :: u :: vs, hl => exact ⟨v :: u :: vs, by simp, hl, h2⟩
  rcases he with rfl | rfl <;> exact ⟨s.dfr, _, h3, _, rfl, key, s.ev⟩
end
section
variable {P : Program} {Q : Exit → Act → World → Prop} {K : Act → World → Prop} {a : Act} {w : World} {id id' : Nat}
theorem then_exit (h : Q (.exit id) a w) : Exit.then K Q (.exit id) a w := h
theorem then_normal (h : K a w) : Exit.then K Q .normal a w := h
theorem in_here (h : Q .normal a w) : Exit.inBlock id Q (.exit id) a w := by simp only [Exit.inBlock, if_true]; exact h
theorem in_other (hn : id' ≠ id) (h : Q (.exit id') a w) : Exit.inBlock id Q (.exit id') a w := by simp only [Exit.inBlock, if_neg hn]; exact h
theorem in_normal (h : Q .normal a w) : Exit.inBlock id Q .normal a w := h
theorem cond_split {C : Ctx} {B : List OF} {E : Env} {x : Operand} {p : Bool} {c1 c2 : Code} (s : St C B E a w) (hx : Opd E x (kbool.V p)) (h1 : p = true → c1.wp P Q a w) (h2 : p = false → c2.wp P Q a w) : (Code.cond x c1 c2).wp P Q a w :=
  wp_cond_split (V_bool.1 (s.arg hx)) h1 h2
theorem wp_loop_fuel {σ ρ : Type} {c : Code} (L : Nat → σ → Option ρ) (r : ρ) (h0 : ∀ s, L 0 s = none) (I : σ → Act → World → Prop)
    (step : ∀ k s a w, L (k + 1) s = some r → I s a w → ∀ K : Act → World → Prop, (∀ s' a' w', L k s' = some r → I s' a' w' → K a' w') → c.wp P (Exit.then K Q) a w) :
    ∀ k s a w, L k s = some r → I s a w → (Code.loop c).wp P Q a w := by
  intro k s a w hL hI b t cs
  have key : ∀ k s a w, L k s = some r → I s a w → ∃ e a' w', Q e a' w' ∧ Arrives P (lone (b.at a (.code c :: .inLoop c :: t)) cs w) b t cs e a' w' := by
    intro k
    induction k with
    | zero => intro s a w hL; rw [h0] at hL; cases hL
    | succ k ih =>
      intro s a w hL hI
      obtain ⟨e, a', w', hq, harr⟩ := step k s a w hL hI (fun a' w' => ∃ s', L k s' = some r ∧ I s' a' w') (fun s' a' w' hL' hI' => ⟨s', hL', hI'⟩) b (.inLoop c :: t) cs
      cases e with
      | normal =>
        obtain ⟨s', hL', hI'⟩ := hq
        obtain ⟨e₂, a₂, w₂, hq₂, harr₂⟩ := ih s' a' w' hL' hI'
        exact ⟨e₂, a₂, w₂, hq₂, .of_steps (Steps.trans harr (.one step_inLoop)) harr₂⟩
      | exit id => exact ⟨_, a', w', hq, .pass (x := .inLoop c) rfl (fun _ _ => .inl (by simp)) harr⟩
      | goto l => exact ⟨_, a', w', hq, .pass (x := .inLoop c) rfl (fun _ _ => .inl (by simp)) harr⟩
      | ret => exact ⟨_, a', w', hq, .pass (x := .inLoop c) rfl (fun _ _ => .inl (by simp)) harr⟩
      | panic ch => exact ⟨_, a', w', hq, .pass (x := .inLoop c) rfl (fun _ _ => .inl (by simp)) harr⟩
      | outgrown => exact ⟨_, a', w', hq, .pass (x := .inLoop c) rfl (fun _ _ => .inl (by simp)) harr⟩
  obtain ⟨e, a', w', hq, harr⟩ := key k s a w hL hI
  exact ⟨e, a', w', hq, .of_steps (.one step_loop) harr⟩
end
end Go.Proofs.Kit
end
section
namespace Go.Proofs.Kit
open Go Go.RowKit
set_option linter.unusedSimpArgs false
set_option linter.unusedVariables false
def EqK (P : Program) (T : TypeId) {α : Type} [DecidableEq α] (k : Kd α) (d : Nat) : Prop :=
  ∀ ok ok' w w1 w2 x y cs ds n, d ≤ n → k.rel ok w1 x cs → k.rel ok' w2 y ds → (Op.equalIn n T (mkv k.agg cs) (mkv k.agg ds)).run P w = .ok (decide (x = y)) w
def EqFs (P : Program) {α : Type} [DecidableEq α] (k : Kd α) (d off : Nat) (fs : List Field) : Prop :=
  ∀ (ok ok' : Ok) (w w1 w2 : World) (x y : α) (cs ds : List Value) (n : Nat), d ≤ n → k.rel ok w1 x (cs.drop off) → k.rel ok' w2 y (ds.drop off) → (Op.eqFields n cs.toArray ds.toArray fs).run P w = .ok (decide (x = y)) w
section
variable {P : Program} {T e : TypeId}
theorem eq_int {ik : IntKind} (hT : P.underlying T = some (.int ik)) : EqK P T (kint ik) 1 := fun ok ok' w w1 w2 x y cs ds n hn h1 h2 => by
  obtain ⟨n, rfl⟩ : ∃ m, n = m + 1 := ⟨n - 1, by omega⟩
  rw [h1.1, h2.1]
  show (Op.equalIn (n + 1) T (.int ik x) (.int ik y)).run P w = _
  rw [run_equalIn_int w n T ik ik x y hT]; rfl
theorem eq_bool (hT : P.underlying T = some .bool) : EqK P T kbool 1 := fun ok ok' w w1 w2 x y cs ds n hn h1 h2 => by
  obtain ⟨n, rfl⟩ : ∃ m, n = m + 1 := ⟨n - 1, by omega⟩
  rw [h1, h2]
  show (Op.equalIn (n + 1) T (.bool x) (.bool y)).run P w = _
  rw [run_equalIn_bool w n T x y hT]; cases x <;> cases y <;> rfl
theorem beq_bl (s t : ByteArray) : (s.toList == t.toList) = decide (bl s = bl t) := by
  rw [ByteArray.toList_eq, ByteArray.toList_eq]
  by_cases h : s.data.toList = t.data.toList
  · have : s = t := by cases s; cases t; simp at h; simp [h]
    subst this; simp
  · rw [decide_eq_false (fun e => h (by rw [bl_inj e]))]; simpa using h
theorem eq_str (hT : P.underlying T = some .string) : EqK P T kstr 1 := fun ok ok' w w1 w2 x y cs ds n hn h1 h2 => by
  obtain ⟨n, rfl⟩ : ∃ m, n = m + 1 := ⟨n - 1, by omega⟩
  obtain ⟨s, rfl, rfl, _⟩ := h1
  obtain ⟨t, rfl, rfl, _⟩ := h2
  show (Op.equalIn (n + 1) T (.string s) (.string t)).run P w = _
  rw [run_equalIn_string w n T s t hT, beq_bl]
theorem eq_items {α : Type} [DecidableEq α] {k : Kd α} {d : Nat} (tk : TK P e k) (hk : EqK P e k d) {ok ok' : Ok} {w w1 w2 : World} {xs ys : List α} {cs ds : List Value} {n : Nat} (hn : d ≤ n) (h1 : relL k ok w1 xs cs) (h2 : relL k ok' w2 ys ds) (hl : xs.length = ys.length) :
    ∀ (m i : Nat), i + m = xs.length → (Op.eqItems n e k.sz cs.toArray ds.toArray (List.range' i m)).run P w = .ok (decide (xs.drop i = ys.drop i)) w := by
  intro m
  induction m with
  | zero =>
    intro i hi
    rw [List.drop_eq_nil_of_le (by omega), List.drop_eq_nil_of_le (by omega)]
    simp [Op.eqItems]
  | succ m ih =>
    intro i hi
    have hix : i < xs.length := by omega
    have hiy : i < ys.length := by omega
    have g1 := relL_get h1 (List.getElem?_eq_getElem hix)
    have g2 := relL_get h2 (List.getElem?_eq_getElem hiy)
    have p1 := run_part' (w := w) tk (P := P) (ok := ok) (x := xs[i]) (cs := cs) (off := i * k.sz)
    have q1 : (part e cs.toArray (i * k.sz)).run P w = .ok (mkv k.agg ((cs.drop (i * k.sz)).take k.sz)) w := run_part_any tk g1
    have q2 : (part e ds.toArray (i * k.sz)).run P w = .ok (mkv k.agg ((ds.drop (i * k.sz)).take k.sz)) w := run_part_any tk g2
    rw [List.range'_succ]
    simp only [Op.eqItems, Sem.run_bind, q1, q2, Result.andThen_ok, hk _ _ w _ _ _ _ _ _ n hn g1 g2]
    have e1 := List.drop_eq_getElem_cons hix
    have e2 := List.drop_eq_getElem_cons hiy
    by_cases hxy : xs[i] = ys[i]
    · rw [decide_eq_true hxy]
      simp only [Bool.not_true, Bool.false_eq_true, if_false, ih (i + 1) (by omega), e1, e2, hxy, List.cons.injEq, true_and]
    · rw [decide_eq_false hxy]
      have hne : ¬ xs.drop i = ys.drop i := by intro e3; rw [e1, e2] at e3; injection e3 with a _; exact hxy a
      simp [hne]
where
  run_part_any {α : Type} {k : Kd α} {T : TypeId} {P : Program} {w w1 : World} (tk : TK P T k) {cs : List Value} {x : α} {ok : Ok} {off : Nat} (hr : k.rel ok w1 x ((cs.drop off).take k.sz)) : (part T cs.toArray off).run P w = .ok (mkv k.agg ((cs.drop off).take k.sz)) w := by
    have := run_part' (P := P) (w := w1) tk hr
    unfold part at this ⊢
    rw [Sem.run_bind, run_isAgg' tk.agg] at this ⊢
    cases ha : k.agg with
    | true => rw [ha] at this; simp only [Result.andThen_ok, if_true, Sem.run_bind, run_sizeOf' tk.size, Sem.run_pure] at this ⊢; injection this with h1 h2; rw [h1]
    | false =>
      rw [ha] at this
      simp only [Result.andThen_ok, Bool.false_eq_true, if_false] at this ⊢
      cases hq : cs.toArray[off]? with
      | none => rw [hq] at this; cases this
      | some v => rw [hq] at this; simp only [Sem.run_pure] at this ⊢; injection this with h1 h2; rw [h1]
theorem eq_arr {α : Type} [DecidableEq α] {k : Kd α} {d m : Nat} (hT : P.underlying T = some (.array m e)) (tk : TK P e k) (hk : EqK P e k d) : EqK P T (karr m k) (d + 1) := fun ok ok' w w1 w2 x y cs ds n hn h1 h2 => by
  obtain ⟨n, rfl⟩ : ∃ m, n = m + 1 := ⟨n - 1, by omega⟩
  show (Op.equalIn (n + 1) T (.agg cs.toArray) (.agg ds.toArray)).run P w = _
  obtain ⟨i, hi⟩ : ∃ i, P.info? e = some i := by
    have := tk.size
    cases hq : P.info? e with
    | none => rw [hq] at this; cases this
    | some i => exact ⟨i, rfl⟩
  have hs : P.cellsOf e = k.sz := by
    have := tk.size
    simpa [Program.cellsOf, hi] using this
  rw [run_equalIn_array w n cs.toArray ds.toArray hT hi, hs, List.range_eq_range', eq_items tk hk (by omega) h1.2 h2.2 (by rw [h1.1, h2.1]) m 0 (by rw [h1.1]; omega)]
  rfl
theorem eq_up {α : Type} [DecidableEq α] {k : Kd α} {d d' : Nat} (h : EqK P T k d) (hd : d ≤ d') : EqK P T k d' := fun ok ok' w w1 w2 x y cs ds n hn => h ok ok' w w1 w2 x y cs ds n (by omega)
theorem eqfs_nil {d off : Nat} : EqFs P knil d off [] := fun ok ok' w w1 w2 x y cs ds n hn h1 h2 => by simp [Op.eqFields]
theorem eqfs_cons {α β : Type} [DecidableEq α] [DecidableEq β] {k : Kd α} {l : Kd β} {d off : Nat} {f : Field} {fs : List Field} (hf : f.name ≠ "_") (ho : f.offset = off) (tk : TK P f.type k) (hk : EqK P f.type k d) (h : EqFs P l d (off + k.sz) fs) : EqFs P (kpair k l) d off (f :: fs) :=
  fun ok ok' w w1 w2 x y cs ds n hn h1 h2 => by
    obtain ⟨c1, c2, e1, a1, a2⟩ := h1
    obtain ⟨d1, d2, e2, b1, b2⟩ := h2
    have l1 := k.len a1
    have l2 := k.len b1
    subst ho
    have t1 : (cs.drop f.offset).take k.sz = c1 := by rw [e1, ← l1]; simp
    have t2 : (ds.drop f.offset).take k.sz = d1 := by rw [e2, ← l2]; simp
    have u1 : cs.drop (f.offset + k.sz) = c2 := by rw [← List.drop_drop, e1, ← l1]; simp
    have u2 : ds.drop (f.offset + k.sz) = d2 := by rw [← List.drop_drop, e2, ← l2]; simp
    have q1 := eq_items.run_part_any (P := P) (w := w) tk (cs := cs) (off := f.offset) (t1.symm ▸ a1)
    have q2 := eq_items.run_part_any (P := P) (w := w) tk (cs := ds) (off := f.offset) (t2.symm ▸ b1)
    rw [t1] at q1; rw [t2] at q2
    simp only [Op.eqFields, ne_eq, hf, not_false_eq_true, if_true, Sem.run_bind, q1, q2, Result.andThen_ok, hk _ _ w _ _ _ _ _ _ n hn a1 b1]
    have hrec := h ok ok' w w1 w2 x.2 y.2 cs ds n hn (u1.symm ▸ a2) (u2.symm ▸ b2)
    by_cases hxy : x.1 = y.1
    · rw [decide_eq_true hxy]
      simp only [Bool.not_true, Bool.false_eq_true, if_false, hrec]
      congr 1
      simp [Prod.ext_iff, hxy]
    · rw [decide_eq_false hxy]
      simp [Prod.ext_iff, hxy]
theorem eq_struct {α β : Type} [DecidableEq α] [DecidableEq β] {k : Kd β} {f : α → β} {d : Nat} {fs : Array Field} (hT : P.underlying T = some (.struct fs)) (hs : P.stoodInHeld T = false) (hk : k.agg = true) (hf : ∀ x y, f x = f y → x = y) (h : EqFs P k d 0 fs.toList) : EqK P T (kiso k f) (d + 1) :=
  fun ok ok' w w1 w2 x y cs ds n hn h1 h2 => by
    obtain ⟨n, rfl⟩ : ∃ m, n = m + 1 := ⟨n - 1, by omega⟩
    have hfs : P.fieldsOf T = fs := by simp [Program.fieldsOf, hT]
    have ha : (kiso k f).agg = true := hk
    rw [ha]
    show (Op.equalIn (n + 1) T (.agg cs.toArray) (.agg ds.toArray)).run P w = _
    rw [run_equalIn_struct w n T _ _ (by rw [hfs]; exact hT) hs, hfs, h ok ok' w w1 w2 (f x) (f y) cs ds n (by omega) (show k.rel ok w1 (f x) (cs.drop 0) from h1) (show k.rel ok' w2 (f y) (ds.drop 0) from h2)]
    congr 1
    by_cases hxy : x = y
    · subst hxy; simp
    · rw [decide_eq_false hxy, decide_eq_false (fun e => hxy (hf _ _ e))]
end
section
variable {P : Program} {C : Ctx} {B : List OF} {E : Env} {o : Oper} {α β : Type} {k : Kd β} {T T' : TypeId} {x y : Operand}
theorem eqGuard_ok {op : BinOp} {T : TypeId} {x y : Operand} {a b : Value} {w : World} (hg : P.eqGuardType P.depth T = false) (ha : a ≠ .nilIface) : (eqGuard op T x y a b).run P w = .ok () w := by
  cases a with
  | agg xs => cases b with
    | agg ys => exact run_eqGuard_agg w op T x y xs ys hg
    | _ => cases op <;> simp [eqGuard]
  | nilIface => exact absurd rfl ha
  | _ => cases op <;> simp [eqGuard]
theorem eqGuard_b {op : BinOp} {T : TypeId} {x y : Operand} {p q : Bool} {w : World} : (eqGuard op T x y (.bool p) (.bool q)).run P w = .ok () w := by cases op <;> simp [eqGuard]
theorem run_beq {T : TypeId} {a b : Value} {w : World} {r : Bool} (h : (Op.equalIn 10000 T a b).run P w = .ok r w) (hs : match a with | .int .. | .float .. | .complex .. | .string _ | .pointer _ => False | _ => True) (hs' : match b with | .pointer _ => False | _ => True) :
    (binOp .eql T a b).run P w = .ok (.bool r) w ∧ (binOp .neq T a b).run P w = .ok (.bool (!r)) w := by
  cases a <;> simp only [] at hs <;> cases b <;> simp only [] at hs' <;> constructor <;> simp only [binOp] <;> simp [Op.equal, Op.maxDepth, h]
theorem ob_eqAgg [DecidableEq β] {X Y : β} {d : Nat} (ho : o.op = .binOp .eql T x y T') (hk : k.agg = true) (hg : P.eqGuardType P.depth T = false) (he : EqK P T k d) (hd : d ≤ 10000) (hx : Opd E x (k.V X)) (hy : Opd E y (k.V Y)) : Ob P C B E o (kbool.V (decide (X = Y))) := fun a w h => by
  obtain ⟨cs, hr, hv⟩ := h.arg hx
  obtain ⟨ds, hr', hv'⟩ := h.arg hy
  have e := he _ _ w _ _ _ _ _ _ 10000 hd hr hr'
  have e1 : mkv k.agg cs = .agg cs.toArray := by simp [mkv, hk]
  have e2 : mkv k.agg ds = .agg ds.toArray := by simp [mkv, hk]
  rw [e1] at hv e; rw [e2] at hv' e
  exact .value (w' := w) (v := .bool (decide (X = Y))) (by
    simp only [execOp, ho, hv, hv', Sem.run_bind, eqGuard_ok hg (show Value.agg cs.toArray ≠ .nilIface by simp), Result.andThen_ok, (run_beq e trivial trivial).1]; rfl) ⟨V_bool.2 rfl, .refl _ _⟩
theorem ob_neqAgg [DecidableEq β] {X Y : β} {d : Nat} (ho : o.op = .binOp .neq T x y T') (hk : k.agg = true) (hg : P.eqGuardType P.depth T = false) (he : EqK P T k d) (hd : d ≤ 10000) (hx : Opd E x (k.V X)) (hy : Opd E y (k.V Y)) : Ob P C B E o (kbool.V (!decide (X = Y))) := fun a w h => by
  obtain ⟨cs, hr, hv⟩ := h.arg hx
  obtain ⟨ds, hr', hv'⟩ := h.arg hy
  have e := he _ _ w _ _ _ _ _ _ 10000 hd hr hr'
  have e1 : mkv k.agg cs = .agg cs.toArray := by simp [mkv, hk]
  have e2 : mkv k.agg ds = .agg ds.toArray := by simp [mkv, hk]
  rw [e1] at hv e; rw [e2] at hv' e
  exact .value (w' := w) (v := .bool (!decide (X = Y))) (by
    simp only [execOp, ho, hv, hv', Sem.run_bind, eqGuard_ok hg (show Value.agg cs.toArray ≠ .nilIface by simp), Result.andThen_ok, (run_beq e trivial trivial).2]; rfl) ⟨V_bool.2 rfl, .refl _ _⟩
theorem ob_beql {p q : Bool} (ho : o.op = .binOp .eql T x y T') (hT : P.underlying T = some .bool) (hx : Opd E x (kbool.V p)) (hy : Opd E y (kbool.V q)) : Ob P C B E o (kbool.V (decide (p = q))) := fun a w h => by
  have e : (Op.equalIn 10000 T (.bool p) (.bool q)).run P w = .ok (decide (p = q)) w := eq_bool hT (fun _ => True) (fun _ => True) w w w p q [.bool p] [.bool q] 10000 (by omega) rfl rfl
  exact .value (w' := w) (v := .bool (decide (p = q))) (by
    simp only [execOp, ho, V_bool.1 (h.arg hx), V_bool.1 (h.arg hy), Sem.run_bind, eqGuard_b, Result.andThen_ok, (run_beq e trivial trivial).1]; rfl) ⟨V_bool.2 rfl, .refl _ _⟩
theorem ob_bneq {p q : Bool} (ho : o.op = .binOp .neq T x y T') (hT : P.underlying T = some .bool) (hx : Opd E x (kbool.V p)) (hy : Opd E y (kbool.V q)) : Ob P C B E o (kbool.V (!decide (p = q))) := fun a w h => by
  have e : (Op.equalIn 10000 T (.bool p) (.bool q)).run P w = .ok (decide (p = q)) w := eq_bool hT (fun _ => True) (fun _ => True) w w w p q [.bool p] [.bool q] 10000 (by omega) rfl rfl
  exact .value (w' := w) (v := .bool (!decide (p = q))) (by
    simp only [execOp, ho, V_bool.1 (h.arg hx), V_bool.1 (h.arg hy), Sem.run_bind, eqGuard_b, Result.andThen_ok, (run_beq e trivial trivial).2]; rfl) ⟨V_bool.2 rfl, .refl _ _⟩
theorem ob_seql {p q : List Int} (ho : o.op = .binOp .eql T x y T') (hx : Opd E x (kstr.V p)) (hy : Opd E y (kstr.V q)) : Ob P C B E o (kbool.V (decide (p = q))) := fun a w h => by
  obtain ⟨s, hs, rfl, _⟩ := V_str.1 (h.arg hx)
  obtain ⟨t, ht, rfl, _⟩ := V_str.1 (h.arg hy)
  exact .value (w' := w) (v := .bool (decide (bl s = bl t))) (by rw [← beq_bl]; simp [execOp, ho, hs, ht, eqGuard, binOp, Op.stringOp]) ⟨V_bool.2 rfl, .refl _ _⟩
theorem ob_sneq {p q : List Int} (ho : o.op = .binOp .neq T x y T') (hx : Opd E x (kstr.V p)) (hy : Opd E y (kstr.V q)) : Ob P C B E o (kbool.V (!decide (p = q))) := fun a w h => by
  obtain ⟨s, hs, rfl, _⟩ := V_str.1 (h.arg hx)
  obtain ⟨t, ht, rfl, _⟩ := V_str.1 (h.arg hy)
  exact .value (w' := w) (v := .bool (!decide (bl s = bl t))) (by rw [← beq_bl]; simp [execOp, ho, hs, ht, eqGuard, binOp, Op.stringOp]) ⟨V_bool.2 rfl, .refl _ _⟩
end
end Go.Proofs.Kit
end
section
namespace Go.Proofs.Kit
open Go Go.RowKit
set_option linter.unusedSimpArgs false
set_option linter.unusedVariables false
inductive BuildOk (E : Env) {α : Type} (K : Kd α) (place : Nat → Option (Nat × Nat)) : α → List (Nat × Operand) → α → Prop
  | nil (x : α) : BuildOk E K place x [] x
  | cons {β : Type} {k : Kd β} {x x1 x2 : α} {y : β} {i off : Nat} {o : Operand} {l : List (Nat × Operand)} (hx : Opd E o (k.V y)) (hp : place i = some (off, k.sz)) (ls : LS K k off x y x1) (t : BuildOk E K place x1 l x2) : BuildOk E K place x ((i, o) :: l) x2
theorem put_cells (cs ds : List Value) (off : Nat) (h : off + ds.length ≤ cs.length) :
    (ds.toArray.zipIdx.foldl (fun (c : Array Value) (p : Value × Nat) => c.setIfInBounds (off + p.2) p.1) cs.toArray) = (cs.take off ++ ds ++ cs.drop (off + ds.length)).toArray := by
  have key : ∀ (ds : List Value) (j : Nat) (cs : List Value), off + j + ds.length ≤ cs.length →
      ((ds.zipIdx j).foldl (fun (c : Array Value) (p : Value × Nat) => c.setIfInBounds (off + p.2) p.1) cs.toArray) = (cs.take (off + j) ++ ds ++ cs.drop (off + j + ds.length)).toArray := by
    intro ds
    induction ds with
    | nil => intro j cs h; simp
    | cons d ds ih =>
      intro j cs h
      simp only [List.length_cons] at h
      rw [List.zipIdx_cons, List.foldl_cons]
      have e : cs.toArray.setIfInBounds (off + j) d = (cs.set (off + j) d).toArray := by simp
      show List.foldl _ (cs.toArray.setIfInBounds (off + j) d) _ = _
      rw [e, ih (j + 1) (cs.set (off + j) d) (by simp; omega)]
      congr 1
      have := list_seg_step cs (off + j) d ds (by omega)
      rw [show off + (j + 1) = off + j + 1 by omega]
      simpa [Nat.add_assoc, Nat.add_comm 1] using this
  rw [← Array.foldl_toList]
  have := key ds 0 cs (by simpa using h)
  simpa using this
theorem BuildOk.fill {E : Env} {α : Type} {K : Kd α} {place : Nat → Option (Nat × Nat)} {C : Ctx} {B : List OF} {a : Act} {w : World} (h : St C B E a w) {x x' : α} {l : List (Nat × Operand)} (hb : BuildOk E K place x l x') :
    ∀ cs, K.rel (okB C (idsOf B)) w x cs → ∃ cs', Instr.fill place cs.toArray (l.map fun p => (p.1, a.eval p.2)) = some cs'.toArray ∧ K.rel (okB C (idsOf B)) w x' cs' := by
  induction hb with
  | nil x => exact fun cs hr => ⟨cs, rfl, hr⟩
  | @cons β k x x1 x2 y i off o l hx hp ls t ih =>
    intro cs hr
    obtain ⟨ds, hd, hv⟩ := h.arg hx
    obtain ⟨hb, hr'⟩ := ls _ _ _ _ hr hd
    have hdl := k.len hd
    have hcl := K.len hr
    have hcells : (mkv k.agg ds).cells = ds.toArray := by have := Kd.cells hd; rw [← Array.toList_inj, this]
    obtain ⟨cs', h1, h2⟩ := ih _ hr'
    refine ⟨cs', ?_, h2⟩
    rw [← h1]
    simp only [List.map_cons, Instr.fill, hp, hv, hcells]
    have e1 : ¬ ds.toArray.size ≠ k.sz := by simp [hdl]
    have e2 : ¬ (off + ds.toArray.size > cs.toArray.size) := by simp [hdl, hcl]; omega
    rw [if_neg (by simp [hdl, hcl]; omega)]
    congr 1
    rw [put_cells cs ds off (by rw [hdl, hcl]; exact hb), hdl]
section
variable {P : Program} {C : Ctx} {B : List OF} {E : Env} {o : Oper} {α β : Type} {K : Kd α} {k : Kd β} {T T' e : TypeId} {x y : Operand} {X0 X : α}
theorem ob_buildStruct {fs : Array Field} {z : Value} {places : List (Nat × Nat)} {parts : List (Nat × Operand)} (ho : o.op = .build T parts.toArray) (hT : P.underlying T = some (.struct fs)) (hz : ((P.info? T).bind (·.zero)) = some z) (hK : K.agg = true)
    (hp : fs.toList.mapM (fun f => (P.info? f.type).map fun i => (f.offset, i.size)) = some places) (h0 : ∀ ok w, K.rel ok w X0 z.cells.toList) (hb : BuildOk E K (fun x : Nat => places[x]?) X0 parts X) : Ob P C B E o (K.V X) := fun a w h => by
  obtain ⟨cs', h1, h2⟩ := hb.fill h z.cells.toList (h0 _ _)
  obtain ⟨i, hi⟩ : ∃ i, P.info? T = some i := by
    cases hq : P.info? T with
    | none => rw [hq] at hz; cases hz
    | some i => exact ⟨i, rfl⟩
  have hz' : i.zero = some z := by simpa [hi] using hz
  have hbt : P.built T (parts.map fun p => (p.1, a.eval p.2)) = some cs'.toArray := by
    unfold Program.built
    rw [hi, hT]
    simp only [hz', hp]
    have hf : (fun x : Nat => places.toArray[x]?) = fun x : Nat => places[x]? := by funext x; simp
    rw [hf, ← h1]
  refine .value (w' := w) (v := .agg cs'.toArray) ?_ ⟨⟨cs', h2, by simp [mkv, hK]⟩, .refl _ _⟩
  simp only [execOp, ho, Sem.run_bind, List.map_toArray]
  rw [run_build w T _ cs'.toArray (by simpa using hbt)]
  rfl
theorem ob_buildArr {n : Nat} {z : Value} {parts : List (Nat × Operand)} {xs0 xs : List β} (ho : o.op = .build T parts.toArray) (hT : P.underlying T = some (.array n e)) (hz : ((P.info? T).bind (·.zero)) = some z)
    (hs : (P.info? e).map (·.size) = some k.sz) (h0 : ∀ ok w, (karr n k).rel ok w xs0 z.cells.toList) (hb : BuildOk E (karr n k) (fun i => some (i * k.sz, k.sz)) xs0 parts xs) : Ob P C B E o ((karr n k).V xs) := fun a w h => by
  obtain ⟨cs', h1, h2⟩ := hb.fill h z.cells.toList (h0 _ _)
  obtain ⟨i, hi⟩ : ∃ i, P.info? T = some i := by
    cases hq : P.info? T with
    | none => rw [hq] at hz; cases hz
    | some i => exact ⟨i, rfl⟩
  obtain ⟨ie, hie⟩ : ∃ i, P.info? e = some i := by
    cases hq : P.info? e with
    | none => rw [hq] at hs; cases hs
    | some i => exact ⟨i, rfl⟩
  have hz' : i.zero = some z := by simpa [hi] using hz
  have hs' : ie.size = k.sz := by simpa [hie] using hs
  have hbt : P.built T (parts.map fun p => (p.1, a.eval p.2)) = some cs'.toArray := by
    unfold Program.built
    rw [hi, hT]
    simp only [hz', hie, hs']
    rw [← h1]
  refine .value (w' := w) (v := .agg cs'.toArray) ?_ ⟨⟨cs', h2, by simp [mkv, karr]⟩, .refl _ _⟩
  simp only [execOp, ho, Sem.run_bind, List.map_toArray]
  rw [run_build w T _ cs'.toArray (by simpa using hbt)]
  rfl
theorem relL_zeros {ok : Ok} {w : World} {y0 : β} {zs : List Value} (hz : k.rel ok w y0 zs) (n : Nat) : relL k ok w (List.replicate n y0) ((List.range (n * zs.length)).map fun j => zs.toArray[j % zs.length]!) := by
  induction n with
  | zero => simp [relL]
  | succ n ih =>
    rw [List.replicate_succ]
    refine ⟨zs, _, ?_, hz, ih⟩
    have hl : (n + 1) * zs.length = zs.length + n * zs.length := by rw [Nat.succ_mul, Nat.add_comm]
    rw [hl, List.range_add, List.map_append, List.map_map]
    congr 1
    · refine List.ext_getElem (by simp) fun i h1 h2 => ?_
      simp only [List.length_map, List.length_range] at h1
      simp [Nat.mod_eq_of_lt h1, h1]
    · refine List.map_congr_left fun j _ => ?_
      simp [Function.comp]
theorem ob_buildSlice {n : Nat} {z : Value} {y0 : β} {parts : List (Nat × Operand)} {xs : List β} (ho : o.op = .buildSlice T n parts.toArray) (hT : P.underlying T = some (.slice e)) (hz : ((P.info? e).bind (·.zero)) = some z)
    (hs : (P.info? e).map (·.size) = some k.sz) (h0 : ∀ ok w, k.rel ok w y0 z.cells.toList) (hn : n * k.sz ≤ 16777216) (hk : 0 < k.sz) (hb : BuildOk E (karr n k) (fun i => some (i * k.sz, k.sz)) (List.replicate n y0) parts xs) : Ob P C B E o ((ksl k).V xs) := fun a w h => by
  have hzl : z.cells.toList.length = k.sz := k.len (h0 (okB C (idsOf B)) w)
  have hz0 := relL_zeros (h0 (okB C (idsOf B)) w) n
  obtain ⟨cs', h1, h2⟩ := hb.fill h _ ⟨by simp, hz0⟩
  have hrow : ((Array.range (n * k.sz)).map fun j => (if n * k.sz = 0 then #[] else z.cells)[j % (if n * k.sz = 0 then #[] else z.cells).size]!) = ((List.range (n * z.cells.toList.length)).map fun j => z.cells.toList.toArray[j % z.cells.toList.length]!).toArray := by
    rw [hzl]
    by_cases hm : n * k.sz = 0
    · rw [hm]; simp
    · simp only [hm, if_false, ← List.toArray_range, List.map_toArray]
      congr 1
      refine List.map_congr_left fun j _ => ?_
      rw [show z.cells.size = k.sz by simpa using hzl]
  have hlen : cs'.length = n * k.sz := (karr n k).len h2
  refine .value (w' := w.alloc (.cells cs'.toArray e)) (v := .slice (some ⟨w.heap.size, 0, none⟩) n n) ?_ ⟨⟨[.slice (some ⟨w.heap.size, 0, none⟩) n n], ?_, rfl⟩, Ev.alloc _ _⟩
  · simp only [execOp, ho, Sem.run_bind, Instr.buildSlice, run_underlying hT, Result.andThen_ok, run_sizeOf' hs]
    rw [Sem.run_ite, if_neg (by omega)]
    simp only [Sem.run_bind, Sem.run_pure, Result.andThen_ok]
    by_cases hm : n * k.sz = 0
    · simp only [hm, if_true] at hrow h1 ⊢
      simp only [List.map_toArray, Sem.run_bind, Sem.run_pure, Result.andThen_ok, hrow, h1]
      simp only [newRow, newObj, Sem.run_bind, Sem.run, Result.andThen_ok, Sem.run_pure]
      rfl
    · simp only [hm, if_false] at hrow h1 ⊢
      simp only [List.map_toArray, Sem.run_bind, run_zero hz, Sem.run_pure, Result.andThen_ok, hrow, h1]
      simp only [newRow, newObj, Sem.run_bind, Sem.run, Result.andThen_ok, Sem.run_pure]
      rfl
  · refine ⟨some ⟨w.heap.size, 0, none⟩, n, ?_, ?_, by simp, cs', relL_mono h2.2 (.of_ev_nil (Ev.alloc w _)), fun p hp => ?_⟩
    · rw [h2.1]
    · rw [h2.1]; refine ⟨Nat.le_refl _, ?_⟩
      have : n ≤ n * k.sz := Nat.le_mul_of_pos_right n hk
      unfold maxLen; omega
    · cases hp
      intro j v hj
      refine ⟨?_, ?_⟩
      · rw [add_lit]
        simp only [World.cell?]
        rw [show (w.alloc (.cells cs'.toArray e)).heap[w.heap.size]? = some (.cells cs'.toArray e) from heap_alloc_new w _]
        simpa using hj
      · exact ⟨fun hc => absurd hc (by have := h.ev.size; show ¬ w.heap.size < _; omega), fun hm => absurd (h.lt hm) (by show ¬ w.heap.size < _; omega)⟩
end
def ownIds : Value → List Nat
  | .slice (some a) _ _ => [a.block]
  | _ => []
def RowF (v : Value) (e : TypeId) {β : Type} (k : Kd β) (xs : List β) : OF where
  ids := ownIds v
  holds ok w := ∃ rs, relL k ok w xs rs ∧ w.ownsRow 0 e k.sz v xs.length rs
  lt := by
    rintro ok w ⟨rs, _, h, h2⟩ b hb
    rcases h2 with ⟨rfl, _⟩ | ⟨g, cap, cur, rfl, _, hg, _⟩
    · simp [ownIds] at hb
    · simp [ownIds] at hb; subst hb; exact lt_of_heap hg
  mono := by
    rintro ok ok' w w' ⟨rs, h1, h, h2⟩ kp hs
    refine ⟨rs, relL_mono h1 kp, h, ?_⟩
    rcases h2 with h3 | ⟨g, cap, cur, rfl, h4, hg, h5⟩
    · exact .inl h3
    · exact .inr ⟨g, cap, cur, rfl, h4, (hs g (by simp [ownIds])).trans hg, h5⟩
theorem St.turn' {C : Ctx} {A B : List OF} {f g : OF} {E : Env} {a : Act} {w w' : World} (h : St C (A ++ f :: B) E a w) (hi : ∀ b, b ∈ g.ids → b ∈ f.ids ∨ w.heap.size ≤ b) (hn : g.ids.Nodup) (e : Ev f.ids w w')
    (hg : Keep (okB C (idsOf (A ++ f :: B))) (okB C (idsOf (A ++ g :: B))) w w' → g.holds (okB C (idsOf (A ++ g :: B))) w') : St C (A ++ g :: B) E a w' := by
  have hin : ∀ b, b ∈ f.ids → b ∈ idsOf (A ++ f :: B) := fun b hb => mem_idsOf (f := f) (by simp) hb
  have hsub : ∀ b, b ∈ idsOf (A ++ g :: B) → b ∈ idsOf (A ++ f :: B) ∨ (w.heap.size ≤ b ∧ b ∈ g.ids) := by
    intro b hb
    simp only [idsOf_append, idsOf, List.mem_append] at hb ⊢
    rcases hb with h1 | h1 | h1
    · exact .inl (.inl h1)
    · rcases hi b h1 with h2 | h2
      · exact .inl (.inr (.inl h2))
      · exact .inr ⟨h2, h1⟩
    · exact .inl (.inr (.inr h1))
  have kp : Keep (okB C (idsOf (A ++ f :: B))) (okB C (idsOf (A ++ g :: B))) w w' := fun b hb ho =>
    ⟨e.block b hb (fun hm => ho.2 (hin b hm)), ho.1, fun hm => by
      rcases hsub b hm with h1 | h1
      · exact ho.2 h1
      · omega⟩
  have hnod := h.nod
  rw [idsOf_append] at hnod
  have hnod' : (idsOf A ++ (f.ids ++ idsOf B)).Nodup := hnod
  rw [List.nodup_append] at hnod'
  obtain ⟨nA, nfB, dA⟩ := hnod'
  rw [List.nodup_append] at nfB
  obtain ⟨nf, nB, dfB⟩ := nfB
  have ltA : ∀ b, b ∈ idsOf A → b < w.heap.size := fun b hb => h.lt (by simp [idsOf_append, hb])
  have ltB : ∀ b, b ∈ idsOf B → b < w.heap.size := fun b hb => h.lt (by simp [idsOf_append, idsOf, hb])
  refine { size := h.size, dfr := h.dfr, nod := ?_, fresh := ?_, ev := ?_, own := ?_, env := fun t F ht => F.mono (h.env t F ht) kp }
  · rw [idsOf_append]
    show (idsOf A ++ (g.ids ++ idsOf B)).Nodup
    rw [List.nodup_append, List.nodup_append]
    refine ⟨nA, ⟨hn, nB, fun x hx y hy hxy => ?_⟩, fun x hx y hy hxy => ?_⟩
    · subst hxy
      rcases hi x hx with h1 | h1
      · exact dfB x h1 x hy rfl
      · have := ltB x hy; omega
    · subst hxy
      rcases List.mem_append.1 hy with h1 | h1
      · rcases hi x h1 with h2 | h2
        · exact dA x hx x (by simp [h2]) rfl
        · have := ltA x hx; omega
      · exact dA x hx x (by simp [h1]) rfl
  · intro b hb
    rcases hsub b hb with h1 | h1
    · exact h.fresh b h1
    · exact .inl (Nat.le_trans h.ev.size h1.1)
  · refine ⟨e.os.trans h.ev.os, e.tape.trans h.ev.tape, e.output.trans h.ev.output, Nat.le_trans h.ev.size e.size, fun k hk hM => ?_⟩
    rw [e.block k (Nat.lt_of_lt_of_le hk h.ev.size) ?_, h.ev.block k hk hM]
    intro hm
    rcases h.fresh k (hin k hm) with h1 | h1
    · omega
    · exact hM h1
  · intro q hq
    have other : ∀ q, q ∈ A ∨ q ∈ B → q.holds (okB C (idsOf (A ++ g :: B))) w' := by
      intro q hq
      have hqm : q ∈ A ++ f :: B := by rcases hq with h1 | h1 <;> simp [h1]
      refine q.mono (h.own q hqm) kp (fun b hb => e.block b (q.lt (h.own q hqm) b hb) ?_)
      intro hbf
      rcases hq with h1 | h1
      · exact dA b (mem_idsOf h1 hb) b (by simp [hbf]) rfl
      · exact dfB b hbf b (mem_idsOf h1 hb) rfl
    rcases List.mem_append.1 hq with h1 | h1
    · exact other q (.inl h1)
    · rcases List.mem_cons.1 h1 with h2 | h2
      · rw [h2]; exact hg kp
      · exact other q (.inr h2)
theorem St.adopt {C : Ctx} {B : List OF} {E : Env} {a : Act} {w : World} (h : St C B E a w) {G : OF} (hi : G.ids = []) (hG : G.holds (okB C (idsOf B)) w) : St C (G :: B) E a w := by
  have e : idsOf (G :: B) = idsOf B := by simp [idsOf, hi]
  refine { size := h.size, dfr := h.dfr, nod := by rw [e]; exact h.nod, fresh := by rw [e]; exact h.fresh, ev := h.ev, own := fun f hf => ?_, env := by rw [e]; exact h.env }
  rw [e]
  rcases List.mem_cons.1 hf with h1 | h1
  · rw [h1]; exact hG
  · exact h.own f h1
theorem rowNil (e : TypeId) {β : Type} (k : Kd β) (ok : Ok) (w : World) : (RowF (.slice none 0 0) e k []).holds ok w := ⟨[], rfl, by simp, .inl ⟨rfl, rfl⟩⟩
section
variable {P : Program} {C : Ctx} {E : Env} {o : Oper} {β : Type} {k : Kd β} {T T' e : TypeId} {x y : Operand} {A D B B' : List OF}
theorem ob_append {v z : Value} {i : TypeInfo} {xs ys : List β} (ho : o.op = .call { callee := .builtin .append, args := #[x, y], argTypes := #[T, T] }) (hT : P.underlying T = some (.slice e)) (hi : P.info? e = some i) (hz : i.zero = some z)
    (hs : i.size = k.sz) (hzs : z.cells.size = k.sz) (hsz : 0 < k.sz) (hx : Opd E x (is v)) (hy : Opd E y ((ksl k).V ys)) (hB : B = A ++ RowF v e k xs :: D) (hb : (xs.length + ys.length) * i.bytes ≤ 140737488355328) (hb' : xs.length + ys.length ≤ maxLen) :
    ObX P C B E o (fun g => A ++ RowF g e k (xs ++ ys) :: D) (fun g => is g) := fun a w h => by
  subst hB
  obtain ⟨rs, hr, hown⟩ := h.own (RowF v e k xs) (by simp)
  obtain ⟨p, cap, hp, hcap, hnil, ns, hnr, hc⟩ := V_sl (h.arg hy)
  have hv : a.eval x = v := h.arg hx
  have hnl := relL_len hnr
  cases p with
  | none =>
    have h0 : ys = [] := by
      have := hnil rfl
      exact List.eq_nil_of_length_eq_zero (by omega)
    subst h0
    have h0c : cap = 0 := hnil rfl
    subst h0c
    have hrun := run_append_owned_none (P := P) (w := w) 0 T o.type e i k.sz hT hi v xs.length rs hown
    refine .value (w' := w) (v := v) ?_ ⟨v, rfl, ?_⟩
    · simp only [execOp, ho, resolve, invoke, builtin, Sem.run_bind, Sem.run_pure, Result.andThen_ok, List.map_toArray, List.map_cons, List.map_nil, hv, hp]
      simp only [List.length_nil] at hrun ⊢
      rw [hrun]; rfl
    · rw [List.append_nil]; exact h
  | some p =>
    obtain ⟨v', w', hrun, hown', hgr, _⟩ := run_append_own (P := P) w 0 T o.type e i z k.sz i.bytes hT hi hz hs rfl hzs hsz v xs.length rs hown p ys.length cap ns hnl (fun j u hj => (hc p rfl j u hj).1) (relL_cell1 hnr) hb' hb (Nat.zero_le _)
    have hfresh : ∀ b, b ∈ ownIds v' → b ∈ ownIds v ∨ w.heap.size ≤ b := by
      rcases hown.2 with ⟨rfl, h0⟩ | ⟨g, cap', cur', rfl, _, hg', hc1, hc2, hc3, hc4⟩
      · have hrs : rs = [] := List.eq_nil_of_length_eq_zero (by rw [hown.1, h0]; simp)
        have hxs : xs.length = 0 := h0
        obtain ⟨v2, w2, hrun2, hown2, _, _⟩ := run_append_own (P := P) w w.heap.size T o.type e i z k.sz i.bytes hT hi hz hs rfl hzs hsz (.slice none 0 0) 0 [] (World.ownsRow_nil w _ e k.sz) p ys.length cap ns hnl (fun j u hj => (hc p rfl j u hj).1) (relL_cell1 hnr) (by omega) (by rw [hxs] at hb; exact hb) (Nat.le_refl _)
        rw [hrun] at hrun2
        injection hrun2 with e1 e2
        subst e1
        intro b hbm
        rcases hown2.2 with ⟨rfl, _⟩ | ⟨g, cap', cur', rfl, hge, _⟩
        · simp [ownIds] at hbm
        · simp [ownIds] at hbm; subst hbm; exact .inr hge
      · intro b hbm
        by_cases hroom : xs.length + ys.length ≤ cap'
        · have r1 := run_append_room (P := P) w T o.type e i hT hi g xs.length cap' cur' hg' p ys.length cap ns (by rw [hs]; exact hnl) (fun j u hj => (hc p rfl j u hj).1) (relL_cell1 hnr) hroom (by rw [hs, hnl, hc3, ← Nat.add_mul]; exact Nat.mul_le_mul_right _ hroom)
          rw [hrun] at r1
          injection r1 with e1 e2
          rw [e1] at hbm
          simp [ownIds] at hbm ⊢; exact .inl hbm
        · have holds : ∀ j u, rs[j]? = some u → w.cell? ((⟨g, 0, none⟩ : Addr).add j) = some u := hown.cells (g := g) rfl
          have r2 := run_append_grow (P := P) w T o.type e i z hT hi hz ⟨g, 0, none⟩ xs.length cap' rs (by rw [hs]; exact hown.1) holds p ys.length cap ns (by rw [hs]; exact hnl) (fun j u hj => (hc p rfl j u hj).1) (by omega) (by unfold maxLen at hb'; omega) (growslice_fits (by omega) hb)
          rw [hrun] at r2
          injection r2 with e1 e2
          rw [e1] at hbm
          simp [ownIds] at hbm; exact .inr (by omega)
    refine .value (w' := w') (v := v') ?_ ⟨v', rfl, ?_⟩
    · simp only [execOp, ho, resolve, invoke, builtin, Sem.run_bind, Sem.run_pure, Result.andThen_ok, List.map_toArray, List.map_cons, List.map_nil, hv, hp]
      rw [hrun]; rfl
    · have hev : Ev (RowF v e k xs).ids w w' := ⟨hgr.os, hgr.tape, hgr.output, hgr.size, fun q hq hn => hgr.block q hq (by
        intro e1
        rcases hown.2 with ⟨rfl, _⟩ | ⟨g, cap', cur', rfl, _⟩
        · simp [Value.ownBlock] at e1
        · simp [Value.ownBlock] at e1
          exact hn (by simp [RowF, ownIds, e1]))⟩
      refine h.turn' hfresh ?_ hev (fun kp => ⟨rs ++ ns, ?_, by simpa using hown'⟩)
      · show (ownIds v').Nodup
        unfold ownIds; split <;> simp
      · exact relL_mono (relL_append hr hnr) kp
theorem ob_lenRow {v : Value} {xs : List β} (ho : o.op = .call { callee := .builtin .len, args := #[x], argTypes := #[T] }) (hT : P.underlying T = some (.slice e)) (hx : Opd E x (is v)) (hB : RowF v T' k xs ∈ B) : Ob P C B E o ((kint .i64).V xs.length) := fun a w h => by
  obtain ⟨rs, hr, hl, hown⟩ := h.own _ hB
  have hv : a.eval x = v := h.arg hx
  rcases hown with ⟨rfl, h0⟩ | ⟨g, cap, cur, rfl, _, _, h1, h2, _⟩
  · exact .value (w' := w) (v := .int .i64 xs.length) (by simp [execOp, ho, hv, resolve, invoke, builtin, Builtin.len_, run_underlying hT, goInt, h0]) ⟨V_int.2 ⟨rfl, has_len (by omega)⟩, .refl _ _⟩
  · exact .value (w' := w) (v := .int .i64 xs.length) (by simp [execOp, ho, hv, resolve, invoke, builtin, Builtin.len_, run_underlying hT, goInt]) ⟨V_int.2 ⟨rfl, has_len (by omega)⟩, .refl _ _⟩
end
end Go.Proofs.Kit
end
section
namespace Go.Proofs.Kit
open Go Go.RowKit
set_option linter.unusedSimpArgs false
set_option linter.unusedVariables false
def Zr {α : Type} (k : Kd α) (x : α) (zs : List Value) : Prop := ∀ ok w, k.rel ok w x zs
theorem Zr.int (ik : IntKind) : Zr (kint ik) 0 [.int ik 0] := fun _ _ => ⟨rfl, has_zero ik⟩
theorem Zr.bool : Zr kbool false [.bool false] := fun _ _ => rfl
theorem Zr.str : Zr kstr [] [.string ⟨#[]⟩] := fun _ _ => ⟨⟨#[]⟩, rfl, rfl, Nat.zero_le _⟩
theorem Zr.sl {α : Type} (k : Kd α) : Zr (ksl k) [] [.slice none 0 0] := fun _ _ => ⟨none, 0, rfl, ⟨Nat.le_refl _, Nat.zero_le _⟩, fun _ => rfl, [], rfl, fun p hp => by cases hp⟩
theorem Zr.nil : Zr knil () [] := fun _ _ => rfl
theorem Zr.pair {α β : Type} {k : Kd α} {l : Kd β} {x : α} {y : β} {zs us : List Value} (h : Zr k x zs) (g : Zr l y us) : Zr (kpair k l) (x, y) (zs ++ us) := fun ok w => ⟨zs, us, rfl, h ok w, g ok w⟩
theorem Zr.iso {α β : Type} {k : Kd β} {f : α → β} {x : α} {zs : List Value} (h : Zr k (f x) zs) : Zr (kiso k f) x zs := h
theorem Zr.arr {α : Type} {k : Kd α} {x : α} {zs : List Value} (n : Nat) (h : Zr k x zs) : Zr (karr n k) (List.replicate n x) (List.replicate n zs).flatten := fun ok w => by
  refine ⟨by simp, ?_⟩
  induction n with
  | zero => rfl
  | succ n ih => rw [List.replicate_succ, List.replicate_succ, List.flatten_cons]; exact ⟨zs, _, rfl, h ok w, ih⟩
section
variable {P : Program} {C : Ctx} {B : List OF} {E : Env} {o : Oper} {α β : Type} {K : Kd α} {k : Kd β} {T T' e : TypeId} {x y : Operand}
theorem ob_new {zs : List Value} {Y : β} (ho : o.op = .alloc T) (hz : ((P.info? T).bind (·.zero)) = some (mkv k.agg zs)) (hk : Zr k Y zs) : ObX P C B E o (fun b => BF b T k Y :: B) (fun b => ptrB b 0) :=
  ob_alloc ho hz (fun ok w => by rw [Kd.cells (hk ok w)]; exact hk ok w)
theorem ob_mkStruct {X0 X : α} {fs : Array Field} {zs : List Value} {places : List (Nat × Nat)} {parts : List (Nat × Operand)} (ho : o.op = .build T parts.toArray) (hT : P.underlying T = some (.struct fs)) (hz : ((P.info? T).bind (·.zero)) = some (mkv K.agg zs)) (hK : K.agg = true)
    (hp : fs.toList.mapM (fun f => (P.info? f.type).map fun i => (f.offset, i.size)) = some places) (h0 : Zr K X0 zs) (hb : BuildOk E K (fun x : Nat => places[x]?) X0 parts X) : Ob P C B E o (K.V X) :=
  ob_buildStruct ho hT hz hK hp (fun ok w => by rw [Kd.cells (h0 ok w)]; exact h0 ok w) hb
theorem ob_mkArr {n : Nat} {zs : List Value} {parts : List (Nat × Operand)} {xs0 xs : List β} (ho : o.op = .build T parts.toArray) (hT : P.underlying T = some (.array n e)) (hz : ((P.info? T).bind (·.zero)) = some (mkv true zs))
    (hs : (P.info? e).map (·.size) = some k.sz) (h0 : Zr (karr n k) xs0 zs) (hb : BuildOk E (karr n k) (fun i => some (i * k.sz, k.sz)) xs0 parts xs) : Ob P C B E o ((karr n k).V xs) :=
  ob_buildArr ho hT hz hs (fun ok w => by rw [show (mkv true zs).cells.toList = zs from Kd.cells (k := karr n k) (h0 ok w)]; exact h0 ok w) hb
theorem ob_mkSlice {n : Nat} {zs : List Value} {y0 : β} {parts : List (Nat × Operand)} {xs : List β} (ho : o.op = .buildSlice T n parts.toArray) (hT : P.underlying T = some (.slice e)) (hz : ((P.info? e).bind (·.zero)) = some (mkv k.agg zs))
    (hs : (P.info? e).map (·.size) = some k.sz) (h0 : Zr k y0 zs) (hn : n * k.sz ≤ 16777216) (hk : 0 < k.sz) (hb : BuildOk E (karr n k) (fun i => some (i * k.sz, k.sz)) (List.replicate n y0) parts xs) : Ob P C B E o ((ksl k).V xs) :=
  ob_buildSlice ho hT hz hs (fun ok w => by rw [Kd.cells (h0 ok w)]; exact h0 ok w) hn hk hb
theorem LS.arr' {n : Nat} {xs ys : List β} {i : Nat} {y : β} (h : i < xs.length) (e : xs.set i y = ys) : LS (karr n k) k (i * k.sz) xs y ys := by subst e; exact LS.arr h
def hasB (k : IntKind) (n : Int) : Bool := decide (k.min ≤ n) && decide (n ≤ k.max)
theorem opd_int {ik : IntKind} {n : Int} (h : hasB ik n = true) : Opd E (.const (.int ik n)) ((kint ik).V n) := .const fun ok w => V_int.2 ⟨rfl, by
  unfold hasB at h; simp only [Bool.and_eq_true, decide_eq_true_eq] at h; exact h⟩
theorem opd_bool {p : Bool} : Opd E (.const (.bool p)) (kbool.V p) := .const fun ok w => V_bool.2 rfl
theorem opd_str {s : ByteArray} {l : List Int} (h : bl s = l) (hs : s.size ≤ maxLen) : Opd E (.const (.string s)) (kstr.V l) := .const fun ok w => V_str.2 ⟨s, rfl, h.symm, hs⟩
theorem opd_nil : Opd E (.const (.slice none 0 0)) ((ksl k).V []) := .const fun ok w => ⟨_, Zr.sl k ok w, rfl⟩
theorem Ob.nm {X Y : β} (h : Ob P C B E o (k.V X)) (e : X = Y) : Ob P C B E o (k.V Y) := e ▸ h
theorem Ob.as {F G : Fact} (h : Ob P C B E o F) (e : ∀ ok w v, F.holds ok w v → G.holds ok w v) : Ob P C B E o G := fun a w s => (h a w s).mono fun v w' ⟨h1, h2⟩ => ⟨e _ _ _ h1, h2⟩
theorem bind_some {α β : Type} {o : Option α} {f : α → Option β} {r : β} (h : o.bind f = some r) : ∃ x, o = some x ∧ f x = some r := Option.bind_eq_some_iff.1 h
theorem guard_some {p : Prop} [Decidable p] {β : Type} {x : Option β} {r : β} (h : (if p then x else none) = some r) : p ∧ x = some r := by
  by_cases hp : p
  · rw [if_pos hp] at h; exact ⟨hp, h⟩
  · rw [if_neg hp] at h; cases h
theorem ite_t {p : Bool} {β : Type} {x y : Option β} {r : β} (hp : p = true) (h : (if p = true then x else y) = some r) : x = some r := by rwa [if_pos hp] at h
theorem ite_f {p : Bool} {β : Type} {x y : Option β} {r : β} (hp : p = false) (h : (if p = true then x else y) = some r) : y = some r := by rwa [if_neg (by rw [hp]; exact Bool.false_ne_true)] at h
theorem LG.arrA {n : Nat} {xs : List β} {i : Int} {y : β} (h : at? xs i = some y) : LG (karr n k) k (i.toNat * k.sz) xs y := LG.arr (at?_some h).2.2
theorem LS.arrS {n : Nat} {xs ys : List β} {i : Int} {y : β} (h : set? xs i y = some ys) : LS (karr n k) k (i.toNat * k.sz) xs y ys := LS.arr' (by have := set?_some h; omega) (set?_some h).2.2.symm
end
end Go.Proofs.Kit
end
section
namespace Go.Proofs.Kit
open Go Go.RowKit
set_option linter.unusedSimpArgs false
set_option linter.unusedVariables false
def lim : Nat := 2147483648
structure ApOk (P : Program) (e : TypeId) {β : Type} (k : Kd β) (zs : List Value) : Prop where
  zero : ((P.info? e).bind (·.zero)) = some (mkv k.agg zs)
  size : (P.info? e).map (·.size) = some k.sz
  bytes : ((P.info? e).map fun i => decide (i.bytes ≤ 65536)) = some true
section
variable {P : Program} {C : Ctx} {E : Env} {o : Oper} {β : Type} {k : Kd β} {T T' e : TypeId} {x y : Operand} {A D B : List OF}
theorem ob_appendL {v : Value} {xs ys : List β} {y0 : β} {zs : List Value} (ho : o.op = .call { callee := .builtin .append, args := #[x, y], argTypes := #[T, T] }) (hT : P.underlying T = some (.slice e)) (ap : ApOk P e k zs) (hz : Zr k y0 zs)
    (hsz : 0 < k.sz) (_h : True) (hx : Opd E x (is v)) (hy : Opd E y ((ksl k).V ys)) (hB : B = A ++ RowF v e k xs :: D) (hb : xs.length + ys.length ≤ lim) :
    ObX P C B E o (fun g => A ++ RowF g e k (xs ++ ys) :: D) (fun g => is g) := by
  obtain ⟨i, hi⟩ : ∃ i, P.info? e = some i := by
    have := ap.size
    cases hq : P.info? e with
    | none => rw [hq] at this; cases this
    | some i => exact ⟨i, rfl⟩
  have h1 : i.zero = some (mkv k.agg zs) := by simpa [hi] using ap.zero
  have h2 : i.size = k.sz := by simpa [hi] using ap.size
  have h3 : i.bytes ≤ 65536 := by simpa [hi] using ap.bytes
  have h4 : (mkv k.agg zs).cells.size = k.sz := by
    have a := Kd.cells (hz (fun _ => True) default)
    have b := k.len (hz (fun _ => True) default)
    rw [← a] at b; simpa using b
  unfold lim at hb
  refine ob_append ho hT hi h1 h2 h4 hsz hx hy hB ?_ (by unfold maxLen; omega)
  calc (xs.length + ys.length) * i.bytes ≤ 2147483648 * 65536 := Nat.mul_le_mul hb h3
    _ ≤ 140737488355328 := by decide
end
theorem St.fact {C : Ctx} {B : List OF} {E : Env} {a : Act} {w : World} {t : Nat} {F : Fact} (h : St C B E a w) (hF : F.holds (okB C (idsOf B)) w (sl a t)) : St C B ((t, F) :: E) a w := by
  refine { h with env := fun u G hu => ?_ }
  simp only [get] at hu
  by_cases e1 : t = u
  · rw [if_pos e1] at hu; cases hu; subst e1; exact hF
  · rw [if_neg e1] at hu; exact h.env u G hu
inductive Holds (E : Env) (v : Value) : List Nat → Prop
  | nil : Holds E v []
  | cons {t : Nat} {l : List Nat} (h : get E t = some (is v)) (r : Holds E v l) : Holds E v (t :: l)
def frozen {β : Type} (k : Kd β) (xs : List β) : List Nat → Env → Env
  | [], E => E
  | t :: l, E => (t, (ksl k).V xs) :: frozen k xs l E
theorem opd_is {E : Env} {v : Value} : Opd E (.const v) (is v) := .const fun _ _ => rfl
theorem St.swap {C : Ctx} {A D : List OF} {f g : OF} {E : Env} {a : Act} {w : World} (h : St C (A ++ f :: g :: D) E a w) : St C (A ++ g :: f :: D) E a w := by
  have hm : ∀ b, b ∈ idsOf (A ++ g :: f :: D) ↔ b ∈ idsOf (A ++ f :: g :: D) := by
    intro b; simp only [idsOf_append, idsOf, List.mem_append]; constructor <;> (rintro (h1 | h1 | h1 | h1) <;> simp [h1])
  have e : okB C (idsOf (A ++ g :: f :: D)) = okB C (idsOf (A ++ f :: g :: D)) := by
    funext n; unfold okB; rw [hm n]
  refine { size := h.size, dfr := h.dfr, nod := ?_, fresh := fun b hb => h.fresh b ((hm b).1 hb), ev := h.ev, own := fun q hq => ?_, env := by rw [e]; exact h.env }
  · have hn := h.nod
    simp only [idsOf_append, idsOf] at hn ⊢
    refine (List.Perm.nodup_iff ?_).1 hn
    refine List.Perm.append_left _ ?_
    rw [← List.append_assoc, ← List.append_assoc]
    exact List.Perm.append_right _ List.perm_append_comm
  · rw [e]
    refine h.own q ?_
    simp only [List.mem_append, List.mem_cons] at hq ⊢
    rcases hq with h1 | h1 | h1 | h1 <;> simp [h1]
section
variable {P : Program} {C : Ctx} {B : List OF} {E : Env} {o : Oper} {x y c : Operand} {p q g : Bool}
theorem ob_and3 (hg : g = true) (ho : o.op = .pick c x y) (hc : Opd E c (kbool.V p)) (hx : Opd E x ((kbool.V q).when (g && (p == true)))) (hy : Opd E y (kbool.V false)) : Ob P C B E o (kbool.V (if p then q else false)) := by
  subst hg; exact ob_and2 ho hc (by simpa using hx) hy
theorem ob_or3 (hg : g = true) (ho : o.op = .pick c x y) (hc : Opd E c (kbool.V p)) (hx : Opd E x (kbool.V true)) (hy : Opd E y ((kbool.V q).when (g && (p == false)))) : Ob P C B E o (kbool.V (if p then true else q)) := by
  subst hg; exact ob_or2 ho hc hx (by simpa using hy)
end
def Fine {α : Type} (k : Kd α) (x : α) : Prop := ∃ ok w cs, k.rel ok w x cs
theorem Fine.of {α : Type} {k : Kd α} {x : α} {ok : Ok} {w : World} {v : Value} (h : (k.V x).holds ok w v) : Fine k x := ⟨ok, w, _, Kd.V_rel h⟩
theorem Fine.int {ik : IntKind} {n : Int} (h : Fine (kint ik) n) : ik.has n := by obtain ⟨ok, w, cs, h⟩ := h; exact h.2
theorem Fine.str {l : List Int} (h : Fine kstr l) : l.length ≤ maxLen ∧ ∀ c ∈ l, 0 ≤ c ∧ c < 256 := by
  obtain ⟨ok, w, cs, s, _, rfl, h2⟩ := h
  refine ⟨by rwa [bl_length], fun c hc => ?_⟩
  obtain ⟨i, hi⟩ := List.getElem?_of_mem hc
  exact bl_range hi
theorem relL_good {α : Type} {k : Kd α} {ok : Ok} {w : World} {xs : List α} {cs : List Value} (h : relL k ok w xs cs) : ∀ x ∈ xs, Fine k x := by
  induction xs generalizing cs with
  | nil => intro x hx; cases hx
  | cons y xs ih =>
    obtain ⟨c, d, rfl, h1, h2⟩ := h
    intro x hx
    rcases List.mem_cons.1 hx with e | e
    · subst e; exact ⟨ok, w, c, h1⟩
    · exact ih h2 x e
theorem Fine.arr {α : Type} {k : Kd α} {n : Nat} {xs : List α} (h : Fine (karr n k) xs) : xs.length = n ∧ ∀ x ∈ xs, Fine k x := by
  obtain ⟨ok, w, cs, h1, h2⟩ := h; exact ⟨h1, relL_good h2⟩
theorem Fine.sl {α : Type} {k : Kd α} {xs : List α} (h : Fine (ksl k) xs) : xs.length ≤ maxLen ∧ ∀ x ∈ xs, Fine k x := by
  obtain ⟨ok, w, cs, a, cap, _, h1, _, rs, h2, _⟩ := h; exact ⟨by omega, relL_good h2⟩
theorem Fine.pair {α β : Type} {k : Kd α} {l : Kd β} {x : α × β} (h : Fine (kpair k l) x) : Fine k x.1 ∧ Fine l x.2 := by
  obtain ⟨ok, w, cs, c, d, _, h1, h2⟩ := h; exact ⟨⟨ok, w, c, h1⟩, ⟨ok, w, d, h2⟩⟩
theorem Fine.iso {α β : Type} {k : Kd β} {f : α → β} {x : α} (h : Fine (kiso k f) x) : Fine k (f x) := h
end Go.Proofs.Kit
end
section
namespace Go.Proofs.Kit
open Go Go.RowKit Go.ChangeShapes Go.WideShapes
set_option linter.unusedSimpArgs false
set_option linter.unusedVariables false
def RdK (P : Program) (T : TypeId) {α : Type} (k : Kd α) : Prop :=
  ∀ (H : Type) (enc : TypeId × Value → H) (w : World) (base : Nat) (spare : Nat → Bool) (held : Bool) (fuel : Nat) (cs : List Value) (x : DataW H × List MemPlace), DataW.trod enc P w base spare held fuel T cs = some x → ∃ y, k.rel (fun _ => True) w y cs
section
variable {P : Program} {T e : TypeId}
theorem has_of_wf {k : IntKind} {n : Int} (h : (Lit.int k n).wf = true) : k.has n := by
  simp only [Lit.wf, Bool.and_eq_true, decide_eq_true_eq] at h; exact h
theorem rd_int {ik : IntKind} (hT : P.underlying T = some (.int ik)) : RdK P T (kint ik) := fun H enc w base spare held fuel cs x h => by
  obtain ⟨n, h1, _, h2⟩ := DataW.trod_int hT h
  exact ⟨n, h1, has_of_wf h2⟩
theorem rd_str (hT : P.underlying T = some .string) : RdK P T kstr := fun H enc w base spare held fuel cs x h => by
  obtain ⟨s, h1, _, h2⟩ := DataW.trod_string hT h
  exact ⟨bl s, s, h1, rfl, h2⟩
theorem cellsOf_of {s : Nat} (h : (P.info? T).map (·.size) = some s) : P.cellsOf T = s := by
  cases hq : P.info? T with
  | none => simp [hq] at h
  | some i => have : i.size = s := by simpa [hq] using h
              simp [Program.cellsOf, hq, this]
theorem rd_arr {α : Type} {k : Kd α} {n : Nat} (hT : P.underlying T = some (.array n e)) (hs : (P.info? e).map (·.size) = some k.sz) (hS : (P.info? T).map (·.size) = some (n * k.sz)) (hk : RdK P e k) : RdK P T (karr n k) := fun H enc w base spare held fuel cs x h => by
  obtain ⟨xs, m, _, _, hl, hx, hi⟩ := DataW.trod_array hT h
  rw [cellsOf_of hS] at hl
  rw [cellsOf_of hs] at hi
  have key : ∀ j, j ≤ n → ∃ ys : List α, ys.length = j ∧ relL k (fun _ => True) w ys (cs.take (j * k.sz)) := by
    intro j
    induction j with
    | zero => exact fun _ => ⟨[], rfl, by simp [relL]⟩
    | succ j ih =>
      intro hj
      obtain ⟨ys, h1, h2⟩ := ih (by omega)
      have h3 := hi j (by omega)
      have h4 : xs[j]? = some (xs[j]'(by omega)) := List.getElem?_eq_getElem (by omega)
      rw [h4] at h3
      obtain ⟨y, h5⟩ := hk H enc w base spare held m _ _ h3
      refine ⟨ys ++ [y], by simp [h1], ?_⟩
      have h6 := relL_append h2 (show relL k (fun _ => True) w [y] ((cs.drop (j * k.sz)).take k.sz) from ⟨_, [], by simp, h5, rfl⟩)
      rwa [show cs.take ((j + 1) * k.sz) = cs.take (j * k.sz) ++ (cs.drop (j * k.sz)).take k.sz by rw [Nat.succ_mul, List.take_add]]
  obtain ⟨ys, h1, h2⟩ := key n (Nat.le_refl _)
  rw [List.take_of_length_le (by omega)] at h2
  exact ⟨ys, h1, h2⟩
theorem rd_sl {α : Type} {k : Kd α} (hT : P.underlying T = some (.slice e)) (hs : (P.info? e).map (·.size) = some k.sz) (hk : RdK P e k) : RdK P T (ksl k) := fun H enc w base spare held fuel cs x h => by
  rcases Go.Deep.open_slice hT h with ⟨rfl, _⟩ | ⟨a, len, cap, m, n, D, Pl, rfl, hb, hl, hm, hmm, _, hi⟩
  · exact ⟨[], none, 0, rfl, ⟨Nat.le_refl _, Nat.zero_le _⟩, fun _ => rfl, [], rfl, fun p hp => by cases hp⟩
  · rw [cellsOf_of hs] at hi
    have hlm : len ≤ m := by rw [hmm]; split <;> omega
    have key : ∀ j, j ≤ len → ∃ (ys : List α) (rs : List Value), ys.length = j ∧ relL k (fun _ => True) w ys rs ∧ ∀ i v, rs[i]? = some v → w.cell? (a.add i) = some v := by
      intro j
      induction j with
      | zero => exact fun _ => ⟨[], [], rfl, rfl, fun i v hv => by simp at hv⟩
      | succ j ih =>
        intro hj
        obtain ⟨ys, rs, h1, h2, h3⟩ := ih (by omega)
        obtain ⟨cs', h4, h5⟩ := hi j (by omega)
        obtain ⟨y, h6⟩ := hk H enc w base spare held n _ _ h5
        obtain ⟨_, h7, h8⟩ := World.cells?_some h4
        have hrl := relL_len h2
        refine ⟨ys ++ [y], rs ++ cs', by simp [h1], relL_append h2 ⟨cs', [], by simp, h6, rfl⟩, fun i v hv => ?_⟩
        by_cases hlt : i < rs.length
        · rw [List.getElem?_append_left hlt] at hv; exact h3 i v hv
        · rw [List.getElem?_append_right (by omega)] at hv
          have hlt2 : i - rs.length < k.sz := by
            have := (List.getElem?_eq_some_iff.1 hv).1; omega
          have := h8 (i - rs.length) hlt2
          rw [add_add, ← h1, ← hrl, show rs.length + (i - rs.length) = i by omega, hv] at this
          exact this
    obtain ⟨ys, rs, h1, h2, h3⟩ := key len (Nat.le_refl _)
    subst h1
    refine ⟨ys, some a, cap, rfl, ⟨hl, hm⟩, fun hn => (by cases hn), rs, h2, fun p hp => ?_⟩
    cases hp
    exact fun i v hv => ⟨h3 i v hv, trivial⟩
def RdFs (P : Program) {α : Type} (k : Kd α) (off : Nat) (fs : List Field) : Prop :=
  ∀ (H : Type) (enc : TypeId × Value → H) (w : World) (base : Nat) (spare : Nat → Bool) (held : Bool) (n : Nat) (cs : List Value), cs.length = off + k.sz →
    (∀ f, f ∈ fs → ∃ x, DataW.trod enc P w base spare held n f.type ((cs.drop f.offset).take (P.cellsOf f.type)) = some x) → ∃ y, k.rel (fun _ => True) w y (cs.drop off)
theorem rdfs_nil {off : Nat} : RdFs P knil off [] := fun H enc w base spare held n cs hl h => ⟨(), List.drop_eq_nil_of_le (by rw [hl]; exact Nat.le_refl _)⟩
theorem rdfs_cons {α β : Type} {k : Kd α} {l : Kd β} {off : Nat} {f : Field} {fs : List Field} (ho : f.offset = off) (hs : (P.info? f.type).map (·.size) = some k.sz) (hk : RdK P f.type k) (h : RdFs P l (off + k.sz) fs) : RdFs P (kpair k l) off (f :: fs) :=
  fun H enc w base spare held n cs hl hf => by
    have hl' : cs.length = off + (k.sz + l.sz) := hl
    obtain ⟨x, hx⟩ := hf f (by simp)
    rw [cellsOf_of hs, ho] at hx
    obtain ⟨y, hy⟩ := hk H enc w base spare held n _ _ hx
    obtain ⟨z, hz⟩ := h H enc w base spare held n cs (by omega) (fun g hg => hf g (by simp [hg]))
    refine ⟨(y, z), (cs.drop off).take k.sz, cs.drop (off + k.sz), ?_, hy, hz⟩
    rw [← List.drop_drop, List.take_append_drop]
theorem rd_struct {α β : Type} {k : Kd β} {f : α → β} {g : β → α} {fs : Array Field} (hT : P.underlying T = some (.struct fs)) (hS : (P.info? T).map (·.size) = some k.sz) (hg : ∀ y, f (g y) = y) (h : RdFs P k 0 fs.toList) : RdK P T (kiso k f) :=
  fun H enc w base spare held fuel cs x hx => by
    obtain ⟨xs, n, _, _, hl, hlen, hi⟩ := DataW.trod_struct hT hx
    rw [cellsOf_of hS] at hl
    obtain ⟨y, hy⟩ := h H enc w base spare held n cs (by omega) (fun q hq => by
      obtain ⟨i, hi1, hi2⟩ := List.getElem_of_mem hq
      have hlt : i < fs.size := by simpa using hi1
      have h1 := hi i q (by rw [Array.getElem?_eq_getElem hlt]; simpa using hi2)
      have h2 : xs[i]? = some (xs[i]'(by omega)) := List.getElem?_eq_getElem (by omega)
      rw [h2] at h1
      exact ⟨_, h1⟩)
    refine ⟨g y, ?_⟩
    show k.rel _ w (f (g y)) cs
    rw [hg]; simpa using hy
theorem arg_in {α : Type} {k : Kd α} {W : World} {r : Reach} {b base : Nat} {v : Value} {H : Type} {enc : TypeId × Value → H} {spare : Nat → Bool} {held : Bool} {d : DataW H} {p : List MemPlace} (rd : RdK P T k) (hag : (P.underlying T).map isAggD = some k.agg)
    (hsh : k.agg = false → v.oneCell' = true) (hok : Value.okWide P W r b T v) (h : DataW.Trod enc P W base spare held T v d p) : ∃ y, (k.V y).holds (fun _ => True) W v := by
  obtain ⟨fuel, hf⟩ := h
  obtain ⟨y, hy⟩ := rd H enc W base spare held fuel _ _ hf
  refine ⟨y, _, hy, ?_⟩
  cases ha : k.agg with
  | true =>
    cases hq : P.underlying T with
    | none => rw [hq] at hag; cases hag
    | some D =>
      rw [hq, ha] at hag
      have hD : isAggD D = true := by simpa using hag
      unfold Value.okWide at hok
      rw [hq] at hok
      cases D <;> simp [isAggD] at hD <;> (obtain ⟨cs, rfl, _⟩ := hok; rfl)
  | false =>
    have h1 := hsh ha
    cases v <;> first | rfl | (simp [Value.oneCell'] at h1)
theorem one_sl {W : World} {r : Reach} {b : Nat} {v : Value} (hT : P.underlying T = some (.slice e)) (h : Value.okWide P W r b T v) : v.oneCell' = true := by
  obtain ⟨a, l, c, rfl⟩ := okWide_slice hT h; rfl
theorem law_out {f : FuncId} {args : List Value} {W : World} (h : Gives P f args (fun _ => True) W (resFact [kbool.V true])) : Calls P f args.toArray W fun e W' => e = .returned (.bool true) ∧ Below W.heap.size W W' :=
  h.mono fun e W' ⟨v, he, hv, hev⟩ => ⟨by rw [he, V_bool.1 hv], hev.below⟩
end
end Go.Proofs.Kit
end
section
namespace Go.Proofs.Kit
open Go Go.RowKit
set_option linter.unusedSimpArgs false
set_option linter.unusedVariables false
def okOut (ok : Ok) (w : World) (L ids : List Nat) : Ok := fun n => (n < w.heap.size → ok n ∨ n ∈ L) ∧ n ∉ ids
def OutX {γ : Type} (ok : Ok) (w : World) (L : List OF) (F : γ → Fact) (L' : γ → List OF) (v : Value) (w' : World) : Prop :=
  ∃ g, (F g).holds (okOut ok w (idsOf L) (idsOf (L' g))) w' v ∧ Ev (idsOf L) w w' ∧ (idsOf (L' g)).Nodup ∧ (∀ b, b ∈ idsOf (L' g) → w.heap.size ≤ b ∨ b ∈ idsOf L) ∧ ∀ q, q ∈ L' g → q.holds (okOut ok w (idsOf L) (idsOf (L' g))) w'
def GivesX (P : Program) (f : FuncId) (args : List Value) (ok : Ok) (w : World) (L : List OF) {γ : Type} (F : γ → Fact) (L' : γ → List OF) : Prop :=
  Calls P f args.toArray w fun e w' => ∃ v, e = .returned v ∧ OutX ok w L F L' v w'
section
variable {P : Program} {f : FuncId} {fn : Func} {c : Code} {args : List Value} {ok : Ok} {w : World} {γ : Type} {F : γ → Fact} {L : List OF} {L' : γ → List OF}
theorem enterX {l : List Fact} (hf : P.funcs[f]? = some fn) (hb : fn.body = some c) {N : Nat} (hN : fn.ntmps = N) (hl : l.length ≤ N) (ha : ArgsOk ok w l args) (hnod : (idsOf L).Nodup) (hown : ∀ q, q ∈ L → q.holds ok w) (hd : ∀ b, b ∈ idsOf L → ¬ ok b)
    (K : ∀ a, St ⟨N, w, ok, idsOf L⟩ L (argEnv 0 l) a w → c.wp P (bodyPost P fn fun e w' => ∃ v, e = .returned v ∧ OutX ok w L F L' v w') a w) : GivesX P f args ok w L F L' := by
  refine calls_of_wp hf hb (K _ ?_)
  have hlen : args.length ≤ N := by rw [← ha.len]; exact hl
  have kp : Keep ok (okB ⟨N, w, ok, idsOf L⟩ (idsOf L)) w w := fun b _ ho => ⟨rfl, fun _ => .inl ho, fun hm => hd b hm ho⟩
  refine { size := by simp [hN]; omega, dfr := rfl, nod := hnod, fresh := fun b hb => .inr hb, ev := .refl _ _, own := fun q hq => q.mono (hown q hq) kp (fun _ _ => rfl), env := fun t G ht => ?_ }
  obtain ⟨_, v, h2, h3⟩ := ha.get 0 t G ht
  have hv : sl { tmps := args.toArray ++ Array.replicate (fn.ntmps - args.toArray.size) undef, defers := [] } t = v := by
    unfold sl
    have ht' : t < args.length := (List.getElem?_eq_some_iff.1 h2).1
    rw [Nat.sub_zero] at h2
    rw [Array.getD_eq_getD_getElem?, Array.getElem?_append_left (by simpa using ht')]
    simp [h2]
  rw [hv]
  exact G.mono h3 kp
theorem run_resultsX {C : Ctx} {B : List OF} {E : Env} {l : List ResultVar} {m : List Fact} {a : Act} {w' : World} (s : St C B E a w') (hr : fn.results = l.toArray) (h : ResAll P C B E l m) :
    ∃ vs : List Value, vs.length = m.length ∧ (∀ (i : Nat) (F : Fact) (u : Value), m[i]? = some F → vs[i]? = some u → F.holds (okB C (idsOf B)) w' u) ∧
      (results fn a.tmps).run P w' = .ok (if vs.length = 1 then vs.headD undef else .tuple vs.toArray) w' := by
  obtain ⟨vs, h1, h2, h3⟩ := h.run s
  refine ⟨vs, h1, h2, ?_⟩
  have e : results fn a.tmps = (do let vs ← fn.results.mapM (resSem a.tmps); pure (if h : vs.size = 1 then vs[0] else .tuple vs)) := by
    unfold results; congr 2
  rw [e, hr, List.mapM_toArray]
  simp only [Sem.run_bind, Sem.run_map, h3, Result.andThen_ok, Sem.run_pure]
  match vs with
  | [] => rfl
  | [v] => rfl
  | _ :: _ :: _ => simp
end
section
variable {β : Type} {pre post : List Value} {k : Kd β} {h1 : ∀ v, v ∈ pre → v.oneCell' = true} {h2 : ∀ v, v ∈ post → v.oneCell' = true}
end
section
variable {P : Program} {C : Ctx} {B B' A D : List OF} {E : Env} {o : Oper} {f : FuncId} {α β : Type} {K : Kd α} {k : Kd β} {X X' : α} {x x' : β} {b off : Nat} {U : TypeId} {F : Fact}
def Flat (F : Fact) : Prop := ∀ ok ok' w w' v, F.holds ok w v → F.holds ok' w' v
def KFlat {α : Type} (k : Kd α) : Prop := ∀ ok ok' w w' x cs, k.rel ok w x cs → k.rel ok' w' x cs
theorem KFlat.int (ik : IntKind) : KFlat (kint ik) := fun _ _ _ _ _ _ h => h
theorem KFlat.bool : KFlat kbool := fun _ _ _ _ _ _ h => h
theorem KFlat.str : KFlat kstr := fun _ _ _ _ _ _ h => h
theorem KFlat.nil : KFlat knil := fun _ _ _ _ _ _ h => h
theorem KFlat.pair {α β : Type} {k : Kd α} {l : Kd β} (h1 : KFlat k) (h2 : KFlat l) : KFlat (kpair k l) := fun _ _ _ _ _ _ ⟨c, d, e, g1, g2⟩ => ⟨c, d, e, h1 _ _ _ _ _ _ g1, h2 _ _ _ _ _ _ g2⟩
theorem KFlat.iso {α β : Type} {k : Kd β} {f : α → β} (h : KFlat k) : KFlat (kiso k f) := fun _ _ _ _ _ _ g => h _ _ _ _ _ _ g
theorem KFlat.arr {α : Type} {k : Kd α} {n : Nat} (h : KFlat k) : KFlat (karr n k) := by
  rintro ok ok' w w' xs cs ⟨hl, hr⟩
  refine ⟨hl, ?_⟩
  clear hl
  induction xs generalizing cs with
  | nil => exact hr
  | cons x xs ih => obtain ⟨c, d, rfl, g1, g2⟩ := hr; exact ⟨c, d, rfl, h _ _ _ _ _ _ g1, ih d g2⟩
theorem Flat.V {α : Type} {k : Kd α} {x : α} (h : KFlat k) : Flat (k.V x) := fun _ _ _ _ _ ⟨cs, g, e⟩ => ⟨cs, h _ _ _ _ _ _ g, e⟩
theorem Flat.tup {l : List Fact} (h : ∀ F, F ∈ l → Flat F) : Flat (tup l) := fun _ _ _ _ _ ⟨vs, h1, h2, h3⟩ => ⟨vs, h1, h2, fun i F u hF hu => h F (List.mem_of_getElem? hF) _ _ _ _ _ (h3 i F u hF hu)⟩
theorem Flat.res1 {F : Fact} (h : Flat F) : Flat (resFact [F]) := h
theorem Flat.res2 {F G : Fact} (h : Flat F) (g : Flat G) : Flat (resFact [F, G]) := Flat.tup fun _ hm => by
  simp at hm; rcases hm with rfl | rfl
  · exact h
  · exact g
theorem BF_cellsAt {ok : Ok} {w : World} {cs : List Value} (hg : w.heap[b]? = some (.cells cs.toArray U (0, 0))) (hb : ok b) (n : Nat) : cellsAt ok w ⟨b, off, none⟩ ((cs.drop off).take n) := by
  intro j v hj
  refine ⟨?_, hb⟩
  rw [add_lit]
  have : cs[off + j]? = some v := by
    rw [List.getElem?_take] at hj
    split at hj
    · rwa [List.getElem?_drop] at hj
    · cases hj
  simp [World.cell?, hg, this]
theorem lendPtr (lg : LG K k off X x) : ∀ ok w, (BF b U K X).holds ok w → ok b → (ptrTo k x).holds ok w (.pointer (some ⟨b, off, none⟩)) := by
  rintro ok w ⟨cs, hg, hr⟩ hb
  exact ⟨_, _, rfl, BF_cellsAt hg hb _, lg _ _ _ hr⟩
end
theorem St.rowValM {C : Ctx} {A D : List OF} {E : Env} {β : Type} {k : Kd β} {e : TypeId} {a : Act} {w : World} {v : Value} {xs : List β} (h : St C (A ++ RowF v e k xs :: D) E a w) : ((ksl k).V xs).holds (okB C (idsOf (A ++ D))) w v := by
  obtain ⟨rs, hr, hl, hv⟩ := h.own (RowF v e k xs) (by simp)
  have kp : Keep (okB C (idsOf (A ++ RowF v e k xs :: D))) (okB C (idsOf (A ++ D))) w w := fun b _ ho => ⟨rfl, ho.1, fun hm => ho.2 (by
    simp only [idsOf_append, idsOf, List.mem_append] at hm ⊢; rcases hm with h1 | h1 <;> simp [h1])⟩
  rcases hv with ⟨rfl, h0⟩ | ⟨g, cap, cur, rfl, _, hg, h1, h2, h3, h4⟩
  · have hxs : xs = [] := List.eq_nil_of_length_eq_zero h0
    subst hxs
    exact ⟨_, ⟨none, 0, rfl, ⟨Nat.le_refl _, Nat.zero_le _⟩, fun _ => rfl, [], rfl, fun p hp => by cases hp⟩, rfl⟩
  · have hgi : g ∈ idsOf (A ++ RowF (.slice (some ⟨g, 0, none⟩) xs.length cap) e k xs :: D) := mem_idsOf (f := RowF (.slice (some ⟨g, 0, none⟩) xs.length cap) e k xs) (by simp) (by simp [RowF, ownIds])
    have hnot : g ∉ idsOf (A ++ D) := by
      intro hm
      have hn := h.nod
      rw [idsOf_append] at hn
      have hn' : (idsOf A ++ ([g] ++ idsOf D)).Nodup := hn
      rw [List.nodup_append] at hn'
      obtain ⟨_, h6, h7⟩ := hn'
      rw [List.nodup_append] at h6
      rw [idsOf_append, List.mem_append] at hm
      rcases hm with h8 | h8
      · exact h7 g h8 g (by simp) rfl
      · exact h6.2.2 g (by simp) g h8 rfl
    refine ⟨_, ⟨some ⟨g, 0, none⟩, cap, rfl, ⟨h1, h2⟩, fun hn => (by cases hn), rs, relL_mono hr kp, fun p hp => ?_⟩, rfl⟩
    cases hp
    intro j u hj
    rw [add_lit]
    refine ⟨?_, ?_⟩
    · have : cur.toList[0 + j]? = some u := by
        rw [← h4, List.getElem?_take] at hj
        split at hj
        · simpa using hj
        · cases hj
      simp only [World.cell?, hg]
      simpa using this
    · refine ⟨fun hlt => ?_, hnot⟩
      rcases h.fresh g hgi with h5 | h5
      · exact absurd hlt (by show ¬ g < _; omega)
      · exact .inr h5
theorem St.freezeAllM {C : Ctx} {A D : List OF} {E : Env} {β : Type} {k : Kd β} {e : TypeId} {a : Act} {w : World} {v : Value} {xs : List β} {ts : List Nat} (h : St C (A ++ RowF v e k xs :: D) E a w) (ht : Holds E v ts) : St C (A ++ D) (frozen k xs ts E) a w := by
  have hv := h.rowValM
  have h' := h.drop
  induction ht with
  | nil => exact h'
  | @cons t l hg r ih => exact ih.fact (by rw [show sl a t = v from h.env t _ hg]; exact hv)
end Go.Proofs.Kit
end
section
namespace Go.Proofs.Kit
open Go Go.RowKit
set_option linter.unusedSimpArgs false
set_option linter.unusedVariables false
def cut? {α : Type} (xs : List α) (lo hi : Int) : Option (List α) := if 0 ≤ lo ∧ lo ≤ hi ∧ hi ≤ xs.length then some ((xs.take hi.toNat).drop lo.toNat) else none
theorem cut?_some {α : Type} {xs ys : List α} {lo hi : Int} (h : cut? xs lo hi = some ys) : 0 ≤ lo ∧ lo ≤ hi ∧ hi ≤ xs.length ∧ ys = (xs.take hi.toNat).drop lo.toNat := by
  unfold cut? at h
  by_cases h0 : 0 ≤ lo ∧ lo ≤ hi ∧ hi ≤ xs.length
  · rw [if_pos h0] at h; cases h; exact ⟨h0.1, h0.2.1, h0.2.2, rfl⟩
  · rw [if_neg h0] at h; cases h
inductive Bnd (E : Env) (d : Int) : Option Operand → Int → Prop
  | none : Bnd E d .none d
  | some {y : Operand} {ik : IntKind} {n : Int} (h : Opd E y ((kint ik).V n)) : Bnd E d (.some y) n
section
variable {P : Program} {C : Ctx} {B : List OF} {E : Env} {o : Oper} {α β : Type} {K : Kd α} {k : Kd β} {T U e : TypeId} {x y i : Operand} {b off : Nat} {X X' : α} {lo hi : Option Operand} {l h : Int}
theorem run_sliceBound {w : World} {ik : IntKind} {n : Int} {m : Nat} {c : BoundsCode} (h0 : 0 ≤ n) (h1 : n ≤ m) : (Instr.sliceBound (.int ik n) m c).run P w = .ok n.toNat w := by
  simp only [Instr.sliceBound, asIntOf, Sem.run_bind, Sem.run_pure, Result.andThen_ok, if_pos (show 0 ≤ n ∧ n ≤ (m : Int) from ⟨h0, h1⟩)]
theorem run_bounds {a : Act} {w : World} (s : St C B E a w) (isS : Bool) (len cap : Nat) (hl : Bnd E 0 lo l) (hh : Bnd E len hi h) (h0 : 0 ≤ l) (h1 : l ≤ h) (h2 : h ≤ cap) :
    (Instr.sliceBounds isS len cap (lo.map a.eval) (hi.map a.eval) none).run P w = .ok (l.toNat, h.toNat, cap) w := by
  unfold Instr.sliceBounds
  cases hh with
  | none =>
    cases hl with
    | none => simp
    | some g =>
      have := (V_int.1 (s.arg g)).1
      simp only [Option.map_some, Option.map_none, this, Sem.run_bind, Sem.run_pure, Result.andThen_ok, run_sliceBound h0 (show l ≤ (len : Int) from h1), Int.toNat_natCast]
  | some g' =>
    have e' := (V_int.1 (s.arg g')).1
    cases hl with
    | none =>
      simp only [Option.map_some, Option.map_none, e', Sem.run_bind, Sem.run_pure, Result.andThen_ok, run_sliceBound (show 0 ≤ h by omega) h2]
      simp
    | some g =>
      have := (V_int.1 (s.arg g)).1
      simp only [Option.map_some, Option.map_none, e', this, Sem.run_bind, Sem.run_pure, Result.andThen_ok, run_sliceBound (show 0 ≤ h by omega) h2]
      simp only [Option.isSome_none]
      simp only [Sem.run_bind, Sem.run_pure, Result.andThen_ok, run_sliceBound (m := h.toNat) h0 (show l ≤ ((h.toNat : Nat) : Int) by omega)]
def soff (n off l s : Nat) : Nat := if n = l then off else off + l * s
theorem ob_sliceArr {n : Nat} {s : Nat} (ho : o.op = .slice T x lo hi none) (hT : P.underlying T = some (.array n e)) (hs : (P.info? e).map (·.size) = some s) (hx : Opd E x (ptrB b off))
    (hl : Bnd E 0 lo l) (hh : Bnd E n hi h) (hb : 0 ≤ l ∧ l ≤ h ∧ h ≤ n) : Ob P C B E o (is (.slice (some ⟨b, soff n off l.toNat s, none⟩) (h.toNat - l.toNat) (n - l.toNat))) := fun a w st => by
  have hx' : a.eval x = .pointer (some ⟨b, off, none⟩) := st.arg hx
  have hr := run_bounds (P := P) st false n n hl hh hb.1 hb.2.1 hb.2.2
  refine .value (w' := w) (v := .slice (some ⟨b, soff n off l.toNat s, none⟩) (h.toNat - l.toNat) (n - l.toNat)) ?_ ⟨rfl, .refl _ _⟩
  simp only [execOp, ho, Instr.sliceAt, Option.map_none, Sem.run_bind, run_underlying hT, Result.andThen_ok, hx', Instr.sureAddr, Sem.run_pure, hr, run_sizeOf' hs]
  unfold soff
  by_cases hn : n = l.toNat
  · simp [hn]
  · simp [hn, add_lit]
theorem lendSl {n off0 off' cap len : Nat} {xs ys : List β} (lg : LG K (karr n k) off0 X xs) (hb : cut? xs l h = some ys) (ho : off' = soff n off0 l.toNat k.sz) (hlen : len = ys.length) (hcap : ys.length ≤ cap ∧ cap ≤ maxLen) :
    ∀ ok w, (BF b U K X).holds ok w → ok b → ((ksl k).V ys).holds ok w (.slice (some ⟨b, off', none⟩) len cap) := by
  rintro ok w ⟨cs, hg, hr⟩ hok
  subst hlen
  have ha := lg _ _ _ hr
  obtain ⟨b0, b1, b2, rfl⟩ := cut?_some hb
  have r1 := (relL_split ha.2 h.toNat).1
  have r2 := (relL_split r1 l.toNat).2
  have hn : xs.length = n := ha.1
  refine ⟨_, ⟨some ⟨b, off', none⟩, cap, rfl, hcap, fun hn => (by cases hn), _, r2, fun q hq => ?_⟩, rfl⟩
  cases hq
  subst ho
  have hc := BF_cellsAt (off := off0) hg hok (karr n k).sz
  unfold soff
  by_cases hnl : n = l.toNat
  · have : (((cs.drop off0).take (karr n k).sz).take (h.toNat * k.sz)).drop (l.toNat * k.sz) = [] := by
      rw [List.drop_eq_nil_of_le]; simp only [List.length_take]; have := Nat.mul_le_mul_right k.sz (show h.toNat ≤ l.toNat by omega); omega
    rw [this]; intro j v hj; simp at hj
  · rw [if_neg hnl]
    have := cellsAt_take_drop hc (l.toNat * k.sz) ((h.toNat - l.toNat) * k.sz)
    rw [List.drop_take]
    rw [Nat.mul_sub_right_distrib, add_lit] at this
    exact this
theorem ob_cuts {xs ys : List β} (ho : o.op = .slice T x lo hi none) (hT : P.underlying T = some (.slice e)) (hs : (P.info? e).map (·.size) = some k.sz) (hx : Opd E x ((ksl k).V xs)) (hl : Bnd E 0 lo l) (hh : Bnd E xs.length hi h) (hb : cut? xs l h = some ys) : Ob P C B E o ((ksl k).V ys) := fun a w st => by
  obtain ⟨p, cap, hp, hcap, hnil, rs, hr, hc⟩ := V_sl (st.arg hx)
  obtain ⟨b0, b1, b2, rfl⟩ := cut?_some hb
  have hrb := run_bounds (P := P) st true xs.length cap hl hh b0 b1 (by omega)
  have hylen : ((xs.take h.toNat).drop l.toNat).length = h.toNat - l.toNat := by simp; omega
  refine .value (w' := w) (v := .slice (if cap = l.toNat then p else p.map (·.add (l.toNat * k.sz))) (h.toNat - l.toNat) (cap - l.toNat)) ?_ ⟨?_, .refl _ _⟩
  · simp only [execOp, ho, Instr.sliceAt, Instr.slice, Option.map_none, Sem.run_bind, run_underlying hT, Result.andThen_ok, hp, Sem.run_pure, hrb]
    simp [hrb, run_sizeOf' hs]
  · have r1 := (relL_split hr h.toNat).1
    have r2 := (relL_split r1 l.toNat).2
    refine ⟨_, ⟨_, cap - l.toNat, by rw [hylen], ⟨by rw [hylen]; omega, by omega⟩, fun hn => ?_, _, r2, fun q hq => ?_⟩, rfl⟩
    · cases p with
      | none => have := hnil rfl; omega
      | some p => split at hn <;> cases hn
    · cases p with
      | none => split at hq <;> cases hq
      | some p =>
        by_cases hnl : cap = l.toNat
        · have : (rs.take (h.toNat * k.sz)).drop (l.toNat * k.sz) = [] := by
            rw [List.drop_eq_nil_of_le]; simp only [List.length_take]; have := Nat.mul_le_mul_right k.sz (show h.toNat ≤ l.toNat by omega); omega
          rw [this]; intro j v hj; simp at hj
        · rw [if_neg hnl] at hq
          cases hq
          have := cellsAt_take_drop (hc p rfl) (l.toNat * k.sz) ((h.toNat - l.toNat) * k.sz)
          rw [List.drop_take]
          rwa [Nat.mul_sub_right_distrib] at this
end
end Go.Proofs.Kit
end
section
namespace Go.Proofs.Kit
open Go Go.RowKit
set_option linter.unusedSimpArgs false
set_option linter.unusedVariables false
section
variable {P : Program} {C : Ctx} {B B' A D : List OF} {E : Env} {o : Oper} {α β : Type} {K : Kd α} {k : Kd β} {T T' T'' U e : TypeId} {x y i : Operand} {b off : Nat} {X X' : α}
theorem relL_u8 {ok : Ok} {w : World} {xs : List Int} {cs : List Value} (h : relL (kint .u8) ok w xs cs) : cs = xs.map (Value.int .u8) ∧ ∀ n, n ∈ xs → 0 ≤ n ∧ n < 256 := by
  induction xs generalizing cs with
  | nil => exact ⟨h, fun _ h => by cases h⟩
  | cons n xs ih =>
    obtain ⟨c, d, rfl, ⟨rfl, h1⟩, h2⟩ := h
    obtain ⟨rfl, h3⟩ := ih h2
    refine ⟨rfl, fun m hm => ?_⟩
    rcases List.mem_cons.1 hm with rfl | hm
    · have h4 : IntKind.u8.min ≤ m ∧ m ≤ IntKind.u8.max := h1
      have e1 : IntKind.u8.min = 0 := rfl
      have e2 : IntKind.u8.max = 255 := rfl
      omega
    · exact h3 m hm
theorem LS.seg {n lo : Nat} {k : Kd β} {xs ys : List β} (h : lo + ys.length ≤ n) : LS (karr n k) (karr ys.length k) (lo * k.sz) xs ys (xs.take lo ++ ys ++ xs.drop (lo + ys.length)) := by
  rintro ok w cs ds ⟨hl, hr⟩ ⟨_, hd⟩
  have e : lo * k.sz + ys.length * k.sz = (lo + ys.length) * k.sz := (Nat.add_mul _ _ _).symm
  refine ⟨?_, ?_, ?_⟩
  · show lo * k.sz + ys.length * k.sz ≤ n * k.sz
    rw [e]; exact Nat.mul_le_mul_right _ h
  · simp [List.length_append, List.length_take, List.length_drop, hl]; omega
  · have r1 := (relL_split hr lo).1
    have r2 := (relL_split hr (lo + ys.length)).2
    have e2 : lo * k.sz + (karr ys.length k).sz = (lo + ys.length) * k.sz := e
    rw [e2]
    exact relL_append (relL_append r1 hd) r2
def rowPtr (v : Value) (off : Nat) : Value := match v with
  | .slice (some a) _ _ => .pointer (some ⟨a.block, off, none⟩)
  | _ => undef
theorem ob_indexAddrRow {v : Value} {xs : List β} {ik : IntKind} {n : Int} (ho : o.op = .indexAddr T x i) (hT : P.underlying T = some (.slice e)) (hs : (P.info? e).map (·.size) = some k.sz) (hx : Opd E x (is v)) (hB : RowF v T' k xs ∈ B)
    (hi : Opd E i ((kint ik).V n)) (hb : 0 ≤ n ∧ n < xs.length) : Ob P C B E o (is (rowPtr v (n.toNat * k.sz))) := fun a w h => by
  have hx' : a.eval x = v := h.arg hx
  obtain ⟨rs, hr, hl, hv⟩ := h.own _ hB
  rcases hv with ⟨rfl, h0⟩ | ⟨g, cap, cur, rfl, _, hg, _⟩
  · omega
  · exact .value (w' := w) (v := .pointer (some ⟨g, n.toNat * k.sz, none⟩)) (by
      simp [execOp, ho, hx', (V_int.1 (h.arg hi)).1, Instr.indexAt, asIntOf, run_underlying hT, Instr.sureAddr, run_sizeOf' hs, hb.1, hb.2, add_lit]) ⟨rfl, .refl _ _⟩
theorem ob_storeRow {v : Value} {xs xs' : List β} {n : Int} {Y : β} (ho : o.op = .store T x y) (tk : TK P T k) (hx : Opd E x (is (rowPtr v (n.toNat * k.sz)))) (hy : Opd E y (k.V Y)) (hB : B = A ++ RowF v e k xs :: D) (hs : set? xs n Y = some xs') (hB' : B' = A ++ RowF v e k xs' :: D) :
    ObX P C B E o (fun _ : Unit => B') (fun _ => nofact) := fun a w h => by
  subst hB hB'
  have hx' : a.eval x = rowPtr v (n.toNat * k.sz) := h.arg hx
  obtain ⟨rs, hr, hl, hv⟩ := h.own (RowF v e k xs) (by simp)
  obtain ⟨hy0, hy1, rfl⟩ := set?_some hs
  rcases hv with ⟨rfl, h0⟩ | ⟨g, cap, cur, rfl, hge, hg, h1, h2, h3, h4⟩
  · omega
  · obtain ⟨ds, hd, hv⟩ := h.arg hy
    have hdl := k.len hd
    have hcells : (mkv k.agg ds).cells = ds.toArray := by have := Kd.cells hd; rw [← Array.toList_inj, this]
    have hle : n.toNat * k.sz + k.sz ≤ xs.length * k.sz := by rw [← Nat.succ_mul]; exact Nat.mul_le_mul_right _ (by omega)
    have hle2 : xs.length * k.sz ≤ cap * k.sz := Nat.mul_le_mul_right _ h1
    have hst := run_storeCells_at P g (n.toNat * k.sz) e ds 0 cur w hg (by simp [hdl, h3]; omega) (k.cell1 hd)
    simp only [Nat.add_zero, hdl] at hst
    have hset := relL_set hr hd (i := n.toNat) (by omega)
    refine .skip (w' := w.setRow g (cur.toList.take (n.toNat * k.sz) ++ ds ++ cur.toList.drop (n.toNat * k.sz + k.sz)).toArray) ?_ ⟨(), trivial, ?_⟩
    · simp [execOp, ho, hx', hv, rowPtr, Instr.storeAt, Instr.sureAddr, storeVar, hcells, run_sizeOf' tk.size, hdl, hst]
    · refine h.turn (g := RowF (.slice (some ⟨g, 0, none⟩) xs.length cap) e k (xs.set n.toNat Y)) rfl ⟨rfl, rfl, rfl, by simp, fun q _ hq => setRow_other _ _ _ _ (by simpa [RowF, ownIds] using hq)⟩ (fun kp => ?_)
      refine ⟨_, relL_mono hset kp, ?_, .inr ⟨g, cap, _, by rw [List.length_set], hge, setRow_heap _ _ _ _ _ _ hg, by rw [List.length_set]; exact h1, h2, ?_, ?_⟩⟩
      · have := relL_len hset; rw [this]
      · simp only [List.size_toArray, List.length_append, List.length_take, List.length_drop, Array.length_toList, h3, hdl]; omega
      · rw [List.length_set]
        have hrl : rs.length = xs.length * k.sz := hl
        subst h4
        simp only [List.length_take, Array.length_toList, h3] at hrl ⊢
        rw [List.take_append, List.take_append, List.take_take, List.take_take, List.drop_take]
        simp only [List.length_take, Array.length_toList, h3, List.length_append, hdl]
        rw [Nat.min_eq_right (show n.toNat * k.sz ≤ xs.length * k.sz by omega), Nat.min_eq_left (show n.toNat * k.sz ≤ xs.length * k.sz by omega), Nat.min_eq_left (show n.toNat * k.sz ≤ cap * k.sz by omega)]
        rw [List.take_of_length_le (l := ds) (by omega)]
end
theorem cond_f {P : Program} {Q : Exit → Act → World → Prop} {a : Act} {w : World} {C : Ctx} {B : List OF} {E : Env} {x : Operand} {c1 c2 : Code} (s : St C B E a w) (hx : Opd E x (kbool.V false)) (h2 : c2.wp P Q a w) : (Code.cond x c1 c2).wp P Q a w :=
  cond_split s hx (fun h => by cases h) (fun _ => h2)
end Go.Proofs.Kit
end
section
namespace Go.Proofs.Kit
open Go Go.RowKit
set_option linter.unusedSimpArgs false
set_option linter.unusedVariables false
section
variable {α β : Type} {b : Nat} {U : TypeId} {K K' : Kd α} {X X' : α} {ok : Ok} {w : World} {B : List OF} {xs ys : List β} {l h : Int} {n : Nat}
theorem cut_len (e : cut? xs l h = some ys) : h.toNat - l.toNat = ys.length := by
  obtain ⟨h0, h1, h2, rfl⟩ := cut?_some e; simp; omega
theorem cut_cap (e : cut? xs l h = some ys) (g : 0 ≤ l ∧ l ≤ h ∧ h ≤ ((n : Nat) : Int)) (hn : n ≤ maxLen) : ys.length ≤ n - l.toNat ∧ n - l.toNat ≤ maxLen := by
  rw [← cut_len e]; omega
end
theorem LS.to {α β : Type} {K : Kd α} {k : Kd β} {off : Nat} {x x' x2 : α} {y : β} (h : LS K k off x y x') (e : x' = x2) : LS K k off x y x2 := e ▸ h
end Go.Proofs.Kit
end
section
namespace Go.Proofs.Kit
open Go Go.RowKit Go.ChangeShapes Go.WideShapes
set_option linter.unusedSimpArgs false
set_option linter.unusedVariables false
section
variable {P : Program} {T e : TypeId} {H : Type} {enc : TypeId × Value → H} {w : World}
end
end Go.Proofs.Kit
end
section
namespace Go.Proofs.Kit
open Go Go.RowKit
set_option linter.unusedSimpArgs false
set_option linter.unusedVariables false
section
variable {P : Program} {C : Ctx} {B B' A D : List OF} {E : Env} {o : Oper} {f : FuncId}
end
section
variable {P : Program} {C : Ctx} {B B' A D : List OF} {E : Env} {o : Oper} {T T' e : TypeId} {x y i : Operand} {v : Value} {xs xs' l : List Int} {ik : IntKind} {n Y : Int}
end
end Go.Proofs.Kit
end
section
namespace Go.Proofs.Kit
open Go Go.RowKit
set_option linter.unusedSimpArgs false
set_option linter.unusedVariables false
theorem St.turnAll {C : Ctx} {L L' D : List OF} {E : Env} {a : Act} {w w' : World} (h : St C (L ++ D) E a w) (hn : (idsOf L').Nodup) (hi : ∀ b, b ∈ idsOf L' → b ∈ idsOf L ∨ w.heap.size ≤ b) (e : Ev (idsOf L) w w')
    (hL : Keep (okB C (idsOf (L ++ D))) (okB C (idsOf (L' ++ D))) w w' → ∀ q, q ∈ L' → q.holds (okB C (idsOf (L' ++ D))) w') : St C (L' ++ D) E a w' := by
  have hnod := h.nod
  rw [idsOf_append, List.nodup_append] at hnod
  obtain ⟨n1, n2, n3⟩ := hnod
  have hlt : ∀ b, b ∈ idsOf D → b < w.heap.size := fun b hb => h.lt (by rw [idsOf_append, List.mem_append]; exact .inr hb)
  have kp : Keep (okB C (idsOf (L ++ D))) (okB C (idsOf (L' ++ D))) w w' := by
    intro b hb ho
    have h1 : b ∉ idsOf L := fun hm => ho.2 (by rw [idsOf_append, List.mem_append]; exact .inl hm)
    have h2 : b ∉ idsOf D := fun hm => ho.2 (by rw [idsOf_append, List.mem_append]; exact .inr hm)
    refine ⟨e.block b hb h1, ho.1, ?_⟩
    rw [idsOf_append, List.mem_append]
    rintro (hm | hm)
    · rcases hi b hm with h3 | h3
      · exact h1 h3
      · omega
    · exact h2 hm
  refine { size := h.size, dfr := h.dfr, nod := ?_, fresh := ?_, ev := ?_, own := ?_, env := fun t F ht => F.mono (h.env t F ht) kp }
  · rw [idsOf_append, List.nodup_append]
    refine ⟨hn, n2, fun x hx y hy hxy => ?_⟩
    subst hxy
    rcases hi x hx with h3 | h3
    · exact n3 x h3 x hy rfl
    · have := hlt x hy; omega
  · intro b hb
    rw [idsOf_append, List.mem_append] at hb
    rcases hb with hm | hm
    · rcases hi b hm with h3 | h3
      · exact h.fresh b (by rw [idsOf_append, List.mem_append]; exact .inl h3)
      · left; have := h.ev.size; omega
    · exact h.fresh b (by rw [idsOf_append, List.mem_append]; exact .inr hm)
  · refine ⟨e.os.trans h.ev.os, e.tape.trans h.ev.tape, e.output.trans h.ev.output, Nat.le_trans h.ev.size e.size, fun k hk hM => ?_⟩
    rw [e.block k (Nat.lt_of_lt_of_le hk h.ev.size) ?_, h.ev.block k hk hM]
    intro hm
    rcases h.fresh k (by rw [idsOf_append, List.mem_append]; exact .inl hm) with h1 | h1
    · omega
    · exact hM h1
  · intro q hq
    rcases List.mem_append.1 hq with hm | hm
    · exact hL kp q hm
    · have hqm : q ∈ L ++ D := by simp [hm]
      refine q.mono (h.own q hqm) kp (fun b hb => e.block b (q.lt (h.own q hqm) b hb) (fun hbl => n3 b hbl b (mem_idsOf hm hb) rfl))
def kis (v : Value) : Kd Unit where
  sz := 1
  agg := false
  rel ok w _ cs := cs = [v] ∧ v.cells = #[v] ∧ v.oneCell' = true
  len := by rintro ok w x cs ⟨rfl, _⟩; rfl
  one := by rintro ok w x cs ⟨rfl, h, _⟩ _; exact ⟨_, rfl, h⟩
  cell1 := by rintro ok w x cs ⟨rfl, _, h⟩ u hu; simp at hu; subst hu; exact h
  mono := fun h _ => h
theorem V_kis {v u : Value} {ok : Ok} {w : World} (h : ((kis v).V ()).holds ok w u) : u = v := by
  obtain ⟨cs, ⟨rfl, h1, h2⟩, e⟩ := h; exact e
def nilRow (n : Nat) : Value := .slice none 0 0
theorem Zr.kis (n : Nat) : Zr (kis (nilRow n)) () [.slice none 0 0] := fun _ _ => ⟨rfl, rfl, rfl⟩
theorem rowNilN (n : Nat) (e : TypeId) {β : Type} (k : Kd β) (ok : Ok) (w : World) : (RowF (nilRow n) e k []).holds ok w := rowNil e k ok w
def LSK {α β γ : Type} (K : Kd α) (k : Kd β) (K' : Kd γ) (off : Nat) (x : α) (y : β) (x' : γ) : Prop :=
  ∀ ok w cs ds, K.rel ok w x cs → k.rel ok w y ds → K'.sz = K.sz ∧ off + k.sz ≤ K.sz ∧ K'.rel ok w x' (cs.take off ++ ds ++ cs.drop (off + k.sz))
theorem LSK.of {α β : Type} {K : Kd α} {k : Kd β} {off : Nat} {x x' : α} {y : β} (h : LS K k off x y x') : LSK K k K off x y x' := fun ok w cs ds h1 h2 => ⟨rfl, h ok w cs ds h1 h2⟩
section
variable {P : Program} {C : Ctx} {B B' A D : List OF} {E : Env} {o : Oper} {α β γ : Type} {K : Kd α} {K' : Kd γ} {k : Kd β} {T U e : TypeId} {x y : Operand} {b off : Nat} {X : α} {X' : γ} {Y : β}
theorem ob_storeK (ho : o.op = .store T x y) (tk : TK P T k) (hx : Opd E x (ptrB b off)) (hy : Opd E y (k.V Y)) (hB : B = A ++ BF b U K X :: D) (ls : LSK K k K' off X Y X') (hB' : B' = A ++ BF b U K' X' :: D) :
    ObX P C B E o (fun _ : Unit => B') (fun _ => nofact) := fun a w h => by
  subst hB hB'
  obtain ⟨cs, hg, hr⟩ := h.own (BF b U K X) (by simp)
  obtain ⟨ds, hd, hv⟩ := h.arg hy
  obtain ⟨hsz, hb, hr'⟩ := ls _ _ _ _ hr hd
  have hx' : a.eval x = .pointer (some ⟨b, off, none⟩) := h.arg hx
  have hdl := k.len hd
  have hcl := K.len hr
  have hcells : (mkv k.agg ds).cells = ds.toArray := by have := Kd.cells hd; rw [← Array.toList_inj, this]
  have hst := run_storeCells_at P b off U ds 0 cs.toArray w hg (by simp [hdl, hcl]; omega) (k.cell1 hd)
  simp only [Nat.add_zero, hdl] at hst
  refine .skip (w' := w.setRow b (cs.take off ++ ds ++ cs.drop (off + k.sz)).toArray) ?_ ⟨(), trivial, ?_⟩
  · simp [execOp, ho, hx', hv, Instr.storeAt, Instr.sureAddr, storeVar, hcells, run_sizeOf' tk.size, hdl, hst]
  · refine h.turn (g := BF b U K' X') rfl ⟨rfl, rfl, rfl, by simp, fun q _ hq => setRow_other _ _ _ _ (by simpa [BF] using hq)⟩ (fun kp => ?_)
    exact ⟨_, setRow_heap _ _ _ _ _ _ hg, K'.mono hr' kp⟩
end
theorem rowRd {β : Type} {k : Kd β} {v : Value} {e : TypeId} {xs : List β} {ok : Ok} {w : World} (h : (RowF v e k xs).holds ok w) (ho : ∀ c, c ∈ ownIds v → ok c) : (ksl k).rel ok w xs [v] := by
  obtain ⟨rs, hr, hl, hv⟩ := h
  rcases hv with ⟨rfl, h0⟩ | ⟨g, cap, cur, rfl, _, hg, h1, h2, h3, h4⟩
  · have hxs : xs = [] := List.eq_nil_of_length_eq_zero h0
    subst hxs
    exact ⟨none, 0, rfl, ⟨Nat.le_refl _, Nat.zero_le _⟩, fun _ => rfl, [], rfl, fun p hp => by cases hp⟩
  · refine ⟨some ⟨g, 0, none⟩, cap, rfl, ⟨h1, h2⟩, fun hn => (by cases hn), rs, hr, fun p hp => ?_⟩
    cases hp
    intro j u hj
    rw [add_lit]
    refine ⟨?_, ho g (by simp [ownIds])⟩
    have : cur.toList[0 + j]? = some u := by
      rw [← h4, List.getElem?_take] at hj
      split at hj
      · simpa using hj
      · cases hj
    simp only [World.cell?, hg]
    simpa using this
theorem row_kis {β : Type} {k : Kd β} {v : Value} {e : TypeId} {xs : List β} {ok : Ok} {w : World} (h : (RowF v e k xs).holds ok w) : ((kis v).V ()).holds ok w v := by
  obtain ⟨rs, hr, hl, hv⟩ := h
  rcases hv with ⟨rfl, h0⟩ | ⟨g, cap, cur, rfl, _⟩
  · exact ⟨[.slice none 0 0], ⟨rfl, rfl, rfl⟩, rfl⟩
  · exact ⟨[.slice (some ⟨g, 0, none⟩) xs.length cap], ⟨rfl, rfl, rfl⟩, rfl⟩
section
variable {α β γ δ ε : Type}
theorem LSK.fst {k : Kd α} {k' : Kd δ} (l : Kd β) (hs : k'.sz = k.sz) (x : α × β) (y : δ) : LSK (kpair k l) k' (kpair k' l) 0 x y (y, x.2) := by
  rintro ok w cs ds ⟨c, d, rfl, h1, h2⟩ hy
  have e1 := k.len h1
  have e2 := k'.len hy
  refine ⟨by simp [kpair, hs], by simp [kpair]; omega, ds, d, ?_, hy, h2⟩
  rw [hs]
  simp [List.drop_append, List.drop_eq_nil_of_le (Nat.le_of_eq e1), e1]
theorem LSK.snd (k : Kd α) {l : Kd β} {m : Kd γ} {l' : Kd δ} {off : Nat} {x : α × β} {y : γ} {z : δ} (h : LSK l m l' off x.2 y z) : LSK (kpair k l) m (kpair k l') (k.sz + off) x y (x.1, z) := by
  rintro ok w cs ds ⟨c, d, rfl, h1, h2⟩ hy
  obtain ⟨hs, hb, hr⟩ := h ok w d ds h2 hy
  refine ⟨by simp [kpair, hs], by simp only [kpair]; omega, c, _, ?_, h1, hr⟩
  rw [← k.len h1, Nat.add_assoc]
  simp [List.take_append, List.drop_append, List.take_of_length_le, List.drop_eq_nil_of_le]
theorem LSK.iso {K : Kd α} {k : Kd β} {K' : Kd γ} {f : δ → α} {f' : ε → γ} {off : Nat} {x : δ} {x' : ε} {y : β} (h : LSK K k K' off (f x) y (f' x')) : LSK (kiso K f) k (kiso K' f') off x y x' := h
end
end Go.Proofs.Kit
end
section
namespace Go.Proofs.Kit
open Go Go.RowKit
set_option linter.unusedSimpArgs false
set_option linter.unusedVariables false
theorem idsOf_perm {B B' : List OF} (p : B.Perm B') : (idsOf B).Perm (idsOf B') := by
  induction p with
  | nil => exact .refl _
  | cons f _ ih => exact List.Perm.append_left _ ih
  | swap f g l => simp only [idsOf, ← List.append_assoc]; exact List.Perm.append_right _ List.perm_append_comm
  | trans _ _ h1 h2 => exact h1.trans h2
theorem okB_perm {C : Ctx} {B B' : List OF} (p : B.Perm B') : okB C (idsOf B) = okB C (idsOf B') := by
  funext n; unfold okB; rw [(idsOf_perm p).mem_iff]
theorem St.perm {C : Ctx} {B B' : List OF} {E : Env} {a : Act} {w : World} (h : St C B E a w) (p : B.Perm B') : St C B' E a w := by
  have e := okB_perm (C := C) p
  exact { size := h.size, dfr := h.dfr, nod := (idsOf_perm p).nodup_iff.1 h.nod, fresh := fun b hb => h.fresh b ((idsOf_perm p).mem_iff.2 hb), ev := h.ev, own := fun q hq => by rw [← e]; exact h.own q (p.mem_iff.2 hq), env := by rw [← e]; exact h.env }
theorem toFront {α : Type _} (A : List α) {f : α} {D R : List α} (h : (A ++ D).Perm R) : (A ++ f :: D).Perm (f :: R) := List.perm_middle.trans (.cons _ h)
inductive LendOk (E : Env) (L : List OF) : List (Nat × Fact) → Prop
  | nil : LendOk E L []
  | cons {t : Nat} {F0 G : Fact} {l : List (Nat × Fact)} (h : get E t = some F0)
      (hG : ∀ ok w v, F0.holds ok w v → (∀ q, q ∈ L → q.holds ok w) → (∀ c, c ∈ idsOf L → ok c) → G.holds ok w v) (r : LendOk E L l) : LendOk E L ((t, G) :: l)
section
variable {P : Program} {C : Ctx} {B B2 D L : List OF} {E : Env} {o : Oper} {F G : Fact} {a : Act} {w : World}
def lentC (C : Ctx) (L : List OF) : Ctx := ⟨C.N, C.w0, fun n => C.ok0 n ∨ n ∈ idsOf L, C.M0⟩
theorem keep_lent (C : Ctx) (L D : List OF) (w : World) : Keep (okB C (idsOf (L ++ D))) (okB (lentC C L) (idsOf D)) w w := fun n _ ho => ⟨rfl, fun hc => (ho.1 hc).imp .inl id, fun hm => ho.2 (by rw [idsOf_append, List.mem_append]; exact .inr hm)⟩
theorem St.lendAll (h : St C (L ++ D) E a w) {ts : List (Nat × Fact)} (hl : LendOk E L ts) : St (lentC C L) D (ts ++ E) a w := by
  have hnod := h.nod
  rw [idsOf_append, List.nodup_append] at hnod
  obtain ⟨n1, n2, n3⟩ := hnod
  have kp := keep_lent C L D w
  have s : St (lentC C L) D E a w := { size := h.size, dfr := h.dfr, nod := n2, fresh := fun b hb => h.fresh b (by rw [idsOf_append, List.mem_append]; exact .inr hb), ev := h.ev, own := fun q hq => q.mono (h.own q (by simp [hq])) kp (fun _ _ => rfl), env := fun t F ht => F.mono (h.env t F ht) kp }
  induction hl with
  | nil => exact s
  | @cons t F0 G l h1 hG r ih =>
    exact ih.fact (hG _ _ _ (s.env _ _ h1) (fun q hq => q.mono (h.own q (by simp [hq])) kp (fun _ _ => rfl)) (fun c hc => ⟨fun _ => .inl (.inr hc), fun hm => n3 c hc c hm rfl⟩))
theorem ob_lendG {ts : List (Nat × Fact)} (p : B.Perm (L ++ D)) (hl : LendOk E L ts) (hF : Flat F) (ob : ∀ C', Ob P C' D (ts ++ E) o F) : Ob P C B E o F := fun a w h =>
  (ob _ a w ((h.perm p).lendAll hl)).mono fun v w' ⟨g1, g2⟩ => ⟨hF _ _ _ _ _ g1, g2⟩
end
def keepNow (n : Nat) (S : Nat → Prop) (H : Nat → Option Obj) : Fact where
  holds ok w _ := ∀ b, b < n → S b → w.heap[b]? = H b ∧ ok b ∧ b < w.heap.size
  mono := by
    intro ok ok' w w' v h kp b hb hs
    obtain ⟨h1, h2, h3⟩ := h b hb hs
    obtain ⟨h4, h5⟩ := kp b h3 h2
    refine ⟨h4.trans h1, h5, ?_⟩
    rcases Nat.lt_or_ge b w'.heap.size with h6 | h6
    · exact h6
    · rw [Array.getElem?_eq_none h6, Array.getElem?_eq_getElem h3] at h4; cases h4
def ObK (P : Program) (C : Ctx) (B : List OF) (E : Env) (o : Oper) {γ : Type} (B' : γ → List OF) (F : γ → Fact) : Prop :=
  ∀ a w, St C B E a w → Does P o a w fun v w' => ∃ g, (F g).holds (okB C (idsOf (B' g))) w' v ∧ St C (B' g) E a w' ∧ Keep (okB C (idsOf B)) (okB C (idsOf (B' g))) w w'
theorem get_append {E R : Env} {t : Nat} : get (E ++ R) t = (get E t).orElse fun _ => get R t := by
  induction E with
  | nil => rfl
  | cons p E ih =>
    obtain ⟨u, F⟩ := p
    simp only [List.cons_append, get]
    by_cases e : u = t
    · rw [if_pos e, if_pos e]; rfl
    · rw [if_neg e, if_neg e]; exact ih
theorem get_fresh (E : Env) : ∃ t, get E t = none := by
  have key : ∀ E : Env, ∃ n, ∀ t, n ≤ t → get E t = none := by
    intro E
    induction E with
    | nil => exact ⟨0, fun _ _ => rfl⟩
    | cons p E ih =>
      obtain ⟨n, h⟩ := ih
      refine ⟨n + p.1 + 1, fun t ht => ?_⟩
      simp only [get]
      rw [if_neg (by omega)]; exact h t (by omega)
  obtain ⟨n, h⟩ := key E
  exact ⟨n, h n (Nat.le_refl _)⟩
section
variable {P : Program} {C : Ctx} {B B2 D L : List OF} {E : Env} {o : Oper} {a : Act} {w : World} {γ : Type} {B' : γ → List OF} {F : γ → Fact}
theorem ObX.keeps (obx : ∀ R, ObX P C B (E ++ R) o B' F) : ObK P C B E o B' F := fun a w h => by
  obtain ⟨t, ht⟩ := get_fresh E
  let G : Fact := keepNow w.heap.size (okB C (idsOf B)) (fun b => w.heap[b]?)
  have h' : St C B (E ++ [(t, G)]) a w := by
    refine { h with env := fun u H hu => ?_ }
    rw [get_append] at hu
    cases hq : get E u with
    | some H' => rw [hq] at hu; cases hu; exact h.env u _ hq
    | none =>
      rw [hq] at hu
      simp only [Option.orElse, get] at hu
      by_cases e : t = u
      · rw [if_pos e] at hu; cases hu; exact fun b hb hs => ⟨rfl, hs, hb⟩
      · rw [if_neg e] at hu; cases hu
  refine (obx [(t, G)] a w h').mono fun v w' ⟨g, h1, h2⟩ => ⟨g, h1, { h2 with env := fun u H hu => h2.env u H (by rw [get_append, hu]; rfl) }, fun b hb ho => ?_⟩
  have := h2.env t G (by rw [get_append, ht]; simp [get])
  obtain ⟨h3, h4, _⟩ := this b hb ho
  exact ⟨h3, h4⟩
theorem ObX.perm (p : B.Perm B2) (h : ObX P C B2 E o B' F) : ObX P C B E o B' F := fun a w s => h a w (s.perm p)
theorem Ob.perm {F : Fact} (p : B.Perm B2) (h : Ob P C B2 E o F) : Ob P C B E o F := fun a w s => (h a w (s.perm p)).mono fun v w' ⟨h1, h2⟩ => ⟨by rw [okB_perm p]; exact h1, h2⟩
def FlatO (q : OF) : Prop := ∀ ok ok' w, q.holds ok w → q.holds ok' w
theorem relL_flat {α : Type} {k : Kd α} (h : KFlat k) {ok ok' : Ok} {w w' : World} : ∀ {xs : List α} {cs : List Value}, relL k ok w xs cs → relL k ok' w' xs cs
  | [], _, g => g
  | _ :: _, _, ⟨c, d, e, g1, g2⟩ => ⟨c, d, e, h _ _ _ _ _ _ g1, relL_flat h g2⟩
theorem FlatO.row {v : Value} {e : TypeId} {α : Type} {k : Kd α} {xs : List α} (h : KFlat k) : FlatO (RowF v e k xs) := fun _ _ _ ⟨rs, h1, h2⟩ => ⟨rs, relL_flat h h1, h2⟩
def FlatL (l : List OF) : Prop := ∀ q, q ∈ l → FlatO q
theorem FlatL.nil : FlatL [] := fun _ h => by cases h
theorem FlatL.cons {q : OF} {l : List OF} (h : FlatO q) (t : FlatL l) : FlatL (q :: l) := fun x hx => by
  rcases List.mem_cons.1 hx with rfl | hx
  · exact h
  · exact t x hx
theorem KFlat.kis (v : Value) : KFlat (kis v) := fun _ _ _ _ _ _ h => h
theorem ob_lendX {ts : List (Nat × Fact)} (p : B.Perm (L ++ D)) (hl : LendOk E L ts) (hF : ∀ g, Flat (F g)) (hB : ∀ g, FlatL (B' g)) (ob : ∀ C' R, ObX P C' D ((ts ++ E) ++ R) o B' F) : ObX P C B E o (fun g => L ++ B' g) F := fun a w h0 => by
  have h := h0.perm p
  have hk := ObX.keeps (ob (lentC C L))
  refine (hk a w (h.lendAll hl)).mono fun v w' ⟨g, h1, h2, h3⟩ => ⟨g, hF g _ _ _ _ _ h1, ?_⟩
  have hnod := h.nod
  rw [idsOf_append, List.nodup_append] at hnod
  obtain ⟨n1, n2, n3⟩ := hnod
  have hLok : ∀ c, c ∈ idsOf L → okB (lentC C L) (idsOf D) c := fun c hc => ⟨fun _ => .inl (.inr hc), fun hm => n3 c hc c hm rfl⟩
  have hLlt : ∀ c, c ∈ idsOf L → c < w.heap.size := fun c hc => h.lt (by rw [idsOf_append, List.mem_append]; exact .inl hc)
  have hL' : ∀ c, c ∈ idsOf L → w'.heap[c]? = w.heap[c]? ∧ c ∉ idsOf (B' g) := fun c hc => by
    obtain ⟨e1, e2⟩ := h3 c (hLlt c hc) (hLok c hc); exact ⟨e1, e2.2⟩
  have kp : Keep (okB C (idsOf (L ++ D))) (okB C (idsOf (L ++ B' g))) w w' := by
    intro b hb ho
    have hbL : b ∉ idsOf L := fun hm => ho.2 (by rw [idsOf_append, List.mem_append]; exact .inl hm)
    have hbD : b ∉ idsOf D := fun hm => ho.2 (by rw [idsOf_append, List.mem_append]; exact .inr hm)
    obtain ⟨e1, e2⟩ := h3 b hb ⟨fun hc => (ho.1 hc).imp .inl id, hbD⟩
    refine ⟨e1, ho.1, fun hm => ?_⟩
    rw [idsOf_append, List.mem_append] at hm
    rcases hm with hm | hm
    · exact hbL hm
    · exact e2.2 hm
  refine { size := h2.size, dfr := h2.dfr, nod := ?_, fresh := ?_, ev := h2.ev, own := ?_, env := fun t F ht => F.mono (h.env t F ht) kp }
  · rw [idsOf_append, List.nodup_append]
    exact ⟨n1, h2.nod, fun x hx y hy hxy => (hL' x hx).2 (hxy ▸ hy)⟩
  · intro b hb
    rw [idsOf_append, List.mem_append] at hb
    rcases hb with hb | hb
    · exact h.fresh b (by rw [idsOf_append, List.mem_append]; exact .inl hb)
    · exact h2.fresh b hb
  · intro q hq
    rcases List.mem_append.1 hq with hq | hq
    · exact q.mono (h.own q (by simp [hq])) kp (fun b hb => (hL' b (mem_idsOf hq hb)).1)
    · exact hB g q hq _ _ _ (h2.own q hq)
end
theorem ArgsOk.mono {ok ok' : Ok} {w w' : World} (kp : Keep ok ok' w w') {l : List Fact} {vs : List Value} (h : ArgsOk ok w l vs) : ArgsOk ok' w' l vs := by
  induction h with
  | nil => exact .nil
  | @cons F v l vs h t ih => exact .cons (F.mono h kp) ih
theorem ArgsOk.uncons {ok : Ok} {w : World} {F : Fact} {l : List Fact} {vs : List Value} (h : ArgsOk ok w (F :: l) vs) : ∃ v vs', vs = v :: vs' ∧ F.holds ok w v ∧ ArgsOk ok w l vs' := by
  cases h with | cons h t => exact ⟨_, _, rfl, h, t⟩
theorem ArgsOk.unnil {ok : Ok} {w : World} {vs : List Value} (h : ArgsOk ok w [] vs) : vs = [] := by cases h; rfl
def cloF (f : FuncId) (Fs Gs : List Fact) : Fact where
  holds ok w v := ∃ fs gs : List Value, v = .func (.func f) fs.toArray gs.toArray ∧ ArgsOk ok w Fs fs ∧ ArgsOk ok w Gs gs
  mono := fun ⟨fs, gs, e, h1, h2⟩ kp => ⟨fs, gs, e, h1.mono kp, h2.mono kp⟩
inductive FactsTo (L : List OF) : List Fact → List Fact → Prop
  | nil : FactsTo L [] []
  | cons {F G : Fact} {l m : List Fact} (h : ∀ ok w v, F.holds ok w v → (∀ q, q ∈ L → q.holds ok w) → (∀ c, c ∈ idsOf L → ok c) → G.holds ok w v) (t : FactsTo L l m) : FactsTo L (F :: l) (G :: m)
theorem FactsTo.all {L : List OF} {l m : List Fact} (h : FactsTo L l m) {ok : Ok} {w : World} {vs : List Value} (ha : ArgsOk ok w l vs) (h1 : ∀ q, q ∈ L → q.holds ok w) (h2 : ∀ c, c ∈ idsOf L → ok c) : ArgsOk ok w m vs := by
  induction h generalizing vs with
  | nil => exact ha
  | cons h t ih => cases ha with | cons g gs => exact .cons (h _ _ _ g h1 h2) (ih gs)
theorem lendClo {L : List OF} {f : FuncId} {Fs Fs' Gs Gs' : List Fact} (h1 : FactsTo L Fs Fs') (h2 : FactsTo L Gs Gs') : ∀ ok w v, (cloF f Fs Gs).holds ok w v → (∀ q, q ∈ L → q.holds ok w) → (∀ c, c ∈ idsOf L → ok c) → (cloF f Fs' Gs').holds ok w v :=
  fun ok w v ⟨fs, gs, e, g1, g2⟩ hL hc => ⟨fs, gs, e, h1.all g1 hL hc, h2.all g2 hL hc⟩
inductive OpdAll (E : Env) : List Operand → List Fact → Prop
  | nil : OpdAll E [] []
  | cons {x : Operand} {F : Fact} {l : List Operand} {m : List Fact} (h : Opd E x F) (t : OpdAll E l m) : OpdAll E (x :: l) (F :: m)
section
variable {P : Program} {C : Ctx} {B B' D L : List OF} {E : Env} {o : Oper} {a : Act} {w : World} {f : FuncId} {Fs Gs : List Fact} {x : Operand}
theorem OpdAll.args (s : St C B E a w) {l : List Operand} {m : List Fact} (h : OpdAll E l m) : ArgsOk (okB C (idsOf B)) w m (l.map a.eval) := by
  induction h with
  | nil => exact .nil
  | cons h t ih => exact .cons (s.arg h) ih
theorem ob_makeFn {xs ys : List Operand} (ho : o.op = .makeFunc (.func f) xs.toArray ys.toArray) (h1 : OpdAll E xs Fs) (h2 : OpdAll E ys Gs) : Ob P C B E o (cloF f Fs Gs) := fun a w s =>
  .value (w' := w) (v := .func (.func f) (xs.map a.eval).toArray (ys.map a.eval).toArray) (by simp [execOp, ho, Instr.makeFunc]) ⟨⟨_, _, rfl, h1.args s, h2.args s⟩, .refl _ _⟩
inductive Callee (E : Env) (f : FuncId) : Operand → List Fact → List Fact → Prop
  | direct : Callee E f (.func f) [] []
  | clo {x : Operand} {Fs Gs : List Fact} (h : Opd E x (cloF f Fs Gs)) : Callee E f x Fs Gs
  | fn {x : Operand} (h : Opd E x (is (.func (.func f) #[] #[]))) : Callee E f x [] []
theorem Callee.val (h : Callee E f x Fs Gs) (s : St C B E a w) : ∃ fs gs : List Value, a.eval x = .func (.func f) fs.toArray gs.toArray ∧ ArgsOk (okB C (idsOf B)) w Fs fs ∧ ArgsOk (okB C (idsOf B)) w Gs gs := by
  cases h with
  | direct => exact ⟨[], [], rfl, .nil, .nil⟩
  | clo h => exact s.arg h
  | fn h => exact ⟨[], [], s.arg h, .nil, .nil⟩
theorem run_callV {c : Go.Call} {ρ : Operand → Value} {ty : TypeId} {w : World} {fs gs : Array Value} (hc : c.callee = .value x) (hρ : ρ x = .func (.func f) fs gs) (hb : hasBody P f) :
    (do let d ← resolve ρ c ty; invoke d.target d.args : Sem Next).run P w = .ok (.enter f (fs ++ c.args.map ρ ++ gs)) w := by
  obtain ⟨fn, h1, h2, h3⟩ := hb
  simp only [resolve, hc, hρ, Deferred.ofValue, Sem.run_bind, Sem.run_pure, Result.andThen_ok, invoke, callFunc]
  have h2' : ¬ fn.body = none := by intro hn; rw [hn] at h2; cases h2
  have h3' : ¬ fn.name = "runtime.NumGoroutine" := by simpa using h3
  simp [program, Sem.run, h1, h2', h3']
theorem ob_callD {F : Fact} {argTypes : Array TypeId} {args : List Operand} (ho : o.op = .call { callee := .value x, args := args.toArray, argTypes := argTypes }) (hc : Callee E f x Fs Gs) (hb : hasBody P f)
    (hg : ∀ a w, St C B E a w → ∀ fs gs, ArgsOk (okB C (idsOf B)) w Fs fs → ArgsOk (okB C (idsOf B)) w Gs gs → Gives P f (fs ++ args.map a.eval ++ gs) (okB C (idsOf B)) w F) : Ob P C B E o F := fun a w h => by
  obtain ⟨fs, gs, e1, h1, h2⟩ := hc.val h
  unfold Does
  have e : (execOp a.eval o).run P w = .ok (.enter f (fs.toArray ++ args.toArray.map a.eval ++ gs.toArray)) w := by
    simp only [execOp, ho]; exact run_callV (c := { callee := .value x, args := args.toArray, argTypes := argTypes }) rfl e1 hb
  rw [e]
  have := hg a w h fs gs h1 h2
  unfold Gives at this
  have e2 : (fs ++ args.map a.eval ++ gs).toArray = fs.toArray ++ args.toArray.map a.eval ++ gs.toArray := by simp
  rw [e2] at this
  exact this.mono fun e w' ⟨v, he, hF, hv⟩ => ⟨v, he, F.mono hF (keep_okNew h), hv⟩
theorem ownL (s : St C (L ++ D) E a w) : ∀ q, q ∈ L → q.holds (okB C (idsOf (L ++ D))) w := fun q hq => s.own q (by simp [hq])
theorem disL (s : St C (L ++ D) E a w) : ∀ c, c ∈ idsOf L → ¬ okB C (idsOf (L ++ D)) c := fun c hc hn => hn.2 (by rw [idsOf_append, List.mem_append]; exact .inl hc)
theorem nodL (s : St C (L ++ D) E a w) : (idsOf L).Nodup := by
  have h := s.nod
  rw [idsOf_append, List.nodup_append] at h
  exact h.1
theorem ob_callL {γ : Type} {F : γ → Fact} {L' B' : γ → List OF} {argTypes : Array TypeId} {args : List Operand} (ho : o.op = .call { callee := .value x, args := args.toArray, argTypes := argTypes }) (hc : Callee E f x Fs Gs) (hb : hasBody P f)
    (p : B.Perm (L ++ D))
    (hg : ∀ a w, St C (L ++ D) E a w → ∀ fs gs, ArgsOk (okB C (idsOf (L ++ D))) w Fs fs → ArgsOk (okB C (idsOf (L ++ D))) w Gs gs → GivesX P f (fs ++ args.map a.eval ++ gs) (okB C (idsOf (L ++ D))) w L F L') (hB' : ∀ g, B' g = L' g ++ D) :
    ObX P C B E o B' F := fun a w h0 => by
  obtain rfl : B' = fun g => L' g ++ D := funext hB'
  have h := h0.perm p
  obtain ⟨fs, gs, e1, g1, g2⟩ := hc.val h
  unfold Does
  have e : (execOp a.eval o).run P w = .ok (.enter f (fs.toArray ++ args.toArray.map a.eval ++ gs.toArray)) w := by
    simp only [execOp, ho]; exact run_callV (c := { callee := .value x, args := args.toArray, argTypes := argTypes }) rfl e1 hb
  rw [e]
  have := hg a w h fs gs g1 g2
  unfold GivesX at this
  have e2 : (fs ++ args.map a.eval ++ gs).toArray = fs.toArray ++ args.toArray.map a.eval ++ gs.toArray := by simp
  rw [e2] at this
  have hnod := h.nod
  rw [idsOf_append, List.nodup_append] at hnod
  obtain ⟨n1, n2, n3⟩ := hnod
  refine this.mono fun e w' ⟨v, he, g, hF, hev, hn, hfr, hown⟩ => ⟨v, he, g, ?_, ?_⟩
  all_goals
    have kp : Keep (okOut (okB C (idsOf (L ++ D))) w (idsOf L) (idsOf (L' g))) (okB C (idsOf (L' g ++ D))) w' w' := by
      intro b _ ho
      refine ⟨rfl, ?_⟩
      by_cases hb : b < w.heap.size
      · have hnD : b ∉ idsOf D := fun hm => by
          rcases ho.1 hb with h5 | h5
          · exact h5.2 (by rw [idsOf_append, List.mem_append]; exact .inr hm)
          · exact n3 b h5 b hm rfl
        refine ⟨fun hc => ?_, ?_⟩
        · rcases ho.1 hb with h5 | h5
          · exact h5.1 hc
          · rcases h.fresh b (by rw [idsOf_append, List.mem_append]; exact .inl h5) with h6 | h6
            · omega
            · exact .inr h6
        · rw [idsOf_append, List.mem_append]
          rintro (hm | hm)
          · exact ho.2 hm
          · exact hnD hm
      · refine ⟨fun hc => absurd hc (by have := h.ev.size; omega), ?_⟩
        rw [idsOf_append, List.mem_append]
        rintro (hm | hm)
        · exact ho.2 hm
        · exact hb (h.lt (by rw [idsOf_append, List.mem_append]; exact .inr hm))
  · exact (F g).mono hF kp
  · exact h.turnAll hn (fun b hb => (hfr b hb).symm) hev (fun _ q hq => q.mono (hown q hq) kp (fun _ _ => rfl))
end
end Go.Proofs.Kit
end
