/- A kit of this claim's own, part 1: what a frame's slots and the blocks that a call owns hold, as plain facts; kinds of data; one step of a region. No condition. -/
import Derived.WalkKit
import Derived.KernelRfl
import Derived.Orders
namespace Go.Proofs.Kit
open Go Go.RowKit
set_option linter.unusedSimpArgs false
set_option linter.unusedVariables false


abbrev Ok := Nat → Prop

/-- What satisfies 'ok' is as it was, and satisfies 'ok''. -/
def Keep (ok ok' : Ok) (w w' : World) : Prop := ∀ b, b < w.heap.size → ok b → w'.heap[b]? = w.heap[b]? ∧ ok' b

/-- From w to w': the blocks of 'M' may have turned, no other one. -/
structure Ev (M : List Nat) (w w' : World) : Prop where
  os : w'.os = w.os
  tape : w'.tape = w.tape
  output : w'.output = w.output
  size : w.heap.size ≤ w'.heap.size
  block : ∀ k, k < w.heap.size → k ∉ M → w'.heap[k]? = w.heap[k]?

theorem Ev.refl (M : List Nat) (w : World) : Ev M w w := ⟨rfl, rfl, rfl, Nat.le_refl _, fun _ _ _ => rfl⟩
theorem Ev.trans {M : List Nat} {a b c : World} (h : Ev M a b) (k : Ev M b c) : Ev M a c :=
  ⟨k.os.trans h.os, k.tape.trans h.tape, k.output.trans h.output, Nat.le_trans h.size k.size, fun i hi hM => (k.block i (Nat.lt_of_lt_of_le hi h.size) hM).trans (h.block i hi hM)⟩
theorem Ev.mono {M M' : List Nat} {a b : World} (h : Ev M a b) (hM : ∀ x, x ∈ M → x ∈ M') : Ev M' a b :=
  ⟨h.os, h.tape, h.output, h.size, fun i hi hn => h.block i hi (fun hx => hn (hM i hx))⟩
theorem Ev.below {a b : World} (h : Ev [] a b) : Below a.heap.size a b := ⟨h.os, h.tape, h.output, h.size, fun k hk => h.block k hk (by simp)⟩
theorem Ev.alloc (w : World) (o : Obj) : Ev [] w (w.alloc o) :=
  ⟨rfl, rfl, rfl, by show w.heap.size ≤ (w.heap.push o).size; simp, fun k hk _ => Below.heap_alloc w o k hk⟩
theorem Ev.drawn {w : World} (n : Nat) : Ev [] w { w with drawn := n } := ⟨rfl, rfl, rfl, Nat.le_refl _, fun _ _ _ => rfl⟩
theorem Keep.refl (ok : Ok) (w : World) : Keep ok ok w w := fun _ _ h => ⟨rfl, h⟩
theorem Keep.of_ev {ok : Ok} {M : List Nat} {w w' : World} (h : Ev M w w') (hM : ∀ b, ok b → b ∉ M) : Keep ok ok w w' :=
  fun b hb ho => ⟨h.block b hb (hM b ho), ho⟩
theorem Keep.of_ev_nil {ok : Ok} {w w' : World} (h : Ev [] w w') : Keep ok ok w w' := fun b hb ho => ⟨h.block b hb (by simp), ho⟩

theorem cell_of_heap {w w' : World} {p : Addr} (h : w'.heap[p.block]? = w.heap[p.block]?) : w'.cell? p = w.cell? p := World.cell?_of_block (w := w) h

theorem Keep.cell {ok ok' : Ok} {w w' : World} (h : Keep ok ok' w w') {p : Addr} {v : Value} (hc : w.cell? p = some v) (ho : ok p.block) : w'.cell? p = some v := by
  rw [cell_of_heap (h p.block (block_lt_of_cell hc) ho).1, hc]


structure Fact where
  holds : Ok → World → Value → Prop
  mono : ∀ {ok ok' w w' v}, holds ok w v → Keep ok ok' w w' → holds ok' w' v

/-- just this value -/
def is (x : Value) : Fact := ⟨fun _ _ v => v = x, fun h _ => h⟩
/-- under a condition -/
def Fact.when (b : Bool) (F : Fact) : Fact := ⟨fun ok w v => (b = true → F.holds ok w v) ∧ (b = false → v = undef), fun h k => ⟨fun hb => F.mono (h.1 hb) k, h.2⟩⟩
def nofact : Fact := ⟨fun _ _ _ => True, fun _ _ => trivial⟩


structure Kd (α : Type) where
  sz : Nat
  agg : Bool
  rel : Ok → World → α → List Value → Prop
  len : ∀ {ok w x cs}, rel ok w x cs → cs.length = sz
  one : ∀ {ok w x cs}, rel ok w x cs → agg = false → ∃ v, cs = [v] ∧ v.cells = #[v]
  cell1 : ∀ {ok w x cs}, rel ok w x cs → ∀ v, v ∈ cs → v.oneCell' = true
  mono : ∀ {ok ok' w w' x cs}, rel ok w x cs → Keep ok ok' w w' → rel ok' w' x cs

/-- cells as a value -/
def mkv (agg : Bool) (cs : List Value) : Value := if agg then .agg cs.toArray else cs.headD undef

def Kd.V {α : Type} (k : Kd α) (x : α) : Fact := ⟨fun ok w v => ∃ cs, k.rel ok w x cs ∧ v = mkv k.agg cs, fun ⟨cs, h, e⟩ kp => ⟨cs, k.mono h kp, e⟩⟩

theorem Kd.cells {α : Type} {k : Kd α} {x : α} {ok : Ok} {w : World} {cs : List Value} (h : k.rel ok w x cs) : (mkv k.agg cs).cells.toList = cs := by
  unfold mkv
  cases ha : k.agg with
  | true => rfl
  | false => obtain ⟨v, rfl, hv⟩ := k.one h ha; simp [hv]

theorem Kd.V_rel {α : Type} {k : Kd α} {x : α} {ok : Ok} {w : World} {v : Value} (h : (k.V x).holds ok w v) : k.rel ok w x v.cells.toList := by
  obtain ⟨cs, h, rfl⟩ := h; rw [Kd.cells h]; exact h

def kint (ik : IntKind) : Kd Int := ⟨1, false, fun _ _ n cs => cs = [.int ik n] ∧ ik.has n, fun h => by simp [h.1], fun h _ => ⟨_, h.1, rfl⟩, fun h v hv => by rw [h.1] at hv; simp at hv; subst hv; rfl, fun h _ => h⟩
def kbool : Kd Bool := ⟨1, false, fun _ _ b cs => cs = [.bool b], fun h => by simp [h], fun h _ => ⟨_, h, rfl⟩, fun h v hv => by rw [h] at hv; simp at hv; subst hv; rfl, fun h _ => h⟩
/-- a string's bytes as numbers -/
def bl (s : ByteArray) : List Int := s.data.toList.map fun u => (u.toNat : Int)
def kstr : Kd (List Int) := ⟨1, false, fun _ _ l cs => ∃ s, cs = [.string s] ∧ l = bl s ∧ s.size ≤ maxLen, fun ⟨_, h, _⟩ => by simp [h], fun ⟨_, h, _⟩ _ => ⟨_, h, rfl⟩, fun ⟨_, h, _⟩ v hv => by rw [h] at hv; simp at hv; subst hv; rfl, fun h _ => h⟩
theorem V_int {ik : IntKind} {n : Int} {ok : Ok} {w : World} {v : Value} : ((kint ik).V n).holds ok w v ↔ v = .int ik n ∧ ik.has n :=
  ⟨fun ⟨_, h, e⟩ => by rw [e, h.1]; exact ⟨rfl, h.2⟩, fun h => ⟨_, ⟨rfl, h.2⟩, h.1⟩⟩
theorem V_bool {n : Bool} {ok : Ok} {w : World} {v : Value} : (kbool.V n).holds ok w v ↔ v = .bool n :=
  ⟨fun ⟨_, h, e⟩ => by rw [e, h]; rfl, fun h => ⟨_, rfl, h⟩⟩
theorem V_str {l : List Int} {ok : Ok} {w : World} {v : Value} : (kstr.V l).holds ok w v ↔ ∃ s, v = .string s ∧ l = bl s ∧ s.size ≤ maxLen :=
  ⟨fun ⟨_, ⟨s, h, h2⟩, e⟩ => ⟨s, by rw [e, h]; rfl, h2⟩, fun ⟨s, h, h2⟩ => ⟨_, ⟨s, rfl, h2⟩, h⟩⟩

theorem bl_length (s : ByteArray) : (bl s).length = s.size := by simp [bl]
theorem bl_range {s : ByteArray} {i : Nat} {n : Int} (h : (bl s)[i]? = some n) : 0 ≤ n ∧ n < 256 := by
  unfold bl at h
  rw [List.getElem?_map] at h
  cases hx : s.data.toList[i]? with
  | none => rw [hx] at h; simp at h
  | some u => rw [hx] at h; simp at h; subst h; have := u.toNat_lt; omega

/-- nothing: a struct's end -/
def knil : Kd Unit := ⟨0, true, fun _ _ _ cs => cs = [], fun h => by simp [h], fun _ h => by simp at h, fun h v hv => (by rw [h] at hv; cases hv), fun h _ => h⟩

def kpair {α β : Type} (k : Kd α) (l : Kd β) : Kd (α × β) where
  sz := k.sz + l.sz
  agg := true
  rel ok w x cs := ∃ c d, cs = c ++ d ∧ k.rel ok w x.1 c ∧ l.rel ok w x.2 d
  len := by rintro ok w x cs ⟨c, d, rfl, h1, h2⟩; simp [k.len h1, l.len h2]
  one := by intro _ _ _ _ _ h; simp at h
  cell1 := by
    rintro ok w x cs ⟨c, d, rfl, h1, h2⟩ v hv
    rcases List.mem_append.1 hv with h | h
    · exact k.cell1 h1 v h
    · exact l.cell1 h2 v h
  mono := by rintro _ _ _ _ x cs ⟨c, d, rfl, h1, h2⟩ kp; exact ⟨c, d, rfl, k.mono h1 kp, l.mono h2 kp⟩

/-- a struct by way of its parts -/
def kiso {α β : Type} (k : Kd β) (f : α → β) : Kd α where
  sz := k.sz
  agg := k.agg
  rel ok w x cs := k.rel ok w (f x) cs
  len := k.len
  one := k.one
  cell1 := k.cell1
  mono := k.mono

/-- elements, one behind the other -/
def relL {α : Type} (k : Kd α) (ok : Ok) (w : World) : List α → List Value → Prop
  | [], cs => cs = []
  | x :: xs, cs => ∃ c d, cs = c ++ d ∧ k.rel ok w x c ∧ relL k ok w xs d

section
variable {α : Type} {k : Kd α} {ok ok' : Ok} {w w' : World}

theorem relL_len {xs : List α} {cs : List Value} (h : relL k ok w xs cs) : cs.length = xs.length * k.sz := by
  induction xs generalizing cs with
  | nil => simp [relL] at h; simp [h]
  | cons x xs ih => obtain ⟨c, d, rfl, h1, h2⟩ := h; simp [k.len h1, ih h2, Nat.succ_mul, Nat.add_comm]

theorem relL_mono {xs : List α} {cs : List Value} (h : relL k ok w xs cs) (kp : Keep ok ok' w w') : relL k ok' w' xs cs := by
  induction xs generalizing cs with
  | nil => exact h
  | cons x xs ih => obtain ⟨c, d, rfl, h1, h2⟩ := h; exact ⟨c, d, rfl, k.mono h1 kp, ih h2⟩

theorem relL_cell1 {xs : List α} {cs : List Value} (h : relL k ok w xs cs) : ∀ v, v ∈ cs → v.oneCell' = true := by
  induction xs generalizing cs with
  | nil => simp [relL] at h; simp [h]
  | cons x xs ih =>
    obtain ⟨c, d, rfl, h1, h2⟩ := h
    intro v hv
    rcases List.mem_append.1 hv with h | h
    · exact k.cell1 h1 v h
    · exact ih h2 v h

theorem relL_append {xs ys : List α} {cs ds : List Value} (h : relL k ok w xs cs) (h' : relL k ok w ys ds) : relL k ok w (xs ++ ys) (cs ++ ds) := by
  induction xs generalizing cs with
  | nil => simp only [relL] at h; subst h; exact h'
  | cons x xs ih => obtain ⟨c, d, rfl, h1, h2⟩ := h; exact ⟨c, d ++ ds, by simp, h1, ih h2⟩

theorem relL_get {xs : List α} {cs : List Value} (h : relL k ok w xs cs) {i : Nat} {x : α} (hi : xs[i]? = some x) : k.rel ok w x ((cs.drop (i * k.sz)).take k.sz) := by
  induction xs generalizing cs i with
  | nil => simp at hi
  | cons y xs ih =>
    obtain ⟨c, d, rfl, h1, h2⟩ := h
    have hc := k.len h1
    cases i with
    | zero =>
      simp at hi; subst hi
      simpa [List.take_append_of_le_length (Nat.le_of_eq hc.symm), List.take_of_length_le (Nat.le_of_eq hc)] using h1
    | succ i =>
      have := ih h2 (i := i) (by simpa using hi)
      rw [show (i + 1) * k.sz = c.length + i * k.sz by rw [hc, Nat.succ_mul, Nat.add_comm]]
      simpa [List.drop_append, List.drop_eq_nil_of_le] using this

theorem relL_split {xs : List α} {cs : List Value} (h : relL k ok w xs cs) (n : Nat) : relL k ok w (xs.take n) (cs.take (n * k.sz)) ∧ relL k ok w (xs.drop n) (cs.drop (n * k.sz)) := by
  induction xs generalizing cs n with
  | nil => simp only [relL] at h; subst h; simp [relL]
  | cons y xs ih =>
    cases n with
    | zero => simpa [relL] using h
    | succ n =>
      obtain ⟨c, d, rfl, h1, h2⟩ := h
      have hc := k.len h1
      have e : (n + 1) * k.sz = c.length + n * k.sz := by rw [hc, Nat.succ_mul, Nat.add_comm]
      obtain ⟨g1, g2⟩ := ih h2 n
      rw [e]
      refine ⟨⟨c, d.take (n * k.sz), ?_, h1, g1⟩, by simpa [List.drop_append, List.drop_eq_nil_of_le] using g2⟩
      rw [List.take_append]; simp [List.take_of_length_le]

theorem relL_set {xs : List α} {cs ds : List Value} {y : α} (h : relL k ok w xs cs) (hy : k.rel ok w y ds) {i : Nat} (hi : i < xs.length) :
    relL k ok w (xs.set i y) (cs.take (i * k.sz) ++ ds ++ cs.drop (i * k.sz + k.sz)) := by
  induction xs generalizing cs i with
  | nil => simp at hi
  | cons x xs ih =>
    obtain ⟨c, d, rfl, h1, h2⟩ := h
    have hc := k.len h1
    cases i with
    | zero =>
      refine ⟨ds, d, ?_, hy, h2⟩
      rw [Nat.zero_mul, Nat.zero_add, ← hc]
      simp
    | succ i =>
      have := ih h2 (i := i) (by simpa using hi)
      refine ⟨c, _, ?_, h1, this⟩
      have e : (i + 1) * k.sz = c.length + i * k.sz := by rw [hc, Nat.succ_mul, Nat.add_comm]
      rw [e, Nat.add_assoc, List.drop_append, List.take_append]
      simp [List.take_of_length_le]
end

/-- an array -/
def karr {α : Type} (n : Nat) (k : Kd α) : Kd (List α) where
  sz := n * k.sz
  agg := true
  rel ok w xs cs := xs.length = n ∧ relL k ok w xs cs
  len := by rintro ok w xs cs ⟨h1, h2⟩; rw [relL_len h2, h1]
  one := by intro _ _ _ _ _ h; simp at h
  cell1 := by rintro ok w xs cs ⟨h1, h2⟩; exact relL_cell1 h2
  mono := by rintro _ _ _ _ x cs ⟨h1, h2⟩ kp; exact ⟨h1, relL_mono h2 kp⟩

/-- cells in memory from an address on -/
def cellsAt (ok : Ok) (w : World) (a : Addr) (cs : List Value) : Prop := ∀ j v, cs[j]? = some v → w.cell? (a.add j) = some v ∧ ok a.block

theorem add_block (a : Addr) (n : Nat) : (a.add n).block = a.block := by unfold Addr.add; split <;> rfl
theorem add_add (a : Addr) (m n : Nat) : (a.add m).add n = a.add (m + n) := by
  unfold Addr.add
  by_cases hm : m = 0
  · subst hm; simp
  · by_cases hn : n = 0
    · subst hn; simp
    · rw [if_neg hm, if_neg hn, if_neg (by omega)]; simp [Nat.add_assoc]

theorem cellsAt_mono {ok ok' : Ok} {w w' : World} {a : Addr} {cs : List Value} (h : cellsAt ok w a cs) (kp : Keep ok ok' w w') : cellsAt ok' w' a cs := by
  intro j v hj
  obtain ⟨h1, h2⟩ := h j v hj
  have hb : a.block < w.heap.size := by have := block_lt_of_cell h1; rwa [add_block] at this
  exact ⟨kp.cell h1 (by rwa [add_block]), (kp a.block hb h2).2⟩

theorem cellsAt_take_drop {ok : Ok} {w : World} {a : Addr} {cs : List Value} (h : cellsAt ok w a cs) (i n : Nat) : cellsAt ok w (a.add i) ((cs.drop i).take n) := by
  intro j v hj
  have hj' : cs[i + j]? = some v := by
    by_cases hn : j < n
    · rwa [List.getElem?_take_of_lt hn, List.getElem?_drop] at hj
    · rw [List.getElem?_eq_none (by simp; omega)] at hj; cases hj
  have := h _ _ hj'
  rw [add_add, add_block]
  exact this

/-- a slice; its elements lie in memory that nobody writes (what satisfies 'ok') -/
def ksl {α : Type} (k : Kd α) : Kd (List α) where
  sz := 1
  agg := false
  rel ok w xs cs := ∃ a cap, cs = [.slice a xs.length cap] ∧ (xs.length ≤ cap ∧ cap ≤ maxLen) ∧ (a = none → cap = 0) ∧ ∃ rs, relL k ok w xs rs ∧ ∀ p, a = some p → cellsAt ok w p rs
  len := by rintro ok w xs cs ⟨a, cap, rfl, _⟩; rfl
  one := by rintro ok w xs cs ⟨a, cap, rfl, _⟩ _; exact ⟨_, rfl, rfl⟩
  cell1 := by rintro ok w xs cs ⟨a, cap, rfl, _⟩ v hv; simp at hv; subst hv; rfl
  mono := by
    rintro _ _ _ _ x cs ⟨a, cap, rfl, h1, h2, rs, h3, h4⟩ kp
    exact ⟨a, cap, rfl, h1, h2, rs, relL_mono h3 kp, fun p hp => cellsAt_mono (h4 p hp) kp⟩

theorem V_sl {α : Type} {k : Kd α} {xs : List α} {ok : Ok} {w : World} {v : Value} (h : ((ksl k).V xs).holds ok w v) :
    ∃ a cap, v = .slice a xs.length cap ∧ (xs.length ≤ cap ∧ cap ≤ maxLen) ∧ (a = none → cap = 0) ∧ ∃ rs, relL k ok w xs rs ∧ ∀ p, a = some p → cellsAt ok w p rs := by
  obtain ⟨cs, ⟨a, cap, rfl, h⟩, e⟩ := h
  exact ⟨a, cap, e, h⟩

/-- a pointer to what nobody writes -/
def ptrTo {α : Type} (k : Kd α) (x : α) : Fact where
  holds ok w v := ∃ p cs, v = .pointer (some p) ∧ cellsAt ok w p cs ∧ k.rel ok w x cs
  mono := by rintro _ _ _ _ v ⟨p, cs, h1, h2, h3⟩ kp; exact ⟨p, cs, h1, cellsAt_mono h2 kp, k.mono h3 kp⟩

/-- several results -/
def tup : List Fact → Fact
  | l => ⟨fun ok w v => ∃ vs : List Value, v = .tuple vs.toArray ∧ vs.length = l.length ∧ ∀ (i : Nat) (F : Fact) (u : Value), l[i]? = some F → vs[i]? = some u → F.holds ok w u,
      fun ⟨vs, h1, h2, h3⟩ kp => ⟨vs, h1, h2, fun i (F : Fact) u hF hu => F.mono (h3 i F u hF hu) kp⟩⟩


structure OF where
  ids : List Nat
  holds : Ok → World → Prop
  lt : ∀ {ok w}, holds ok w → ∀ b, b ∈ ids → b < w.heap.size
  mono : ∀ {ok ok' w w'}, holds ok w → Keep ok ok' w w' → (∀ b, b ∈ ids → w'.heap[b]? = w.heap[b]?) → holds ok' w'

theorem lt_of_heap {w : World} {b : Nat} {o : Obj} (h : w.heap[b]? = some o) : b < w.heap.size := by
  rcases Nat.lt_or_ge b w.heap.size with hb | hb
  · exact hb
  · rw [Array.getElem?_eq_none hb] at h; cases h

/-- a variable's block -/
def BF (b : Nat) (T : TypeId) {α : Type} (k : Kd α) (x : α) : OF where
  ids := [b]
  holds ok w := ∃ cs, w.heap[b]? = some (.cells cs.toArray T (0, 0)) ∧ k.rel ok w x cs
  lt := by rintro ok w ⟨cs, h, _⟩ c hc; simp at hc; subst hc; exact lt_of_heap h
  mono := by rintro ok ok' w w' ⟨cs, h1, h2⟩ kp hs; exact ⟨cs, (hs b (by simp)).trans h1, k.mono h2 kp⟩

def idsOf : List OF → List Nat
  | [] => []
  | f :: l => f.ids ++ idsOf l

theorem mem_idsOf {B : List OF} {f : OF} (hf : f ∈ B) {b : Nat} (hb : b ∈ f.ids) : b ∈ idsOf B := by
  induction B with
  | nil => cases hf
  | cons g B ih =>
    simp only [idsOf, List.mem_append]
    cases hf with
    | head => exact .inl hb
    | tail _ h => exact .inr (ih h)

theorem of_mem_idsOf {B : List OF} {b : Nat} (hb : b ∈ idsOf B) : ∃ f, f ∈ B ∧ b ∈ f.ids := by
  induction B with
  | nil => cases hb
  | cons g B ih =>
    simp only [idsOf, List.mem_append] at hb
    rcases hb with h | h
    · exact ⟨g, by simp, h⟩
    · obtain ⟨f, h1, h2⟩ := ih h; exact ⟨f, by simp [h1], h2⟩


structure Ctx where
  N : Nat
  w0 : World
  ok0 : Ok
  M0 : List Nat

def okB (C : Ctx) (ids : List Nat) : Ok := fun n => (n < C.w0.heap.size → C.ok0 n ∨ n ∈ C.M0) ∧ n ∉ ids

def sl (a : Act) (t : Nat) : Value := a.tmps.getD t undef

abbrev Env := List (Nat × Fact)

def get : Env → Nat → Option Fact
  | [], _ => none
  | (u, F) :: E, t => if u = t then some F else get E t

structure St (C : Ctx) (B : List OF) (E : Env) (a : Act) (w : World) : Prop where
  size : a.tmps.size = C.N
  dfr : a.defers = []
  nod : (idsOf B).Nodup
  fresh : ∀ b, b ∈ idsOf B → C.w0.heap.size ≤ b ∨ b ∈ C.M0
  ev : Ev C.M0 C.w0 w
  own : ∀ f, f ∈ B → f.holds (okB C (idsOf B)) w
  env : ∀ t F, get E t = some F → F.holds (okB C (idsOf B)) w (sl a t)

section
variable {C : Ctx} {B : List OF} {E : Env} {a : Act} {w w' : World}

theorem St.lt (h : St C B E a w) {b : Nat} (hb : b ∈ idsOf B) : b < w.heap.size := by
  obtain ⟨f, h1, h2⟩ := of_mem_idsOf hb
  exact f.lt (h.own f h1) b h2

/-- the world goes on: what is owned is as it was, and so is all that is looked at -/
theorem St.grow (h : St C B E a w) (e : Ev [] w w') : St C B E a w' :=
  { h with
    ev := h.ev.trans (e.mono (by simp))
    own := fun f hf => f.mono (h.own f hf) (.of_ev_nil e) (fun b hb => e.block b (f.lt (h.own f hf) b hb) (by simp))
    env := fun t F ht => F.mono (h.env t F ht) (.of_ev_nil e) }

theorem sl_put (a : Act) (d t : Nat) (v : Value) (hd : d < a.tmps.size) : sl (a.put (some d) v) t = if d = t then v else sl a t := by
  unfold sl Act.put
  by_cases h : d = t
  · subst h; simp [hd]
  · simp [h, Array.getElem?_setIfInBounds_ne h]

theorem sl_put_ne (a : Act) {d t : Nat} (v : Value) (h : d ≠ t) : sl (a.put (some d) v) t = sl a t := by
  unfold sl Act.put; simp [Array.getElem?_setIfInBounds_ne h]

theorem size_put (a : Act) (d : Option Tmp) (v : Value) : (a.put d v).tmps.size = a.tmps.size := by cases d <;> simp [Act.put]
theorem defers_put (a : Act) (d : Option Tmp) (v : Value) : (a.put d v).defers = a.defers := by cases d <;> rfl

theorem St.put (h : St C B E a w) {d : Nat} (hd : d < C.N) {F : Fact} {v : Value} (hv : F.holds (okB C (idsOf B)) w v) : St C B ((d, F) :: E) (a.put (some d) v) w :=
  { h with
    size := by rw [size_put, h.size]
    dfr := by rw [defers_put, h.dfr]
    env := fun t G ht => by
      rw [sl_put a d t v (by rw [h.size]; exact hd)]
      simp only [get] at ht
      by_cases e : d = t
      · rw [if_pos e] at ht ⊢; cases ht; exact hv
      · rw [if_neg e] at ht ⊢; exact h.env t G ht }

/-- some of the facts -/
def Sub (E' E : Env) : Prop := ∀ t F, get E' t = some F → get E t = some F
theorem Sub.nil {E : Env} : Sub [] E := fun _ _ h => by cases h
theorem Sub.cons {E E' : Env} {t : Nat} {F : Fact} (h : get E t = some F) (k : Sub E' E) : Sub ((t, F) :: E') E := fun u G hu => by
  simp only [get] at hu
  by_cases e : t = u
  · rw [if_pos e] at hu; cases hu; subst e; exact h
  · rw [if_neg e] at hu; exact k u G hu
theorem St.sub (h : St C B E a w) {E' : Env} (s : Sub E' E) : St C B E' a w := { h with env := fun t F ht => h.env t F (s t F ht) }

/-- a fact on a fixed value, kept beside the slots -/
def known (v : Value) (F : Fact) : Fact := ⟨fun ok w _ => F.holds ok w v, fun h k => F.mono h k⟩

/-- an operand's fact -/
inductive Opd (E : Env) : Operand → Fact → Prop
  | tmp {t : Nat} {F : Fact} (h : get E t = some F) : Opd E (.tmp t) F
  | const {v : Value} {F : Fact} (h : ∀ ok w, F.holds ok w v) : Opd E (.const v) F
  | func {f : FuncId} : Opd E (.func f) (is (.func (.func f) #[] #[]))
  | global {g : Nat} : Opd E (.global g) (is (.pointer (some ⟨g, 0, none⟩)))
  | kept {x : Operand} {v : Value} {t : Nat} {F : Fact} (hx : ∀ a : Act, a.eval x = v) (h : get E t = some (known v F)) : Opd E x F
  | conv {x : Operand} {F G : Fact} (h : Opd E x F) (e : ∀ ok w v, F.holds ok w v → G.holds ok w v) : Opd E x G

theorem St.arg (h : St C B E a w) {x : Operand} {F : Fact} (o : Opd E x F) : F.holds (okB C (idsOf B)) w (a.eval x) := by
  induction o with
  | tmp ht => exact h.env _ _ ht
  | const hv => exact hv _ _
  | func => rfl
  | global => rfl
  | kept hx ht => rw [hx]; exact h.env _ _ ht
  | conv _ e ih => exact e _ _ _ ih
end

/-- whatever a new block is: it is one more that is owned -/
theorem St.new {C : Ctx} {B : List OF} {E : Env} {a : Act} {w : World} (h : St C B E a w) (o : Obj) {G : OF} (hi : G.ids = [w.heap.size]) (hG : Keep (okB C (idsOf B)) (okB C (idsOf (G :: B))) w (w.alloc o) → G.holds (okB C (idsOf (G :: B))) (w.alloc o)) : St C (G :: B) E a (w.alloc o) := by
  have hids : idsOf (G :: B) = w.heap.size :: idsOf B := by simp [idsOf, hi]
  have kp : Keep (okB C (idsOf B)) (okB C (idsOf (G :: B))) w (w.alloc o) := by
    intro b hb ho
    refine ⟨Below.heap_alloc w o b hb, ho.1, ?_⟩
    rw [hids]
    intro hm
    rcases List.mem_cons.1 hm with e | hm
    · omega
    · exact ho.2 hm
  refine { size := h.size, dfr := h.dfr, nod := ?_, fresh := ?_, ev := h.ev.trans ((Ev.alloc w o).mono (by simp)), own := ?_, env := fun t F ht => F.mono (h.env t F ht) kp }
  · rw [hids]; exact List.nodup_cons.2 ⟨fun hm => absurd (h.lt hm) (by omega), h.nod⟩
  · rw [hids]; intro b hb
    rcases List.mem_cons.1 hb with e | hm
    · exact .inl (by rw [e]; exact h.ev.size)
    · exact h.fresh b hm
  · intro f hf
    rcases List.mem_cons.1 hf with e | hm
    · rw [e]; exact hG kp
    · exact f.mono (h.own f hm) kp (fun b hb => Below.heap_alloc w o b (f.lt (h.own f hm) b hb))

theorem idsOf_append (A B : List OF) : idsOf (A ++ B) = idsOf A ++ idsOf B := by induction A <;> simp_all [idsOf]

/-- what is owned in one place turns: the others stay -/
theorem St.turn {C : Ctx} {A B : List OF} {f g : OF} {E : Env} {a : Act} {w w' : World} (h : St C (A ++ f :: B) E a w) (hi : g.ids = f.ids) (e : Ev f.ids w w') (hg : Keep (okB C (idsOf (A ++ f :: B))) (okB C (idsOf (A ++ f :: B))) w w' → g.holds (okB C (idsOf (A ++ f :: B))) w') :
    St C (A ++ g :: B) E a w' := by
  have hids : idsOf (A ++ g :: B) = idsOf (A ++ f :: B) := by simp [idsOf_append, idsOf, hi]
  have hin : ∀ b, b ∈ f.ids → b ∈ idsOf (A ++ f :: B) := fun b hb => mem_idsOf (f := f) (by simp) hb
  have kp : Keep (okB C (idsOf (A ++ f :: B))) (okB C (idsOf (A ++ f :: B))) w w' := .of_ev e (fun b hb hm => hb.2 (hin b hm))
  have hnod := h.nod
  rw [idsOf_append] at hnod
  have hnod' : (idsOf A ++ (f.ids ++ idsOf B)).Nodup := hnod
  refine { size := h.size, dfr := h.dfr, nod := by rw [hids]; exact h.nod, fresh := by rw [hids]; exact h.fresh, ev := ?_, own := ?_, env := fun t F ht => by rw [hids]; exact F.mono (h.env t F ht) kp }
  · refine ⟨e.os.trans h.ev.os, e.tape.trans h.ev.tape, e.output.trans h.ev.output, Nat.le_trans h.ev.size e.size, fun k hk hM => ?_⟩
    rw [e.block k (Nat.lt_of_lt_of_le hk h.ev.size) ?_, h.ev.block k hk hM]
    intro hm
    rcases h.fresh k (hin k hm) with h1 | h1
    · omega
    · exact hM h1
  · intro q hq
    rw [hids]
    have other : ∀ q, q ∈ A ∨ q ∈ B → q.holds (okB C (idsOf (A ++ f :: B))) w' := by
      intro q hq
      have hqm : q ∈ A ++ f :: B := by rcases hq with h1 | h1 <;> simp [h1]
      refine q.mono (h.own q hqm) kp (fun b hb => e.block b (q.lt (h.own q hqm) b hb) ?_)
      intro hbf
      rw [List.nodup_append] at hnod'
      obtain ⟨_, h2, h3⟩ := hnod'
      rcases hq with h1 | h1
      · exact h3 b (mem_idsOf h1 hb) b (by simp [hbf]) rfl
      · rw [List.nodup_append] at h2
        exact h2.2.2 b hbf b (mem_idsOf h1 hb) rfl
    rcases List.mem_append.1 hq with h1 | h1
    · exact other q (.inl h1)
    · rcases List.mem_cons.1 h1 with h2 | h2
      · rw [h2]; exact hg kp
      · exact other q (.inr h2)

/-- what is owned in one place is let go -/
theorem St.drop {C : Ctx} {A B : List OF} {f : OF} {E : Env} {a : Act} {w : World} (h : St C (A ++ f :: B) E a w) : St C (A ++ B) E a w := by
  have hsub : ∀ b, b ∈ idsOf (A ++ B) → b ∈ idsOf (A ++ f :: B) := by
    intro b hb; simp only [idsOf_append, idsOf, List.mem_append] at hb ⊢; rcases hb with h1 | h1 <;> simp [h1]
  have kp : Keep (okB C (idsOf (A ++ f :: B))) (okB C (idsOf (A ++ B))) w w := fun b _ ho => ⟨rfl, ho.1, fun hm => ho.2 (hsub b hm)⟩
  refine { size := h.size, dfr := h.dfr, nod := ?_, fresh := fun b hb => h.fresh b (hsub b hb), ev := h.ev, own := ?_, env := fun t F ht => F.mono (h.env t F ht) kp }
  · have hn := h.nod
    simp only [idsOf_append, idsOf] at hn ⊢
    exact hn.sublist (List.Sublist.append (List.Sublist.refl _) (List.sublist_append_right _ _))
  · intro q hq
    exact q.mono (h.own q (by rcases List.mem_append.1 hq with h1 | h1 <;> simp [h1])) kp (fun _ _ => rfl)

end Go.Proofs.Kit
