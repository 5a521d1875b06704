/- A kit of this claim's own, part 10: what comes in as data is of its kind; a law's row out of its function's contract. No condition. -/
import Derived.Test.YtdlnfgpcnfbjiaaKx9
import Derived.ProofKit
import Derived.OpenShut
import Derived.ShutString
import Derived.ChangeOld
import Derived.Deep.Slices
namespace Go.Proofs.Kit
open Go Go.RowKit Go.ChangeShapes Go.WideShapes
set_option linter.unusedSimpArgs false
set_option linter.unusedVariables false

/-- whatever reads as data of type T is of this kind -/
def RdK (P : Program) (T : TypeId) {α : Type} (k : Kd α) : Prop :=
  ∀ (H : Type) (enc : TypeId × Value → H) (w : World) (base : Nat) (spare : Nat → Bool) (held : Bool) (fuel : Nat) (cs : List Value) (x : DataW H × List MemPlace), DataW.trod enc P w base spare held fuel T cs = some x → ∃ y, k.rel (fun _ => True) w y cs

section
variable {P : Program} {T e : TypeId}

theorem has_of_wf {k : IntKind} {n : Int} (h : (Lit.int k n).wf = true) : k.has n := by
  simp only [Lit.wf, Bool.and_eq_true, decide_eq_true_eq] at h; exact h
theorem rd_int {ik : IntKind} (hT : P.underlying T = some (.int ik)) : RdK P T (kint ik) := fun H enc w base spare held fuel cs x h => by
  obtain ⟨n, h1, _, h2⟩ := DataW.trod_int hT h
  exact ⟨n, h1, has_of_wf h2⟩
theorem rd_str (hT : P.underlying T = some .string) : RdK P T kstr := fun H enc w base spare held fuel cs x h => by
  obtain ⟨s, h1, _, h2⟩ := DataW.trod_string hT h
  exact ⟨bl s, s, h1, rfl, h2⟩

theorem cellsOf_of {s : Nat} (h : (P.info? T).map (·.size) = some s) : P.cellsOf T = s := by
  cases hq : P.info? T with
  | none => simp [hq] at h
  | some i => have : i.size = s := by simpa [hq] using h
              simp [Program.cellsOf, hq, this]

theorem rd_arr {α : Type} {k : Kd α} {n : Nat} (hT : P.underlying T = some (.array n e)) (hs : (P.info? e).map (·.size) = some k.sz) (hS : (P.info? T).map (·.size) = some (n * k.sz)) (hk : RdK P e k) : RdK P T (karr n k) := fun H enc w base spare held fuel cs x h => by
  obtain ⟨xs, m, _, _, hl, hx, hi⟩ := DataW.trod_array hT h
  rw [cellsOf_of hS] at hl
  rw [cellsOf_of hs] at hi
  have key : ∀ j, j ≤ n → ∃ ys : List α, ys.length = j ∧ relL k (fun _ => True) w ys (cs.take (j * k.sz)) := by
    intro j
    induction j with
    | zero => exact fun _ => ⟨[], rfl, by simp [relL]⟩
    | succ j ih =>
      intro hj
      obtain ⟨ys, h1, h2⟩ := ih (by omega)
      have h3 := hi j (by omega)
      have h4 : xs[j]? = some (xs[j]'(by omega)) := List.getElem?_eq_getElem (by omega)
      rw [h4] at h3
      obtain ⟨y, h5⟩ := hk H enc w base spare held m _ _ h3
      refine ⟨ys ++ [y], by simp [h1], ?_⟩
      have h6 := relL_append h2 (show relL k (fun _ => True) w [y] ((cs.drop (j * k.sz)).take k.sz) from ⟨_, [], by simp, h5, rfl⟩)
      rwa [show cs.take ((j + 1) * k.sz) = cs.take (j * k.sz) ++ (cs.drop (j * k.sz)).take k.sz by rw [Nat.succ_mul, List.take_add]]
  obtain ⟨ys, h1, h2⟩ := key n (Nat.le_refl _)
  rw [List.take_of_length_le (by omega)] at h2
  exact ⟨ys, h1, h2⟩

theorem rd_sl {α : Type} {k : Kd α} (hT : P.underlying T = some (.slice e)) (hs : (P.info? e).map (·.size) = some k.sz) (hk : RdK P e k) : RdK P T (ksl k) := fun H enc w base spare held fuel cs x h => by
  rcases Go.Deep.open_slice hT h with ⟨rfl, _⟩ | ⟨a, len, cap, m, n, D, Pl, rfl, hb, hl, hm, hmm, _, hi⟩
  · exact ⟨[], none, 0, rfl, ⟨Nat.le_refl _, Nat.zero_le _⟩, fun _ => rfl, [], rfl, fun p hp => by cases hp⟩
  · rw [cellsOf_of hs] at hi
    have hlm : len ≤ m := by rw [hmm]; split <;> omega
    have key : ∀ j, j ≤ len → ∃ (ys : List α) (rs : List Value), ys.length = j ∧ relL k (fun _ => True) w ys rs ∧ ∀ i v, rs[i]? = some v → w.cell? (a.add i) = some v := by
      intro j
      induction j with
      | zero => exact fun _ => ⟨[], [], rfl, rfl, fun i v hv => by simp at hv⟩
      | succ j ih =>
        intro hj
        obtain ⟨ys, rs, h1, h2, h3⟩ := ih (by omega)
        obtain ⟨cs', h4, h5⟩ := hi j (by omega)
        obtain ⟨y, h6⟩ := hk H enc w base spare held n _ _ h5
        obtain ⟨_, h7, h8⟩ := World.cells?_some h4
        have hrl := relL_len h2
        refine ⟨ys ++ [y], rs ++ cs', by simp [h1], relL_append h2 ⟨cs', [], by simp, h6, rfl⟩, fun i v hv => ?_⟩
        by_cases hlt : i < rs.length
        · rw [List.getElem?_append_left hlt] at hv; exact h3 i v hv
        · rw [List.getElem?_append_right (by omega)] at hv
          have hlt2 : i - rs.length < k.sz := by
            have := (List.getElem?_eq_some_iff.1 hv).1; omega
          have := h8 (i - rs.length) hlt2
          rw [add_add, ← h1, ← hrl, show rs.length + (i - rs.length) = i by omega, hv] at this
          exact this
    obtain ⟨ys, rs, h1, h2, h3⟩ := key len (Nat.le_refl _)
    subst h1
    refine ⟨ys, some a, cap, rfl, ⟨hl, hm⟩, fun hn => (by cases hn), rs, h2, fun p hp => ?_⟩
    cases hp
    exact fun i v hv => ⟨h3 i v hv, trivial⟩

/-- .. a struct's fields from an offset on -/
def RdFs (P : Program) {α : Type} (k : Kd α) (off : Nat) (fs : List Field) : Prop :=
  ∀ (H : Type) (enc : TypeId × Value → H) (w : World) (base : Nat) (spare : Nat → Bool) (held : Bool) (n : Nat) (cs : List Value), cs.length = off + k.sz →
    (∀ f, f ∈ fs → ∃ x, DataW.trod enc P w base spare held n f.type ((cs.drop f.offset).take (P.cellsOf f.type)) = some x) → ∃ y, k.rel (fun _ => True) w y (cs.drop off)
theorem rdfs_nil {off : Nat} : RdFs P knil off [] := fun H enc w base spare held n cs hl h => ⟨(), List.drop_eq_nil_of_le (by rw [hl]; exact Nat.le_refl _)⟩
theorem rdfs_cons {α β : Type} {k : Kd α} {l : Kd β} {off : Nat} {f : Field} {fs : List Field} (ho : f.offset = off) (hs : (P.info? f.type).map (·.size) = some k.sz) (hk : RdK P f.type k) (h : RdFs P l (off + k.sz) fs) : RdFs P (kpair k l) off (f :: fs) :=
  fun H enc w base spare held n cs hl hf => by
    have hl' : cs.length = off + (k.sz + l.sz) := hl
    obtain ⟨x, hx⟩ := hf f (by simp)
    rw [cellsOf_of hs, ho] at hx
    obtain ⟨y, hy⟩ := hk H enc w base spare held n _ _ hx
    obtain ⟨z, hz⟩ := h H enc w base spare held n cs (by omega) (fun g hg => hf g (by simp [hg]))
    refine ⟨(y, z), (cs.drop off).take k.sz, cs.drop (off + k.sz), ?_, hy, hz⟩
    rw [← List.drop_drop, List.take_append_drop]
theorem rd_struct {α β : Type} {k : Kd β} {f : α → β} {g : β → α} {fs : Array Field} (hT : P.underlying T = some (.struct fs)) (hS : (P.info? T).map (·.size) = some k.sz) (hg : ∀ y, f (g y) = y) (h : RdFs P k 0 fs.toList) : RdK P T (kiso k f) :=
  fun H enc w base spare held fuel cs x hx => by
    obtain ⟨xs, n, _, _, hl, hlen, hi⟩ := DataW.trod_struct hT hx
    rw [cellsOf_of hS] at hl
    obtain ⟨y, hy⟩ := h H enc w base spare held n cs (by omega) (fun q hq => by
      obtain ⟨i, hi1, hi2⟩ := List.getElem_of_mem hq
      have hlt : i < fs.size := by simpa using hi1
      have h1 := hi i q (by rw [Array.getElem?_eq_getElem hlt]; simpa using hi2)
      have h2 : xs[i]? = some (xs[i]'(by omega)) := List.getElem?_eq_getElem (by omega)
      rw [h2] at h1
      exact ⟨_, h1⟩)
    refine ⟨g y, ?_⟩
    show k.rel _ w (f (g y)) cs
    rw [hg]; simpa using hy

/-- an argument that comes in -/
theorem arg_in {α : Type} {k : Kd α} {W : World} {r : Reach} {b base : Nat} {v : Value} {H : Type} {enc : TypeId × Value → H} {spare : Nat → Bool} {held : Bool} {d : DataW H} {p : List MemPlace} (rd : RdK P T k) (hag : (P.underlying T).map isAggD = some k.agg)
    (hsh : k.agg = false → v.oneCell' = true) (hok : Value.okWide P W r b T v) (h : DataW.Trod enc P W base spare held T v d p) : ∃ y, (k.V y).holds (fun _ => True) W v := by
  obtain ⟨fuel, hf⟩ := h
  obtain ⟨y, hy⟩ := rd H enc W base spare held fuel _ _ hf
  refine ⟨y, _, hy, ?_⟩
  cases ha : k.agg with
  | true =>
    cases hq : P.underlying T with
    | none => rw [hq] at hag; cases hag
    | some D =>
      rw [hq, ha] at hag
      have hD : isAggD D = true := by simpa using hag
      unfold Value.okWide at hok
      rw [hq] at hok
      cases D <;> simp [isAggD] at hD <;> (obtain ⟨cs, rfl, _⟩ := hok; rfl)
  | false =>
    have h1 := hsh ha
    cases v <;> first | rfl | (simp [Value.oneCell'] at h1)

theorem one_sl {W : World} {r : Reach} {b : Nat} {v : Value} (hT : P.underlying T = some (.slice e)) (h : Value.okWide P W r b T v) : v.oneCell' = true := by
  obtain ⟨a, l, c, rfl⟩ := okWide_slice hT h; rfl

/-- what a law's contract gives its row -/
theorem law_out {f : FuncId} {args : List Value} {W : World} (h : Gives P f args (fun _ => True) W (resFact [kbool.V true])) : Calls P f args.toArray W fun e W' => e = .returned (.bool true) ∧ Below W.heap.size W W' :=
  h.mono fun e W' ⟨v, he, hv, hev⟩ => ⟨by rw [he, V_bool.1 hv], hev.below⟩
end

end Go.Proofs.Kit
