/- A kit of this claim's own, part 9: the rest that the printed proofs use. No condition. -/
import Derived.Test.YtdlnfgpcnfbjiaaKx8
namespace Go.Proofs.Kit
open Go Go.RowKit
set_option linter.unusedSimpArgs false
set_option linter.unusedVariables false

/-- how much a text or a row that grows may come to (in the plain functions): above it 'none' -/
def lim : Nat := 2147483648

/-- facts on an element type that 'append' asks -/
structure ApOk (P : Program) (e : TypeId) {β : Type} (k : Kd β) (zs : List Value) : Prop where
  zero : ((P.info? e).bind (·.zero)) = some (mkv k.agg zs)
  size : (P.info? e).map (·.size) = some k.sz
  bytes : ((P.info? e).map fun i => decide (i.bytes ≤ 65536)) = some true

section
variable {P : Program} {C : Ctx} {E : Env} {o : Oper} {β : Type} {k : Kd β} {T T' e : TypeId} {x y : Operand} {A D B : List OF}

theorem ob_appendL {v : Value} {xs ys : List β} {y0 : β} {zs : List Value} (ho : o.op = .call { callee := .builtin .append, args := #[x, y], argTypes := #[T, T] }) (hT : P.underlying T = some (.slice e)) (ap : ApOk P e k zs) (hz : Zr k y0 zs)
    (hsz : 0 < k.sz) (_h : True) (hx : Opd E x (is v)) (hy : Opd E y ((ksl k).V ys)) (hB : B = A ++ RowF v e k xs :: D) (hb : xs.length + ys.length ≤ lim) :
    ObX P C B E o (fun g => A ++ RowF g e k (xs ++ ys) :: D) (fun g => is g) := by
  obtain ⟨i, hi⟩ : ∃ i, P.info? e = some i := by
    have := ap.size
    cases hq : P.info? e with
    | none => rw [hq] at this; cases this
    | some i => exact ⟨i, rfl⟩
  have h1 : i.zero = some (mkv k.agg zs) := by simpa [hi] using ap.zero
  have h2 : i.size = k.sz := by simpa [hi] using ap.size
  have h3 : i.bytes ≤ 65536 := by simpa [hi] using ap.bytes
  have h4 : (mkv k.agg zs).cells.size = k.sz := by
    have a := Kd.cells (hz (fun _ => True) default)
    have b := k.len (hz (fun _ => True) default)
    rw [← a] at b; simpa using b
  unfold lim at hb
  refine ob_append ho hT hi h1 h2 h4 hsz hx hy hB ?_ (by unfold maxLen; omega)
  calc (xs.length + ys.length) * i.bytes ≤ 2147483648 * 65536 := Nat.mul_le_mul hb h3
    _ ≤ 140737488355328 := by decide
end

theorem St.fact {C : Ctx} {B : List OF} {E : Env} {a : Act} {w : World} {t : Nat} {F : Fact} (h : St C B E a w) (hF : F.holds (okB C (idsOf B)) w (sl a t)) : St C B ((t, F) :: E) a w := by
  refine { h with env := fun u G hu => ?_ }
  simp only [get] at hu
  by_cases e1 : t = u
  · rw [if_pos e1] at hu; cases hu; subst e1; exact hF
  · rw [if_neg e1] at hu; exact h.env u G hu

inductive Holds (E : Env) (v : Value) : List Nat → Prop
  | nil : Holds E v []
  | cons {t : Nat} {l : List Nat} (h : get E t = some (is v)) (r : Holds E v l) : Holds E v (t :: l)

def frozen {β : Type} (k : Kd β) (xs : List β) : List Nat → Env → Env
  | [], E => E
  | t :: l, E => (t, (ksl k).V xs) :: frozen k xs l E

theorem opd_is {E : Env} {v : Value} : Opd E (.const v) (is v) := .const fun _ _ => rfl

/-- two things that are owned change places -/
theorem St.swap {C : Ctx} {A D : List OF} {f g : OF} {E : Env} {a : Act} {w : World} (h : St C (A ++ f :: g :: D) E a w) : St C (A ++ g :: f :: D) E a w := by
  have hm : ∀ b, b ∈ idsOf (A ++ g :: f :: D) ↔ b ∈ idsOf (A ++ f :: g :: D) := by
    intro b; simp only [idsOf_append, idsOf, List.mem_append]; constructor <;> (rintro (h1 | h1 | h1 | h1) <;> simp [h1])
  have e : okB C (idsOf (A ++ g :: f :: D)) = okB C (idsOf (A ++ f :: g :: D)) := by
    funext n; unfold okB; rw [hm n]
  refine { size := h.size, dfr := h.dfr, nod := ?_, fresh := fun b hb => h.fresh b ((hm b).1 hb), ev := h.ev, own := fun q hq => ?_, env := by rw [e]; exact h.env }
  · have hn := h.nod
    simp only [idsOf_append, idsOf] at hn ⊢
    refine (List.Perm.nodup_iff ?_).1 hn
    refine List.Perm.append_left _ ?_
    rw [← List.append_assoc, ← List.append_assoc]
    exact List.Perm.append_right _ List.perm_append_comm
  · rw [e]
    refine h.own q ?_
    simp only [List.mem_append, List.mem_cons] at hq ⊢
    rcases hq with h1 | h1 | h1 | h1 <;> simp [h1]

section
variable {P : Program} {C : Ctx} {B : List OF} {E : Env} {o : Oper} {x y c : Operand} {p q g : Bool}
theorem ob_and3 (hg : g = true) (ho : o.op = .pick c x y) (hc : Opd E c (kbool.V p)) (hx : Opd E x ((kbool.V q).when (g && (p == true)))) (hy : Opd E y (kbool.V false)) : Ob P C B E o (kbool.V (if p then q else false)) := by
  subst hg; exact ob_and2 ho hc (by simpa using hx) hy
theorem ob_or3 (hg : g = true) (ho : o.op = .pick c x y) (hc : Opd E c (kbool.V p)) (hx : Opd E x (kbool.V true)) (hy : Opd E y ((kbool.V q).when (g && (p == false)))) : Ob P C B E o (kbool.V (if p then true else q)) := by
  subst hg; exact ob_or2 ho hc hx (by simpa using hy)
end


/-- it is some value's reading -/
def Fine {α : Type} (k : Kd α) (x : α) : Prop := ∃ ok w cs, k.rel ok w x cs
theorem Fine.of {α : Type} {k : Kd α} {x : α} {ok : Ok} {w : World} {v : Value} (h : (k.V x).holds ok w v) : Fine k x := ⟨ok, w, _, Kd.V_rel h⟩
theorem Fine.int {ik : IntKind} {n : Int} (h : Fine (kint ik) n) : ik.has n := by obtain ⟨ok, w, cs, h⟩ := h; exact h.2
theorem Fine.str {l : List Int} (h : Fine kstr l) : l.length ≤ maxLen ∧ ∀ c ∈ l, 0 ≤ c ∧ c < 256 := by
  obtain ⟨ok, w, cs, s, _, rfl, h2⟩ := h
  refine ⟨by rwa [bl_length], fun c hc => ?_⟩
  obtain ⟨i, hi⟩ := List.getElem?_of_mem hc
  exact bl_range hi
theorem relL_good {α : Type} {k : Kd α} {ok : Ok} {w : World} {xs : List α} {cs : List Value} (h : relL k ok w xs cs) : ∀ x ∈ xs, Fine k x := by
  induction xs generalizing cs with
  | nil => intro x hx; cases hx
  | cons y xs ih =>
    obtain ⟨c, d, rfl, h1, h2⟩ := h
    intro x hx
    rcases List.mem_cons.1 hx with e | e
    · subst e; exact ⟨ok, w, c, h1⟩
    · exact ih h2 x e
theorem Fine.arr {α : Type} {k : Kd α} {n : Nat} {xs : List α} (h : Fine (karr n k) xs) : xs.length = n ∧ ∀ x ∈ xs, Fine k x := by
  obtain ⟨ok, w, cs, h1, h2⟩ := h; exact ⟨h1, relL_good h2⟩
theorem Fine.sl {α : Type} {k : Kd α} {xs : List α} (h : Fine (ksl k) xs) : xs.length ≤ maxLen ∧ ∀ x ∈ xs, Fine k x := by
  obtain ⟨ok, w, cs, a, cap, _, h1, _, rs, h2, _⟩ := h; exact ⟨by omega, relL_good h2⟩
theorem Fine.pair {α β : Type} {k : Kd α} {l : Kd β} {x : α × β} (h : Fine (kpair k l) x) : Fine k x.1 ∧ Fine l x.2 := by
  obtain ⟨ok, w, cs, c, d, _, h1, h2⟩ := h; exact ⟨⟨ok, w, c, h1⟩, ⟨ok, w, d, h2⟩⟩
theorem Fine.iso {α β : Type} {k : Kd β} {f : α → β} {x : α} (h : Fine (kiso k f) x) : Fine k (f x) := h

end Go.Proofs.Kit
