/- A kit of this claim's own, part 2: what one operation of a region does, each kind of operation once, over whatever program. No condition. -/
import Derived.Test.YtdlnfgpcnfbjiaaKx1
namespace Go.Proofs.Kit
open Go Go.RowKit
set_option linter.unusedSimpArgs false
set_option linter.unusedVariables false


def Does (P : Program) (o : Oper) (a : Act) (w : World) (R : Value → World → Prop) : Prop :=
  match (execOp a.eval o).run P w with
  | .ok (.value v) w' => R v w'
  | .ok .skip w' => R undef w'
  | .ok (.enter f args) w' => Calls P f args w' fun e w'' => ∃ v, e = .returned v ∧ R v w''
  | _ => False

theorem Does.wp {P : Program} {o : Oper} {a : Act} {w : World} {R : Value → World → Prop} {K : Act → World → Prop} {Q : Exit → Act → World → Prop} (h : Does P o a w R)
    (hK : ∀ v w', R v w' → K (a.put o.dst v) w') : o.wp P a w K Q := by
  unfold Oper.wp
  unfold Does at h
  generalize (execOp a.eval o).run P w = r at *
  cases r with
  | halt x w' => exact h.elim
  | ok n w' =>
    cases n with
    | value v => exact hK _ _ h
    | skip => exact hK _ _ h
    | enter f args => exact Calls.mono h fun e w'' ⟨v, he, hr⟩ => by subst he; exact hK _ _ hr
    | _ => exact h.elim

theorem Does.value {P : Program} {o : Oper} {a : Act} {w w' : World} {v : Value} {R : Value → World → Prop} (h : (execOp a.eval o).run P w = .ok (.value v) w') (hr : R v w') : Does P o a w R := by
  unfold Does; rw [h]; exact hr
theorem Does.skip {P : Program} {o : Oper} {a : Act} {w w' : World} {R : Value → World → Prop} (h : (execOp a.eval o).run P w = .ok .skip w') (hr : R undef w') : Does P o a w R := by
  unfold Does; rw [h]; exact hr
theorem Does.mono {P : Program} {o : Oper} {a : Act} {w : World} {R R' : Value → World → Prop} (h : Does P o a w R) (hr : ∀ v w', R v w' → R' v w') : Does P o a w R' := by
  unfold Does at *
  generalize (execOp a.eval o).run P w = r at *
  cases r with
  | halt x w' => exact h.elim
  | ok n w' =>
    cases n with
    | value v => exact hr _ _ h
    | skip => exact hr _ _ h
    | enter f args => exact Calls.mono h fun e w'' ⟨v, he, h1⟩ => ⟨v, he, hr _ _ h1⟩
    | _ => exact h.elim

/-- an operation that leaves what is owned as it is -/
def Ob (P : Program) (C : Ctx) (B : List OF) (E : Env) (o : Oper) (F : Fact) : Prop :=
  ∀ a w, St C B E a w → Does P o a w fun v w' => F.holds (okB C (idsOf B)) w' v ∧ Ev [] w w'

/-- an operation that turns what is owned -/
def ObX (P : Program) (C : Ctx) (B : List OF) (E : Env) (o : Oper) {γ : Type} (B' : γ → List OF) (F : γ → Fact) : Prop :=
  ∀ a w, St C B E a w → Does P o a w fun v w' => ∃ g, (F g).holds (okB C (idsOf (B' g))) w' v ∧ St C (B' g) E a w'

section
variable {P : Program} {C : Ctx} {B : List OF} {E : Env} {a : Act} {w : World} {ops : Array Oper} {o : Oper} {rest : List Oper} {Q : Exit → Act → World → Prop} {d : Tmp} {F : Fact}

theorem seq_op (h : St C B E a w) (hg : o.guard = none) (hd : o.dst = some d) (hN : d < C.N) (ob : Ob P C B E o F) (K : ∀ a' w', St C B ((d, F) :: E) a' w' → wpList P ops Q rest a' w') : wpList P ops Q (o :: rest) a w :=
  wpList_plain hg fun K' hK => (ob a w h).wp fun v w' ⟨hF, e⟩ => hK _ _ (K _ _ (by rw [hd]; exact (h.grow e).put hN hF))

theorem seq_opx {γ : Type} {B' : γ → List OF} {F : γ → Fact} (h : St C B E a w) (hg : o.guard = none) (hd : o.dst = some d) (hN : d < C.N) (ob : ObX P C B E o B' F) (K : ∀ g a' w', St C (B' g) ((d, F g) :: E) a' w' → wpList P ops Q rest a' w') : wpList P ops Q (o :: rest) a w :=
  wpList_plain hg fun K' hK => (ob a w h).wp fun v w' ⟨g, hF, e⟩ => hK _ _ (K g _ _ (by rw [hd]; exact e.put hN hF))

theorem seq_opx0 {γ : Type} {B' : γ → List OF} {F : γ → Fact} (h : St C B E a w) (hg : o.guard = none) (hd : o.dst = none) (ob : ObX P C B E o B' F) (K : ∀ g a' w', St C (B' g) E a' w' → wpList P ops Q rest a' w') : wpList P ops Q (o :: rest) a w :=
  wpList_plain hg fun K' hK => (ob a w h).wp fun v w' ⟨g, _, e⟩ => hK _ _ (K g _ _ (by rw [hd]; exact e))

/-- is an operation under a guard carried out? -/
theorem wanted_guard {j : Nat} {want b : Bool} {t : Tmp} (h : St C B E a w) (hg : o.guard = some (j, want)) (hj : (ops[j]?).bind (·.dst) = some t) (ht : get E t = some (kbool.V b)) : Region.wanted o (yielded ops a.tmps) = (b == want) := by
  have hv : sl a t = .bool b := V_bool.1 (h.env _ _ ht)
  have hv' : a.tmps[t]?.getD undef = .bool b := by simpa [sl] using hv
  have ht' : a.tmps[t]? = some (.bool b) := by
    cases hx : a.tmps[t]? with
    | none => rw [hx] at hv'; simp [undef] at hv'
    | some v => rw [hx] at hv'; simpa using hv'
  unfold Region.wanted
  rw [hg]
  simp only [yielded, hj]
  simp [ht']

/-- .. under a guard that is itself under a guard -/
theorem wanted_guard2 {j : Nat} {want b c : Bool} {t : Tmp} (h : St C B E a w) (hg : o.guard = some (j, want)) (hj : (ops[j]?).bind (·.dst) = some t) (ht : get E t = some ((kbool.V b).when c)) : Region.wanted o (yielded ops a.tmps) = (c && (b == want)) := by
  have hv := h.env _ _ ht
  cases c with
  | true =>
    have h2 : St C B [(t, kbool.V b)] a w := by
      refine { h with env := fun u F hu => ?_ }
      simp only [get] at hu
      by_cases e : t = u
      · rw [if_pos e] at hu; cases hu; subst e; exact hv.1 rfl
      · rw [if_neg e] at hu; cases hu
    rw [wanted_guard (ops := ops) h2 hg hj (b := b) (by simp [get]), Bool.true_and]
  | false =>
    have hu : sl a t = undef := hv.2 rfl
    have hu' : a.tmps[t]?.getD undef = undef := by simpa [sl] using hu
    unfold Region.wanted
    rw [hg]
    simp only [yielded, hj, Bool.false_and]
    cases hx : a.tmps[t]? with
    | none => simp [hx]
    | some v => rw [hx] at hu'; simp at hu'; subst hu'; simp [undef, hx]

theorem seq_opg {j : Nat} {want b : Bool} {t : Tmp} (h : St C B E a w) (hg : o.guard = some (j, want)) (hj : (ops[j]?).bind (·.dst) = some t) (ht : get E t = some (kbool.V b)) (hd : o.dst = some d) (hN : d < C.N)
    (ob : (b == want) = true → Ob P C B E o F) (K : ∀ a' w', St C B ((d, F.when (b == want)) :: E) a' w' → wpList P ops Q rest a' w') : wpList P ops Q (o :: rest) a w := by
  refine wpList_step fun K' hK => ?_
  rw [wanted_guard h hg hj ht]
  by_cases hb : (b == want) = true
  · rw [if_pos hb]
    exact (ob hb a w h).wp fun v w' ⟨hF, e⟩ => hK _ _ (K _ _ (by rw [hd]; exact (h.grow e).put hN (F := F.when _) ⟨fun _ => hF, fun hb' => by rw [hb] at hb'; cases hb'⟩))
  · rw [if_neg hb]
    exact hK _ _ (K _ _ (by rw [hd]; exact h.put hN (F := F.when _) ⟨fun hb' => absurd hb' hb, fun _ => rfl⟩))

theorem seq_opg2 {j : Nat} {want b c : Bool} {t : Tmp} (h : St C B E a w) (hg : o.guard = some (j, want)) (hj : (ops[j]?).bind (·.dst) = some t) (ht : get E t = some ((kbool.V b).when c)) (hd : o.dst = some d) (hN : d < C.N)
    (ob : (c && (b == want)) = true → Ob P C B E o F) (K : ∀ a' w', St C B ((d, F.when (c && (b == want))) :: E) a' w' → wpList P ops Q rest a' w') : wpList P ops Q (o :: rest) a w := by
  refine wpList_step fun K' hK => ?_
  rw [wanted_guard2 h hg hj ht]
  by_cases hb : (c && (b == want)) = true
  · rw [if_pos hb]
    exact (ob hb a w h).wp fun v w' ⟨hF, e⟩ => hK _ _ (K _ _ (by rw [hd]; exact (h.grow e).put hN (F := F.when _) ⟨fun _ => hF, fun hb' => by rw [hb] at hb'; cases hb'⟩))
  · rw [if_neg hb]
    exact hK _ _ (K _ _ (by rw [hd]; exact h.put hN (F := F.when _) ⟨fun hb' => absurd hb' hb, fun _ => rfl⟩))

/-- a fact under a condition that holds -/
theorem Ob.uncond {c : Bool} {t : Nat} {G : Fact} (hc : c = true) (h : get E t = some (F.when c)) (ob : Ob P C B ((t, F) :: E) o G) : Ob P C B E o G := fun a w s => by
  refine ob a w { s with env := fun u H hu => ?_ }
  simp only [get] at hu
  by_cases e : t = u
  · rw [if_pos e] at hu; cases hu; subst e; exact (s.env _ _ h).1 hc
  · rw [if_neg e] at hu; exact s.env u H hu

theorem ob_move {x : Operand} (ho : o.op = .move x) (hx : Opd E x F) : Ob P C B E o F := fun a w h =>
  .value (w' := w) (v := a.eval x) (by simp [execOp, ho]) ⟨h.arg hx, .refl _ _⟩
theorem ob_assign {x : Operand} (ho : o.op = .assign x) (hx : Opd E x F) : Ob P C B E o F := fun a w h =>
  .value (w' := w) (v := a.eval x) (by simp [execOp, ho]) ⟨h.arg hx, .refl _ _⟩

theorem has_wrap (k : IntKind) (n : Int) : k.has (k.wrap n) := by
  unfold IntKind.has IntKind.wrap IntKind.min IntKind.max
  cases k <;> simp [IntKind.signed, IntKind.bits] <;> omega
theorem has_zero (k : IntKind) : k.has 0 := by unfold IntKind.has; cases k <;> decide
theorem has_between {k : IntKind} {l m n : Int} (hl : k.has l) (h : k.has m) (h1 : l ≤ n) (h2 : n ≤ m) : k.has n := ⟨by have := hl.1; omega, by have := h.2; omega⟩

/-- what a binary operation on two whole numbers of one kind gives -/
def iadd (k : IntKind) (x y : Int) : Int := k.wrap (x + y)
def isub (k : IntKind) (x y : Int) : Int := k.wrap (x - y)
def imul (k : IntKind) (x y : Int) : Int := k.wrap (x * y)
def iquo (k : IntKind) (x y : Int) : Int := k.wrap (x.tdiv y)
def irem (x y : Int) : Int := x.tmod y
def iand (k : IntKind) (x y : Int) : Int := k.wrap (BitVec.ofInt k.bits x &&& BitVec.ofInt k.bits y).toNat
def ior (k : IntKind) (x y : Int) : Int := k.wrap (BitVec.ofInt k.bits x ||| BitVec.ofInt k.bits y).toNat
def ixor (k : IntKind) (x y : Int) : Int := k.wrap (BitVec.ofInt k.bits x ^^^ BitVec.ofInt k.bits y).toNat
def iandn (k : IntKind) (x y : Int) : Int := k.wrap (BitVec.ofInt k.bits x &&& ~~~BitVec.ofInt k.bits y).toNat
def ishl (k : IntKind) (x y : Int) : Int := k.wrap (x * 2 ^ (min y.toNat k.bits))
def ishr (k : IntKind) (x y : Int) : Int := x.fdiv (2 ^ (min y.toNat k.bits))

theorem has_ishr {k : IntKind} {m : Int} (h : k.has m) (n : Int) : k.has (ishr k m n) := by
  unfold ishr
  have hp : (0 : Int) < 2 ^ (min n.toNat k.bits) := Int.pow_pos (by decide)
  generalize (2 : Int) ^ (min n.toNat k.bits) = q at hp
  rw [Int.fdiv_eq_ediv_of_nonneg _ (by omega)]
  rcases Int.le_total 0 m with hm | hm
  · exact has_between (has_zero k) h (Int.ediv_nonneg hm (Int.le_of_lt hp)) (Int.ediv_le_self q hm)
  · refine has_between h (has_zero k) ((Int.le_ediv_iff_mul_le hp).2 ?_) ?_
    · have := Int.mul_le_mul_of_nonpos_left (a := m) hm (show (1 : Int) ≤ q by omega); omega
    · have : m / q < 1 := (Int.ediv_lt_iff_lt_mul hp).2 (by omega)
      omega

section
variable {k k' : IntKind} {x y : Operand} {m n : Int} {T T' : TypeId}
theorem ob_add (ho : o.op = .binOp .add T x y T') (hx : Opd E x ((kint k).V m)) (hy : Opd E y ((kint k).V n)) : Ob P C B E o ((kint k).V (iadd k m n)) := fun a w h =>
  .value (w' := w) (v := .int k (iadd k m n)) (by simp [execOp, ho, (V_int.1 (h.arg hx)).1, (V_int.1 (h.arg hy)).1, eqGuard, binOp, Op.intArith, iadd]) ⟨V_int.2 ⟨rfl, has_wrap _ _⟩, .refl _ _⟩
theorem ob_sub (ho : o.op = .binOp .sub T x y T') (hx : Opd E x ((kint k).V m)) (hy : Opd E y ((kint k).V n)) : Ob P C B E o ((kint k).V (isub k m n)) := fun a w h =>
  .value (w' := w) (v := .int k (isub k m n)) (by simp [execOp, ho, (V_int.1 (h.arg hx)).1, (V_int.1 (h.arg hy)).1, eqGuard, binOp, Op.intArith, isub]) ⟨V_int.2 ⟨rfl, has_wrap _ _⟩, .refl _ _⟩
theorem ob_mul (ho : o.op = .binOp .mul T x y T') (hx : Opd E x ((kint k).V m)) (hy : Opd E y ((kint k).V n)) : Ob P C B E o ((kint k).V (imul k m n)) := fun a w h =>
  .value (w' := w) (v := .int k (imul k m n)) (by simp [execOp, ho, (V_int.1 (h.arg hx)).1, (V_int.1 (h.arg hy)).1, eqGuard, binOp, Op.intArith, imul]) ⟨V_int.2 ⟨rfl, has_wrap _ _⟩, .refl _ _⟩
theorem ob_quo (ho : o.op = .binOp .quo T x y T') (hx : Opd E x ((kint k).V m)) (hy : Opd E y ((kint k).V n)) (h0 : n ≠ 0) : Ob P C B E o ((kint k).V (iquo k m n)) := fun a w h =>
  .value (w' := w) (v := .int k (iquo k m n)) (by simp [execOp, ho, (V_int.1 (h.arg hx)).1, (V_int.1 (h.arg hy)).1, eqGuard, binOp, Op.intDiv, iquo, h0]) ⟨V_int.2 ⟨rfl, has_wrap _ _⟩, .refl _ _⟩
theorem ob_and (ho : o.op = .binOp .and T x y T') (hx : Opd E x ((kint k).V m)) (hy : Opd E y ((kint k).V n)) : Ob P C B E o ((kint k).V (iand k m n)) := fun a w h =>
  .value (w' := w) (v := .int k (iand k m n)) (by simp only [execOp, ho, (V_int.1 (h.arg hx)).1, (V_int.1 (h.arg hy)).1, eqGuard, binOp, Op.intBits, iand]; simp) ⟨V_int.2 ⟨rfl, has_wrap _ _⟩, .refl _ _⟩
theorem ob_xor (ho : o.op = .binOp .xor T x y T') (hx : Opd E x ((kint k).V m)) (hy : Opd E y ((kint k).V n)) : Ob P C B E o ((kint k).V (ixor k m n)) := fun a w h =>
  .value (w' := w) (v := .int k (ixor k m n)) (by simp only [execOp, ho, (V_int.1 (h.arg hx)).1, (V_int.1 (h.arg hy)).1, eqGuard, binOp, Op.intBits, ixor]; simp) ⟨V_int.2 ⟨rfl, has_wrap _ _⟩, .refl _ _⟩
theorem ob_shl (ho : o.op = .binOp .shl T x y T') (hx : Opd E x ((kint k).V m)) (hy : Opd E y ((kint k').V n)) (h0 : 0 ≤ n) : Ob P C B E o ((kint k).V (ishl k m n)) := fun a w h =>
  .value (w' := w) (v := .int k (ishl k m n)) (by simp [execOp, ho, (V_int.1 (h.arg hx)).1, (V_int.1 (h.arg hy)).1, eqGuard, binOp, Op.shift, ishl, Int.not_lt.2 h0]) ⟨V_int.2 ⟨rfl, has_wrap _ _⟩, .refl _ _⟩
theorem ob_shr (ho : o.op = .binOp .shr T x y T') (hx : Opd E x ((kint k).V m)) (hy : Opd E y ((kint k').V n)) (h0 : 0 ≤ n) : Ob P C B E o ((kint k).V (ishr k m n)) := fun a w h =>
  .value (w' := w) (v := .int k (ishr k m n)) (by simp [execOp, ho, (V_int.1 (h.arg hx)).1, (V_int.1 (h.arg hy)).1, eqGuard, binOp, Op.shift, ishr, Int.not_lt.2 h0]) ⟨V_int.2 ⟨rfl, has_ishr (V_int.1 (h.arg hx)).2 _⟩, .refl _ _⟩
theorem ob_eql (ho : o.op = .binOp .eql T x y T') (hx : Opd E x ((kint k).V m)) (hy : Opd E y ((kint k).V n)) : Ob P C B E o (kbool.V (m == n)) := fun a w h =>
  .value (w' := w) (v := .bool (m == n)) (by simp [execOp, ho, (V_int.1 (h.arg hx)).1, (V_int.1 (h.arg hy)).1, eqGuard, binOp, Op.intCmp]) ⟨V_bool.2 rfl, .refl _ _⟩
theorem ob_neq (ho : o.op = .binOp .neq T x y T') (hx : Opd E x ((kint k).V m)) (hy : Opd E y ((kint k).V n)) : Ob P C B E o (kbool.V (m != n)) := fun a w h =>
  .value (w' := w) (v := .bool (m != n)) (by simp [execOp, ho, (V_int.1 (h.arg hx)).1, (V_int.1 (h.arg hy)).1, eqGuard, binOp, Op.intCmp]) ⟨V_bool.2 rfl, .refl _ _⟩
theorem ob_lss (ho : o.op = .binOp .lss T x y T') (hx : Opd E x ((kint k).V m)) (hy : Opd E y ((kint k).V n)) : Ob P C B E o (kbool.V (decide (m < n))) := fun a w h =>
  .value (w' := w) (v := .bool (decide (m < n))) (by simp [execOp, ho, (V_int.1 (h.arg hx)).1, (V_int.1 (h.arg hy)).1, eqGuard, binOp, Op.intCmp]) ⟨V_bool.2 rfl, .refl _ _⟩
theorem ob_leq (ho : o.op = .binOp .leq T x y T') (hx : Opd E x ((kint k).V m)) (hy : Opd E y ((kint k).V n)) : Ob P C B E o (kbool.V (decide (m ≤ n))) := fun a w h =>
  .value (w' := w) (v := .bool (decide (m ≤ n))) (by simp [execOp, ho, (V_int.1 (h.arg hx)).1, (V_int.1 (h.arg hy)).1, eqGuard, binOp, Op.intCmp]) ⟨V_bool.2 rfl, .refl _ _⟩
theorem ob_gtr (ho : o.op = .binOp .gtr T x y T') (hx : Opd E x ((kint k).V m)) (hy : Opd E y ((kint k).V n)) : Ob P C B E o (kbool.V (decide (m > n))) := fun a w h =>
  .value (w' := w) (v := .bool (decide (m > n))) (by simp [execOp, ho, (V_int.1 (h.arg hx)).1, (V_int.1 (h.arg hy)).1, eqGuard, binOp, Op.intCmp]) ⟨V_bool.2 rfl, .refl _ _⟩
theorem ob_geq (ho : o.op = .binOp .geq T x y T') (hx : Opd E x ((kint k).V m)) (hy : Opd E y ((kint k).V n)) : Ob P C B E o (kbool.V (decide (m ≥ n))) := fun a w h =>
  .value (w' := w) (v := .bool (decide (m ≥ n))) (by simp [execOp, ho, (V_int.1 (h.arg hx)).1, (V_int.1 (h.arg hy)).1, eqGuard, binOp, Op.intCmp]) ⟨V_bool.2 rfl, .refl _ _⟩
theorem ob_conv (ho : o.op = .convert T T' x) (d : TypeDesc) (hT : P.underlying T = some d) (hT' : P.underlying T' = some (.int k')) (hx : Opd E x ((kint k).V m)) : Ob P C B E o ((kint k').V (k'.wrap m)) := fun a w h =>
  .value (w' := w) (v := .int k' (k'.wrap m)) (by
    simp only [execOp, ho, (V_int.1 (h.arg hx)).1, convert, Sem.run_bind, run_underlying hT, run_underlying hT', Result.andThen_ok]
    cases d <;> simp [Conv.intToInt]) ⟨V_int.2 ⟨rfl, has_wrap _ _⟩, .refl _ _⟩
end

section
variable {x y c : Operand} {p q : Bool} {T T' : TypeId}
theorem ob_not (ho : o.op = .unOp .not T x) (hx : Opd E x (kbool.V p)) : Ob P C B E o (kbool.V (!p)) := fun a w h =>
  .value (w' := w) (v := .bool (!p)) (by simp [execOp, ho, V_bool.1 (h.arg hx), Op.unary]) ⟨V_bool.2 rfl, .refl _ _⟩
/-- 'a && b', 'a || b' -/
theorem ob_pick (ho : o.op = .pick c x y) (hc : Opd E c (kbool.V p)) (F G H : Fact) (hx : Opd E x F) (hy : Opd E y G) (hF : p = true → ∀ ok w v, F.holds ok w v → H.holds ok w v) (hG : p = false → ∀ ok w v, G.holds ok w v → H.holds ok w v) : Ob P C B E o H := fun a w h => by
  have hc' := V_bool.1 (h.arg hc)
  refine .value (w' := w) (v := if p then a.eval x else a.eval y) (by simp [execOp, ho, hc', asBool]) ⟨?_, .refl _ _⟩
  cases p with
  | true => exact hF rfl _ _ _ (h.arg hx)
  | false => exact hG rfl _ _ _ (h.arg hy)
theorem ob_and2 (ho : o.op = .pick c x y) (hc : Opd E c (kbool.V p)) (hx : Opd E x ((kbool.V q).when (p == true))) (hy : Opd E y (kbool.V false)) : Ob P C B E o (kbool.V (if p then q else false)) :=
  ob_pick ho hc _ _ _ hx hy (fun hp ok w v hv => by subst hp; exact hv.1 rfl) (fun hp ok w v hv => by subst hp; exact hv)
theorem ob_or2 (ho : o.op = .pick c x y) (hc : Opd E c (kbool.V p)) (hx : Opd E x (kbool.V true)) (hy : Opd E y ((kbool.V q).when (p == false))) : Ob P C B E o (kbool.V (if p then true else q)) :=
  ob_pick ho hc _ _ _ hx hy (fun hp ok w v hv => by subst hp; exact hv) (fun hp ok w v hv => by subst hp; exact hv.1 rfl)
end
end

end Go.Proofs.Kit
