/- A kit of this claim's own, part 6: equality, values that are built, rows that grow, strings. No condition. -/
import Derived.Test.YtdlnfgpcnfbjiaaKx5
import Derived.DeepKeys
namespace Go.Proofs.Kit
open Go Go.RowKit
set_option linter.unusedSimpArgs false
set_option linter.unusedVariables false


/-- '==' at type T tells whether two of this kind are the same -/
def EqK (P : Program) (T : TypeId) {α : Type} [DecidableEq α] (k : Kd α) (d : Nat) : Prop :=
  ∀ ok ok' w w1 w2 x y cs ds n, d ≤ n → k.rel ok w1 x cs → k.rel ok' w2 y ds → (Op.equalIn n T (mkv k.agg cs) (mkv k.agg ds)).run P w = .ok (decide (x = y)) w

section
variable {P : Program} {T e : TypeId}

theorem eq_int {ik : IntKind} (hT : P.underlying T = some (.int ik)) : EqK P T (kint ik) 1 := fun ok ok' w w1 w2 x y cs ds n hn h1 h2 => by
  obtain ⟨n, rfl⟩ : ∃ m, n = m + 1 := ⟨n - 1, by omega⟩
  rw [h1.1, h2.1]
  show (Op.equalIn (n + 1) T (.int ik x) (.int ik y)).run P w = _
  rw [run_equalIn_int w n T ik ik x y hT]; rfl
theorem eq_bool (hT : P.underlying T = some .bool) : EqK P T kbool 1 := fun ok ok' w w1 w2 x y cs ds n hn h1 h2 => by
  obtain ⟨n, rfl⟩ : ∃ m, n = m + 1 := ⟨n - 1, by omega⟩
  rw [h1, h2]
  show (Op.equalIn (n + 1) T (.bool x) (.bool y)).run P w = _
  rw [run_equalIn_bool w n T x y hT]; cases x <;> cases y <;> rfl
theorem eq_items {α : Type} [DecidableEq α] {k : Kd α} {d : Nat} (tk : TK P e k) (hk : EqK P e k d) {ok ok' : Ok} {w w1 w2 : World} {xs ys : List α} {cs ds : List Value} {n : Nat} (hn : d ≤ n) (h1 : relL k ok w1 xs cs) (h2 : relL k ok' w2 ys ds) (hl : xs.length = ys.length) :
    ∀ (m i : Nat), i + m = xs.length → (Op.eqItems n e k.sz cs.toArray ds.toArray (List.range' i m)).run P w = .ok (decide (xs.drop i = ys.drop i)) w := by
  intro m
  induction m with
  | zero =>
    intro i hi
    rw [List.drop_eq_nil_of_le (by omega), List.drop_eq_nil_of_le (by omega)]
    simp [Op.eqItems]
  | succ m ih =>
    intro i hi
    have hix : i < xs.length := by omega
    have hiy : i < ys.length := by omega
    have g1 := relL_get h1 (List.getElem?_eq_getElem hix)
    have g2 := relL_get h2 (List.getElem?_eq_getElem hiy)
    have p1 := run_part' (w := w) tk (P := P) (ok := ok) (x := xs[i]) (cs := cs) (off := i * k.sz)
    have q1 : (part e cs.toArray (i * k.sz)).run P w = .ok (mkv k.agg ((cs.drop (i * k.sz)).take k.sz)) w := run_part_any tk g1
    have q2 : (part e ds.toArray (i * k.sz)).run P w = .ok (mkv k.agg ((ds.drop (i * k.sz)).take k.sz)) w := run_part_any tk g2
    rw [List.range'_succ]
    simp only [Op.eqItems, Sem.run_bind, q1, q2, Result.andThen_ok, hk _ _ w _ _ _ _ _ _ n hn g1 g2]
    have e1 := List.drop_eq_getElem_cons hix
    have e2 := List.drop_eq_getElem_cons hiy
    by_cases hxy : xs[i] = ys[i]
    · rw [decide_eq_true hxy]
      simp only [Bool.not_true, Bool.false_eq_true, if_false, ih (i + 1) (by omega), e1, e2, hxy, List.cons.injEq, true_and]
    · rw [decide_eq_false hxy]
      have hne : ¬ xs.drop i = ys.drop i := by intro e3; rw [e1, e2] at e3; injection e3 with a _; exact hxy a
      simp [hne]
where
  run_part_any {α : Type} {k : Kd α} {T : TypeId} {P : Program} {w w1 : World} (tk : TK P T k) {cs : List Value} {x : α} {ok : Ok} {off : Nat} (hr : k.rel ok w1 x ((cs.drop off).take k.sz)) : (part T cs.toArray off).run P w = .ok (mkv k.agg ((cs.drop off).take k.sz)) w := by
    have := run_part' (P := P) (w := w1) tk hr
    unfold part at this ⊢
    rw [Sem.run_bind, run_isAgg' tk.agg] at this ⊢
    cases ha : k.agg with
    | true => rw [ha] at this; simp only [Result.andThen_ok, if_true, Sem.run_bind, run_sizeOf' tk.size, Sem.run_pure] at this ⊢; injection this with h1 h2; rw [h1]
    | false =>
      rw [ha] at this
      simp only [Result.andThen_ok, Bool.false_eq_true, if_false] at this ⊢
      cases hq : cs.toArray[off]? with
      | none => rw [hq] at this; cases this
      | some v => rw [hq] at this; simp only [Sem.run_pure] at this ⊢; injection this with h1 h2; rw [h1]

theorem eq_arr {α : Type} [DecidableEq α] {k : Kd α} {d m : Nat} (hT : P.underlying T = some (.array m e)) (tk : TK P e k) (hk : EqK P e k d) : EqK P T (karr m k) (d + 1) := fun ok ok' w w1 w2 x y cs ds n hn h1 h2 => by
  obtain ⟨n, rfl⟩ : ∃ m, n = m + 1 := ⟨n - 1, by omega⟩
  show (Op.equalIn (n + 1) T (.agg cs.toArray) (.agg ds.toArray)).run P w = _
  obtain ⟨i, hi⟩ : ∃ i, P.info? e = some i := by
    have := tk.size
    cases hq : P.info? e with
    | none => rw [hq] at this; cases this
    | some i => exact ⟨i, rfl⟩
  have hs : P.cellsOf e = k.sz := by
    have := tk.size
    simpa [Program.cellsOf, hi] using this
  rw [run_equalIn_array w n cs.toArray ds.toArray hT hi, hs, List.range_eq_range', eq_items tk hk (by omega) h1.2 h2.2 (by rw [h1.1, h2.1]) m 0 (by rw [h1.1]; omega)]
  rfl

end

section
variable {P : Program} {C : Ctx} {B : List OF} {E : Env} {o : Oper} {α β : Type} {k : Kd β} {T T' : TypeId} {x y : Operand}

theorem eqGuard_ok {op : BinOp} {T : TypeId} {x y : Operand} {a b : Value} {w : World} (hg : P.eqGuardType P.depth T = false) (ha : a ≠ .nilIface) : (eqGuard op T x y a b).run P w = .ok () w := by
  cases a with
  | agg xs => cases b with
    | agg ys => exact run_eqGuard_agg w op T x y xs ys hg
    | _ => cases op <;> simp [eqGuard]
  | nilIface => exact absurd rfl ha
  | _ => cases op <;> simp [eqGuard]

theorem eqGuard_b {op : BinOp} {T : TypeId} {x y : Operand} {p q : Bool} {w : World} : (eqGuard op T x y (.bool p) (.bool q)).run P w = .ok () w := by cases op <;> simp [eqGuard]

theorem run_beq {T : TypeId} {a b : Value} {w : World} {r : Bool} (h : (Op.equalIn 10000 T a b).run P w = .ok r w) (hs : match a with | .int .. | .float .. | .complex .. | .string _ | .pointer _ => False | _ => True) (hs' : match b with | .pointer _ => False | _ => True) :
    (binOp .eql T a b).run P w = .ok (.bool r) w ∧ (binOp .neq T a b).run P w = .ok (.bool (!r)) w := by
  cases a <;> simp only [] at hs <;> cases b <;> simp only [] at hs' <;> constructor <;> simp only [binOp] <;> simp [Op.equal, Op.maxDepth, h]

theorem ob_eqAgg [DecidableEq β] {X Y : β} {d : Nat} (ho : o.op = .binOp .eql T x y T') (hk : k.agg = true) (hg : P.eqGuardType P.depth T = false) (he : EqK P T k d) (hd : d ≤ 10000) (hx : Opd E x (k.V X)) (hy : Opd E y (k.V Y)) : Ob P C B E o (kbool.V (decide (X = Y))) := fun a w h => by
  obtain ⟨cs, hr, hv⟩ := h.arg hx
  obtain ⟨ds, hr', hv'⟩ := h.arg hy
  have e := he _ _ w _ _ _ _ _ _ 10000 hd hr hr'
  have e1 : mkv k.agg cs = .agg cs.toArray := by simp [mkv, hk]
  have e2 : mkv k.agg ds = .agg ds.toArray := by simp [mkv, hk]
  rw [e1] at hv e; rw [e2] at hv' e
  exact .value (w' := w) (v := .bool (decide (X = Y))) (by
    simp only [execOp, ho, hv, hv', Sem.run_bind, eqGuard_ok hg (show Value.agg cs.toArray ≠ .nilIface by simp), Result.andThen_ok, (run_beq e trivial trivial).1]; rfl) ⟨V_bool.2 rfl, .refl _ _⟩
theorem ob_neqAgg [DecidableEq β] {X Y : β} {d : Nat} (ho : o.op = .binOp .neq T x y T') (hk : k.agg = true) (hg : P.eqGuardType P.depth T = false) (he : EqK P T k d) (hd : d ≤ 10000) (hx : Opd E x (k.V X)) (hy : Opd E y (k.V Y)) : Ob P C B E o (kbool.V (!decide (X = Y))) := fun a w h => by
  obtain ⟨cs, hr, hv⟩ := h.arg hx
  obtain ⟨ds, hr', hv'⟩ := h.arg hy
  have e := he _ _ w _ _ _ _ _ _ 10000 hd hr hr'
  have e1 : mkv k.agg cs = .agg cs.toArray := by simp [mkv, hk]
  have e2 : mkv k.agg ds = .agg ds.toArray := by simp [mkv, hk]
  rw [e1] at hv e; rw [e2] at hv' e
  exact .value (w' := w) (v := .bool (!decide (X = Y))) (by
    simp only [execOp, ho, hv, hv', Sem.run_bind, eqGuard_ok hg (show Value.agg cs.toArray ≠ .nilIface by simp), Result.andThen_ok, (run_beq e trivial trivial).2]; rfl) ⟨V_bool.2 rfl, .refl _ _⟩
theorem ob_beql {p q : Bool} (ho : o.op = .binOp .eql T x y T') (hT : P.underlying T = some .bool) (hx : Opd E x (kbool.V p)) (hy : Opd E y (kbool.V q)) : Ob P C B E o (kbool.V (decide (p = q))) := fun a w h => by
  have e : (Op.equalIn 10000 T (.bool p) (.bool q)).run P w = .ok (decide (p = q)) w := eq_bool hT (fun _ => True) (fun _ => True) w w w p q [.bool p] [.bool q] 10000 (by omega) rfl rfl
  exact .value (w' := w) (v := .bool (decide (p = q))) (by
    simp only [execOp, ho, V_bool.1 (h.arg hx), V_bool.1 (h.arg hy), Sem.run_bind, eqGuard_b, Result.andThen_ok, (run_beq e trivial trivial).1]; rfl) ⟨V_bool.2 rfl, .refl _ _⟩
theorem ob_bneq {p q : Bool} (ho : o.op = .binOp .neq T x y T') (hT : P.underlying T = some .bool) (hx : Opd E x (kbool.V p)) (hy : Opd E y (kbool.V q)) : Ob P C B E o (kbool.V (!decide (p = q))) := fun a w h => by
  have e : (Op.equalIn 10000 T (.bool p) (.bool q)).run P w = .ok (decide (p = q)) w := eq_bool hT (fun _ => True) (fun _ => True) w w w p q [.bool p] [.bool q] 10000 (by omega) rfl rfl
  exact .value (w' := w) (v := .bool (!decide (p = q))) (by
    simp only [execOp, ho, V_bool.1 (h.arg hx), V_bool.1 (h.arg hy), Sem.run_bind, eqGuard_b, Result.andThen_ok, (run_beq e trivial trivial).2]; rfl) ⟨V_bool.2 rfl, .refl _ _⟩
end

end Go.Proofs.Kit
