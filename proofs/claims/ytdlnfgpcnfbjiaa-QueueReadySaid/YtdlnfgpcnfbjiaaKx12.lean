/- A kit of this claim's own, part 12: slices of arrays, strings and slices; texts made of bytes; copies; fresh rows. No condition. -/
import Derived.Test.YtdlnfgpcnfbjiaaKx11
import Derived.Laws.BytesString
import Derived.Lib.BufferWrite
namespace Go.Proofs.Kit
open Go Go.RowKit
set_option linter.unusedSimpArgs false
set_option linter.unusedVariables false

/-- a cut, by whole numbers -/
def cut? {α : Type} (xs : List α) (lo hi : Int) : Option (List α) := if 0 ≤ lo ∧ lo ≤ hi ∧ hi ≤ xs.length then some ((xs.take hi.toNat).drop lo.toNat) else none
theorem cut?_some {α : Type} {xs ys : List α} {lo hi : Int} (h : cut? xs lo hi = some ys) : 0 ≤ lo ∧ lo ≤ hi ∧ hi ≤ xs.length ∧ ys = (xs.take hi.toNat).drop lo.toNat := by
  unfold cut? at h
  by_cases h0 : 0 ≤ lo ∧ lo ≤ hi ∧ hi ≤ xs.length
  · rw [if_pos h0] at h; cases h; exact ⟨h0.1, h0.2.1, h0.2.2, rfl⟩
  · rw [if_neg h0] at h; cases h

/-- a bound of a slice: written, or left out -/
inductive Bnd (E : Env) (d : Int) : Option Operand → Int → Prop
  | none : Bnd E d .none d
  | some {y : Operand} {ik : IntKind} {n : Int} (h : Opd E y ((kint ik).V n)) : Bnd E d (.some y) n

section
variable {P : Program} {C : Ctx} {B : List OF} {E : Env} {o : Oper} {α β : Type} {K : Kd α} {k : Kd β} {T U e : TypeId} {x y i : Operand} {b off : Nat} {X X' : α} {lo hi : Option Operand} {l h : Int}

theorem run_sliceBound {w : World} {ik : IntKind} {n : Int} {m : Nat} {c : BoundsCode} (h0 : 0 ≤ n) (h1 : n ≤ m) : (Instr.sliceBound (.int ik n) m c).run P w = .ok n.toNat w := by
  simp only [Instr.sliceBound, asIntOf, Sem.run_bind, Sem.run_pure, Result.andThen_ok, if_pos (show 0 ≤ n ∧ n ≤ (m : Int) from ⟨h0, h1⟩)]

theorem run_bounds {a : Act} {w : World} (s : St C B E a w) (isS : Bool) (len cap : Nat) (hl : Bnd E 0 lo l) (hh : Bnd E len hi h) (h0 : 0 ≤ l) (h1 : l ≤ h) (h2 : h ≤ cap) :
    (Instr.sliceBounds isS len cap (lo.map a.eval) (hi.map a.eval) none).run P w = .ok (l.toNat, h.toNat, cap) w := by
  unfold Instr.sliceBounds
  cases hh with
  | none =>
    cases hl with
    | none => simp
    | some g =>
      have := (V_int.1 (s.arg g)).1
      simp only [Option.map_some, Option.map_none, this, Sem.run_bind, Sem.run_pure, Result.andThen_ok, run_sliceBound h0 (show l ≤ (len : Int) from h1), Int.toNat_natCast]
  | some g' =>
    have e' := (V_int.1 (s.arg g')).1
    cases hl with
    | none =>
      simp only [Option.map_some, Option.map_none, e', Sem.run_bind, Sem.run_pure, Result.andThen_ok, run_sliceBound (show 0 ≤ h by omega) h2]
      simp
    | some g =>
      have := (V_int.1 (s.arg g)).1
      simp only [Option.map_some, Option.map_none, e', this, Sem.run_bind, Sem.run_pure, Result.andThen_ok, run_sliceBound (show 0 ≤ h by omega) h2]
      simp only [Option.isSome_none]
      simp only [Sem.run_bind, Sem.run_pure, Result.andThen_ok, run_sliceBound (m := h.toNat) h0 (show l ≤ ((h.toNat : Nat) : Int) by omega)]

/-- where a slice of an array begins -/
def soff (n off l s : Nat) : Nat := if n = l then off else off + l * s

/-- a slice of an array of the call's own -/
theorem ob_sliceArr {n : Nat} {s : Nat} (ho : o.op = .slice T x lo hi none) (hT : P.underlying T = some (.array n e)) (hs : (P.info? e).map (·.size) = some s) (hx : Opd E x (ptrB b off))
    (hl : Bnd E 0 lo l) (hh : Bnd E n hi h) (hb : 0 ≤ l ∧ l ≤ h ∧ h ≤ n) : Ob P C B E o (is (.slice (some ⟨b, soff n off l.toNat s, none⟩) (h.toNat - l.toNat) (n - l.toNat))) := fun a w st => by
  have hx' : a.eval x = .pointer (some ⟨b, off, none⟩) := st.arg hx
  have hr := run_bounds (P := P) st false n n hl hh hb.1 hb.2.1 hb.2.2
  refine .value (w' := w) (v := .slice (some ⟨b, soff n off l.toNat s, none⟩) (h.toNat - l.toNat) (n - l.toNat)) ?_ ⟨rfl, .refl _ _⟩
  simp only [execOp, ho, Instr.sliceAt, Option.map_none, Sem.run_bind, run_underlying hT, Result.andThen_ok, hx', Instr.sureAddr, Sem.run_pure, hr, run_sizeOf' hs]
  unfold soff
  by_cases hn : n = l.toNat
  · simp [hn]
  · simp [hn, add_lit]

/-- what a slice of an array of the call's own reads as while it is lent -/
theorem lendSl {n off0 off' cap len : Nat} {xs ys : List β} (lg : LG K (karr n k) off0 X xs) (hb : cut? xs l h = some ys) (ho : off' = soff n off0 l.toNat k.sz) (hlen : len = ys.length) (hcap : ys.length ≤ cap ∧ cap ≤ maxLen) :
    ∀ ok w, (BF b U K X).holds ok w → ok b → ((ksl k).V ys).holds ok w (.slice (some ⟨b, off', none⟩) len cap) := by
  rintro ok w ⟨cs, hg, hr⟩ hok
  subst hlen
  have ha := lg _ _ _ hr
  obtain ⟨b0, b1, b2, rfl⟩ := cut?_some hb
  have r1 := (relL_split ha.2 h.toNat).1
  have r2 := (relL_split r1 l.toNat).2
  have hn : xs.length = n := ha.1
  refine ⟨_, ⟨some ⟨b, off', none⟩, cap, rfl, hcap, fun hn => (by cases hn), _, r2, fun q hq => ?_⟩, rfl⟩
  cases hq
  subst ho
  have hc := BF_cellsAt (off := off0) hg hok (karr n k).sz
  unfold soff
  by_cases hnl : n = l.toNat
  · have : (((cs.drop off0).take (karr n k).sz).take (h.toNat * k.sz)).drop (l.toNat * k.sz) = [] := by
      rw [List.drop_eq_nil_of_le]; simp only [List.length_take]; have := Nat.mul_le_mul_right k.sz (show h.toNat ≤ l.toNat by omega); omega
    rw [this]; intro j v hj; simp at hj
  · rw [if_neg hnl]
    have := cellsAt_take_drop hc (l.toNat * k.sz) ((h.toNat - l.toNat) * k.sz)
    rw [List.drop_take]
    rw [Nat.mul_sub_right_distrib, add_lit] at this
    exact this


theorem ob_cuts {xs ys : List β} (ho : o.op = .slice T x lo hi none) (hT : P.underlying T = some (.slice e)) (hs : (P.info? e).map (·.size) = some k.sz) (hx : Opd E x ((ksl k).V xs)) (hl : Bnd E 0 lo l) (hh : Bnd E xs.length hi h) (hb : cut? xs l h = some ys) : Ob P C B E o ((ksl k).V ys) := fun a w st => by
  obtain ⟨p, cap, hp, hcap, hnil, rs, hr, hc⟩ := V_sl (st.arg hx)
  obtain ⟨b0, b1, b2, rfl⟩ := cut?_some hb
  have hrb := run_bounds (P := P) st true xs.length cap hl hh b0 b1 (by omega)
  have hylen : ((xs.take h.toNat).drop l.toNat).length = h.toNat - l.toNat := by simp; omega
  refine .value (w' := w) (v := .slice (if cap = l.toNat then p else p.map (·.add (l.toNat * k.sz))) (h.toNat - l.toNat) (cap - l.toNat)) ?_ ⟨?_, .refl _ _⟩
  · simp only [execOp, ho, Instr.sliceAt, Instr.slice, Option.map_none, Sem.run_bind, run_underlying hT, Result.andThen_ok, hp, Sem.run_pure, hrb]
    simp [hrb, run_sizeOf' hs]
  · have r1 := (relL_split hr h.toNat).1
    have r2 := (relL_split r1 l.toNat).2
    refine ⟨_, ⟨_, cap - l.toNat, by rw [hylen], ⟨by rw [hylen]; omega, by omega⟩, fun hn => ?_, _, r2, fun q hq => ?_⟩, rfl⟩
    · cases p with
      | none => have := hnil rfl; omega
      | some p => split at hn <;> cases hn
    · cases p with
      | none => split at hq <;> cases hq
      | some p =>
        by_cases hnl : cap = l.toNat
        · have : (rs.take (h.toNat * k.sz)).drop (l.toNat * k.sz) = [] := by
            rw [List.drop_eq_nil_of_le]; simp only [List.length_take]; have := Nat.mul_le_mul_right k.sz (show h.toNat ≤ l.toNat by omega); omega
          rw [this]; intro j v hj; simp at hj
        · rw [if_neg hnl] at hq
          cases hq
          have := cellsAt_take_drop (hc p rfl) (l.toNat * k.sz) ((h.toNat - l.toNat) * k.sz)
          rw [List.drop_take]
          rwa [Nat.mul_sub_right_distrib] at this
end
end Go.Proofs.Kit
