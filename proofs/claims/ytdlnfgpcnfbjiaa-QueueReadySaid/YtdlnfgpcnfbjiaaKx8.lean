/- A kit of this claim's own, part 8: noughts, constants, small words that the printed proofs use. No condition. -/
import Derived.Test.YtdlnfgpcnfbjiaaKx7
namespace Go.Proofs.Kit
open Go Go.RowKit
set_option linter.unusedSimpArgs false
set_option linter.unusedVariables false


def Zr {α : Type} (k : Kd α) (x : α) (zs : List Value) : Prop := ∀ ok w, k.rel ok w x zs

theorem Zr.int (ik : IntKind) : Zr (kint ik) 0 [.int ik 0] := fun _ _ => ⟨rfl, has_zero ik⟩
theorem Zr.bool : Zr kbool false [.bool false] := fun _ _ => rfl
theorem Zr.str : Zr kstr [] [.string ⟨#[]⟩] := fun _ _ => ⟨⟨#[]⟩, rfl, rfl, Nat.zero_le _⟩
theorem Zr.sl {α : Type} (k : Kd α) : Zr (ksl k) [] [.slice none 0 0] := fun _ _ => ⟨none, 0, rfl, ⟨Nat.le_refl _, Nat.zero_le _⟩, fun _ => rfl, [], rfl, fun p hp => by cases hp⟩
theorem Zr.nil : Zr knil () [] := fun _ _ => rfl
theorem Zr.pair {α β : Type} {k : Kd α} {l : Kd β} {x : α} {y : β} {zs us : List Value} (h : Zr k x zs) (g : Zr l y us) : Zr (kpair k l) (x, y) (zs ++ us) := fun ok w => ⟨zs, us, rfl, h ok w, g ok w⟩
theorem Zr.iso {α β : Type} {k : Kd β} {f : α → β} {x : α} {zs : List Value} (h : Zr k (f x) zs) : Zr (kiso k f) x zs := h
theorem Zr.arr {α : Type} {k : Kd α} {x : α} {zs : List Value} (n : Nat) (h : Zr k x zs) : Zr (karr n k) (List.replicate n x) (List.replicate n zs).flatten := fun ok w => by
  refine ⟨by simp, ?_⟩
  induction n with
  | zero => rfl
  | succ n ih => rw [List.replicate_succ, List.replicate_succ, List.flatten_cons]; exact ⟨zs, _, rfl, h ok w, ih⟩

section
variable {P : Program} {C : Ctx} {B : List OF} {E : Env} {o : Oper} {α β : Type} {K : Kd α} {k : Kd β} {T T' e : TypeId} {x y : Operand}

theorem ob_new {zs : List Value} {Y : β} (ho : o.op = .alloc T) (hz : ((P.info? T).bind (·.zero)) = some (mkv k.agg zs)) (hk : Zr k Y zs) : ObX P C B E o (fun b => BF b T k Y :: B) (fun b => ptrB b 0) :=
  ob_alloc ho hz (fun ok w => by rw [Kd.cells (hk ok w)]; exact hk ok w)

theorem ob_mkStruct {X0 X : α} {fs : Array Field} {zs : List Value} {places : List (Nat × Nat)} {parts : List (Nat × Operand)} (ho : o.op = .build T parts.toArray) (hT : P.underlying T = some (.struct fs)) (hz : ((P.info? T).bind (·.zero)) = some (mkv K.agg zs)) (hK : K.agg = true)
    (hp : fs.toList.mapM (fun f => (P.info? f.type).map fun i => (f.offset, i.size)) = some places) (h0 : Zr K X0 zs) (hb : BuildOk E K (fun x : Nat => places[x]?) X0 parts X) : Ob P C B E o (K.V X) :=
  ob_buildStruct ho hT hz hK hp (fun ok w => by rw [Kd.cells (h0 ok w)]; exact h0 ok w) hb

theorem ob_mkArr {n : Nat} {zs : List Value} {parts : List (Nat × Operand)} {xs0 xs : List β} (ho : o.op = .build T parts.toArray) (hT : P.underlying T = some (.array n e)) (hz : ((P.info? T).bind (·.zero)) = some (mkv true zs))
    (hs : (P.info? e).map (·.size) = some k.sz) (h0 : Zr (karr n k) xs0 zs) (hb : BuildOk E (karr n k) (fun i => some (i * k.sz, k.sz)) xs0 parts xs) : Ob P C B E o ((karr n k).V xs) :=
  ob_buildArr ho hT hz hs (fun ok w => by rw [show (mkv true zs).cells.toList = zs from Kd.cells (k := karr n k) (h0 ok w)]; exact h0 ok w) hb

theorem ob_mkSlice {n : Nat} {zs : List Value} {y0 : β} {parts : List (Nat × Operand)} {xs : List β} (ho : o.op = .buildSlice T n parts.toArray) (hT : P.underlying T = some (.slice e)) (hz : ((P.info? e).bind (·.zero)) = some (mkv k.agg zs))
    (hs : (P.info? e).map (·.size) = some k.sz) (h0 : Zr k y0 zs) (hn : n * k.sz ≤ 16777216) (hk : 0 < k.sz) (hb : BuildOk E (karr n k) (fun i => some (i * k.sz, k.sz)) (List.replicate n y0) parts xs) : Ob P C B E o ((ksl k).V xs) :=
  ob_buildSlice ho hT hz hs (fun ok w => by rw [Kd.cells (h0 ok w)]; exact h0 ok w) hn hk hb

/-- a part of an array that is set, in its place -/
theorem LS.arr' {n : Nat} {xs ys : List β} {i : Nat} {y : β} (h : i < xs.length) (e : xs.set i y = ys) : LS (karr n k) k (i * k.sz) xs y ys := by subst e; exact LS.arr h


def hasB (k : IntKind) (n : Int) : Bool := decide (k.min ≤ n) && decide (n ≤ k.max)
theorem opd_int {ik : IntKind} {n : Int} (h : hasB ik n = true) : Opd E (.const (.int ik n)) ((kint ik).V n) := .const fun ok w => V_int.2 ⟨rfl, by
  unfold hasB at h; simp only [Bool.and_eq_true, decide_eq_true_eq] at h; exact h⟩
theorem opd_bool {p : Bool} : Opd E (.const (.bool p)) (kbool.V p) := .const fun ok w => V_bool.2 rfl
theorem opd_str {s : ByteArray} {l : List Int} (h : bl s = l) (hs : s.size ≤ maxLen) : Opd E (.const (.string s)) (kstr.V l) := .const fun ok w => V_str.2 ⟨s, rfl, h.symm, hs⟩
theorem opd_nil : Opd E (.const (.slice none 0 0)) ((ksl k).V []) := .const fun ok w => ⟨_, Zr.sl k ok w, rfl⟩

theorem Ob.nm {X Y : β} (h : Ob P C B E o (k.V X)) (e : X = Y) : Ob P C B E o (k.V Y) := e ▸ h
theorem Ob.as {F G : Fact} (h : Ob P C B E o F) (e : ∀ ok w v, F.holds ok w v → G.holds ok w v) : Ob P C B E o G := fun a w s => (h a w s).mono fun v w' ⟨h1, h2⟩ => ⟨e _ _ _ h1, h2⟩
theorem bind_some {α β : Type} {o : Option α} {f : α → Option β} {r : β} (h : o.bind f = some r) : ∃ x, o = some x ∧ f x = some r := Option.bind_eq_some_iff.1 h
theorem guard_some {p : Prop} [Decidable p] {β : Type} {x : Option β} {r : β} (h : (if p then x else none) = some r) : p ∧ x = some r := by
  by_cases hp : p
  · rw [if_pos hp] at h; exact ⟨hp, h⟩
  · rw [if_neg hp] at h; cases h

theorem ite_t {p : Bool} {β : Type} {x y : Option β} {r : β} (hp : p = true) (h : (if p = true then x else y) = some r) : x = some r := by rwa [if_pos hp] at h
theorem ite_f {p : Bool} {β : Type} {x y : Option β} {r : β} (hp : p = false) (h : (if p = true then x else y) = some r) : y = some r := by rwa [if_neg (by rw [hp]; exact Bool.false_ne_true)] at h
theorem LG.arrA {n : Nat} {xs : List β} {i : Int} {y : β} (h : at? xs i = some y) : LG (karr n k) k (i.toNat * k.sz) xs y := LG.arr (at?_some h).2.2
theorem LS.arrS {n : Nat} {xs ys : List β} {i : Int} {y : β} (h : set? xs i y = some ys) : LS (karr n k) k (i.toNat * k.sz) xs y ys := LS.arr' (by have := set?_some h; omega) (set?_some h).2.2.symm

end

end Go.Proofs.Kit
