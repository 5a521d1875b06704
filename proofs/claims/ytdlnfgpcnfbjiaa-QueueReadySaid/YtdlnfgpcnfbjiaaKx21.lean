/- A kit of this claim's own, part 21: small words of the printed proofs: scopes, slices of rows, copies, a function's end. No condition. -/
import Derived.Test.YtdlnfgpcnfbjiaaKx20
import Derived.Scope
import Derived.Laws.CopyRow
namespace Go.Proofs.Kit
open Go Go.RowKit
set_option linter.unusedSimpArgs false
set_option linter.unusedVariables false

section
variable {Q : Exit → Act → World → Prop} {a : Act} {w : World} {id : Nat}
end

theorem Flat.is {v : Value} : Flat (is v) := fun _ _ _ _ _ h => h
theorem ObX.uncond {P : Program} {C : Ctx} {B : List OF} {E : Env} {o : Oper} {γ : Type} {B' : γ → List OF} {F : γ → Fact} {c : Bool} {t : Nat} {G : Fact} (hc : c = true) (h : get E t = some (G.when c)) (ob : ObX P C B ((t, G) :: E) o B' F) : ObX P C B E o B' F := fun a w s => by
  have s' : St C B ((t, G) :: E) a w := s.fact ((s.env _ _ h).1 hc)
  refine (ob a w s').mono fun v w' ⟨g, h1, h2⟩ => ⟨g, h1, ?_⟩
  have e : ∀ u H, get E u = some H → u ≠ t → get ((t, G) :: E) u = some H := fun u H hu hne => by simp only [get]; rw [if_neg (Ne.symm hne)]; exact hu
  refine { h2 with env := fun u H hu => ?_ }
  by_cases e1 : u = t
  · subst e1
    rw [h] at hu; cases hu
    exact ⟨fun _ => h2.env u G (by simp [get]), fun hf => by rw [hc] at hf; cases hf⟩
  · exact h2.env u H (e u H hu e1)

section
variable {P : Program} {C : Ctx} {B B' A D : List OF} {E : Env} {o : Oper} {α β γ : Type} {K : Kd α} {k : Kd β} {T T' U e : TypeId} {x y : Operand} {b off : Nat} {X X' : α} {v : Value} {xs : List β} {l h : Int} {lo hi : Option Operand}

theorem ob_appendL2 {ys : List β} {y0 : β} {zs : List Value} (ho : o.op = .call { callee := .builtin .append, args := #[x, y], argTypes := #[T, T] }) (hT : P.underlying T = some (.slice e)) (ap : ApOk P e k zs) (hz : Zr k y0 zs)
    (hsz : 0 < k.sz) (hx : Opd E x (is v)) (hy : Opd E y ((ksl k).V ys)) (hB : B = A ++ RowF v e k xs :: D) (hb : xs.length + ys.length ≤ lim) :
    ObX P C B E o (fun g => A ++ RowF g e k (xs ++ ys) :: D) (fun g => is g) := ob_appendL ho hT ap hz hsz trivial hx hy hB hb


theorem lendSlB {L : List OF} {n off0 off' cap len : Nat} {zs ys : List β} (hL : BF b U K X ∈ L) (lg : LG K (karr n k) off0 X zs) (hb : cut? zs l h = some ys) (ho : off' = soff n off0 l.toNat k.sz) (hlen : len = ys.length) (hcap : ys.length ≤ cap ∧ cap ≤ maxLen) :
    ∀ ok w u, (is (.slice (some ⟨b, off', none⟩) len cap)).holds ok w u → (∀ q, q ∈ L → q.holds ok w) → (∀ c, c ∈ idsOf L → ok c) → ((ksl k).V ys).holds ok w u := by
  rintro ok w u rfl h1 h2
  exact lendSl lg hb ho hlen hcap ok w (h1 _ hL) (h2 b (mem_idsOf hL (by simp [BF])))


end


theorem St.dropTail {C : Ctx} {B D : List OF} {E : Env} {a : Act} {w : World} (h : St C (B ++ D) E a w) : St C B E a w := by
  induction D generalizing B with
  | nil => simpa using h
  | cons f D ih => exact ih h.drop

theorem leaveXD {P : Program} {fn : Func} {ok : Ok} {w : World} {γ : Type} {F : γ → Fact} {L : List OF} {L' : γ → List OF} {N : Nat} {E : Env} {l : List ResultVar} {m : List Fact} {a : Act} {w' : World} {e : Exit} (g : γ) {B D : List OF} (s : St ⟨N, w, ok, idsOf L⟩ (B ++ D) E a w') (hB : L' g = B) (he : e = .ret ∨ e = .normal) (hr : fn.results = l.toArray) (h : ResAll P ⟨N, w, ok, idsOf L⟩ (B ++ D) E l m) (hF : F g = resFact m) :
    bodyPost P fn (fun e w' => ∃ v, e = .returned v ∧ OutX ok w L F L' v w') e a w' := by
  subst hB
  obtain ⟨vs, h1, h2, h3⟩ := run_resultsX s hr h
  have s' := s.dropTail
  have kp : Keep (okB ⟨N, w, ok, idsOf L⟩ (idsOf (L' g ++ D))) (okB ⟨N, w, ok, idsOf L⟩ (idsOf (L' g))) w' w' := fun b _ ho => ⟨rfl, ho.1, fun hm => ho.2 (by rw [idsOf_append, List.mem_append]; exact .inl hm)⟩
  have key : (resFact m).holds (okOut ok w (idsOf L) (idsOf (L' g))) w' (if vs.length = 1 then vs.headD undef else .tuple vs.toArray) := by
    refine Fact.mono _ (?_ : (resFact m).holds (okB ⟨N, w, ok, idsOf L⟩ (idsOf (L' g ++ D))) w' _) kp
    match m, vs, h1 with
    | [], [], _ => exact ⟨[], rfl, rfl, fun i F u hF => by simp at hF⟩
    | [F], [v], _ => exact h2 0 F v rfl rfl
    | F :: G :: m, v :: u :: vs, hl => exact ⟨v :: u :: vs, by simp, hl, h2⟩
  have out : ∃ v, Ending.returned (if vs.length = 1 then vs.headD undef else .tuple vs.toArray) = .returned v ∧ OutX ok w L F L' v w' := ⟨_, rfl, g, by rw [hF]; exact key, s'.ev, s'.nod, s'.fresh, s'.own⟩
  rcases he with rfl | rfl <;> exact ⟨s.dfr, _, h3, out⟩

end Go.Proofs.Kit
