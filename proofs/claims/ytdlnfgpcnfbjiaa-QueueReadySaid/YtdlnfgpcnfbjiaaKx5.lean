/- A kit of this claim's own, part 5: a function's begin and end, loops, equality, values that are built, rows that grow. No condition. -/
import Derived.Test.YtdlnfgpcnfbjiaaKx4
namespace Go.Proofs.Kit
open Go Go.RowKit
set_option linter.unusedSimpArgs false
set_option linter.unusedVariables false


section
variable {P : Program} {f : FuncId} {fn : Func} {c : Code} {args : List Value} {ok : Ok} {w : World} {F : Fact}

/-- the arguments' facts, from slot k on -/
def argEnv : Nat → List Fact → Env
  | _, [] => []
  | k, F :: l => (k, F) :: argEnv (k + 1) l

inductive ArgsOk (ok : Ok) (w : World) : List Fact → List Value → Prop
  | nil : ArgsOk ok w [] []
  | cons {F : Fact} {v : Value} {l : List Fact} {vs : List Value} (h : F.holds ok w v) (t : ArgsOk ok w l vs) : ArgsOk ok w (F :: l) (v :: vs)

theorem ArgsOk.get {l : List Fact} {vs : List Value} (h : ArgsOk ok w l vs) : ∀ k t F, Kit.get (argEnv k l) t = some F → k ≤ t ∧ ∃ v, vs[t - k]? = some v ∧ F.holds ok w v := by
  induction h with
  | nil => intro k t F h; cases h
  | @cons G v l vs h1 t1 ih =>
    intro k t F ht
    simp only [argEnv, Kit.get] at ht
    by_cases e : k = t
    · rw [if_pos e] at ht; cases ht; subst e
      exact ⟨Nat.le_refl _, v, by simp, h1⟩
    · rw [if_neg e] at ht
      obtain ⟨h2, u, h3, h4⟩ := ih (k + 1) t F ht
      refine ⟨by omega, u, ?_, h4⟩
      rw [show t - k = (t - (k + 1)) + 1 by omega]; simpa using h3

theorem ArgsOk.len {l : List Fact} {vs : List Value} (h : ArgsOk ok w l vs) : l.length = vs.length := by induction h <;> simp_all

/-- into a function -/
theorem enter {l : List Fact} (hf : P.funcs[f]? = some fn) (hb : fn.body = some c) {N : Nat} (hN : fn.ntmps = N) (hl : l.length ≤ N) (ha : ArgsOk ok w l args)
    (K : ∀ a, St ⟨N, w, ok, []⟩ [] (argEnv 0 l) a w → c.wp P (bodyPost P fn fun e w' => ∃ v, e = .returned v ∧ F.holds (okNew ok w) w' v ∧ Ev [] w w') a w) : Gives P f args ok w F := by
  refine calls_of_wp hf hb (K _ ?_)
  have hlen : args.length ≤ N := by rw [← ha.len]; exact hl
  refine { size := by simp [hN]; omega, dfr := rfl, nod := List.nodup_nil, fresh := fun b hb => (by cases hb), ev := .refl _ _, own := fun f hf => (by cases hf), env := fun t G ht => ?_ }
  obtain ⟨_, v, h2, h3⟩ := ha.get 0 t G ht
  have hv : sl { tmps := args.toArray ++ Array.replicate (fn.ntmps - args.toArray.size) undef, defers := [] } t = v := by
    unfold sl
    have ht' : t < args.length := (List.getElem?_eq_some_iff.1 h2).1
    rw [Nat.sub_zero] at h2
    rw [Array.getD_eq_getD_getElem?, Array.getElem?_append_left (by simpa using ht')]
    simp [h2]
  rw [hv]
  exact G.mono h3 (fun b hb ho => ⟨rfl, fun _ => .inl ho, by simp [idsOf]⟩)

/-- one of a function's results -/
inductive ResOk (P : Program) (C : Ctx) (B : List OF) (E : Env) : ResultVar → Fact → Prop
  | tmp {t : Tmp} {F : Fact} (h : Kit.get E t = some F) : ResOk P C B E (.tmp t) F
  | cell {p : Tmp} {T U : TypeId} {b off : Nat} {α β : Type} {K : Kd α} {k : Kd β} {X : α} {Y : β} (h : Kit.get E p = some (ptrB b off)) (tk : TK P T k) (hB : BF b U K X ∈ B) (lg : LG K k off X Y) : ResOk P C B E (.cell p T) (k.V Y)

def resSem (tmps : Array Value) : ResultVar → Sem Value
  | .tmp t => pure (tmps.getD t undef)
  | .cell p t => do loadVar t (← asAddr (tmps.getD p undef))

theorem ResOk.run {C : Ctx} {B : List OF} {E : Env} {r : ResultVar} {F : Fact} {a : Act} {w : World} (h : ResOk P C B E r F) (s : St C B E a w) :
    ∃ v, F.holds (okB C (idsOf B)) w v ∧ (resSem a.tmps r).run P w = .ok v w := by
  cases h with
  | tmp h => exact ⟨_, s.env _ _ h, rfl⟩
  | @cell p T U b off α β K k X Y h tk hB lg =>
    obtain ⟨cs, hg, hr⟩ := s.own _ hB
    have hY := lg _ _ _ hr
    have hl := run_loadVar' (w := w) tk hY (a := ⟨b, off, none⟩) (fun j v hj => BF_cell (k := k) hg hj)
    have hp : a.tmps.getD p undef = .pointer (some ⟨b, off, none⟩) := s.env _ _ h
    refine ⟨mkv k.agg _, ⟨_, hY, rfl⟩, ?_⟩
    simp only [resSem, hp, asAddr, Sem.run_bind, Sem.run_pure, Result.andThen_ok, hl]

inductive ResAll (P : Program) (C : Ctx) (B : List OF) (E : Env) : List ResultVar → List Fact → Prop
  | nil : ResAll P C B E [] []
  | cons {r : ResultVar} {F : Fact} {l : List ResultVar} {m : List Fact} (h : ResOk P C B E r F) (t : ResAll P C B E l m) : ResAll P C B E (r :: l) (F :: m)

theorem ResAll.run {C : Ctx} {B : List OF} {E : Env} {l : List ResultVar} {m : List Fact} {a : Act} {w : World} (h : ResAll P C B E l m) (s : St C B E a w) :
    ∃ vs : List Value, vs.length = m.length ∧ (∀ (i : Nat) (F : Fact) (u : Value), m[i]? = some F → vs[i]? = some u → F.holds (okB C (idsOf B)) w u) ∧ (l.mapM (resSem a.tmps)).run P w = .ok vs w := by
  induction h with
  | nil => exact ⟨[], rfl, fun i F u hF => by simp at hF, rfl⟩
  | @cons r F l m h t ih =>
    obtain ⟨v, h1, h2⟩ := h.run s
    obtain ⟨vs, h3, h4, h5⟩ := ih
    refine ⟨v :: vs, by simp [h3], fun i G u hG hu => ?_, ?_⟩
    · cases i with
      | zero => simp at hG hu; subst hG hu; exact h1
      | succ i => exact h4 i G u (by simpa using hG) (by simpa using hu)
    · rw [List.mapM_cons, Sem.run_bind, h2]
      simp only [Result.andThen_ok, Sem.run_bind, h5, Sem.run_pure]

theorem keep_out {N : Nat} {w0 : World} {ok0 : Ok} {B : List OF} {w : World} : Keep (okB ⟨N, w0, ok0, []⟩ (idsOf B)) (okNew ok0 w0) w w := fun b _ ho => ⟨rfl, fun h => (ho.1 h).resolve_right (by simp)⟩

theorem run_results {N : Nat} {w0 : World} {ok0 : Ok} {B : List OF} {E : Env} {l : List ResultVar} {m : List Fact} {a : Act} {w' : World} (s : St ⟨N, w0, ok0, []⟩ B E a w') (hr : fn.results = l.toArray) (h : ResAll P ⟨N, w0, ok0, []⟩ B E l m) :
    ∃ vs : List Value, vs.length = m.length ∧ (∀ (i : Nat) (F : Fact) (u : Value), m[i]? = some F → vs[i]? = some u → F.holds (okNew ok0 w0) w' u) ∧
      (results fn a.tmps).run P w' = .ok (if vs.length = 1 then vs.headD undef else .tuple vs.toArray) w' := by
  obtain ⟨vs, h1, h2, h3⟩ := h.run s
  refine ⟨vs, h1, fun i F u hF hu => F.mono (h2 i F u hF hu) keep_out, ?_⟩
  have e : results fn a.tmps = (do let vs ← fn.results.mapM (resSem a.tmps); pure (if h : vs.size = 1 then vs[0] else .tuple vs)) := by
    unfold results; congr 2
  rw [e, hr, List.mapM_toArray]
  simp only [Sem.run_bind, Sem.run_map, h3, Result.andThen_ok, Sem.run_pure]
  match vs with
  | [] => rfl
  | [v] => rfl
  | _ :: _ :: _ => simp

/-- what a function hands back -/
def resFact : List Fact → Fact
  | [F] => F
  | l => tup l

/-- out of a function -/
theorem leave {N : Nat} {B : List OF} {E : Env} {l : List ResultVar} {m : List Fact} {a : Act} {w' : World} {e : Exit} (s : St ⟨N, w, ok, []⟩ B E a w') (he : e = .ret ∨ e = .normal) (hr : fn.results = l.toArray) (h : ResAll P ⟨N, w, ok, []⟩ B E l m) :
    bodyPost P fn (fun e w' => ∃ v, e = .returned v ∧ (resFact m).holds (okNew ok w) w' v ∧ Ev [] w w') e a w' := by
  obtain ⟨vs, h1, h2, h3⟩ := run_results s hr h
  have key : (resFact m).holds (okNew ok w) w' (if vs.length = 1 then vs.headD undef else .tuple vs.toArray) := by
    match m, vs, h1 with
    | [], [], _ => exact ⟨[], rfl, rfl, fun i F u hF => by simp at hF⟩
    | [F], [v], _ => exact h2 0 F v rfl rfl
    | F :: G :: m, v :: u :: vs, hl => exact ⟨v :: u :: vs, by simp, hl, h2⟩
  rcases he with rfl | rfl <;> exact ⟨s.dfr, _, h3, _, rfl, key, s.ev⟩
end


section
variable {P : Program} {Q : Exit → Act → World → Prop} {K : Act → World → Prop} {a : Act} {w : World} {id id' : Nat}

theorem then_exit (h : Q (.exit id) a w) : Exit.then K Q (.exit id) a w := h
theorem then_normal (h : K a w) : Exit.then K Q .normal a w := h
theorem in_here (h : Q .normal a w) : Exit.inBlock id Q (.exit id) a w := by simp only [Exit.inBlock, if_true]; exact h
theorem in_other (hn : id' ≠ id) (h : Q (.exit id') a w) : Exit.inBlock id Q (.exit id') a w := by simp only [Exit.inBlock, if_neg hn]; exact h
theorem in_normal (h : Q .normal a w) : Exit.inBlock id Q .normal a w := h

theorem cond_split {C : Ctx} {B : List OF} {E : Env} {x : Operand} {p : Bool} {c1 c2 : Code} (s : St C B E a w) (hx : Opd E x (kbool.V p)) (h1 : p = true → c1.wp P Q a w) (h2 : p = false → c2.wp P Q a w) : (Code.cond x c1 c2).wp P Q a w :=
  wp_cond_split (V_bool.1 (s.arg hx)) h1 h2

/-- a loop, its rounds told by a function with a bound -/
theorem wp_loop_fuel {σ ρ : Type} {c : Code} (L : Nat → σ → Option ρ) (r : ρ) (h0 : ∀ s, L 0 s = none) (I : σ → Act → World → Prop)
    (step : ∀ k s a w, L (k + 1) s = some r → I s a w → ∀ K : Act → World → Prop, (∀ s' a' w', L k s' = some r → I s' a' w' → K a' w') → c.wp P (Exit.then K Q) a w) :
    ∀ k s a w, L k s = some r → I s a w → (Code.loop c).wp P Q a w := by
  intro k s a w hL hI b t cs
  have key : ∀ k s a w, L k s = some r → I s a w → ∃ e a' w', Q e a' w' ∧ Arrives P (lone (b.at a (.code c :: .inLoop c :: t)) cs w) b t cs e a' w' := by
    intro k
    induction k with
    | zero => intro s a w hL; rw [h0] at hL; cases hL
    | succ k ih =>
      intro s a w hL hI
      obtain ⟨e, a', w', hq, harr⟩ := step k s a w hL hI (fun a' w' => ∃ s', L k s' = some r ∧ I s' a' w') (fun s' a' w' hL' hI' => ⟨s', hL', hI'⟩) b (.inLoop c :: t) cs
      cases e with
      | normal =>
        obtain ⟨s', hL', hI'⟩ := hq
        obtain ⟨e₂, a₂, w₂, hq₂, harr₂⟩ := ih s' a' w' hL' hI'
        exact ⟨e₂, a₂, w₂, hq₂, .of_steps (Steps.trans harr (.one step_inLoop)) harr₂⟩
      | exit id => exact ⟨_, a', w', hq, .pass (x := .inLoop c) rfl (fun _ _ => .inl (by simp)) harr⟩
      | goto l => exact ⟨_, a', w', hq, .pass (x := .inLoop c) rfl (fun _ _ => .inl (by simp)) harr⟩
      | ret => exact ⟨_, a', w', hq, .pass (x := .inLoop c) rfl (fun _ _ => .inl (by simp)) harr⟩
      | panic ch => exact ⟨_, a', w', hq, .pass (x := .inLoop c) rfl (fun _ _ => .inl (by simp)) harr⟩
      | outgrown => exact ⟨_, a', w', hq, .pass (x := .inLoop c) rfl (fun _ _ => .inl (by simp)) harr⟩
  obtain ⟨e, a', w', hq, harr⟩ := key k s a w hL hI
  exact ⟨e, a', w', hq, .of_steps (.one step_loop) harr⟩
end

end Go.Proofs.Kit
