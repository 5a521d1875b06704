/- A kit of this claim's own, part 11: calls that are lent a variable of the caller's; slices of arrays; texts. No condition. -/
import Derived.Test.YtdlnfgpcnfbjiaaKx9
import Derived.Laws.BytesString
namespace Go.Proofs.Kit
open Go Go.RowKit
set_option linter.unusedSimpArgs false
set_option linter.unusedVariables false


def okOut (ok : Ok) (w : World) (L ids : List Nat) : Ok := fun n => (n < w.heap.size → ok n ∨ n ∈ L) ∧ n ∉ ids

/-- what such a call leaves: the lent things turned, new ones perhaps -/
def OutX {γ : Type} (ok : Ok) (w : World) (L : List OF) (F : γ → Fact) (L' : γ → List OF) (v : Value) (w' : World) : Prop :=
  ∃ g, (F g).holds (okOut ok w (idsOf L) (idsOf (L' g))) w' v ∧ Ev (idsOf L) w w' ∧ (idsOf (L' g)).Nodup ∧ (∀ b, b ∈ idsOf (L' g) → w.heap.size ≤ b ∨ b ∈ idsOf L) ∧ ∀ q, q ∈ L' g → q.holds (okOut ok w (idsOf L) (idsOf (L' g))) w'

def GivesX (P : Program) (f : FuncId) (args : List Value) (ok : Ok) (w : World) (L : List OF) {γ : Type} (F : γ → Fact) (L' : γ → List OF) : Prop :=
  Calls P f args.toArray w fun e w' => ∃ v, e = .returned v ∧ OutX ok w L F L' v w'

section
variable {P : Program} {f : FuncId} {fn : Func} {c : Code} {args : List Value} {ok : Ok} {w : World} {γ : Type} {F : γ → Fact} {L : List OF} {L' : γ → List OF}

theorem enterX {l : List Fact} (hf : P.funcs[f]? = some fn) (hb : fn.body = some c) {N : Nat} (hN : fn.ntmps = N) (hl : l.length ≤ N) (ha : ArgsOk ok w l args) (hnod : (idsOf L).Nodup) (hown : ∀ q, q ∈ L → q.holds ok w) (hd : ∀ b, b ∈ idsOf L → ¬ ok b)
    (K : ∀ a, St ⟨N, w, ok, idsOf L⟩ L (argEnv 0 l) a w → c.wp P (bodyPost P fn fun e w' => ∃ v, e = .returned v ∧ OutX ok w L F L' v w') a w) : GivesX P f args ok w L F L' := by
  refine calls_of_wp hf hb (K _ ?_)
  have hlen : args.length ≤ N := by rw [← ha.len]; exact hl
  have kp : Keep ok (okB ⟨N, w, ok, idsOf L⟩ (idsOf L)) w w := fun b _ ho => ⟨rfl, fun _ => .inl ho, fun hm => hd b hm ho⟩
  refine { size := by simp [hN]; omega, dfr := rfl, nod := hnod, fresh := fun b hb => .inr hb, ev := .refl _ _, own := fun q hq => q.mono (hown q hq) kp (fun _ _ => rfl), env := fun t G ht => ?_ }
  obtain ⟨_, v, h2, h3⟩ := ha.get 0 t G ht
  have hv : sl { tmps := args.toArray ++ Array.replicate (fn.ntmps - args.toArray.size) undef, defers := [] } t = v := by
    unfold sl
    have ht' : t < args.length := (List.getElem?_eq_some_iff.1 h2).1
    rw [Nat.sub_zero] at h2
    rw [Array.getD_eq_getD_getElem?, Array.getElem?_append_left (by simpa using ht')]
    simp [h2]
  rw [hv]
  exact G.mono h3 kp

theorem run_resultsX {C : Ctx} {B : List OF} {E : Env} {l : List ResultVar} {m : List Fact} {a : Act} {w' : World} (s : St C B E a w') (hr : fn.results = l.toArray) (h : ResAll P C B E l m) :
    ∃ vs : List Value, vs.length = m.length ∧ (∀ (i : Nat) (F : Fact) (u : Value), m[i]? = some F → vs[i]? = some u → F.holds (okB C (idsOf B)) w' u) ∧
      (results fn a.tmps).run P w' = .ok (if vs.length = 1 then vs.headD undef else .tuple vs.toArray) w' := by
  obtain ⟨vs, h1, h2, h3⟩ := h.run s
  refine ⟨vs, h1, h2, ?_⟩
  have e : results fn a.tmps = (do let vs ← fn.results.mapM (resSem a.tmps); pure (if h : vs.size = 1 then vs[0] else .tuple vs)) := by
    unfold results; congr 2
  rw [e, hr, List.mapM_toArray]
  simp only [Sem.run_bind, Sem.run_map, h3, Result.andThen_ok, Sem.run_pure]
  match vs with
  | [] => rfl
  | [v] => rfl
  | _ :: _ :: _ => simp

end

section
variable {β : Type} {pre post : List Value} {k : Kd β} {h1 : ∀ v, v ∈ pre → v.oneCell' = true} {h2 : ∀ v, v ∈ post → v.oneCell' = true}
end

section
variable {P : Program} {C : Ctx} {B B' A D : List OF} {E : Env} {o : Oper} {f : FuncId} {α β : Type} {K : Kd α} {k : Kd β} {X X' : α} {x x' : β} {b off : Nat} {U : TypeId} {F : Fact}


def Flat (F : Fact) : Prop := ∀ ok ok' w w' v, F.holds ok w v → F.holds ok' w' v
def KFlat {α : Type} (k : Kd α) : Prop := ∀ ok ok' w w' x cs, k.rel ok w x cs → k.rel ok' w' x cs
theorem KFlat.int (ik : IntKind) : KFlat (kint ik) := fun _ _ _ _ _ _ h => h
theorem KFlat.bool : KFlat kbool := fun _ _ _ _ _ _ h => h
theorem KFlat.str : KFlat kstr := fun _ _ _ _ _ _ h => h
theorem KFlat.nil : KFlat knil := fun _ _ _ _ _ _ h => h
theorem KFlat.pair {α β : Type} {k : Kd α} {l : Kd β} (h1 : KFlat k) (h2 : KFlat l) : KFlat (kpair k l) := fun _ _ _ _ _ _ ⟨c, d, e, g1, g2⟩ => ⟨c, d, e, h1 _ _ _ _ _ _ g1, h2 _ _ _ _ _ _ g2⟩
theorem KFlat.iso {α β : Type} {k : Kd β} {f : α → β} (h : KFlat k) : KFlat (kiso k f) := fun _ _ _ _ _ _ g => h _ _ _ _ _ _ g
theorem KFlat.arr {α : Type} {k : Kd α} {n : Nat} (h : KFlat k) : KFlat (karr n k) := by
  rintro ok ok' w w' xs cs ⟨hl, hr⟩
  refine ⟨hl, ?_⟩
  clear hl
  induction xs generalizing cs with
  | nil => exact hr
  | cons x xs ih => obtain ⟨c, d, rfl, g1, g2⟩ := hr; exact ⟨c, d, rfl, h _ _ _ _ _ _ g1, ih d g2⟩
theorem Flat.V {α : Type} {k : Kd α} {x : α} (h : KFlat k) : Flat (k.V x) := fun _ _ _ _ _ ⟨cs, g, e⟩ => ⟨cs, h _ _ _ _ _ _ g, e⟩
theorem Flat.tup {l : List Fact} (h : ∀ F, F ∈ l → Flat F) : Flat (tup l) := fun _ _ _ _ _ ⟨vs, h1, h2, h3⟩ => ⟨vs, h1, h2, fun i F u hF hu => h F (List.mem_of_getElem? hF) _ _ _ _ _ (h3 i F u hF hu)⟩
theorem Flat.res1 {F : Fact} (h : Flat F) : Flat (resFact [F]) := h
theorem Flat.res2 {F G : Fact} (h : Flat F) (g : Flat G) : Flat (resFact [F, G]) := Flat.tup fun _ hm => by
  simp at hm; rcases hm with rfl | rfl
  · exact h
  · exact g
theorem BF_cellsAt {ok : Ok} {w : World} {cs : List Value} (hg : w.heap[b]? = some (.cells cs.toArray U (0, 0))) (hb : ok b) (n : Nat) : cellsAt ok w ⟨b, off, none⟩ ((cs.drop off).take n) := by
  intro j v hj
  refine ⟨?_, hb⟩
  rw [add_lit]
  have : cs[off + j]? = some v := by
    rw [List.getElem?_take] at hj
    split at hj
    · rwa [List.getElem?_drop] at hj
    · cases hj
  simp [World.cell?, hg, this]

theorem lendPtr (lg : LG K k off X x) : ∀ ok w, (BF b U K X).holds ok w → ok b → (ptrTo k x).holds ok w (.pointer (some ⟨b, off, none⟩)) := by
  rintro ok w ⟨cs, hg, hr⟩ hb
  exact ⟨_, _, rfl, BF_cellsAt hg hb _, lg _ _ _ hr⟩
end


theorem St.rowValM {C : Ctx} {A D : List OF} {E : Env} {β : Type} {k : Kd β} {e : TypeId} {a : Act} {w : World} {v : Value} {xs : List β} (h : St C (A ++ RowF v e k xs :: D) E a w) : ((ksl k).V xs).holds (okB C (idsOf (A ++ D))) w v := by
  obtain ⟨rs, hr, hl, hv⟩ := h.own (RowF v e k xs) (by simp)
  have kp : Keep (okB C (idsOf (A ++ RowF v e k xs :: D))) (okB C (idsOf (A ++ D))) w w := fun b _ ho => ⟨rfl, ho.1, fun hm => ho.2 (by
    simp only [idsOf_append, idsOf, List.mem_append] at hm ⊢; rcases hm with h1 | h1 <;> simp [h1])⟩
  rcases hv with ⟨rfl, h0⟩ | ⟨g, cap, cur, rfl, _, hg, h1, h2, h3, h4⟩
  · have hxs : xs = [] := List.eq_nil_of_length_eq_zero h0
    subst hxs
    exact ⟨_, ⟨none, 0, rfl, ⟨Nat.le_refl _, Nat.zero_le _⟩, fun _ => rfl, [], rfl, fun p hp => by cases hp⟩, rfl⟩
  · have hgi : g ∈ idsOf (A ++ RowF (.slice (some ⟨g, 0, none⟩) xs.length cap) e k xs :: D) := mem_idsOf (f := RowF (.slice (some ⟨g, 0, none⟩) xs.length cap) e k xs) (by simp) (by simp [RowF, ownIds])
    have hnot : g ∉ idsOf (A ++ D) := by
      intro hm
      have hn := h.nod
      rw [idsOf_append] at hn
      have hn' : (idsOf A ++ ([g] ++ idsOf D)).Nodup := hn
      rw [List.nodup_append] at hn'
      obtain ⟨_, h6, h7⟩ := hn'
      rw [List.nodup_append] at h6
      rw [idsOf_append, List.mem_append] at hm
      rcases hm with h8 | h8
      · exact h7 g h8 g (by simp) rfl
      · exact h6.2.2 g (by simp) g h8 rfl
    refine ⟨_, ⟨some ⟨g, 0, none⟩, cap, rfl, ⟨h1, h2⟩, fun hn => (by cases hn), rs, relL_mono hr kp, fun p hp => ?_⟩, rfl⟩
    cases hp
    intro j u hj
    rw [add_lit]
    refine ⟨?_, ?_⟩
    · have : cur.toList[0 + j]? = some u := by
        rw [← h4, List.getElem?_take] at hj
        split at hj
        · simpa using hj
        · cases hj
      simp only [World.cell?, hg]
      simpa using this
    · refine ⟨fun hlt => ?_, hnot⟩
      rcases h.fresh g hgi with h5 | h5
      · exact absurd hlt (by show ¬ g < _; omega)
      · exact .inr h5

theorem St.freezeAllM {C : Ctx} {A D : List OF} {E : Env} {β : Type} {k : Kd β} {e : TypeId} {a : Act} {w : World} {v : Value} {xs : List β} {ts : List Nat} (h : St C (A ++ RowF v e k xs :: D) E a w) (ht : Holds E v ts) : St C (A ++ D) (frozen k xs ts E) a w := by
  have hv := h.rowValM
  have h' := h.drop
  induction ht with
  | nil => exact h'
  | @cons t l hg r ih => exact ih.fact (by rw [show sl a t = v from h.env t _ hg]; exact hv)

end Go.Proofs.Kit
