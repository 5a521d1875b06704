/- A kit of this claim's own, part 17: objects that hold rows that grow; callees that are lent such an object. No condition. -/
import Derived.Test.YtdlnfgpcnfbjiaaKx16
namespace Go.Proofs.Kit
open Go Go.RowKit
set_option linter.unusedSimpArgs false
set_option linter.unusedVariables false

/-- several owned things turn at once -/
theorem St.turnAll {C : Ctx} {L L' D : List OF} {E : Env} {a : Act} {w w' : World} (h : St C (L ++ D) E a w) (hn : (idsOf L').Nodup) (hi : ∀ b, b ∈ idsOf L' → b ∈ idsOf L ∨ w.heap.size ≤ b) (e : Ev (idsOf L) w w')
    (hL : Keep (okB C (idsOf (L ++ D))) (okB C (idsOf (L' ++ D))) w w' → ∀ q, q ∈ L' → q.holds (okB C (idsOf (L' ++ D))) w') : St C (L' ++ D) E a w' := by
  have hnod := h.nod
  rw [idsOf_append, List.nodup_append] at hnod
  obtain ⟨n1, n2, n3⟩ := hnod
  have hlt : ∀ b, b ∈ idsOf D → b < w.heap.size := fun b hb => h.lt (by rw [idsOf_append, List.mem_append]; exact .inr hb)
  have kp : Keep (okB C (idsOf (L ++ D))) (okB C (idsOf (L' ++ D))) w w' := by
    intro b hb ho
    have h1 : b ∉ idsOf L := fun hm => ho.2 (by rw [idsOf_append, List.mem_append]; exact .inl hm)
    have h2 : b ∉ idsOf D := fun hm => ho.2 (by rw [idsOf_append, List.mem_append]; exact .inr hm)
    refine ⟨e.block b hb h1, ho.1, ?_⟩
    rw [idsOf_append, List.mem_append]
    rintro (hm | hm)
    · rcases hi b hm with h3 | h3
      · exact h1 h3
      · omega
    · exact h2 hm
  refine { size := h.size, dfr := h.dfr, nod := ?_, fresh := ?_, ev := ?_, own := ?_, env := fun t F ht => F.mono (h.env t F ht) kp }
  · rw [idsOf_append, List.nodup_append]
    refine ⟨hn, n2, fun x hx y hy hxy => ?_⟩
    subst hxy
    rcases hi x hx with h3 | h3
    · exact n3 x h3 x hy rfl
    · have := hlt x hy; omega
  · intro b hb
    rw [idsOf_append, List.mem_append] at hb
    rcases hb with hm | hm
    · rcases hi b hm with h3 | h3
      · exact h.fresh b (by rw [idsOf_append, List.mem_append]; exact .inl h3)
      · left; have := h.ev.size; omega
    · exact h.fresh b (by rw [idsOf_append, List.mem_append]; exact .inr hm)
  · refine ⟨e.os.trans h.ev.os, e.tape.trans h.ev.tape, e.output.trans h.ev.output, Nat.le_trans h.ev.size e.size, fun k hk hM => ?_⟩
    rw [e.block k (Nat.lt_of_lt_of_le hk h.ev.size) ?_, h.ev.block k hk hM]
    intro hm
    rcases h.fresh k (by rw [idsOf_append, List.mem_append]; exact .inl hm) with h1 | h1
    · omega
    · exact hM h1
  · intro q hq
    rcases List.mem_append.1 hq with hm | hm
    · exact hL kp q hm
    · have hqm : q ∈ L ++ D := by simp [hm]
      refine q.mono (h.own q hqm) kp (fun b hb => e.block b (q.lt (h.own q hqm) b hb) (fun hbl => n3 b hbl b (mem_idsOf hm hb) rfl))

/-- a cell that holds just this value -/
def kis (v : Value) : Kd Unit where
  sz := 1
  agg := false
  rel ok w _ cs := cs = [v] ∧ v.cells = #[v] ∧ v.oneCell' = true
  len := by rintro ok w x cs ⟨rfl, _⟩; rfl
  one := by rintro ok w x cs ⟨rfl, h, _⟩ _; exact ⟨_, rfl, h⟩
  cell1 := by rintro ok w x cs ⟨rfl, _, h⟩ u hu; simp at hu; subst hu; exact h
  mono := fun h _ => h
theorem V_kis {v u : Value} {ok : Ok} {w : World} (h : ((kis v).V ()).holds ok w u) : u = v := by
  obtain ⟨cs, ⟨rfl, h1, h2⟩, e⟩ := h; exact e

/-- a nil slice that may come to grow; the number tells such rows apart -/
def nilRow (n : Nat) : Value := .slice none 0 0
theorem Zr.kis (n : Nat) : Zr (kis (nilRow n)) () [.slice none 0 0] := fun _ _ => ⟨rfl, rfl, rfl⟩
theorem rowNilN (n : Nat) (e : TypeId) {β : Type} (k : Kd β) (ok : Ok) (w : World) : (RowF (nilRow n) e k []).holds ok w := rowNil e k ok w

/-- .. x' is x, y in the place at 'off', where the block's kind turns too -/
def LSK {α β γ : Type} (K : Kd α) (k : Kd β) (K' : Kd γ) (off : Nat) (x : α) (y : β) (x' : γ) : Prop :=
  ∀ ok w cs ds, K.rel ok w x cs → k.rel ok w y ds → K'.sz = K.sz ∧ off + k.sz ≤ K.sz ∧ K'.rel ok w x' (cs.take off ++ ds ++ cs.drop (off + k.sz))

theorem LSK.of {α β : Type} {K : Kd α} {k : Kd β} {off : Nat} {x x' : α} {y : β} (h : LS K k off x y x') : LSK K k K off x y x' := fun ok w cs ds h1 h2 => ⟨rfl, h ok w cs ds h1 h2⟩

section
variable {P : Program} {C : Ctx} {B B' A D : List OF} {E : Env} {o : Oper} {α β γ : Type} {K : Kd α} {K' : Kd γ} {k : Kd β} {T U e : TypeId} {x y : Operand} {b off : Nat} {X : α} {X' : γ} {Y : β}

end


theorem rowRd {β : Type} {k : Kd β} {v : Value} {e : TypeId} {xs : List β} {ok : Ok} {w : World} (h : (RowF v e k xs).holds ok w) (ho : ∀ c, c ∈ ownIds v → ok c) : (ksl k).rel ok w xs [v] := by
  obtain ⟨rs, hr, hl, hv⟩ := h
  rcases hv with ⟨rfl, h0⟩ | ⟨g, cap, cur, rfl, _, hg, h1, h2, h3, h4⟩
  · have hxs : xs = [] := List.eq_nil_of_length_eq_zero h0
    subst hxs
    exact ⟨none, 0, rfl, ⟨Nat.le_refl _, Nat.zero_le _⟩, fun _ => rfl, [], rfl, fun p hp => by cases hp⟩
  · refine ⟨some ⟨g, 0, none⟩, cap, rfl, ⟨h1, h2⟩, fun hn => (by cases hn), rs, hr, fun p hp => ?_⟩
    cases hp
    intro j u hj
    rw [add_lit]
    refine ⟨?_, ho g (by simp [ownIds])⟩
    have : cur.toList[0 + j]? = some u := by
      rw [← h4, List.getElem?_take] at hj
      split at hj
      · simpa using hj
      · cases hj
    simp only [World.cell?, hg]
    simpa using this


section
variable {α β γ δ ε : Type}
theorem LSK.fst {k : Kd α} {k' : Kd δ} (l : Kd β) (hs : k'.sz = k.sz) (x : α × β) (y : δ) : LSK (kpair k l) k' (kpair k' l) 0 x y (y, x.2) := by
  rintro ok w cs ds ⟨c, d, rfl, h1, h2⟩ hy
  have e1 := k.len h1
  have e2 := k'.len hy
  refine ⟨by simp [kpair, hs], by simp [kpair]; omega, ds, d, ?_, hy, h2⟩
  rw [hs]
  simp [List.drop_append, List.drop_eq_nil_of_le (Nat.le_of_eq e1), e1]
theorem LSK.snd (k : Kd α) {l : Kd β} {m : Kd γ} {l' : Kd δ} {off : Nat} {x : α × β} {y : γ} {z : δ} (h : LSK l m l' off x.2 y z) : LSK (kpair k l) m (kpair k l') (k.sz + off) x y (x.1, z) := by
  rintro ok w cs ds ⟨c, d, rfl, h1, h2⟩ hy
  obtain ⟨hs, hb, hr⟩ := h ok w d ds h2 hy
  refine ⟨by simp [kpair, hs], by simp only [kpair]; omega, c, _, ?_, h1, hr⟩
  rw [← k.len h1, Nat.add_assoc]
  simp [List.take_append, List.drop_append, List.take_of_length_le, List.drop_eq_nil_of_le]
theorem LSK.iso {K : Kd α} {k : Kd β} {K' : Kd γ} {f : δ → α} {f' : ε → γ} {off : Nat} {x : δ} {x' : ε} {y : β} (h : LSK K k K' off (f x) y (f' x')) : LSK (kiso K f) k (kiso K' f') off x y x' := h
end

end Go.Proofs.Kit
