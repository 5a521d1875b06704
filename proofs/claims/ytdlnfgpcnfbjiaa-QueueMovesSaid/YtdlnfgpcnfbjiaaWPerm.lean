/- The same operations in another order are the same graph. No program in sight. -/
import Derived.Test.YtdlnfgpcnfbjiaaWAdd
namespace Go.Proofs.Pure
open Go Go.RowKit Go.Proofs.Kit
set_option linter.unusedVariables false

theorem pm_hit (id : List Int) (l : List api_Node) : ∀ i : Nat, (fnd id i l = -1 ∧ ∀ x ∈ l, x.Id ≠ id) ∨ ∃ j, ∃ h : j < l.length, fnd id i l = ((i + j : Nat) : Int) ∧ l[j].Id = id := by
  induction l with
  | nil => intro i; exact .inl ⟨rfl, fun x hx => by cases hx⟩
  | cons x l ih =>
    intro i
    unfold fnd
    by_cases h : x.Id = id
    · rw [if_pos h]; exact .inr ⟨0, by simp, by simp, h⟩
    · rw [if_neg h]
      rcases ih (i + 1) with ⟨h1, h2⟩ | ⟨j, h1, h2, h3⟩
      · refine .inl ⟨h1, fun y hy => ?_⟩
        rcases List.mem_cons.1 hy with e | e
        · rw [e]; exact h
        · exact h2 y e
      · exact .inr ⟨j + 1, by simp; omega, by rw [h2]; omega, h3⟩
theorem pm_new {id : List Int} {l : List api_Node} (h : ∀ j (h : j < l.length), l[j].Id ≠ id) : fnd id 0 l < 0 := by
  rcases pm_hit id l 0 with ⟨e, _⟩ | ⟨j, hj, _, e⟩
  · omega
  · exact absurd e (h j hj)
theorem pm_there {id : List Int} {l : List api_Node} (j : Nat) (hj : j < l.length) (h : l[j].Id = id) : 0 ≤ fnd id 0 l := by
  rcases pm_hit id l 0 with ⟨_, e⟩ | ⟨j, hj, e, _⟩
  · exact absurd h (e _ (List.getElem_mem hj))
  · omega
theorem pm_lt {p : List api_Node} (hr : rightG p = true) (i j : Nat) (hi : i < p.length) (hj : j < p.length) (h : i < j) : p[i].Id ≠ p[j].Id := by
  have hn := (right_at hr j hj).new
  rcases pm_hit p[j].Id (p.take j) 0 with ⟨_, e⟩ | ⟨k, hk, e, _⟩
  · exact e p[i] (List.mem_iff_getElem.2 ⟨i, by rw [List.length_take]; omega, by rw [List.getElem_take]⟩)
  · omega
theorem pm_ids {p : List api_Node} (hr : rightG p = true) (i j : Nat) (hi : i < p.length) (hj : j < p.length) (h : p[i].Id = p[j].Id) : i = j := by
  rcases Nat.lt_trichotomy i j with g | g | g
  · exact absurd h (pm_lt hr i j hi hj g)
  · exact g
  · exact absurd h.symm (pm_lt hr j i hj hi g)
/-- a node is found where it is -/
theorem pm_fnd {p : List api_Node} (hr : rightG p = true) (j : Nat) (hj : j < p.length) : fnd p[j].Id 0 p = (j : Int) := by
  rcases pm_hit p[j].Id p 0 with ⟨_, e⟩ | ⟨k, hk, e, g⟩
  · exact absurd rfl (e _ (List.getElem_mem hj))
  · have := pm_ids hr k j hk hj g
    rw [e]; omega
/-- a parent is a node further ahead -/
theorem pm_par {p : List api_Node} (hr : rightG p = true) (v : Nat) (hv : v < p.length) (q : List Int) (hq : q ∈ p[v].Op.Parents) : ∃ w, ∃ h : w < p.length, w < v ∧ fnd q 0 (p.take v) = (w : Int) ∧ p[w].Id = q := by
  have hok := (right_at hr v hv).ok
  unfold okP at hok
  have h0 : 0 ≤ fnd q 0 (p.take v) := of_decide_eq_true (List.all_eq_true.1 hok q hq)
  rcases pm_hit q (p.take v) 0 with ⟨e, _⟩ | ⟨k, hk, e, g⟩
  · omega
  · rw [List.length_take] at hk
    rw [List.getElem_take] at g
    exact ⟨k, by omega, by omega, by rw [e]; simp, g⟩

structure Sub (l m : List api_Node) : Prop where
  rl : rightG l = true
  rm : rightG m = true
  of : ∀ j (h : j < m.length), ∃ i, ∃ g : i < l.length, m[j].Id = l[i].Id ∧ m[j].Op = l[i].Op
theorem Sub.op {l m : List api_Node} (s : Sub l m) {j i : Nat} (hj : j < m.length) (hi : i < l.length) (e : m[j].Id = l[i].Id) : m[j].Op = l[i].Op := by
  obtain ⟨i2, h2, e1, e2⟩ := s.of j hj
  have := pm_ids s.rl i i2 hi h2 (by rw [← e, e1])
  subst this
  exact e2
/-- the same lies behind the same -/
theorem Sub.beh {l m : List api_Node} (s : Sub l m) : ∀ (n v u a b : Nat) (hu : u < m.length) (hv : v < m.length) (ha : a < l.length) (hb : b < l.length), v ≤ n → m[u].Id = l[a].Id → m[v].Id = l[b].Id → (Beh m u v ↔ Beh l a b) := by
  intro n
  induction n using Nat.strongRecOn with
  | _ n ih =>
    intro v u a b hu hv ha hb hn eu ev
    have hop := s.op hv hb ev
    rw [beh_iff s.rm u v hv, beh_iff s.rl a b hb]
    constructor
    · rintro ⟨q, hq, w, e1, e2, e3⟩
      obtain ⟨w', hw, _, f1, f2⟩ := pm_par s.rm v hv q hq
      have : w' = w := by omega
      subst this
      rw [hop] at hq
      obtain ⟨c, hc, hcb, g1, g2⟩ := pm_par s.rl b hb q hq
      refine ⟨q, hq, c, g1, hcb, ?_⟩
      rcases e3 with e | e
      · subst e
        exact .inl (pm_ids s.rl c a hc ha (by rw [g2, ← eu, f2]))
      · exact .inr ((ih w' (by omega) w' u a c hu hw ha hc (Nat.le_refl _) eu (by rw [f2, g2])).1 e)
    · rintro ⟨q, hq, c, e1, e2, e3⟩
      obtain ⟨c', hc, _, g1, g2⟩ := pm_par s.rl b hb q hq
      have : c' = c := by omega
      subst this
      rw [← hop] at hq
      obtain ⟨w, hw, hwv, f1, f2⟩ := pm_par s.rm v hv q hq
      refine ⟨q, hq, w, f1, hwv, ?_⟩
      rcases e3 with e | e
      · subst e
        exact .inl (pm_ids s.rm w u hw hu (by rw [f2, eu, g2]))
      · exact .inr ((ih w (by omega) w u a c' hu hw ha hc (Nat.le_refl _) eu (by rw [f2, g2])).2 e)
/-- with a node all that lies behind it is there -/
theorem Sub.down {l m : List api_Node} (s : Sub l m) : ∀ (n v a b : Nat) (hv : v < m.length) (hb : b < l.length) (ha : a < l.length), v ≤ n → m[v].Id = l[b].Id → Beh l a b → ∃ u, ∃ h : u < m.length, m[u].Id = l[a].Id := by
  intro n
  induction n using Nat.strongRecOn with
  | _ n ih =>
    intro v a b hv hb ha hn ev h
    obtain ⟨q, hq, c, e1, e2, e3⟩ := (beh_iff s.rl a b hb).1 h
    obtain ⟨c', hc, _, g1, g2⟩ := pm_par s.rl b hb q hq
    have : c' = c := by omega
    subst this
    rw [← s.op hv hb ev] at hq
    obtain ⟨w, hw, hwv, f1, f2⟩ := pm_par s.rm v hv q hq
    rcases e3 with e | e
    · subst e; exact ⟨w, hw, by rw [f2, g2]⟩
    · exact ih w (by omega) w a c' hw hc ha (Nat.le_refl _) (by rw [f2, g2]) e

theorem right_snoc {m : List api_Node} (hr : rightG m = true) (hl : m.length < 96) (x : api_Node) (h : fitB m x = true) : rightG (m ++ [x]) = true := by
  unfold rightG
  rw [Bool.and_eq_true]
  refine ⟨decide_eq_true (by simp; omega), rightL_of _ _ (fun i hi h1 h2 => ?_)⟩
  rw [List.length_append, List.length_singleton] at hi
  by_cases c : i < m.length
  · rw [List.getElem_append_left c, List.take_append_of_le_length (by omega)]
    have hr2 := hr
    unfold rightG at hr2
    rw [Bool.and_eq_true] at hr2
    exact rightL_at _ _ hr2.2 i c (by omega) (by omega)
  · have : i = m.length := by omega
    subst this
    rw [List.getElem_append_right (by omega), List.take_append_of_le_length (by omega), List.take_of_length_le (by omega)]
    simpa using h
theorem addR_some {m x : List api_Node} {id : List Int} {o : api_Op} (h : addR m id o = (x, 0)) : rightG m = true ∧ rightO o = true ∧ fnd id 0 m < 0 ∧ m.length ≠ 96 ∧ okP m o.Parents = true ∧ turnB m o (pastL m o) = true ∧ x = m ++ [⟨id, o, pastL m o⟩] := by
  unfold addR at h
  split at h
  · cases h
  · rename_i c0
    split at h
    · cases h
    · rename_i c1
      split at h
      · cases h
      · rename_i c2
        split at h
        · cases h
        · rename_i c3
          split at h
          · cases h
          · rename_i c4
            have a0 : rightG m = true := by cases q : rightG m with
              | true => rfl
              | false => exact absurd (.inl q) c0
            have a1 : rightO o = true := by cases q : rightO o with
              | true => rfl
              | false => exact absurd (.inr q) c0
            exact ⟨a0, a1, by omega, c2, by simpa using c3, by simpa using c4, (Prod.mk.inj h).1.symm⟩
theorem addR_right {m x : List api_Node} {id : List Int} {o : api_Op} (h : addR m id o = (x, 0)) : rightG x = true := by
  obtain ⟨h0, h1, h2, h3, h4, h5, rfl⟩ := addR_some h
  have hl := right_len h0
  refine right_snoc h0 (by omega) _ ?_
  unfold fitB
  simp only [h4, h1, h5, decide_eq_true h2, decide_true, Bool.and_self]
theorem Sub.add {l m x : List api_Node} (s : Sub l m) (i : Nat) (hi : i < l.length) (h : addR m l[i].Id l[i].Op = (x, 0)) : Sub l x ∧ x.length = m.length + 1 := by
  have hr := addR_right h
  obtain ⟨_, _, _, _, _, _, rfl⟩ := addR_some h
  refine ⟨⟨s.rl, hr, fun j hj => ?_⟩, by simp⟩
  rw [List.length_append, List.length_singleton] at hj
  by_cases c : j < m.length
  · rw [List.getElem_append_left c]; exact s.of j c
  · have : j = m.length := by omega
    subst this
    rw [List.getElem_append_right (by omega)]
    exact ⟨i, hi, by simp, by simp⟩

theorem sub_len {α : Type} [DecidableEq α] : ∀ (a b : List α), a.Nodup → (∀ x ∈ a, x ∈ b) → a.length ≤ b.length
  | [], b, _, _ => by simp
  | x :: a, b, hn, hs => by
    obtain ⟨h1, h2⟩ := List.nodup_cons.1 hn
    have hx : x ∈ b := hs x (by simp)
    have := sub_len a (b.erase x) h2 (fun y hy => (List.mem_erase_of_ne (fun e => h1 (by rw [← e]; exact hy))).2 (hs y (by simp [hy])))
    rw [List.length_erase_of_mem hx] at this
    have := List.length_pos_of_mem hx
    simp; omega
theorem sub_back {α : Type} [DecidableEq α] (a b : List α) (hn : a.Nodup) (hs : ∀ x ∈ a, x ∈ b) (hl : b.length ≤ a.length) : ∀ x ∈ b, x ∈ a := by
  intro x hx
  apply Classical.byContradiction
  intro h
  have := sub_len (x :: a) b (List.nodup_cons.2 ⟨h, hn⟩) (fun y hy => by
    rcases List.mem_cons.1 hy with e | e
    · rw [e]; exact hx
    · exact hs y e)
  simp at this; omega
def ids (p : List api_Node) : List (List Int) := p.map (fun x => x.Id)
theorem ids_nodup {p : List api_Node} (hr : rightG p = true) : (ids p).Nodup := by
  unfold ids List.Nodup
  rw [List.pairwise_map, List.pairwise_iff_getElem]
  intro i j hi hj h e
  exact pm_lt hr i j hi hj h e
theorem ids_mem {p : List api_Node} {z : List Int} : z ∈ ids p ↔ ∃ j, ∃ h : j < p.length, p[j].Id = z := by
  unfold ids
  rw [List.mem_map]
  constructor
  · rintro ⟨x, hx, e⟩
    obtain ⟨j, hj, g⟩ := List.mem_iff_getElem.1 hx
    exact ⟨j, hj, by rw [g]; exact e⟩
  · rintro ⟨j, hj, e⟩; exact ⟨p[j], List.getElem_mem hj, e⟩
theorem Sub.all {l m : List api_Node} (s : Sub l m) (h : l.length ≤ m.length) : ∀ i (hi : i < l.length), ∃ j, ∃ h : j < m.length, m[j].Id = l[i].Id := by
  intro i hi
  refine ids_mem.1 (sub_back (ids m) (ids l) (ids_nodup s.rm) (fun x hx => ?_) (by unfold ids; simpa using h) _ (ids_mem.2 ⟨i, hi, rfl⟩))
  obtain ⟨j, hj, e⟩ := ids_mem.1 hx
  obtain ⟨k, hk, e1, _⟩ := s.of j hj
  exact ids_mem.2 ⟨k, hk, by rw [← e1, e]⟩
theorem least (P : Nat → Prop) : ∀ n, P n → ∃ v, v ≤ n ∧ P v ∧ ∀ u, u < v → ¬ P u := by
  intro n
  induction n using Nat.strongRecOn with
  | _ n ih =>
    intro h
    by_cases c : ∃ u, u < n ∧ P u
    · obtain ⟨u, hu, hp⟩ := c
      obtain ⟨v, h1, h2, h3⟩ := ih u hu hp
      exact ⟨v, by omega, h2, h3⟩
    · exact ⟨n, Nat.le_refl _, h, fun u hu hp => c ⟨u, hu, hp⟩⟩
theorem tn_some {past : List Int} {a : Int} : ∀ (l : List api_Node) (i c : Nat), (∀ (k : Nat) (h : k < l.length), l[k].Op.Author = a → ((i + k : Nat) : Int) ∈ past) → tn past a i c l = some (c + (l.filter (fun x => decide (x.Op.Author = a))).length) := by
  intro l
  induction l with
  | nil => intro i c _; rfl
  | cons x l ih =>
    intro i c h
    have ht : ∀ (k : Nat) (h : k < l.length), l[k].Op.Author = a → ((i + 1 + k : Nat) : Int) ∈ past := fun k hk ha => by
      have := h (k + 1) (by simpa using hk) (by simpa using ha)
      rw [show i + 1 + k = i + (k + 1) by omega]; exact this
    unfold tn
    by_cases q : x.Op.Author = a
    · have := h 0 (by simp) (by simpa using q)
      rw [if_pos q, if_pos (by simpa using this), ih _ _ ht, List.filter_cons_of_pos (by simpa using q)]
      simp; omega
    · rw [if_neg q, ih _ _ ht, List.filter_cons_of_neg (by simpa using q)]
/-- the first node lies behind all others -/
theorem root {p : List api_Node} (hr : rightG p = true) : ∀ (n i : Nat), i ≤ n → 0 < i → i < p.length → Beh p 0 i := by
  intro n
  induction n with
  | zero => intro i h1 h2; omega
  | succ n ih =>
    intro i h1 h2 h3
    have R := right_at hr i h3
    have ht := R.turn
    unfold turnB at ht
    rw [Bool.and_eq_true] at ht
    have hk : ¬ p[i].Op.Kind = 1 := by
      intro e
      have := ht.1
      rw [decide_eq_true e, decide_eq_false (by rw [List.length_take]; omega)] at this
      cases this
    have hp := R.op
    unfold rightO at hp
    simp only [Bool.and_eq_true] at hp
    have hp : (decide (p[i].Op.Kind = 1) == decide (p[i].Op.Parents.length = 0)) = true := hp.1.1.1.1.1.1.1.2
    rw [decide_eq_false hk] at hp
    have hl : ¬ p[i].Op.Parents.length = 0 := by
      intro e
      rw [decide_eq_true e] at hp; cases hp
    have h0 : 0 < p[i].Op.Parents.length := by omega
    obtain ⟨w, hw, hwv, f1, f2⟩ := pm_par hr i h3 _ (List.getElem_mem h0)
    refine (beh_iff hr 0 i h3).2 ⟨_, List.getElem_mem h0, w, f1, hwv, ?_⟩
    by_cases c : w = 0
    · exact .inl c
    · exact .inr (ih w (by omega) (by omega) hw)

/-- a node whose parents are there can be added -/
theorem Sub.can {l m : List api_Node} (s : Sub l m) (hml : m.length < 96) (v : Nat) (hv : v < l.length) (hN : ∀ j (h : j < m.length), m[j].Id ≠ l[v].Id) (hpar : ∀ q ∈ l[v].Op.Parents, ∃ j, ∃ h : j < m.length, m[j].Id = q) : ∃ x, addR m l[v].Id l[v].Op = (x, 0) := by
  have hl := right_len s.rl
  -- all that lies behind it is there
  have hbeh : ∀ u (hu : u < l.length), Beh l u v → ∃ j, ∃ h : j < m.length, m[j].Id = l[u].Id := fun u hu hb => by
    obtain ⟨q, hq, c, g1, g2, g3⟩ := (beh_iff s.rl u v hv).1 hb
    obtain ⟨c', hc, _, f1, f2⟩ := pm_par s.rl v hv q hq
    have : c' = c := by omega
    subst this
    obtain ⟨w, hw, ew⟩ := hpar q hq
    rcases g3 with e | e
    · subst e; exact ⟨w, hw, by rw [ew, f2]⟩
    · exact s.down w w u c' hw hc hu (Nat.le_refl _) (by rw [ew, f2]) e
  have R := right_at s.rl v hv
  have hnew : fnd l[v].Id 0 m < 0 := pm_new hN
  have hok : okP m l[v].Op.Parents = true := by
    unfold okP
    rw [List.all_eq_true]
    intro q hq
    obtain ⟨j, hj, e⟩ := hpar q hq
    exact decide_eq_true (pm_there j hj e)
  -- authors
  have hback : ∀ k (hk : k < m.length), m[k].Op.Author = l[v].Op.Author → ∃ i, ∃ h : i < v, m[k].Id = (l[i]'(by omega)).Id ∧ m[k].Op = (l[i]'(by omega)).Op := fun k hk ha => by
    obtain ⟨i, hi, e1, e2⟩ := s.of k hk
    rw [e2] at ha
    rcases Nat.lt_trichotomy i v with g | g | g
    · exact ⟨i, g, e1, e2⟩
    · subst g; exact absurd e1 (hN k hk)
    · have hb := beh_own s.rl v i hi g (by rw [auth_at v hv, auth_at i hi]; exact ha.symm)
      obtain ⟨u, hu, eu⟩ := s.down k k v i hk hi hv (Nat.le_refl _) e1 hb
      exact absurd eu (hN u hu)
  have hin : ∀ k (hk : k < m.length), m[k].Op.Author = l[v].Op.Author → ((0 + k : Nat) : Int) ∈ pastL m l[v].Op := fun k hk ha => by
    obtain ⟨i, hi, e1, e2⟩ := hback k hk ha
    have hil : i < l.length := by omega
    have hb := beh_own s.rl i v hv hi (by rw [auth_at v hv, auth_at i hil, ← ha, e2])
    obtain ⟨q, hq, c, g1, g2, g3⟩ := (beh_iff s.rl i v hv).1 hb
    obtain ⟨c', hc, _, f1, f2⟩ := pm_par s.rl v hv q hq
    have : c' = c := by omega
    subst this
    obtain ⟨w, hw, ew⟩ := hpar q hq
    unfold pastL
    rw [coll_mem]
    refine ⟨k, by omega, by omega, by omega, ?_⟩
    unfold inP
    refine List.any_eq_true.2 ⟨q, hq, ?_⟩
    unfold hitP
    have ef : fnd q 0 m = (w : Int) := by rw [← ew]; exact pm_fnd s.rm w hw
    rw [ef, Int.toNat_natCast, List.getElem?_eq_getElem hw, Bool.or_eq_true]
    rcases g3 with g | g
    · subst g
      have := pm_ids s.rm w k hw hk (by rw [ew, e1, f2])
      left; rw [this]; simp
    · right
      obtain ⟨_, hm⟩ := (s.beh w w k i c' hk hw hil hc (Nat.le_refl _) e1 (by rw [ew, f2])).2 g
      simpa using hm
  have hinl := R.turn
  unfold turnB at hinl
  rw [Bool.and_eq_true] at hinl
  have hturn : turnB m l[v].Op (pastL m l[v].Op) = true := by
    unfold turnB
    rw [Bool.and_eq_true]
    constructor
    · have h1 := hinl.1
      have e : decide ((l.take v).length = 0) = decide (m.length = 0) := by
        by_cases c : v = 0
        · have : m.length = 0 := by
            apply Classical.byContradiction
            intro hm
            obtain ⟨i, hi, e1, e2⟩ := s.of 0 (by omega)
            by_cases g : i = 0
            · subst g; subst c; exact hN 0 (by omega) e1
            · obtain ⟨u, hu, eu⟩ := s.down 0 0 0 i (by omega) hi (by omega) (Nat.le_refl _) e1 (root s.rl i i (Nat.le_refl _) (by omega) hi)
              subst c
              exact hN u hu eu
          rw [decide_eq_true this, decide_eq_true (show (l.take v).length = 0 by rw [List.length_take]; omega)]
        · obtain ⟨j, hj, _⟩ := hbeh 0 (by omega) (root s.rl v v (Nat.le_refl _) (by omega) hv)
          rw [decide_eq_false (show ¬ (l.take v).length = 0 by rw [List.length_take]; omega), decide_eq_false (show ¬ m.length = 0 by omega)]
      rw [e] at h1; exact h1
    · have h2 := hinl.2
      cases hc : tn l[v].Past l[v].Op.Author 0 0 (l.take v) with
      | none => rw [hc] at h2; cases h2
      | some c =>
        have hg := tn_has _ _ _ _ hc
        have t1 := tn_some (past := l[v].Past) (a := l[v].Op.Author) (l.take v) 0 0 hg
        have t2 := tn_some (past := pastL m l[v].Op) (a := l[v].Op.Author) m 0 0 hin
        rw [t1] at h2
        rw [t2]
        have sub1 : ∀ {p : List api_Node}, rightG p = true → (ids (p.filter (fun x => decide (x.Op.Author = l[v].Op.Author)))).Nodup := fun {p} hr => by
          have := ids_nodup hr
          unfold ids at this ⊢
          exact List.Nodup.sublist (List.Sublist.map _ List.filter_sublist) this
        have fm : ∀ (p : List api_Node) (z : List Int), z ∈ ids (p.filter (fun x => decide (x.Op.Author = l[v].Op.Author))) ↔ ∃ j, ∃ h : j < p.length, p[j].Op.Author = l[v].Op.Author ∧ p[j].Id = z := fun p z => by
          unfold ids
          rw [List.mem_map]
          constructor
          · rintro ⟨x, hx, e⟩
            rw [List.mem_filter] at hx
            obtain ⟨j, hj, g⟩ := List.mem_iff_getElem.1 hx.1
            exact ⟨j, hj, by rw [g]; exact of_decide_eq_true hx.2, by rw [g]; exact e⟩
          · rintro ⟨j, hj, e1, e2⟩
            exact ⟨p[j], List.mem_filter.2 ⟨List.getElem_mem hj, decide_eq_true e1⟩, e2⟩
        have a1 := sub_len _ (ids ((l.take v).filter (fun x => decide (x.Op.Author = l[v].Op.Author)))) (sub1 s.rm) (fun z hz => by
          obtain ⟨j, hj, e1, e2⟩ := (fm m z).1 hz
          obtain ⟨i, hi, f1, f2⟩ := hback j hj e1
          refine (fm _ z).2 ⟨i, by rw [List.length_take]; omega, ?_, ?_⟩
          · rw [List.getElem_take, ← f2]; exact e1
          · rw [List.getElem_take, ← f1]; exact e2)
        have a2 := sub_len _ (ids (m.filter (fun x => decide (x.Op.Author = l[v].Op.Author)))) (sub1 (right_take s.rl v)) (fun z hz => by
          obtain ⟨j, hj, e1, e2⟩ := (fm _ z).1 hz
          rw [List.length_take] at hj
          rw [List.getElem_take] at e1 e2
          obtain ⟨k, hk, ek⟩ := hbeh j (by omega) (beh_own s.rl j v hv (by omega) (by rw [auth_at v hv, auth_at j (by omega)]; exact e1))
          refine (fm m z).2 ⟨k, hk, ?_, ?_⟩
          · rw [s.op hk (by omega) ek]; exact e1
          · rw [ek]; exact e2)
        unfold ids at a1 a2
        rw [List.length_map, List.length_map] at a1 a2
        have e : (m.filter (fun x => decide (x.Op.Author = l[v].Op.Author))).length = ((l.take v).filter (fun x => decide (x.Op.Author = l[v].Op.Author))).length := by omega
        rw [e]; exact h2
  refine ⟨m ++ [⟨l[v].Id, l[v].Op, pastL m l[v].Op⟩], ?_⟩
  unfold addR
  rw [if_neg (by rw [s.rm, R.op]; simp), if_neg (by omega), if_neg (by omega), if_neg (by rw [hok]; simp), if_neg (by rw [hturn]; simp)]
/-- the first node that lacks -/
theorem Sub.first {l m : List api_Node} (s : Sub l m) (hlt : m.length < l.length) : ∃ v, ∃ hv : v < l.length, (∀ j (h : j < m.length), m[j].Id ≠ l[v].Id) ∧ ∀ q ∈ l[v].Op.Parents, ∃ j, ∃ h : j < m.length, m[j].Id = q := by
  have hex : ∃ v, ∃ h : v < l.length, ∀ j (h : j < m.length), m[j].Id ≠ l[v].Id := by
    apply Classical.byContradiction
    intro hn
    have : (ids l).length ≤ (ids m).length := sub_len _ _ (ids_nodup s.rl) (fun z hz => by
      obtain ⟨i, hi, e⟩ := ids_mem.1 hz
      apply Classical.byContradiction
      intro hc
      refine hn ⟨i, hi, fun j hj g => hc (ids_mem.2 ⟨j, hj, by rw [g, e]⟩)⟩)
    unfold ids at this
    simp at this; omega
  obtain ⟨v0, hv0, hN0⟩ := hex
  obtain ⟨v, hvle, ⟨hv, hN⟩, hmin⟩ := least (fun v => ∃ h : v < l.length, ∀ j (h : j < m.length), m[j].Id ≠ l[v].Id) v0 ⟨hv0, hN0⟩
  refine ⟨v, hv, hN, fun q hq => ?_⟩
  obtain ⟨w, hw, hwv, _, f2⟩ := pm_par s.rl v hv q hq
  apply Classical.byContradiction
  intro hc
  exact hmin w hwv ⟨by omega, fun j hj g => hc ⟨j, hj, by rw [g, f2]⟩⟩
theorem Sub.few {l m : List api_Node} (hf : Few l) (s : Sub l m) : Few m := by
  have hl := right_len s.rm
  refine ⟨by omega, fun x hx => ?_⟩
  obtain ⟨j, hj, e⟩ := List.mem_iff_getElem.1 hx
  obtain ⟨i, hi, e1, e2⟩ := s.of j hj
  rw [← e]
  refine ⟨by rw [e2]; exact (hf.each _ (List.getElem_mem hi)).op, ?_⟩
  rw [(right_at s.rm j hj).past]
  unfold pastL
  have := coll_len (inP (m.take j) m[j].Op.Parents) (m.take j).length 0
  rw [List.length_take] at this
  rw [List.length_take]
  omega
theorem Sub.take {l : List api_Node} (hr : rightG l = true) (n : Nat) : Sub l (l.take n) := ⟨hr, right_take hr n, fun j h => by
  rw [List.length_take] at h
  exact ⟨j, by omega, by rw [List.getElem_take], by rw [List.getElem_take]⟩⟩

end Go.Proofs.Pure
