/- QueueMoves over its plain functions: no program in sight. -/
import Derived.Test.YtdlnfgpcnfbjiaaWPerm
import Derived.Test.YtdlnfgpcnfbjiaaWQue
namespace Go.Proofs.Pure
open Go Go.RowKit Go.Proofs.Kit
set_option linter.unusedVariables false

theorem alive19 : caballaw19_alive 4000 = some true := by decide +kernel
theorem w2_l1 (k : Nat) (p : List api_Node) (o : api_Op) (id : List Int) (x : List Int × Int) : ∀ (n : Nat) (i : Int) (acc : List api_Node), graph_Add_w2.l1 k p o id x n i acc = graph_Add.l1 k p o id x n i acc := by
  intro n
  induction n with
  | zero => intro i acc; rfl
  | succ n ih =>
    intro i acc
    have ef : graph_Add_w2.l1 k p o id x n = graph_Add.l1 k p o id x n := funext fun i => funext fun acc => ih i acc
    rw [graph_Add_w2.l1, graph_Add.l1, ef]
    rfl
theorem w2_eq (k : Nat) (p : List api_Node) (id : List Int) (o : api_Op) : graph_Add_w2 k p id o = graph_Add k p id o := by
  unfold graph_Add_w2 graph_Add
  have ef : ∀ x, graph_Add_w2.l1 k p o id x k = graph_Add.l1 k p o id x k := fun x => funext fun i => funext fun acc => w2_l1 k p o id x k i acc
  simp only [ef]

structure Rest (l m : List api_Node) (q : List api_Held) : Prop where
  nodup : (q.map (fun x => x.Id)).Nodup
  of : ∀ x ∈ q, ∃ i, ∃ h : i < l.length, x.Id = l[i].Id ∧ x.Op = l[i].Op
  got : ∀ x ∈ q, x.Got.length ≤ 20
  out : ∀ x ∈ q, ∀ j (h : j < m.length), m[j].Id ≠ x.Id
  all : ∀ i (h : i < l.length), (∃ j, ∃ h : j < m.length, m[j].Id = l[i].Id) ∨ ∃ x ∈ q, x.Id = l[i].Id
theorem Rest.len {l m : List api_Node} {q : List api_Held} (r : Rest l m q) : q.length ≤ l.length := by
  have := sub_len (q.map (fun x => x.Id)) (ids l) r.nodup (fun z hz => by
    obtain ⟨x, hx, e⟩ := List.mem_map.1 hz
    obtain ⟨i, hi, e1, _⟩ := r.of x hx
    exact ids_mem.2 ⟨i, hi, by rw [← e1]; exact e⟩)
  unfold ids at this
  simpa using this
theorem Rest.few {l m : List api_Node} {q : List api_Held} (r : Rest l m q) (hf : Few l) (hl : l.length ≤ 24) : QFew q := by
  have := r.len
  refine ⟨by omega, fun x hx => ?_⟩
  obtain ⟨i, hi, _, e⟩ := r.of x hx
  exact ⟨by rw [e]; exact (hf.each _ (List.getElem_mem hi)).op, r.got x hx⟩
theorem q_ne {q : List api_Held} (hn : (q.map (fun x => x.Id)).Nodup) (i j : Nat) (hi : i < q.length) (hj : j < q.length) (h : q[i].Id = q[j].Id) : i = j := by
  have key : ∀ a b (ha : a < q.length) (hb : b < q.length), a < b → q[a].Id ≠ q[b].Id := fun a b ha hb hlt => by
    unfold List.Nodup at hn
    rw [List.pairwise_map, List.pairwise_iff_getElem] at hn
    exact hn a b ha hb hlt
  rcases Nat.lt_trichotomy i j with g | g | g
  · exact absurd h (key i j hi hj g)
  · exact g
  · exact absurd h.symm (key j i hj hi g)
theorem qrL_of {q : List api_Held} : ∀ (m j : Nat), (∀ (i : Nat) (h : i < q.length), hfnd q[i].Id 0 (q.take i) < 0 ∧ rightO q[i].Op = true) → qrL q j m = true := by
  intro m
  induction m with
  | zero => intro j _; rfl
  | succ m ih =>
    intro j h
    unfold qrL
    rw [ih (j + 1) h, Bool.and_true]
    by_cases c : j < q.length
    · rw [List.getElem?_eq_getElem c]
      show (decide (hfnd q[j].Id 0 (q.take j) < 0) && rightO q[j].Op) = true
      rw [decide_eq_true (h j c).1, (h j c).2]; rfl
    · rw [List.getElem?_eq_none (by omega)]
theorem qright_of {q : List api_Held} (hl : q.length ≤ 24) (hn : (q.map (fun x => x.Id)).Nodup) (ho : ∀ x ∈ q, rightO x.Op = true) : qright q = true := by
  unfold qright
  rw [decide_eq_true hl, Bool.true_and]
  refine qrL_of _ _ (fun i hi => ⟨?_, ho _ (List.getElem_mem hi)⟩)
  rcases h_hit q[i].Id (q.take i) 0 with ⟨e, _⟩ | ⟨t, ht, e, g, _⟩
  · omega
  · rw [List.length_take] at ht
    rw [List.getElem_take] at g
    have := q_ne hn t i (by omega) hi g
    omega
theorem Rest.right {l m : List api_Node} {q : List api_Held} (r : Rest l m q) (hr : rightG l = true) (hl : l.length ≤ 24) : qright q = true := by
  have := r.len
  refine qright_of (by omega) r.nodup (fun x hx => ?_)
  obtain ⟨i, hi, _, e⟩ := r.of x hx
  rw [e]
  exact (right_at hr i hi).op

def rdy (m : List api_Node) (x : api_Held) : Bool := !x.Op.Parents.any (fun z => decide (fnd z 0 m < 0))
theorem rdy1_eq (m : List api_Node) (hm : m.length ≤ 200) (x : api_Held) (hx : x.Op.Parents.length ≤ 30) : queue_Ready_1 4000 x m = some (rdy m x) := by
  have key : ∀ (t i n : Nat), i + t = x.Op.Parents.length → t < n → ∃ r, slices_IndexFunc_api_Key_api_Key_queue_Ready_1_1.l1 4000 x.Op.Parents m n (i : Int) = some r ∧ decide (r ≥ 0) = (x.Op.Parents.drop i).any (fun z => decide (fnd z 0 m < 0)) := by
    intro t
    induction t with
    | zero =>
      intro i n hi hn
      obtain ⟨n, rfl⟩ : ∃ q, n = q + 1 := ⟨n - 1, by omega⟩
      rw [slices_IndexFunc_api_Key_api_Key_queue_Ready_1_1.l1, if_neg (by simp; omega), List.drop_eq_nil_of_le (by omega)]; exact ⟨-1, rfl, rfl⟩
    | succ t ih =>
      intro i n hi hn
      obtain ⟨n, rfl⟩ : ∃ q, n = q + 1 := ⟨n - 1, by omega⟩
      have hil : i < x.Op.Parents.length := by omega
      have hnext : iadd .i64 (i : Int) 1 = ((i + 1 : Nat) : Int) := by rw [add64 (by omega)]; omega
      rw [slices_IndexFunc_api_Key_api_Key_queue_Ready_1_1.l1, if_pos (by simp; omega), at_get hil, List.drop_eq_getElem_cons hil, List.any_cons]
      simp only [Option.bind_some, queue_Ready_1_1, find_eq m hm, hnext]
      cases h : decide (fnd x.Op.Parents[i] 0 m < 0) with
      | true => exact ⟨(i : Int), by simp, by simp⟩
      | false => simp only [Bool.false_eq_true, if_false, Bool.false_or]; exact ih (i + 1) n (by omega) (by omega)
  unfold queue_Ready_1 slices_ContainsFunc_api_Key_api_Key_queue_Ready_1_1 slices_IndexFunc_api_Key_api_Key_queue_Ready_1_1 rdy
  obtain ⟨r, h1, h2⟩ := key x.Op.Parents.length 0 4000 (by omega) (by omega)
  rw [show ((0 : Nat) : Int) = 0 from rfl] at h1
  rw [List.drop_zero] at h2
  rw [h1]
  simp only [Option.bind_some, h2]
theorem ready_eq (m : List api_Node) (hf : Few m) (hr : rightG m = true) (q : List api_Held) (hq : QFew q) (hqr : qright q = true) (hex : ∃ x ∈ q, rdy m x = true) : ∃ a, ∃ h : a < q.length, queue_Ready 4000 m q = some (a : Int) ∧ rdy m q[a] = true := by
  have hlen := hf.len
  have hql := hq.len
  have key : ∀ (t i n : Nat), i + t = q.length → t < n → (∃ k, ∃ h : k < q.length, i ≤ k ∧ rdy m q[k] = true) → ∃ a, ∃ h : a < q.length, slices_IndexFunc_api_Held_api_Held_queue_Ready_1.l1 4000 q m n (i : Int) = some (a : Int) ∧ rdy m q[a] = true := by
    intro t
    induction t with
    | zero => intro i n hi hn ⟨k, hk, h1, _⟩; omega
    | succ t ih =>
      intro i n hi hn ⟨k, hk, h1, h2⟩
      obtain ⟨n, rfl⟩ : ∃ q, n = q + 1 := ⟨n - 1, by omega⟩
      have hil : i < q.length := by omega
      have hnext : iadd .i64 (i : Int) 1 = ((i + 1 : Nat) : Int) := by rw [add64 (by omega)]; omega
      rw [slices_IndexFunc_api_Held_api_Held_queue_Ready_1.l1, if_pos (by simp; omega), at_get hil]
      simp only [Option.bind_some, rdy1_eq m (by omega) _ (hq.each _ (List.getElem_mem hil)).op.parents, hnext]
      cases h : rdy m q[i] with
      | true => exact ⟨i, hil, by simp, h⟩
      | false =>
        simp only [Bool.false_eq_true, if_false]
        refine ih (i + 1) n (by omega) (by omega) ⟨k, hk, ?_, h2⟩
        by_cases e : k = i
        · subst e; rw [h] at h2; cases h2
        · omega
  obtain ⟨x, hx, h⟩ := hex
  obtain ⟨k, hk, e⟩ := List.mem_iff_getElem.1 hx
  obtain ⟨a, ha, h1, h2⟩ := key q.length 0 4000 (by omega) (by omega) ⟨k, hk, by omega, by rw [e]; exact h⟩
  refine ⟨a, ha, ?_, h2⟩
  unfold queue_Ready slices_IndexFunc_api_Held_api_Held_queue_Ready_1
  rw [show ((0 : Nat) : Int) = 0 from rfl] at h1
  rw [right_eq m hf, hr, qright_eq q hq, hqr, h1]
  rfl

theorem once_nil : queue_once_api_Key_queue_Wanted_1 4000 [] = some [] := by decide +kernel
theorem wanted_nil (m : List api_Node) (hf : Few m) (hr : rightG m = true) (q : List api_Held) (hq : QFew q) (hqr : qright q = true) (hall : ∀ x ∈ q, ∀ z ∈ x.Op.Parents, 0 ≤ fnd z 0 m ∨ 0 ≤ hfnd z 0 q) : queue_Wanted 4000 m q = some [] := by
  have hlen := hf.len
  have hql := hq.len
  have k2 : ∀ (x : api_Held), x ∈ q → ∀ (y : Int) (L : Int → List (List Int) → Option (List (List Int))) (t i n : Nat), i + t = x.Op.Parents.length → t < n → queue_Wanted.l2 4000 x m q y L n (i : Int) [] = L (iadd .i64 y 1) [] := by
    intro x hx y L t
    have hxp := (hq.each x hx).op.parents
    induction t with
    | zero =>
      intro i n hi hn
      obtain ⟨n, rfl⟩ : ∃ q, n = q + 1 := ⟨n - 1, by omega⟩
      rw [queue_Wanted.l2, if_neg (by simp; omega), queue_Wanted.j2]
    | succ t ih =>
      intro i n hi hn
      obtain ⟨n, rfl⟩ : ∃ q, n = q + 1 := ⟨n - 1, by omega⟩
      have hil : i < x.Op.Parents.length := by omega
      have hnext : iadd .i64 (i : Int) 1 = ((i + 1 : Nat) : Int) := by rw [add64 (by omega)]; omega
      rw [queue_Wanted.l2, if_pos (by simp; omega), at_get hil]
      simp only [Option.bind_some, find_eq m (show m.length ≤ 200 by omega), qfind_eq q (show q.length ≤ 200 by omega), queue_Wanted.j3, hnext]
      rcases hall x hx _ (List.getElem_mem hil) with h | h
      · rw [decide_eq_false (show ¬ fnd x.Op.Parents[i] 0 m < 0 by omega)]
        simp
        exact ih (i + 1) n (by omega) (by omega)
      · cases decide (fnd x.Op.Parents[i] 0 m < 0) with
        | false => simp; exact ih (i + 1) n (by omega) (by omega)
        | true =>
          simp only [beq_self_eq_true, if_true, Option.bind_some]
          rw [decide_eq_false (show ¬ hfnd x.Op.Parents[i] 0 q < 0 by omega)]
          simp
          exact ih (i + 1) n (by omega) (by omega)
  have k1 : ∀ (t i n : Nat), i + t = q.length → t < n → queue_Wanted.l1 4000 q m n (i : Int) [] = some [] := by
    intro t
    induction t with
    | zero =>
      intro i n hi hn
      obtain ⟨n, rfl⟩ : ∃ q, n = q + 1 := ⟨n - 1, by omega⟩
      rw [queue_Wanted.l1, if_neg (by simp; omega), queue_Wanted.j1, once_nil]; rfl
    | succ t ih =>
      intro i n hi hn
      obtain ⟨n, rfl⟩ : ∃ q, n = q + 1 := ⟨n - 1, by omega⟩
      have hil : i < q.length := by omega
      have hnext : iadd .i64 (i : Int) 1 = ((i + 1 : Nat) : Int) := by rw [add64 (by omega)]; omega
      have hxp := (hq.each _ (List.getElem_mem hil)).op.parents
      have h2 := k2 q[i] (List.getElem_mem hil) (i : Int) (queue_Wanted.l1 4000 q m n) q[i].Op.Parents.length 0 4000 (by omega) (by omega)
      rw [show ((0 : Nat) : Int) = 0 from rfl, hnext] at h2
      rw [queue_Wanted.l1, if_pos (by simp; omega), at_get hil]
      simp only [Option.bind_some]
      rw [h2]
      exact ih (i + 1) n (by omega) (by omega)
  unfold queue_Wanted
  rw [right_eq m hf, hr, qright_eq q hq, hqr]
  have h1 := k1 q.length 0 4000 (by omega) (by omega)
  rw [show ((0 : Nat) : Int) = 0 from rfl] at h1
  exact h1

theorem h_there {id : List Int} {q : List api_Held} (x : api_Held) (hx : x ∈ q) (h : x.Id = id) : 0 ≤ hfnd id 0 q := by
  rcases h_hit id q 0 with ⟨_, e⟩ | ⟨j, _, e, _⟩
  · exact absurd h (e x hx)
  · omega
theorem par_there {m : List api_Node} {x : api_Held} (h : rdy m x = true) : ∀ z ∈ x.Op.Parents, ∃ j, ∃ hj : j < m.length, m[j].Id = z := fun z hz => by
  unfold rdy at h
  rw [Bool.not_eq_true', List.any_eq_false] at h
  have h2 := h z hz
  have h3 : ¬ fnd z 0 m < 0 := by simpa using h2
  rcases pm_hit z m 0 with ⟨e, _⟩ | ⟨j, hj, _, e⟩
  · omega
  · exact ⟨j, hj, e⟩
theorem rdy_of {m : List api_Node} {x : api_Held} (h : ∀ z ∈ x.Op.Parents, ∃ j, ∃ hj : j < m.length, m[j].Id = z) : rdy m x = true := by
  unfold rdy
  rw [Bool.not_eq_true', List.any_eq_false]
  intro z hz
  obtain ⟨j, hj, e⟩ := h z hz
  have := pm_there j hj e
  simp; omega
theorem Rest.step {l m x : List api_Node} {q : List api_Held} (r : Rest l m q) (a : Nat) (ha : a < q.length) (h : addR m q[a].Id q[a].Op = (x, 0)) : Rest l x (q.eraseIdx a) := by
  obtain ⟨_, _, _, _, _, _, rfl⟩ := addR_some h
  refine ⟨List.Nodup.sublist (List.Sublist.map _ (List.eraseIdx_sublist _ _)) r.nodup, fun y hy => r.of y (List.mem_of_mem_eraseIdx hy), fun y hy => r.got y (List.mem_of_mem_eraseIdx hy), fun y hy j hj => ?_, fun i hi => ?_⟩
  · rw [List.length_append, List.length_singleton] at hj
    by_cases c : j < m.length
    · rw [List.getElem_append_left c]
      exact r.out y (List.mem_of_mem_eraseIdx hy) j c
    · have : j = m.length := by omega
      subst this
      rw [List.getElem_append_right (by omega)]
      obtain ⟨k, hk, hne, e⟩ := List.mem_eraseIdx_iff_getElem.1 hy
      intro g
      have := q_ne r.nodup a k ha (by omega) (by rw [e]; simpa using g)
      omega
  · rcases r.all i hi with ⟨j, hj, e⟩ | ⟨y, hy, e⟩
    · exact .inl ⟨j, by simp; omega, by rw [List.getElem_append_left hj]; exact e⟩
    · obtain ⟨k, hk, g⟩ := List.mem_iff_getElem.1 hy
      by_cases c : k = a
      · subst c
        refine .inl ⟨m.length, by simp, ?_⟩
        rw [List.getElem_append_right (by omega)]
        simp [g, e]
      · exact .inr ⟨y, List.mem_eraseIdx_iff_getElem.2 ⟨k, hk, c, g⟩, e⟩
theorem qm_l1 (l : List api_Node) (hf : Few l) (hl : l.length ≤ 24) : ∀ (t n : Nat) (m : List api_Node) (q : List api_Held), Sub l m → Rest l m q → q.length ≤ t → t < n → caballaw19_QueueMoves.l1 4000 l n q m = some true := by
  intro t
  induction t with
  | zero =>
    intro n m q s r hq hn
    obtain ⟨n, rfl⟩ : ∃ q, n = q + 1 := ⟨n - 1, by omega⟩
    have hq0 : q = [] := List.eq_nil_of_length_eq_zero (by omega)
    subst hq0
    have h1 : (ids l).length ≤ (ids m).length := sub_len _ _ (ids_nodup s.rl) (fun z hz => by
      obtain ⟨i, hi, e⟩ := ids_mem.1 hz
      rcases r.all i hi with ⟨j, hj, g⟩ | ⟨y, hy, _⟩
      · exact ids_mem.2 ⟨j, hj, by rw [g]; exact e⟩
      · cases hy)
    have h2 : (ids m).length ≤ (ids l).length := sub_len _ _ (ids_nodup s.rm) (fun z hz => by
      obtain ⟨j, hj, e⟩ := ids_mem.1 hz
      obtain ⟨i, hi, g, _⟩ := s.of j hj
      exact ids_mem.2 ⟨i, hi, by rw [← g]; exact e⟩)
    unfold ids at h1 h2
    rw [List.length_map, List.length_map] at h1 h2
    have he : m.length = l.length := by omega
    rw [caballaw19_QueueMoves.l1, if_neg (by simp), caballaw19_QueueMoves.j2, alive19, he]
    simp
  | succ t ih =>
    intro n m q s r hq hn
    obtain ⟨n, rfl⟩ : ∃ q, n = q + 1 := ⟨n - 1, by omega⟩
    by_cases hq0 : q = []
    · subst hq0
      exact ih (n + 1) m [] s r (by simp) (by omega)
    · have hpos : 0 < q.length := List.length_pos_iff.2 hq0
      have hqf := r.few hf hl
      have hmf := s.few hf
      have hqr := r.right s.rl hl
      have hql := r.len
      have hlt : m.length < l.length := by
        apply Classical.byContradiction
        intro hc
        obtain ⟨i, hi, e, _⟩ := r.of _ (List.getElem_mem hpos)
        obtain ⟨j, hj, g⟩ := s.all (by omega) i hi
        exact r.out _ (List.getElem_mem hpos) j hj (by rw [g, e])
      have hopq : ∀ x ∈ q, ∀ v (hv : v < l.length), x.Id = l[v].Id → x.Op = l[v].Op := fun x hx v hv e => by
        obtain ⟨i, hi, e1, e2⟩ := r.of x hx
        have := pm_ids s.rl i v hi hv (by rw [← e1, e])
        subst this
        exact e2
      obtain ⟨v, hv, hN, hpar⟩ := s.first hlt
      have hex : ∃ x ∈ q, rdy m x = true := by
        rcases r.all v hv with ⟨j, hj, e⟩ | ⟨x, hx, e⟩
        · exact absurd e (hN j hj)
        · exact ⟨x, hx, rdy_of (by rw [hopq x hx v hv e]; exact hpar)⟩
      obtain ⟨a, ha, e1, e2⟩ := ready_eq m hmf s.rm q hqf hqr hex
      obtain ⟨i, hi, i1, i2⟩ := r.of _ (List.getElem_mem ha)
      have hp := par_there e2
      rw [i2] at hp
      obtain ⟨x, hx⟩ := s.can (by omega) i hi (fun j hj g => r.out _ (List.getElem_mem ha) j hj (by rw [g, i1])) hp
      have hx' : addR m q[a].Id q[a].Op = (x, 0) := by rw [i1, i2]; exact hx
      have hw : queue_Wanted 4000 m q = some [] := wanted_nil m hmf s.rm q hqf hqr (fun y hy z hz => by
        obtain ⟨k, hk, k1, k2⟩ := r.of y hy
        rw [k2] at hz
        obtain ⟨w, hw, _, _, w2⟩ := pm_par s.rl k hk z hz
        rcases r.all w hw with ⟨j, hj, e⟩ | ⟨u, hu, e⟩
        · exact .inl (pm_there j hj (by rw [e, w2]))
        · exact .inr (h_there u hu (by rw [e, w2])))
      have hwith : withR q (a : Int) = (q.eraseIdx a, 0) := by
        unfold withR
        rw [hqr, if_neg (by simp), if_neg (by omega), Int.toNat_natCast]
      have hel : (q.eraseIdx a).length = q.length - 1 := List.length_eraseIdx_of_lt ha
      rw [caballaw19_QueueMoves.l1, if_pos (by simp; omega), e1, hw]
      simp only [Option.bind_some, at_get ha]
      rw [w2_eq, add_eq m hmf _ _ (hqf.each _ (List.getElem_mem ha)).op, hx', with_eq q hqf, hwith]
      simp only [Option.bind_some, hel]
      rw [decide_eq_false (show ¬ (a : Int) < 0 by omega), sub64 (by omega)]
      have hc : (((q.length - 1 : Nat) : Int) != (q.length : Int) - 1) = false := by
        have : ((q.length - 1 : Nat) : Int) = (q.length : Int) - 1 := by omega
        rw [this]; simp
      rw [hc]
      simp only [beq_self_eq_true, if_true, Option.bind_some, List.length_nil, Bool.false_eq_true, if_false, bne_self_eq_false]
      exact ih n x (q.eraseIdx a) (s.add i hi hx).1 (r.step a ha hx') (by omega) (by omega)

def heldOf (x : api_Node) : api_Held := ⟨x.Id, x.Op, []⟩
def tailQ (l : List api_Node) (i : Nat) : List api_Held := ((l.drop i).map heldOf).reverse
theorem tail_ids (l : List api_Node) (i : Nat) : (tailQ l i).map (fun x => x.Id) = (ids (l.drop i)).reverse := by
  unfold tailQ ids
  rw [List.map_reverse, List.map_map]; rfl
theorem tail_rest {l : List api_Node} (hr : rightG l = true) (n : Nat) : Rest l (l.take n) (tailQ l n) := by
  have hsub : (ids (l.drop n)).Nodup := by
    have := ids_nodup hr
    unfold ids at this ⊢
    exact List.Nodup.sublist (List.Sublist.map _ (List.drop_sublist _ _)) this
  have hof : ∀ x ∈ tailQ l n, ∃ i, ∃ h : i < l.length, n ≤ i ∧ x = heldOf l[i] := fun x hx => by
    unfold tailQ at hx
    rw [List.mem_reverse, List.mem_map] at hx
    obtain ⟨y, hy, e⟩ := hx
    obtain ⟨k, hk, g⟩ := List.mem_iff_getElem.1 hy
    rw [List.length_drop] at hk
    rw [List.getElem_drop] at g
    exact ⟨n + k, by omega, by omega, by rw [g]; exact e.symm⟩
  refine ⟨by rw [tail_ids]; exact List.pairwise_reverse.2 (hsub.imp (fun h => Ne.symm h)), fun x hx => ?_, fun x hx => ?_, fun x hx j hj => ?_, fun i hi => ?_⟩
  · obtain ⟨i, hi, _, e⟩ := hof x hx
    exact ⟨i, hi, by rw [e]; rfl, by rw [e]; rfl⟩
  · obtain ⟨i, hi, _, e⟩ := hof x hx
    rw [e]; simp [heldOf]
  · obtain ⟨i, hi, hni, e⟩ := hof x hx
    rw [List.length_take] at hj
    rw [List.getElem_take, e]
    exact pm_lt hr j i (by omega) hi (by omega)
  · by_cases c : i < n
    · exact .inl ⟨i, by rw [List.length_take]; omega, by rw [List.getElem_take]⟩
    · refine .inr ⟨heldOf l[i], ?_, rfl⟩
      unfold tailQ
      rw [List.mem_reverse, List.mem_map]
      exact ⟨l[i], List.mem_iff_getElem.2 ⟨i - n, by rw [List.length_drop]; omega, by rw [List.getElem_drop]; congr 1; omega⟩, rfl⟩
theorem put_w2 (q : List api_Held) (h : api_Held) : queue_Put_w2 4000 q h = queue_Put 4000 q h := rfl
theorem qm_l2 (l : List api_Node) (hf : Few l) (hr : rightG l = true) (hl : l.length ≤ 24) (x6 : Int) (n0 : Nat) (hx : IntKind.wrap .i64 x6 = (n0 : Int)) : ∀ (t n : Nat), n0 + t ≤ l.length → t < n → caballaw19_QueueMoves.l2 4000 x6 l n (tailQ l (n0 + t)) (((n0 + t : Nat) : Int) - 1) = caballaw19_QueueMoves.j1 4000 l x6 (tailQ l n0) := by
  intro t
  induction t with
  | zero =>
    intro n ht hn
    obtain ⟨n, rfl⟩ : ∃ q, n = q + 1 := ⟨n - 1, by omega⟩
    rw [caballaw19_QueueMoves.l2, hx, if_neg (by simp; omega)]; rfl
  | succ t ih =>
    intro n ht hn
    obtain ⟨n, rfl⟩ : ∃ q, n = q + 1 := ⟨n - 1, by omega⟩
    have hil : n0 + t < l.length := by omega
    have e0 : ((n0 + (t + 1) : Nat) : Int) - 1 = ((n0 + t : Nat) : Int) := by omega
    have r := tail_rest hr (n0 + (t + 1))
    have hqf := r.few hf hl
    have hqr := r.right hr hl
    have hql : (tailQ l (n0 + (t + 1))).length = l.length - (n0 + (t + 1)) := by unfold tailQ; simp
    have hh : HeldFew (heldOf l[n0 + t]) := ⟨(hf.each _ (List.getElem_mem hil)).op, by simp [heldOf]⟩
    have hput : putR (tailQ l (n0 + (t + 1))) (heldOf l[n0 + t]) = (tailQ l (n0 + t), 0) := by
      unfold putR
      rw [hqr, if_neg (by rw [show (heldOf l[n0 + t]).Op = l[n0 + t].Op from rfl, (right_at hr _ hil).op]; simp), if_neg ?_, if_neg (by omega)]
      · unfold tailQ
        rw [List.drop_eq_getElem_cons hil, List.map_cons, List.reverse_cons]; rfl
      · intro hc
        rcases h_hit (heldOf l[n0 + t]).Id (tailQ l (n0 + (t + 1))) 0 with ⟨e, _⟩ | ⟨j, hj, _, e, _⟩
        · omega
        · exact r.out _ (List.getElem_mem hj) (n0 + t) (by rw [List.length_take]; omega) (by rw [List.getElem_take, e]; rfl)
    rw [e0, caballaw19_QueueMoves.l2, hx, if_pos (by simp; omega), at_get hil]
    simp only [Option.bind_some]
    have hp : queue_Put_w2 4000 (tailQ l (n0 + (t + 1))) ⟨l[n0 + t].Id, l[n0 + t].Op, []⟩ = some (tailQ l (n0 + t), 0) := by
      rw [put_w2, show (⟨l[n0 + t].Id, l[n0 + t].Op, []⟩ : api_Held) = heldOf l[n0 + t] from rfl, put_eq _ hqf _ hh, hput]
    rw [hp]
    simp only [Option.bind_some, bne_self_eq_false, Bool.false_eq_true, if_false]
    rw [sub64 (by omega)]
    exact ih n (by omega) (by omega)

theorem QueueMoves (x0 : (List api_Node)) (x1 : Int) (g0 : Fine (ksl k_api_Node) x0) (g1 : Fine (kint .i64) x1) : ∃ k, caballaw19_QueueMoves k x0 x1 = some true := by
  refine ⟨4000, ?_⟩
  unfold caballaw19_QueueMoves
  rw [alive19]
  simp only [Option.bind_some, Bool.not_true, Bool.false_eq_true, if_false]
  obtain ⟨b, hb, hf⟩ := great_eq x0 (fun x hx => node_keys ((Fine.sl g0).2 x hx))
  rw [hb]
  simp only [Option.bind_some]
  cases b with
  | true => simp
  | false =>
    have hf := hf rfl
    by_cases c : x0.length ≤ 24
    · rw [decide_eq_false (show ¬ (x0.length : Int) > 24 by omega)]
      simp only [Bool.false_eq_true, if_false, beq_self_eq_true, if_true]
      rw [right_eq x0 hf]
      cases hr : rightG x0 with
      | false => simp
      | true =>
        simp only [Option.bind_some, Bool.not_true, Bool.false_eq_true, if_false]
        have e1 : IntKind.wrap .u64 (iadd .i64 (x0.length : Int) 1) = (x0.length : Int) + 1 := by rw [add64 (by omega), wu64s (by omega)]
        rw [e1, if_pos (by omega)]
        have hw := wu64 x1
        have h0 : 0 ≤ IntKind.wrap .u64 x1 := by rw [hw]; omega
        generalize IntKind.wrap .u64 x1 = W at h0
        rw [rem_pos h0]
        have hm1 : 0 ≤ W % ((x0.length : Int) + 1) := Int.emod_nonneg _ (by omega)
        have hm2 : W % ((x0.length : Int) + 1) < (x0.length : Int) + 1 := Int.emod_lt_of_pos _ (by omega)
        generalize W % ((x0.length : Int) + 1) = M at hm1 hm2
        obtain ⟨n0, rfl⟩ : ∃ n : Nat, M = n := ⟨M.toNat, by omega⟩
        have hx : IntKind.wrap .i64 (n0 : Int) = (n0 : Int) := wi64 (by omega)
        have := qm_l2 x0 hf hr c (n0 : Int) n0 hx (x0.length - n0) 4000 (by omega) (by omega)
        rw [show n0 + (x0.length - n0) = x0.length by omega] at this
        have et : tailQ x0 x0.length = [] := by unfold tailQ; simp
        rw [et] at this
        rw [sub64 (by omega), this]
        unfold caballaw19_QueueMoves.j1
        rw [hx, cut_pre (by omega)]
        simp only [Option.bind_some]
        have hrest := tail_rest hr n0
        have hlen := hrest.len
        exact qm_l1 x0 hf c (tailQ x0 n0).length 4000 (x0.take n0) (tailQ x0 n0) (Sub.take hr n0) hrest (by omega) (by omega)
    · rw [decide_eq_true (show (x0.length : Int) > 24 by omega)]
      simp


end Go.Proofs.Pure
