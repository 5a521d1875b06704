/- RosterShuffled over its plain functions: no program in sight. -/
import Derived.Test.YtdlnfgpcnfbjiaaMRosP
namespace Go.Proofs.Pure
open Go Go.RowKit Go.Proofs.Kit
set_option linter.unusedVariables false

theorem alive16 : caballaw16_alive 4000 = some true := by decide +kernel

theorem rs_l2 (l : List api_Node) (hf : Few l) (m : List api_Node) (s : Sub l m) (pick : Nat) (hp : pick < 256) (y5 : Int) (L : List api_Node → Int → Option Bool) : ∀ (t k n : Nat), k + t = l.length → t + 1 < n →
    (∃ q, k ≤ q ∧ q < l.length ∧ ∃ x y, l[(q + pick) % l.length]? = some y ∧ addR m y.Id y.Op = (x, 0)) →
    ∃ m2, Sub l m2 ∧ m2.length = m.length + 1 ∧ caballaw16_RosterShuffled.l2 4000 l (pick : Int) y5 L n m false (k : Int) = L m2 (iadd .i64 y5 1) := by
  have hlen := right_len s.rl
  intro t
  induction t with
  | zero => intro k n hk hn ⟨q, h1, h2, _⟩; omega
  | succ t ih =>
    intro k n hk hn ⟨q, hq1, hq2, x, y, hy, hx⟩
    obtain ⟨n, rfl⟩ : ∃ z, n = z + 2 := ⟨n - 2, by omega⟩
    have hkl : k < l.length := by omega
    have hmod : (k + pick) % l.length < l.length := Nat.mod_lt _ (by omega)
    have hnext : iadd .i64 (k : Int) 1 = ((k + 1 : Nat) : Int) := by rw [add64 (by omega)]; omega
    have hidx : irem (iadd .i64 (k : Int) (pick : Int)) (l.length : Int) = (((k + pick) % l.length : Nat) : Int) := by
      rw [add64 (by omega), rem_pos (by omega)]; simp
    rw [caballaw16_RosterShuffled.l2, if_pos (by rw [if_pos (by simp; omega)]; rfl), if_pos (by omega), hidx, at_get hmod]
    have hx' := hf.each _ (List.getElem_mem hmod)
    simp only [Option.bind_some]
    rw [add_eq m (s.few hf) _ _ hx'.op]
    simp only [Option.bind_some, caballaw16_RosterShuffled.j5, hnext]
    by_cases c : (addR m l[(k + pick) % l.length].Id l[(k + pick) % l.length].Op).2 = 0
    · obtain ⟨s2, h2⟩ := s.add _ hmod (x := (addR m l[(k + pick) % l.length].Id l[(k + pick) % l.length].Op).1) (by rw [← c])
      refine ⟨_, s2, h2, ?_⟩
      rw [if_pos (by simpa using c), caballaw16_RosterShuffled.l2]
      have e : (if (decide (((k + 1 : Nat) : Int) < (l.length : Int))) then (!true) else false) = false := by simp
      rw [e]
      rfl
    · rw [if_neg (by simpa using c)]
      refine ih (k + 1) (n + 1) (by omega) (by omega) ⟨q, ?_, hq2, x, y, hy, hx⟩
      by_cases e : q = k
      · subst e
        rw [List.getElem?_eq_getElem hmod] at hy
        rw [← Option.some.inj hy] at hx
        exact absurd (by rw [hx]) c
      · omega
theorem rs_l1 (l : List api_Node) (hf : Few l) (ps : List Int) (hb : ∀ v ∈ ps, 0 ≤ v ∧ v < 256) : ∀ (t i n : Nat) (m : List api_Node), Sub l m → m.length = i → i + t = l.length → t < n →
    ∃ m2, Sub l m2 ∧ m2.length = l.length ∧ caballaw16_RosterShuffled.l1 4000 l ps n m (i : Int) = caballaw16_RosterShuffled.j1 4000 l m2 := by
  intro t
  induction t with
  | zero =>
    intro i n m s hm hi hn
    obtain ⟨n, rfl⟩ : ∃ z, n = z + 1 := ⟨n - 1, by omega⟩
    have hlen := right_len s.rl
    rw [caballaw16_RosterShuffled.l1, if_neg (by simp; omega)]
    exact ⟨m, s, by omega, rfl⟩
  | succ t ih =>
    intro i n m s hm hi hn
    obtain ⟨n, rfl⟩ : ∃ z, n = z + 1 := ⟨n - 1, by omega⟩
    have hlen := right_len s.rl
    have hnext : iadd .i64 (i : Int) 1 = ((i + 1 : Nat) : Int) := by rw [add64 (by omega)]; omega
    obtain ⟨v, hv, x, hx⟩ := s.next (by omega)
    have key : ∀ pick : Nat, pick < 256 → ∃ m2, Sub l m2 ∧ m2.length = l.length ∧ caballaw16_RosterShuffled.j3 4000 l (i : Int) m (caballaw16_RosterShuffled.l1 4000 l ps n) (pick : Int) = caballaw16_RosterShuffled.j1 4000 l m2 := fun pick hp => by
      obtain ⟨m2, s2, h2, e⟩ := rs_l2 l hf m s pick hp (i : Int) (caballaw16_RosterShuffled.l1 4000 l ps n) l.length 0 4000 (by omega) (by omega)
        ⟨(v + (l.length - pick % l.length)) % l.length, by omega, Nat.mod_lt _ (by omega), x, l[v], by
          have hpl : pick % l.length < l.length := Nat.mod_lt _ (by omega)
          have : ((v + (l.length - pick % l.length)) % l.length + pick) % l.length = v := by
            rw [Nat.mod_add_mod, Nat.add_mod, ← Nat.add_mod]
            have e1 : v + (l.length - pick % l.length) + pick = v + l.length * (pick / l.length + 1) := by
              have := Nat.div_add_mod pick l.length
              rw [Nat.mul_add]
              omega
            rw [e1, Nat.add_mul_mod_self_left, Nat.mod_eq_of_lt hv]
          rw [this]; exact List.getElem?_eq_getElem hv, hx⟩
      obtain ⟨m3, s3, h3, e3⟩ := ih (i + 1) n m2 s2 (by omega) (by omega) (by omega)
      refine ⟨m3, s3, h3, ?_⟩
      unfold caballaw16_RosterShuffled.j3
      rw [show ((0 : Nat) : Int) = 0 from rfl] at e
      rw [e, hnext, e3]
    rw [caballaw16_RosterShuffled.l1, if_pos (by simp; omega)]
    by_cases c : i < ps.length
    · have hz := hb _ (List.getElem_mem c)
      obtain ⟨pk, e⟩ : ∃ z : Nat, ps[i] = z := ⟨ps[i].toNat, by omega⟩
      rw [if_pos (by simp; omega), at_get c]
      simp only [Option.bind_some]
      rw [wi64 (by omega), e]
      exact key pk (by omega)
    · rw [if_neg (by simp; omega)]
      exact key 0 (by omega)


theorem same_ros (m : List api_Node) : cabalref15_SameInts 4000 (rosA m) (rosA m) = some true := by
  have h8 : (rosA m).length ≤ 8 := by unfold rosA rosL; exact coll_len _ 8 0
  rw [sameints_eq _ _ (by omega), decide_eq_true rfl]
theorem rs_end (l m : List api_Node) (s : Sub l m) (hm : m.length = l.length) (hf : Few l) : caballaw16_RosterShuffled.j1 4000 l m = some true := by
  have er := s.ros (show l.length ≤ m.length by omega)
  have hs := same_ros m
  unfold caballaw16_RosterShuffled.j1
  rw [alive16]
  simp only [Option.bind_some, beq_self_eq_true, if_true]
  rw [rall_eq l hf, rall_eq m (s.few hf), s.rl, s.rm, ← er]
  simp only [if_true, Option.bind_some]
  rw [hs]
  rfl
theorem RosterShuffled (x0 : (List api_Node)) (x1 : (List Int)) (g0 : Fine (ksl k_api_Node) x0) (g1 : Fine (ksl (kint .u8)) x1) : ∃ k, caballaw16_RosterShuffled k x0 x1 = some true := by
  refine ⟨4000, ?_⟩
  unfold caballaw16_RosterShuffled
  rw [alive16]
  simp only [Option.bind_some, Bool.not_true, Bool.false_eq_true, if_false]
  obtain ⟨b, hb, hf⟩ := great_eq x0 (fun x hx => node_keys ((Fine.sl g0).2 x hx))
  rw [hb]
  simp only [Option.bind_some]
  cases b with
  | true => simp
  | false =>
    have hf := hf rfl
    have hlen := hf.len
    have hps : ∀ v ∈ x1, 0 ≤ v ∧ v < 256 := fun v hv => by
      have := Fine.int ((Fine.sl g1).2 v hv)
      have h2 : 0 ≤ v ∧ v ≤ 255 := this
      omega
    by_cases c : x0.length ≤ 30
    · rw [decide_eq_false (show ¬ (x0.length : Int) > 30 by omega)]
      simp only [Bool.false_eq_true, if_false, beq_self_eq_true, if_true]
      rw [right_eq x0 hf]
      cases hr : rightG x0 with
      | false => simp
      | true =>
        simp only [Option.bind_some, Bool.not_true, Bool.false_eq_true, if_false]
        obtain ⟨m, s, hm, e⟩ := rs_l1 x0 hf x1 hps x0.length 0 4000 [] (Sub.start hr) rfl (by omega) (by omega)
        rw [show ((0 : Nat) : Int) = 0 from rfl] at e
        rw [e]
        exact rs_end x0 m s hm hf
    · rw [decide_eq_true (show (x0.length : Int) > 30 by omega)]
      simp


end Go.Proofs.Pure
