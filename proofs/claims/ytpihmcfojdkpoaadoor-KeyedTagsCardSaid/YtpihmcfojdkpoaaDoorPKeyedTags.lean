/- KeyedTags over its plain functions: no program in sight. -/
import Derived.Test.YtpihmcfojdkpoaaDoorELaw
namespace Go.Proofs.Pure
open Go Go.RowKit Go.Proofs.Kit

theorem join_l1 (K : Nat) (p1 : List (List Int)) (hp : p1.length < 100000) : ∀ (rest pre : List (List Int)) (n : Nat) (y : List Int), p1 = pre ++ rest → rest.length < n → (y ++ rest.flatten).length ≤ lim → cabalref01_Join.l1 K p1 n y (pre.length : Int) = some (y ++ rest.flatten) := by
  intro rest
  induction rest with
  | nil =>
    intro pre n y e hn hl
    cases n with
    | zero => omega
    | succ n => rw [cabalref01_Join.l1, if_neg (by rw [e]; simp)]; simp [cabalref01_Join.j1]
  | cons x rest ih =>
    intro pre n y e hn hl
    cases n with
    | zero => omega
    | succ n =>
      have hat : at? p1 (pre.length : Int) = some x := by rw [e]; unfold at?; rw [if_pos (by omega)]; simp
      have hpl : pre.length < 100000 := by rw [e] at hp; simp at hp; omega
      have h := ih (pre ++ [x]) n (y ++ x) (by rw [e]; simp) (by simp at hn; omega) (by simpa using hl)
      rw [cabalref01_Join.l1, if_pos (by rw [e]; simp; omega), hat, Option.bind_some, if_pos (by simp at hl; omega), d_inc _ (by omega)]
      rw [show (pre ++ [x]).length = pre.length + 1 by simp] at h
      rw [h]; simp

theorem join_eq (K : Nat) (p1 : List (List Int)) (hp : p1.length < 100000) (hK : p1.length < K) (hl : p1.flatten.length ≤ lim) : cabalref01_Join K p1 = some p1.flatten := by
  exact join_l1 K p1 hp p1 [] K [] rfl hK (by simpa using hl)

theorem great_l1 (K : Nat) (p1 : List (List Int)) (hp : p1.length ≤ 40) : ∀ (rest pre : List (List Int)) (n : Nat), p1 = pre ++ rest → rest.length < n → caballaw02_great.l1 K p1 n (pre.length : Int) = some true ∨ (caballaw02_great.l1 K p1 n (pre.length : Int) = some false ∧ ∀ x ∈ rest, x.length ≤ 1000) := by
  intro rest
  induction rest with
  | nil =>
    intro pre n e hn
    cases n with
    | zero => omega
    | succ n => right; rw [caballaw02_great.l1, if_neg (by rw [e]; simp)]; exact ⟨rfl, fun _ h => by cases h⟩
  | cons x rest ih =>
    intro pre n e hn
    cases n with
    | zero => omega
    | succ n =>
      have hat : at? p1 (pre.length : Int) = some x := by rw [e]; unfold at?; rw [if_pos (by omega)]; simp
      have hpl : pre.length ≤ 40 := by rw [e] at hp; simp at hp; omega
      have h := ih (pre ++ [x]) n (by rw [e]; simp) (by simp at hn; omega)
      rw [show (pre ++ [x]).length = pre.length + 1 by simp] at h
      rw [caballaw02_great.l1, if_pos (by rw [e]; simp; omega), hat, Option.bind_some, d_inc _ (by omega)]
      by_cases hx : x.length ≤ 1000
      · rw [if_neg (by simp; omega)]
        rcases h with h | ⟨h1, h2⟩
        · exact .inl h
        · exact .inr ⟨h1, fun y hy => by rcases List.mem_cons.1 hy with rfl | hy; exact hx; exact h2 y hy⟩
      · left; rw [if_pos (by simp; omega)]

theorem great_eq (K : Nat) (hK : 41 ≤ K) (key : List Int) (p1 : List (List Int)) : caballaw02_great K key p1 = some true ∨ (caballaw02_great K key p1 = some false ∧ key.length ≤ 1000 ∧ p1.length ≤ 30 ∧ ∀ x ∈ p1, x.length ≤ 1000) := by
  unfold caballaw02_great
  rw [Option.bind_some]
  by_cases h : key.length ≤ 1000 ∧ p1.length ≤ 30
  · rw [if_neg (by simp; omega)]
    rcases great_l1 K p1 (by omega) p1 [] K rfl (by omega) with h1 | ⟨h1, h2⟩
    · exact .inl h1
    · exact .inr ⟨h1, h.1, h.2, h2⟩
  · left; rw [if_pos (by simp; omega)]

theorem flat_bytes {p : List (List Int)} (h : ∀ x ∈ p, Bytes x) : Bytes p.flatten := fun b hb => by
  obtain ⟨x, hx, hb⟩ := List.mem_flatten.1 hb
  exact h x hx b hb

theorem KeyedTags (x0 : (List Int)) (x1 : (List (List Int))) (g0 : Fine kstr x0) (g1 : Fine (ksl kstr) x1) : ∃ k, caballaw02_KeyedTags k x0 x1 = some true := by
  have hb : ∀ x ∈ x1, Bytes x := fun x hx => bytes_of (g1.sl.2 x hx)
  have hk := bytes_of g0
  have hlim : lim = 2147483648 := rfl
  refine ⟨KK, ?_⟩
  unfold caballaw02_KeyedTags
  rw [alive_KK, Option.bind_some, if_neg (by simp)]
  rcases great_eq KK (by decide) x0 x1 with h | ⟨h, h0, h1, h2⟩
  · rw [h]; rfl
  · have hf := flat_bound 1000 x1 h2
    have t := tag_eq hk (by omega) x1 hb (by omega) (by omega)
    have r := reftag_eq hk (by omega) (flat_bytes hb) (by omega)
    have j := join_eq KK x1 (by omega) (by show x1.length < 100000; omega) (by omega)
    rw [h]
    simp [t, r, j, keyed_Extract]

end Go.Proofs.Pure
