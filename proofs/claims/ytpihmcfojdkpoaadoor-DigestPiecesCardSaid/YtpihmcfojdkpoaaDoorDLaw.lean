/- What the digest's laws share: the small run, what is too great, joined parts. No program in sight. -/
import Derived.Test.YtpihmcfojdkpoaaDoorDSame
namespace Go.Proofs.Pure
open Go Go.RowKit Go.Proofs.Kit

def KK : Nat := 100000
theorem alive_KK : caballaw01_alive KK = some true := by decide +kernel

theorem join_l1 (K : Nat) (p1 : List (List Int)) (hp : p1.length < 100000) : ∀ (rest pre : List (List Int)) (n : Nat) (y : List Int), p1 = pre ++ rest → rest.length < n → (y ++ rest.flatten).length ≤ lim → cabalref01_Join.l1 K p1 n y (pre.length : Int) = some (y ++ rest.flatten) := by
  intro rest
  induction rest with
  | nil =>
    intro pre n y e hn hl
    cases n with
    | zero => omega
    | succ n => rw [cabalref01_Join.l1, if_neg (by rw [e]; simp)]; simp [cabalref01_Join.j1]
  | cons x rest ih =>
    intro pre n y e hn hl
    cases n with
    | zero => omega
    | succ n =>
      have hat : at? p1 (pre.length : Int) = some x := by rw [e]; unfold at?; rw [if_pos (by omega)]; simp
      have hpl : pre.length < 100000 := by rw [e] at hp; simp at hp; omega
      have h := ih (pre ++ [x]) n (y ++ x) (by rw [e]; simp) (by simp at hn; omega) (by simpa using hl)
      rw [cabalref01_Join.l1, if_pos (by rw [e]; simp; omega), hat, Option.bind_some, if_pos (by simp at hl; omega), d_inc _ (by omega)]
      rw [show (pre ++ [x]).length = pre.length + 1 by simp] at h
      rw [h]; simp

theorem join_eq (K : Nat) (p1 : List (List Int)) (hp : p1.length < 100000) (hK : p1.length < K) (hl : p1.flatten.length ≤ lim) : cabalref01_Join K p1 = some p1.flatten := by
  exact join_l1 K p1 hp p1 [] K [] rfl hK (by simpa using hl)

theorem great_l1 (K : Nat) (p1 : List (List Int)) (hp : p1.length ≤ 40) : ∀ (rest pre : List (List Int)) (n : Nat), p1 = pre ++ rest → rest.length < n → caballaw01_great.l1 K p1 n (pre.length : Int) = some true ∨ (caballaw01_great.l1 K p1 n (pre.length : Int) = some false ∧ ∀ x ∈ rest, x.length ≤ 1000) := by
  intro rest
  induction rest with
  | nil =>
    intro pre n e hn
    cases n with
    | zero => omega
    | succ n => right; rw [caballaw01_great.l1, if_neg (by rw [e]; simp)]; exact ⟨rfl, fun _ h => by cases h⟩
  | cons x rest ih =>
    intro pre n e hn
    cases n with
    | zero => omega
    | succ n =>
      have hat : at? p1 (pre.length : Int) = some x := by rw [e]; unfold at?; rw [if_pos (by omega)]; simp
      have hpl : pre.length ≤ 40 := by rw [e] at hp; simp at hp; omega
      have h := ih (pre ++ [x]) n (by rw [e]; simp) (by simp at hn; omega)
      rw [show (pre ++ [x]).length = pre.length + 1 by simp] at h
      rw [caballaw01_great.l1, if_pos (by rw [e]; simp; omega), hat, Option.bind_some, d_inc _ (by omega)]
      by_cases hx : x.length ≤ 1000
      · rw [if_neg (by simp; omega)]
        rcases h with h | ⟨h1, h2⟩
        · exact .inl h
        · exact .inr ⟨h1, fun y hy => by rcases List.mem_cons.1 hy with rfl | hy; exact hx; exact h2 y hy⟩
      · left; rw [if_pos (by simp; omega)]

theorem great_eq (K : Nat) (hK : 41 ≤ K) (p1 : List (List Int)) : caballaw01_great K p1 = some true ∨ (caballaw01_great K p1 = some false ∧ p1.length ≤ 40 ∧ ∀ x ∈ p1, x.length ≤ 1000) := by
  unfold caballaw01_great
  by_cases h : p1.length ≤ 40
  · rw [if_neg (by simp; omega)]
    rcases great_l1 K p1 h p1 [] K rfl (by omega) with h1 | ⟨h1, h2⟩
    · exact .inl h1
    · exact .inr ⟨h1, h, h2⟩
  · left; rw [if_pos (by simp; omega)]

theorem flat_bound (c : Nat) : ∀ p : List (List Int), (∀ x ∈ p, x.length ≤ c) → p.flatten.length ≤ p.length * c := by
  intro p
  induction p with
  | nil => intro _; simp
  | cons x p ih =>
    intro h
    have h1 := h x (by simp)
    have h2 := ih (fun y hy => h y (by simp [hy]))
    simp only [List.flatten_cons, List.length_append, List.length_cons, Nat.add_mul, Nat.one_mul]
    omega

theorem flat_bytes {p : List (List Int)} (h : ∀ x ∈ p, Bytes x) : Bytes p.flatten := fun b hb => by
  obtain ⟨x, hx, hb⟩ := List.mem_flatten.1 hb
  exact h x hx b hb

/-- the document's sum -/
def S (m : List Int) : List Int := (cabalref01_Sum KK m).getD []

theorem S_rep {h : digest_Hash} {m : List Int} (R : Rep KK h m) (hm : m.length ≤ 90000) : digest_Hash_Sum KK h = some (S m) ∧ cabalref01_Sum KK m = some (S m) := by
  obtain ⟨d, h1, h2, _⟩ := sum_eq KK (by decide) R (by show m.length + 200 ≤ 100000; omega)
  have : S m = d := by unfold S; rw [h2]; rfl
  rw [this]; exact ⟨h1, h2⟩

theorem S_sum (parts : List (List Int)) (hb : ∀ x ∈ parts, Bytes x) (hp : parts.length ≤ 1000) (hm : parts.flatten.length ≤ 90000) : digest_Sum KK parts = some (S parts.flatten) ∧ cabalref01_Sum KK parts.flatten = some (S parts.flatten) := by
  obtain ⟨h1, q1, R1⟩ := write_rep KK (fresh_rep KK) parts hb (by omega) (by show parts.length < 100000; omega) (by show ([] ++ parts.flatten).length + 200 ≤ 100000; rw [List.nil_append]; omega) (by decide)
  rw [List.nil_append] at R1
  obtain ⟨s1, s2⟩ := S_rep R1 hm
  refine ⟨?_, s2⟩
  unfold digest_Sum
  rw [show digest_Hash_Write KK _ parts = some h1 from q1, Option.bind_some, s1]; rfl

theorem rep_len {h : digest_Hash} {m : List Int} (R : Rep KK h m) : h.taken = (m.length : Int) := by
  rcases R with ⟨_, rfl, _, _, _, h⟩ | ⟨_, h⟩
  · simpa using h
  · exact h

theorem bytes_of {x : List Int} (h : Fine kstr x) : Bytes x := h.str.2

theorem none_nz : digest_Sum KK [] ≠ some (List.replicate 32 0) := by decide +kernel
theorem nil_sum : digest_Hash_Sum_nil KK = cabalref01_Sum KK [] := by decide +kernel

end Go.Proofs.Pure
