/- Disks: the two ways of keeping them come to the same. No program in sight. -/
import Derived.Test.YtlcddcamnkgeeaaNPure
import Derived.Test.YtlcddcamnkgeeaaNum
namespace Go.Proofs.Pure
open Go Go.RowKit Go.Proofs.Kit
set_option linter.unusedVariables false

theorem alive12 : caballaw12_alive 4000 = some true := by decide +kernel

theorem set_ok {α : Type} {l : List α} {i : Nat} {x : α} (h : i < l.length) : set? l (i : Int) x = some (l.set i x) := by
  unfold set?; rw [if_pos ⟨by omega, by omega⟩]; simp

/-- written bytes: so many -/
theorem data_l1 (b q : Int) (N : Nat) (hN : iadd .i64 256 (IntKind.wrap .i64 q) = (N : Int)) (hN2 : N ≤ 3000) : ∀ (m i n : Nat) (l : List Int), l.length = N → i + m = N → m < n → ∃ d, caballaw12_data.l1 4000 q b n (i : Int) l = some d ∧ d.length = N := by
  intro m
  induction m with
  | zero =>
    intro i n l hl hi hm
    obtain ⟨n, rfl⟩ : ∃ q, n = q + 1 := ⟨n - 1, by omega⟩
    rw [caballaw12_data.l1, hN, if_neg (by simp; omega)]
    exact ⟨l, rfl, hl⟩
  | succ m ih =>
    intro i n l hl hi hm
    obtain ⟨n, rfl⟩ : ∃ q, n = q + 1 := ⟨n - 1, by omega⟩
    rw [caballaw12_data.l1, hN, if_pos (by simp; omega), if_pos (by omega), set_ok (by omega)]
    simp only [Option.bind_some]
    rw [add64 (by omega), show ((i : Int) + 1) = ((i + 1 : Nat) : Int) by omega]
    exact ih (i + 1) n _ (by simp [hl]) (by omega) (by omega)
theorem data_ok (b q : Int) (hq : -128 ≤ q ∧ q ≤ 127) : ∃ d, caballaw12_data 4000 b q = some d ∧ (d.length : Int) = 256 + q := by
  obtain ⟨N, hN⟩ : ∃ N : Nat, 256 + q = (N : Int) := ⟨(256 + q).toNat, by omega⟩
  have e : iadd .i64 256 (IntKind.wrap .i64 q) = (N : Int) := by rw [wi64 (by omega), add64 (by omega), hN]
  unfold caballaw12_data
  rw [e, if_pos ⟨by omega, by unfold lim; omega⟩]
  obtain ⟨d, h1, h2⟩ := data_l1 b q N e (by omega) N 0 4000 (List.replicate (N : Int).toNat 0) (by simp) (by omega) (by omega)
  exact ⟨d, h1, by omega⟩

/-- the same disk as the other program keeps it -/
def twin (d : disk_Disk) : cabalref12_Disk := ⟨d.firm, d.loose.map (·.at_), d.loose.map (·.data), d.fuse, d.dead⟩

/-- blocks of their size -/
def Blk (n : Nat) (f : List (List Int)) : Prop := f.length = n ∧ ∀ b ∈ f, b.length = 256
theorem Blk.set {n : Nat} {f : List (List Int)} (h : Blk n f) (i : Nat) {b : List Int} (hb : b.length = 256) : Blk n (f.set i b) := by
  refine ⟨by rw [List.length_set]; exact h.1, fun x hx => ?_⟩
  rcases List.mem_or_eq_of_mem_set hx with q | q
  · exact h.2 x q
  · rw [q]; exact hb
/-- a new disk -/
def newD (n : Nat) : disk_Disk := ⟨List.replicate n (List.replicate 256 0), [], -1, false⟩
theorem new_l1 (N : Nat) (hN : N ≤ 1024) : ∀ (m i n : Nat), i + m = N → m < n → cabalref12_New.l1 4000 (N : Int) n (i : Int) (List.replicate i (List.replicate 256 0)) = some (twin (newD N)) := by
  have hL : (1000000 : Nat) ≤ lim := by unfold lim; omega
  intro m
  induction m with
  | zero =>
    intro i n hi hm
    obtain ⟨n, rfl⟩ : ∃ q, n = q + 1 := ⟨n - 1, by omega⟩
    have : i = N := by omega
    subst this
    rw [cabalref12_New.l1, if_neg (by simp)]; rfl
  | succ m ih =>
    intro i n hi hm
    obtain ⟨n, rfl⟩ : ∃ q, n = q + 1 := ⟨n - 1, by omega⟩
    rw [cabalref12_New.l1, if_pos (by simp; omega), if_pos ⟨by omega, by show 256 ≤ lim; omega⟩, if_pos (by rw [List.length_replicate, List.length_singleton]; omega), add64 (by omega), show ((i : Int) + 1) = ((i + 1 : Nat) : Int) by omega]
    have e : List.replicate i (List.replicate 256 (0 : Int)) ++ [List.replicate (256 : Int).toNat (0 : Int)] = List.replicate (i + 1) (List.replicate 256 0) := by rw [List.replicate_succ' (n := i)]; rfl
    rw [e]
    exact ih (i + 1) n (by omega) (by omega)
theorem new_ok (p : Int) : ∃ n : Nat, n ≤ 1024 ∧ disk_New 4000 p = some (newD n) ∧ cabalref12_New 4000 p = some (twin (newD n)) ∧ (1 ≤ p → p ≤ 1024 → (n : Int) = p) := by
  have hL : (1000000 : Nat) ≤ lim := by unfold lim; omega
  have key : ∀ n : Nat, n ≤ 1024 → cabalref12_New.l1 4000 (n : Int) 4000 0 [] = some (twin (newD n)) := fun n hn => by
    have := new_l1 n hn n 0 4000 (by omega) (by omega)
    rw [show ((0 : Nat) : Int) = 0 from rfl] at this
    exact this
  unfold disk_New cabalref12_New
  by_cases c1 : p < 1
  · refine ⟨1, by omega, ?_, ?_, fun _ _ => by omega⟩
    · rw [if_pos (show (1 : Int) > p by omega), if_neg (by omega)]
      simp only [Option.bind_some]
      rw [if_pos ⟨by omega, by show 1 ≤ lim; omega⟩]; rfl
    · rw [if_pos (by simpa using c1), cabalref12_New.j1, if_neg (by simp), cabalref12_New.j2]
      exact key 1 (by omega)
  · by_cases c2 : p ≤ 1024
    · obtain ⟨n, rfl⟩ : ∃ n : Nat, p = n := ⟨p.toNat, by omega⟩
      refine ⟨n, by omega, ?_, ?_, fun _ _ => rfl⟩
      · rw [if_neg (show ¬ (1 : Int) > n by omega), if_neg (by omega)]
        simp only [Option.bind_some]
        rw [if_pos ⟨by omega, by simp; omega⟩]; rfl
      · rw [if_neg (by simpa using c1), cabalref12_New.j1, if_neg (by simp; omega), cabalref12_New.j2]
        exact key n (by omega)
    · refine ⟨1024, by omega, ?_, ?_, fun _ _ => by omega⟩
      · rw [if_neg (show ¬ (1 : Int) > p by omega), if_pos (by omega)]
        simp only [Option.bind_some]
        rw [if_pos ⟨by omega, by show 1024 ≤ lim; omega⟩]; rfl
      · rw [if_neg (by simpa using c1), cabalref12_New.j1, if_pos (by simp; omega), cabalref12_New.j2]
        exact key 1024 (by omega)


end Go.Proofs.Pure
