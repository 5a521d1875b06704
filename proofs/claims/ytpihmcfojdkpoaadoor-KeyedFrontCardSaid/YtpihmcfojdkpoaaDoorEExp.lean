/- The expansion of a key: block behind block; the program's and the document's are the same. No program in sight. -/
import Derived.Test.YtpihmcfojdkpoaaDoorELaw
namespace Go.Proofs.Pure
open Go Go.RowKit Go.Proofs.Kit

/-- the blocks: all of the first j, and the last of them -/
def exps (key info : List Int) : Nat → List Int × List Int
  | 0 => ([], [])
  | j + 1 => let s := exps key info j; let t := HM key (s.2 ++ info ++ [IntKind.wrap .u8 ((j + 1 : Nat) : Int)]); (s.1 ++ t, t)

structure ExOk (key info : List Int) : Prop where
  k : Bytes key
  kl : key.length ≤ 500
  i : Bytes info
  il : info.length ≤ 500

theorem exps_ok {key info : List Int} (E : ExOk key info) : ∀ j, (exps key info j).1.length = 32 * j ∧ (exps key info j).2.length ≤ 32 ∧ Bytes (exps key info j).2 := by
  intro j
  induction j with
  | zero => exact ⟨rfl, by simp [exps], fun x hx => by cases hx⟩
  | succ j ih =>
    obtain ⟨h1, h2, h3⟩ := ih
    have hb : Bytes ((exps key info j).2 ++ info ++ [IntKind.wrap .u8 ((j + 1 : Nat) : Int)]) := (h3.append E.i).append (fun x hx => by simp only [List.mem_singleton] at hx; subst hx; exact wrap8_rng _)
    obtain ⟨g1, g2⟩ := HM_ok E.k (show key.length ≤ 90000 by have := E.kl; omega) hb (by have := E.il; simp; omega)
    refine ⟨?_, ?_, ?_⟩
    · simp only [exps, List.length_append, g1, h1]; omega
    · simp only [exps]; omega
    · simp only [exps]; exact g2

theorem exps_len {key info : List Int} (E : ExOk key info) (j : Nat) : (exps key info (j + 1)).2.length = 32 := by
  obtain ⟨h1, h2, h3⟩ := exps_ok E j
  have hb : Bytes ((exps key info j).2 ++ info ++ [IntKind.wrap .u8 ((j + 1 : Nat) : Int)]) := (h3.append E.i).append (fun x hx => by simp only [List.mem_singleton] at hx; subst hx; exact wrap8_rng _)
  exact (HM_ok E.k (show key.length ≤ 90000 by have := E.kl; omega) hb (by have := E.il; simp; omega)).1

theorem exps_pre (key info : List Int) (j d : Nat) : ∃ r, (exps key info (j + d)).1 = (exps key info j).1 ++ r := by
  induction d with
  | zero => exact ⟨[], by simp⟩
  | succ d ih =>
    obtain ⟨r, hr⟩ := ih
    refine ⟨r ++ (exps key info (j + d + 1)).2, ?_⟩
    show (exps key info (j + d)).1 ++ _ = _
    rw [hr, List.append_assoc]; rfl

/-- what is asked of it -/
def ex (key info : List Int) (n : Nat) : List Int := (exps key info ((n + 31) / 32)).1.take n

theorem exp_l1 {key info : List Int} (E : ExOk key info) (n : Nat) (hn : n ≤ 8160) : ∀ c m (j : Nat), j + c = (n + 31) / 32 → c < m →
    keyed_Expand.l1 KK (n : Int) key info m (exps key info j).1 (exps key info j).2 (IntKind.wrap .u8 ((j + 1 : Nat) : Int)) = some (ex key info n, 0) := by
  have hlim : lim = 2147483648 := rfl
  intro c
  induction c with
  | zero =>
    intro m j hj hm
    cases m with
    | zero => omega
    | succ m =>
      obtain ⟨h1, h2, h3⟩ := exps_ok E j
      rw [keyed_Expand.l1, if_neg (by simp; omega), keyed_Expand.j1]
      have : cut? (exps key info j).1 0 (n : Int) = some (ex key info n) := by
        unfold cut?; rw [if_pos (by omega)]; simp [ex, ← hj]
      rw [this]; rfl
  | succ c ih =>
    intro m j hj hm
    cases m with
    | zero => omega
    | succ m =>
      obtain ⟨h1, h2, h3⟩ := exps_ok E j
      have hj2 : j < 255 := by omega
      have t := tag_eq E.k (show key.length ≤ 90000 by have := E.kl; omega) [(exps key info j).2, info, [IntKind.wrap .u8 ((j + 1 : Nat) : Int)]] (fun x hx => by
        simp only [List.mem_cons, List.not_mem_nil, or_false] at hx
        rcases hx with rfl | rfl | rfl
        · exact h3
        · exact E.i
        · exact fun x hx => by simp only [List.mem_singleton] at hx; subst hx; exact wrap8_rng _) (by simp) (by have := E.il; simp; omega)
      have e : [(exps key info j).2, info, [IntKind.wrap .u8 ((j + 1 : Nat) : Int)]].flatten = (exps key info j).2 ++ info ++ [IntKind.wrap .u8 ((j + 1 : Nat) : Int)] := by simp
      rw [e] at t
      have hl := exps_len E j
      have e2 : HM key ((exps key info j).2 ++ info ++ [IntKind.wrap .u8 ((j + 1 : Nat) : Int)]) = (exps key info (j + 1)).2 := rfl
      rw [e2] at t
      have e3 : iadd .u8 (IntKind.wrap .u8 ((j + 1 : Nat) : Int)) 1 = IntKind.wrap .u8 ((j + 1 + 1 : Nat) : Int) := by
        unfold iadd
        have w : ∀ x : Int, IntKind.wrap .u8 x = x % 256 := fun x => rfl
        rw [w, w, w]; omega
      rw [keyed_Expand.l1, if_pos (by simp; omega), t, Option.bind_some, cut32 hl, Option.bind_some, if_pos (by rw [hlim]; omega), e3]
      exact ih m (j + 1) (by omega) (by omega)

theorem refexp_l1 {key info : List Int} (E : ExOk key info) (n : Nat) (hn : n ≤ 8160) : ∀ c m (j : Nat), j + c = (n + 31) / 32 → c < m →
    cabalref02_Expand.l1 KK (n : Int) info key m (exps key info j).1 (exps key info j).2 ((j + 1 : Nat) : Int) = some (ex key info n) := by
  have hlim : lim = 2147483648 := rfl
  intro c
  induction c with
  | zero =>
    intro m j hj hm
    cases m with
    | zero => omega
    | succ m =>
      obtain ⟨h1, h2, h3⟩ := exps_ok E j
      rw [cabalref02_Expand.l1, if_neg (by simp; omega), cabalref02_Expand.j1]
      have : cut? (exps key info j).1 0 (n : Int) = some (ex key info n) := by
        unfold cut?; rw [if_pos (by omega)]; simp [ex, ← hj]
      rw [this]; rfl
  | succ c ih =>
    intro m j hj hm
    cases m with
    | zero => omega
    | succ m =>
      obtain ⟨h1, h2, h3⟩ := exps_ok E j
      have hj2 : j < 255 := by omega
      have hil := E.il
      have hb : Bytes ((exps key info j).2 ++ info ++ [IntKind.wrap .u8 ((j + 1 : Nat) : Int)]) := (h3.append E.i).append (fun x hx => by simp only [List.mem_singleton] at hx; subst hx; exact wrap8_rng _)
      have t := reftag_eq E.k (show key.length ≤ 90000 by have := E.kl; omega) hb (by simp; omega)
      have hl := exps_len E j
      have e2 : HM key ((exps key info j).2 ++ info ++ [IntKind.wrap .u8 ((j + 1 : Nat) : Int)]) = (exps key info (j + 1)).2 := rfl
      rw [e2] at t
      rw [cabalref02_Expand.l1, if_pos (by simp; omega), if_pos (by rw [hlim]; omega), if_pos (by rw [hlim]; simp; omega), t, Option.bind_some, cabalref02_Text, cut32 hl, Option.bind_some, Option.bind_some, if_pos (by rw [hlim]; omega), d_inc _ (by omega)]
      exact ih m (j + 1) (by omega) (by omega)

theorem exp_eq {key info : List Int} (E : ExOk key info) (n : Nat) (hn : n ≤ 8160) : keyed_Expand KK key info (n : Int) = some (ex key info n, 0) := by
  unfold keyed_Expand
  rw [Option.bind_some, if_neg (by simp; omega)]
  exact exp_l1 E n hn ((n + 31) / 32) KK 0 (by omega) (by show _ < 100000; omega)

theorem refexp_eq {key info : List Int} (E : ExOk key info) (n : Nat) (hn : n ≤ 8160) : cabalref02_Expand KK key info (n : Int) = some (ex key info n) :=
  refexp_l1 E n hn ((n + 31) / 32) KK 0 (by omega) (by show _ < 100000; omega)

theorem ex_len {key info : List Int} (E : ExOk key info) (n : Nat) : (ex key info n).length = n := by
  obtain ⟨h1, _, _⟩ := exps_ok E ((n + 31) / 32)
  unfold ex; rw [List.length_take, h1]; omega

theorem ex_pre {key info : List Int} (E : ExOk key info) (a b : Nat) (h : a ≤ b) : (ex key info b).take a = ex key info a := by
  obtain ⟨r, hr⟩ := exps_pre key info ((a + 31) / 32) ((b + 31) / 32 - (a + 31) / 32)
  rw [show (a + 31) / 32 + ((b + 31) / 32 - (a + 31) / 32) = (b + 31) / 32 by omega] at hr
  obtain ⟨h1, _, _⟩ := exps_ok E ((a + 31) / 32)
  unfold ex
  rw [List.take_take, Nat.min_eq_left h, hr, List.take_append_of_le_length (by omega)]

end Go.Proofs.Pure
