/- DigestPieces over its plain functions: no program in sight. -/
import Derived.Test.YtpihmcfojdkpoaaDoorDLaw
namespace Go.Proofs.Pure
open Go Go.RowKit Go.Proofs.Kit

theorem pieces_j2 (p1 : List Int) (hb : Bytes p1) (hl : p1.length ≤ 4000) (y1 : List (List Int)) (x3 : List Int) (hf : (y1 ++ [x3]).flatten = p1) (hc : (y1 ++ [x3]).length ≤ 100) (hbp : ∀ x ∈ y1 ++ [x3], Bytes x) (h : digest_Hash) (R : Rep KK h p1) :
    caballaw01_DigestPieces.j2 KK p1 y1 x3 h = some true := by
  obtain ⟨s1, _⟩ := S_rep R (by omega)
  obtain ⟨t1, _⟩ := S_sum [p1] (fun y hy => by simp at hy; subst hy; exact hb) (by simp) (by simp; omega)
  obtain ⟨t2, _⟩ := S_sum (y1 ++ [x3]) hbp (by omega) (by rw [hf]; omega)
  rw [hf] at t2
  have hw : IntKind.wrap .u64 (p1.length : Int) = (p1.length : Int) := by rw [IntKind.wrap_u64]; omega
  unfold caballaw01_DigestPieces.j2
  simp only [alive_KK, Option.bind_some, s1, show digest_Sum KK [p1] = some (S p1) by simpa using t1, t2, digest_Hash_Len, rep_len R, hw, beq_self_eq_true, if_true, decide_true]

theorem pieces_l1 (p1 : List Int) (hb : Bytes p1) (hl : p1.length ≤ 4000) (y1 : List (List Int)) (x3 : List Int) (hf : (y1 ++ [x3]).flatten = p1) (hc : (y1 ++ [x3]).length ≤ 100) (hbp : ∀ x ∈ y1 ++ [x3], Bytes x) :
    ∀ (rest pre : List (List Int)) (n : Nat) (h : digest_Hash), y1 ++ [x3] = pre ++ rest → rest.length < n → Rep KK h pre.flatten → caballaw01_DigestPieces.l1 KK y1 x3 p1 n (pre.length : Int) h = some true := by
  intro rest
  induction rest with
  | nil =>
    intro pre n h e hn R
    cases n with
    | zero => omega
    | succ n =>
      rw [caballaw01_DigestPieces.l1, if_neg (by rw [e]; simp)]
      rw [List.append_nil] at e
      rw [← e, hf] at R
      exact pieces_j2 p1 hb hl y1 x3 hf hc hbp h R
  | cons x rest ih =>
    intro pre n h e hn R
    cases n with
    | zero => omega
    | succ n =>
      have hat : at? (y1 ++ [x3]) (pre.length : Int) = some x := by rw [e]; unfold at?; rw [if_pos (by omega)]; simp
      have hpl : pre.length < 100 := by rw [e] at hc; simp at hc; omega
      have hlt : pre.length < (y1 ++ [x3]).length := by rw [e]; simp
      have hfl : pre.flatten.length + x.length ≤ 4000 := by
        have := congrArg List.length hf
        rw [e] at this; simp at this ⊢; omega
      obtain ⟨h1, q1, R1⟩ := write_rep KK R [x] (fun y hy => by simp at hy; subst hy; exact hbp _ (by rw [e]; simp)) (by simp) (by show [x].length < 100000; simp) (by show (pre.flatten ++ [x].flatten).length + 200 ≤ 100000; rw [List.flatten_cons, List.flatten_nil, List.append_nil, List.length_append]; omega) (by decide)
      have h2 := ih (pre ++ [x]) n h1 (by rw [e]; simp) (by simp at hn; omega) (by simpa using R1)
      rw [show (pre ++ [x]).length = pre.length + 1 by simp] at h2
      rw [caballaw01_DigestPieces.l1, if_pos (by simp only [decide_eq_true_eq]; omega), if_pos (by omega), hat, Option.bind_some, q1, Option.bind_some, d_inc _ (by omega)]
      exact h2

theorem pieces_l2 (p1 : List Int) (hb : Bytes p1) (hl : p1.length ≤ 4000) (p2 : List Int) (hp2 : ∀ x ∈ p2, 0 ≤ x ∧ x < 65536) : ∀ c n (i a : Nat) (y : List (List Int)), i + c = 60 → c < n → a ≤ p1.length → y.flatten = p1.take a → y.length = i → (∀ x ∈ y, Bytes x) →
    caballaw01_DigestPieces.l2 KK p2 p1 n y (a : Int) (i : Int) = some true := by
  have hlim : lim = 2147483648 := rfl
  have sub : ∀ l : List Int, (∀ x ∈ l, x ∈ p1) → Bytes l := fun l h x hx => hb x (h x hx)
  have fin : ∀ (a : Nat) (y : List (List Int)), a ≤ p1.length → y.flatten = p1.take a → y.length ≤ 60 → (∀ x ∈ y, Bytes x) → caballaw01_DigestPieces.j1 KK p1 y (a : Int) = some true := by
    intro a y ha hy hyl hyb
    have c : cut? p1 (a : Int) (p1.length : Int) = some (p1.drop a) := by
      unfold cut?; rw [if_pos ⟨by omega, by omega, by omega⟩, Int.toNat_natCast, Int.toNat_natCast, List.take_length]
    unfold caballaw01_DigestPieces.j1
    rw [c, Option.bind_some, if_pos (by rw [hlim]; simp; omega)]
    have hbp : ∀ x ∈ y ++ [p1.drop a], Bytes x := fun x hx => by
      rcases List.mem_append.1 hx with h | h
      · exact hyb x h
      · simp at h; subst h; exact sub _ (fun z hz => List.mem_of_mem_drop hz)
    exact pieces_l1 p1 hb hl y _ (by simp [hy]) (by simp; omega) hbp (y ++ [p1.drop a]) [] KK _ rfl (by show (y ++ [p1.drop a]).length < 100000; simp; omega) (fresh_rep KK)
  intro c
  induction c with
  | zero =>
    intro n i a y hi hn ha hy hyl hyb
    cases n with
    | zero => omega
    | succ n =>
      rw [caballaw01_DigestPieces.l2, Option.bind_some, if_neg (by simp; omega)]
      exact fin a y ha hy (by omega) hyb
  | succ c ih =>
    intro n i a y hi hn ha hy hyl hyb
    cases n with
    | zero => omega
    | succ n =>
      rw [caballaw01_DigestPieces.l2, Option.bind_some]
      by_cases hlt : i < p2.length
      · rw [if_pos (by simp; omega), d_at hlt 0, Option.bind_some]
        have hm : p2.getD i 0 ∈ p2 := by rw [List.getD_eq_getElem?_getD, List.getElem?_eq_getElem hlt]; simp
        have hx := hp2 _ hm
        have e1 : iadd .i64 (isub .i64 (p1.length : Int) (a : Int)) 1 = ((p1.length - a + 1 : Nat) : Int) := by
          unfold iadd isub; rw [IntKind.wrap_i64, IntKind.wrap_i64]; omega
        have e2 : IntKind.wrap .i64 (p2.getD i 0) = (((p2.getD i 0).toNat : Nat) : Int) := by rw [IntKind.wrap_i64]; omega
        rw [e1, if_pos (by omega), Option.bind_some, e2]
        have e3 : irem (((p2.getD i 0).toNat : Nat) : Int) ((p1.length - a + 1 : Nat) : Int) = (((p2.getD i 0).toNat % (p1.length - a + 1) : Nat) : Int) := by
          unfold irem; rw [Int.tmod_eq_emod_of_nonneg (by omega)]; omega
        rw [e3]
        have hr : (p2.getD i 0).toNat % (p1.length - a + 1) < p1.length - a + 1 := Nat.mod_lt _ (by omega)
        generalize (p2.getD i 0).toNat % (p1.length - a + 1) = r at hr
        have e4 : iadd .i64 (a : Int) (r : Int) = ((a + r : Nat) : Int) := by unfold iadd; rw [IntKind.wrap_i64]; omega
        have cc : cut? p1 (a : Int) ((a + r : Nat) : Int) = some ((p1.take (a + r)).drop a) := by
          unfold cut?; rw [if_pos ⟨by omega, by omega, by omega⟩, Int.toNat_natCast, Int.toNat_natCast]
        rw [e4, cc, Option.bind_some, if_pos (by rw [hlim]; simp; omega), d_inc i (by omega)]
        refine ih n (i + 1) (a + r) _ (by omega) (by omega) (by omega) ?_ (by simp; omega) (fun x hx => ?_)
        · simp only [List.flatten_append, List.flatten_cons, List.flatten_nil, List.append_nil, hy]
          rw [List.take_add, List.drop_left' (by simp; omega)]
        · rcases List.mem_append.1 hx with h | h
          · exact hyb x h
          · simp at h; subst h; exact sub _ (fun z hz => List.mem_of_mem_take (List.mem_of_mem_drop hz))
      · rw [if_neg (by simp; omega)]
        exact fin a y ha hy (by omega) hyb

theorem DigestPieces (x0 : (List Int)) (x1 : (List Int)) (g0 : Fine kstr x0) (g1 : Fine (ksl (kint .u16)) x1) : ∃ k, caballaw01_DigestPieces k x0 x1 = some true := by
  refine ⟨KK, ?_⟩
  unfold caballaw01_DigestPieces
  rw [alive_KK, Option.bind_some, if_neg (by simp)]
  by_cases hl : x0.length ≤ 4000
  · rw [if_neg (by simp; omega)]
    refine pieces_l2 x0 (bytes_of g0) hl x1 (fun x hx => ?_) 60 KK 0 0 [] rfl (by decide) (by omega) (by simp) rfl (fun x hx => by cases hx)
    have h : IntKind.u16.min ≤ x ∧ x ≤ IntKind.u16.max := (g1.sl.2 x hx).int
    have e1 : IntKind.u16.min = 0 := rfl
    have e2 : IntKind.u16.max = 65535 := rfl
    omega
  · rw [if_pos (by simp; omega)]; rfl

end Go.Proofs.Pure
