/- KeyedEqual over its plain functions: no program in sight. -/
import Derived.Test.YtpihmcfojdkpoaaDoorMPure
namespace Go.Proofs.Pure
open Go Go.RowKit Go.Proofs.Kit

theorem alive_any (n : Nat) : caballaw02_alive (n + 1000) = some true := by kernel_rfl

theorem w8 (x : Int) : IntKind.wrap .u8 x = x % 256 := rfl

theorem bits8 (a : Int) (h : 0 ≤ a ∧ a < 256) : (BitVec.ofInt IntKind.u8.bits a).toNat = a.toNat := by
  show (BitVec.ofInt 8 a).toNat = a.toNat
  rw [BitVec.toNat_ofInt]; omega

theorem xor_zero (a b : Int) (ha : 0 ≤ a ∧ a < 256) (hb : 0 ≤ b ∧ b < 256) : (ixor .u8 a b = 0 ↔ a = b) ∧ 0 ≤ ixor .u8 a b ∧ ixor .u8 a b < 256 := by
  have e : ixor .u8 a b = ((a.toNat ^^^ b.toNat : Nat) : Int) := by
    unfold ixor
    have : (BitVec.ofInt IntKind.u8.bits a ^^^ BitVec.ofInt IntKind.u8.bits b).toNat = a.toNat ^^^ b.toNat := by rw [BitVec.toNat_xor, bits8 a ha, bits8 b hb]
    rw [this, w8]
    have : a.toNat ^^^ b.toNat < 2 ^ 8 := Nat.xor_lt_two_pow (by omega) (by omega)
    omega
  have hlt : a.toNat ^^^ b.toNat < 2 ^ 8 := Nat.xor_lt_two_pow (by omega) (by omega)
  refine ⟨?_, by rw [e]; omega, by rw [e]; omega⟩
  rw [e]
  constructor
  · intro h
    have h2 : a.toNat ^^^ b.toNat = 0 := by omega
    have h3 : a.toNat ^^^ (a.toNat ^^^ b.toNat) = a.toNat ^^^ 0 := by rw [h2]
    rw [← Nat.xor_assoc, Nat.xor_self, Nat.zero_xor, Nat.xor_zero] at h3
    omega
  · rintro rfl; simp

theorem or_zero (y x : Int) (hy : 0 ≤ y ∧ y < 256) (hx : 0 ≤ x ∧ x < 256) : (ior .u8 y x = 0 ↔ y = 0 ∧ x = 0) ∧ 0 ≤ ior .u8 y x ∧ ior .u8 y x < 256 := by
  have hlt : y.toNat ||| x.toNat < 2 ^ 8 := Nat.or_lt_two_pow (by omega) (by omega)
  have e : ior .u8 y x = ((y.toNat ||| x.toNat : Nat) : Int) := by
    unfold ior
    have : (BitVec.ofInt IntKind.u8.bits y ||| BitVec.ofInt IntKind.u8.bits x).toNat = y.toNat ||| x.toNat := by rw [BitVec.toNat_or, bits8 y hy, bits8 x hx]
    rw [this, w8]; omega
  refine ⟨?_, by rw [e]; omega, by rw [e]; omega⟩
  rw [e]
  constructor
  · intro h
    have h2 : y.toNat ||| x.toNat = 0 := by omega
    have := Nat.or_eq_zero_iff.1 h2
    omega
  · rintro ⟨rfl, rfl⟩; rfl

def Byte (l : List Int) : Prop := ∀ x ∈ l, 0 ≤ x ∧ x < 256

theorem equal_l1 (K : Nat) (a b : List Int) (hl : a.length = b.length) (hm : a.length ≤ maxLen) (ha : Byte a) (hb : Byte b) : ∀ c n (i : Nat) (y : Int), i + c = a.length → c < n → 0 ≤ y ∧ y < 256 →
    keyed_Equal.l1 K a b n y (i : Int) = some (decide (y = 0 ∧ a.drop i = b.drop i)) := by
  intro c
  induction c with
  | zero =>
    intro n i y hi hn hy
    cases n with
    | zero => omega
    | succ n =>
      rw [keyed_Equal.l1, if_neg (by simp; omega), keyed_Equal.j1, List.drop_eq_nil_of_le (by omega), List.drop_eq_nil_of_le (by omega)]
      congr 1
      by_cases h : y = 0 <;> simp [h]
  | succ c ih =>
    intro n i y hi hn hy
    cases n with
    | zero => omega
    | succ n =>
      have e1 : at? a (i : Int) = some (a[i]'(by omega)) := by unfold at?; rw [if_pos (by omega)]; simp [show i < a.length by omega]
      have e2 : at? b (i : Int) = some (b[i]'(by omega)) := by unfold at?; rw [if_pos (by omega)]; simp [show i < b.length by omega]
      obtain ⟨x1, x2⟩ := xor_zero (a[i]'(by omega)) (b[i]'(by omega)) (ha _ (List.getElem_mem _)) (hb _ (List.getElem_mem _))
      obtain ⟨o1, o2⟩ := or_zero y (ixor .u8 (a[i]'(by omega)) (b[i]'(by omega))) hy x2
      have hi2 : iadd .i64 (i : Int) 1 = ((i + 1 : Nat) : Int) := by unfold iadd; rw [IntKind.wrap_i64]; unfold maxLen at hm; omega
      rw [keyed_Equal.l1, if_pos (by simp; omega), e1, Option.bind_some, e2, Option.bind_some, hi2, ih n (i + 1) _ (by omega) (by omega) o2]
      congr 1
      apply decide_eq_decide.2
      rw [List.drop_eq_getElem_cons (show i < a.length by omega), List.drop_eq_getElem_cons (show i < b.length by omega), o1, x1, List.cons.injEq]
      constructor
      · rintro ⟨⟨h1, h2⟩, h3⟩; exact ⟨h1, h2, h3⟩
      · rintro ⟨h1, h2, h3⟩; exact ⟨⟨h1, h2⟩, h3⟩

theorem equal_eq (K : Nat) (a b : List Int) (hK : a.length < K) (hm : a.length ≤ maxLen) (ha : Byte a) (hb : Byte b) : keyed_Equal K a b = some (decide (a = b)) := by
  unfold keyed_Equal
  by_cases hl : a.length = b.length
  · rw [if_neg (by simp; omega)]
    refine (equal_l1 K a b hl hm ha hb a.length K 0 0 (by omega) hK (by omega)).trans ?_
    simp
  · rw [if_pos (by simp; omega)]
    congr 1; symm; apply decide_eq_false
    intro e; rw [e] at hl; exact hl rfl

theorem KeyedEqual (x0 : (List Int)) (x1 : (List Int)) (x2 : Int) (x3 : Int) (g0 : Fine kstr x0) (g1 : Fine kstr x1) (_ : Fine (kint .i64) x2) (g3 : Fine (kint .u8) x3) : ∃ k, caballaw02_KeyedEqual k x0 x1 x2 x3 = some true := by
  have ha : Byte x0 := g0.str.2
  have hb : Byte x1 := g1.str.2
  have hm := g0.str.1
  have hby : 0 ≤ x3 ∧ x3 < 256 := by
    have h : IntKind.u8.min ≤ x3 ∧ x3 ≤ IntKind.u8.max := g3.int
    have e1 : IntKind.u8.min = 0 := rfl
    have e2 : IntKind.u8.max = 255 := rfl
    omega
  refine ⟨x0.length + 1000, ?_⟩
  have eq1 := equal_eq (x0.length + 1000) x0 x1 (by omega) hm ha hb
  have eq2 := equal_eq (x0.length + 1000) x0 x0 (by omega) hm ha ha
  unfold caballaw02_KeyedEqual
  rw [alive_any, Option.bind_some, if_neg (by simp)]
  by_cases h0 : x0.length = 0
  · have hnil : x0 = [] := List.eq_nil_of_length_eq_zero h0
    rw [if_pos (by simp [hnil])]
    simp only [Option.bind_some, eq1, eq2, beq_self_eq_true, if_true]
    subst hnil
    by_cases hx : x1 = []
    · subst hx; simp
    · have hx' : ¬ ([] : List Int) = x1 := fun e => hx e.symm
      simp [hx, hx']
  · rw [if_neg (by simpa using h0)]
    have hw : IntKind.wrap .u64 (x0.length : Int) = (x0.length : Int) := by rw [IntKind.wrap_u64]; unfold maxLen at hm; omega
    have hw2 : 0 ≤ IntKind.wrap .u64 x2 := by rw [IntKind.wrap_u64]; omega
    rw [hw, if_pos (by omega), Option.bind_some]
    have hr : irem (IntKind.wrap .u64 x2) (x0.length : Int) = (((IntKind.wrap .u64 x2).toNat % x0.length : Nat) : Int) := by
      unfold irem; rw [Int.tmod_eq_emod_of_nonneg hw2, Int.natCast_emod, Int.toNat_of_nonneg hw2]
    have hlt : (IntKind.wrap .u64 x2).toNat % x0.length < x0.length := Nat.mod_lt _ (by omega)
    rw [hr]
    generalize (IntKind.wrap .u64 x2).toNat % x0.length = i at hlt
    have hwi : IntKind.wrap .i64 (i : Int) = (i : Int) := by rw [IntKind.wrap_i64]; unfold maxLen at hm; omega
    have e1 : at? x0 (i : Int) = some (x0[i]'hlt) := by unfold at?; rw [if_pos (by omega)]; simp [hlt]
    have e2 : ∀ y, set? x0 (i : Int) y = some (x0.set i y) := fun y => by unfold set?; rw [if_pos ⟨by omega, by omega⟩]; simp
    have hxi := ha _ (List.getElem_mem hlt)
    obtain ⟨_, xr⟩ := xor_zero (x0[i]'hlt) x3 hxi hby
    have hc : Byte (x0.set i (ixor .u8 (x0[i]'hlt) x3)) := fun z hz => by
      rcases List.mem_or_eq_of_mem_set hz with h | h
      · exact ha z h
      · subst h; exact xr
    have eq3 := equal_eq (x0.length + 1000) x0 _ (by omega) hm ha hc
    have hiff : (x0 = x0.set i (ixor .u8 (x0[i]'hlt) x3)) ↔ x3 = 0 := by
      have hx0 : ∀ p q : Int, 0 ≤ p ∧ p < 256 → 0 ≤ q ∧ q < 256 → (ixor .u8 p q = p ↔ q = 0) := by
        intro p q hp hq
        have e : ixor .u8 p q = ((p.toNat ^^^ q.toNat : Nat) : Int) := by
          unfold ixor
          have : (BitVec.ofInt IntKind.u8.bits p ^^^ BitVec.ofInt IntKind.u8.bits q).toNat = p.toNat ^^^ q.toNat := by rw [BitVec.toNat_xor, bits8 p hp, bits8 q hq]
          rw [this, w8]
          have : p.toNat ^^^ q.toNat < 2 ^ 8 := Nat.xor_lt_two_pow (by omega) (by omega)
          omega
        rw [e]
        constructor
        · intro h
          have h2 : p.toNat ^^^ q.toNat = p.toNat := by omega
          have h3 : p.toNat ^^^ (p.toNat ^^^ q.toNat) = p.toNat ^^^ p.toNat := by rw [h2]
          rw [← Nat.xor_assoc, Nat.xor_self, Nat.zero_xor] at h3
          omega
        · rintro rfl; simp; omega
      rw [← hx0 (x0[i]'hlt) x3 hxi hby]
      constructor
      · intro h
        have := congrArg (fun l => l[i]?) h
        simp [hlt] at this
        omega
      · intro h; rw [h]; simp
    have hix : (0 : Int) ≤ (i : Int) ∧ (i : Int) < (x0.length : Int) := by omega
    rw [hwi]
    simp only [if_pos hix, e1, e2, Option.bind_some, eq1, eq2, eq3, beq_self_eq_true, if_true, decide_true, hiff]
    by_cases hz : x3 = 0 <;> simp [hz]

end Go.Proofs.Pure
