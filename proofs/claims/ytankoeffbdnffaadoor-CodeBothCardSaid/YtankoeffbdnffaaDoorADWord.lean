/- Words of 32 bits: what the two ways of writing the digest's round come to is the same. No program in sight. -/
import Derived.Test.YtankoeffbdnffaaDoorAPure
namespace Go.Proofs.Pure
open Go Go.RowKit Go.Proofs.Kit

theorem wrap32 (n : Nat) (h : n < 4294967296) : IntKind.wrap .u32 (n : Int) = n := by rw [IntKind.wrap_u32]; omega
theorem ofInt_wrap (v : BitVec IntKind.u32.bits) : BitVec.ofInt IntKind.u32.bits (IntKind.wrap .u32 (v.toNat : Int)) = v := by
  rw [wrap32 _ v.isLt]; simp

theorem ch_eq (e f g : Int) : ixor .u32 (iand .u32 e f) (iand .u32 (inot .u32 e) g) = ior .u32 (iand .u32 e f) (iand .u32 (inot .u32 e) g) := by
  unfold ixor ior iand inot ixor
  simp only [ofInt_wrap]
  congr 3
  have h : ∀ x y z m : BitVec 32, m = BitVec.allOnes 32 → (x &&& y) ^^^ ((m ^^^ x) &&& z) = (x &&& y) ||| ((m ^^^ x) &&& z) := by
    intro x y z m hm
    subst hm
    ext i hi
    simp only [BitVec.getElem_xor, BitVec.getElem_and, BitVec.getElem_or, BitVec.getElem_allOnes]
    cases x[i] <;> cases y[i] <;> cases z[i] <;> rfl
  exact h _ _ _ _ (by rfl)

theorem maj_eq (a b c : Int) : ixor .u32 (ixor .u32 (iand .u32 a b) (iand .u32 a c)) (iand .u32 b c) = ior .u32 (ior .u32 (iand .u32 a b) (iand .u32 a c)) (iand .u32 b c) := by
  unfold ixor ior iand
  simp only [ofInt_wrap]
  congr 3
  have h : ∀ x y z : BitVec 32, ((x &&& y) ^^^ (x &&& z)) ^^^ (y &&& z) = ((x &&& y) ||| (x &&& z)) ||| (y &&& z) := by
    intro x y z
    ext i hi
    simp only [BitVec.getElem_xor, BitVec.getElem_and, BitVec.getElem_or]
    cases x[i] <;> cases y[i] <;> cases z[i] <;> rfl
  exact h _ _ _

theorem ior_comm (a b : Int) : ior .u32 a b = ior .u32 b a := by unfold ior; rw [BitVec.or_comm]

theorem rot_eq (K : Nat) (x n m : Int) (hm : iand .u64 (IntKind.wrap .u64 (isub .i64 0 n)) 31 = m) (h1 : 0 ≤ m) (h2 : isub .u64 32 m = n) (h3 : 0 ≤ n) (h4 : isub .u64 32 n = m) : math_bits_RotateLeft32 K x (isub .i64 0 n) = cabalref01_Right K x n := by
  unfold math_bits_RotateLeft32 cabalref01_Right
  rw [hm, h2, h4]
  simp only [h1, h3, if_true, Option.bind_some]
  rw [ior_comm]

def rt (x a : Int) : Int := ior .u32 (ishr .u32 x a) (ishl .u32 x (isub .u64 32 a))
theorem right_eq (K : Nat) (x n : Int) (h1 : 0 ≤ n) (h2 : 0 ≤ isub .u64 32 n) : cabalref01_Right K x n = some (rt x n) := by
  unfold cabalref01_Right rt; rw [if_pos h1, if_pos h2]

theorem word4 (a b c d : Int) (ha : 0 ≤ a ∧ a < 256) (hb : 0 ≤ b ∧ b < 256) (hc : 0 ≤ c ∧ c < 256) (hd : 0 ≤ d ∧ d < 256) :
    ior .u32 (ishl .u32 (ior .u32 (ishl .u32 (ior .u32 (ishl .u32 (ior .u32 (ishl .u32 0 8) (IntKind.wrap .u32 a)) 8) (IntKind.wrap .u32 b)) 8) (IntKind.wrap .u32 c)) 8) (IntKind.wrap .u32 d) =
      iadd .u32 (iadd .u32 (iadd .u32 (imul .u32 (IntKind.wrap .u32 a) 16777216) (imul .u32 (IntKind.wrap .u32 b) 65536)) (imul .u32 (IntKind.wrap .u32 c) 256)) (IntKind.wrap .u32 d) := by
  have w : ∀ x : Int, 0 ≤ x → x < 4294967296 → IntKind.wrap .u32 x = x := fun x h1 h2 => by rw [IntKind.wrap_u32]; omega
  have e : ∀ x y : Int, 0 ≤ x → x < 16777216 → 0 ≤ y → y < 256 → ior .u32 (ishl .u32 x 8) y = x * 256 + y := by
    intro x y x0 x1 y0 y1
    have h1 : ishl .u32 x 8 = x * 256 := by
      unfold ishl; rw [w _ (by show 0 ≤ x * 256; omega) (by show x * 256 < _; omega)]; rfl
    rw [h1]
    unfold ior
    obtain ⟨m, rfl⟩ : ∃ m : Nat, x = m := ⟨x.toNat, by omega⟩
    obtain ⟨n, rfl⟩ : ∃ n : Nat, y = n := ⟨y.toNat, by omega⟩
    have h2 : (BitVec.ofInt IntKind.u32.bits ((m : Int) * 256) ||| BitVec.ofInt IntKind.u32.bits (n : Int)).toNat = m * 256 + n := by
      show (BitVec.ofInt 32 ((m : Int) * 256) ||| BitVec.ofInt 32 (n : Int)).toNat = _
      rw [show ((m : Int) * 256) = ((m * 256 : Nat) : Int) by simp]
      simp only [BitVec.ofInt_natCast, BitVec.toNat_or, BitVec.toNat_ofNat]
      rw [Nat.mod_eq_of_lt (by omega), Nat.mod_eq_of_lt (by omega)]
      have := Nat.shiftLeft_add_eq_or_of_lt (i := 8) (b := n) (by omega) m
      rw [Nat.shiftLeft_eq] at this
      exact this.symm
    rw [h2, w _ (by omega) (by omega)]; simp
  have z : ior .u32 (ishl .u32 0 8) a = a := by rw [e 0 a (by omega) (by omega) ha.1 ha.2]; omega
  rw [w a ha.1 (by omega), w b hb.1 (by omega), w c hc.1 (by omega), w d hd.1 (by omega), z, e a b ha.1 (by omega) hb.1 hb.2, e _ c (by omega) (by omega) hc.1 hc.2, e _ d (by omega) (by omega) hd.1 hd.2]
  unfold iadd imul
  simp only [IntKind.wrap_u32]
  omega


end Go.Proofs.Pure
