/- Whole numbers of Go's kinds inside their bounds: what the operations come to. No program in sight. -/
import Derived.Test.YtdlnfgpcnfbjiaaKx22
namespace Go.Proofs.Pure
open Go Go.RowKit Go.Proofs.Kit

theorem wu8 (n : Int) : IntKind.wrap .u8 n = n % 256 := by unfold IntKind.wrap; simp [IntKind.signed, IntKind.bits]
theorem wu32 (n : Int) : IntKind.wrap .u32 n = n % 4294967296 := by unfold IntKind.wrap; simp [IntKind.signed, IntKind.bits]
theorem wu64 (n : Int) : IntKind.wrap .u64 n = n % 18446744073709551616 := by unfold IntKind.wrap; simp [IntKind.signed, IntKind.bits]
theorem wi64 {n : Int} (h : -9223372036854775808 ≤ n ∧ n < 9223372036854775808) : IntKind.wrap .i64 n = n := by
  unfold IntKind.wrap; simp [IntKind.signed, IntKind.bits]; split <;> omega
theorem wu32s {n : Int} (h : 0 ≤ n ∧ n < 4294967296) : IntKind.wrap .u32 n = n := by rw [wu32]; omega
theorem wu64s {n : Int} (h : 0 ≤ n ∧ n < 18446744073709551616) : IntKind.wrap .u64 n = n := by rw [wu64]; omega
theorem wu8s {n : Int} (h : 0 ≤ n ∧ n < 256) : IntKind.wrap .u8 n = n := by rw [wu8]; omega

theorem add64 {x y : Int} (h : -9223372036854775808 ≤ x + y ∧ x + y < 9223372036854775808) : iadd .i64 x y = x + y := wi64 h
theorem sub64 {x y : Int} (h : -9223372036854775808 ≤ x - y ∧ x - y < 9223372036854775808) : isub .i64 x y = x - y := wi64 h
theorem mul64 {x y : Int} (h : -9223372036854775808 ≤ x * y ∧ x * y < 9223372036854775808) : imul .i64 x y = x * y := wi64 h
theorem add32 {x y : Int} (h : 0 ≤ x + y ∧ x + y < 4294967296) : iadd .u32 x y = x + y := wu32s h
theorem addu64 {x y : Int} (h : 0 ≤ x + y ∧ x + y < 18446744073709551616) : iadd .u64 x y = x + y := wu64s h
theorem mulu64 {x y : Int} (h : 0 ≤ x * y ∧ x * y < 18446744073709551616) : imul .u64 x y = x * y := wu64s h
theorem rem_pos {x y : Int} (h : 0 ≤ x) : irem x y = x % y := by unfold irem; exact Int.tmod_eq_emod_of_nonneg h
theorem tdiv_pos {x y : Int} (h : 0 ≤ x) : x.tdiv y = x / y := Int.tdiv_eq_ediv_of_nonneg h
theorem quo32 {x y : Int} (h : 0 ≤ x ∧ x < 4294967296) (hy : 0 < y) : iquo .u32 x y = x / y := by
  unfold iquo; rw [tdiv_pos h.1]
  have h1 : 0 ≤ x / y := Int.ediv_nonneg h.1 (by omega)
  have h2 : x / y ≤ x := Int.ediv_le_self y h.1
  exact wu32s ⟨h1, by omega⟩
theorem quo64 {x y : Int} (h : 0 ≤ x ∧ x < 9223372036854775808) (hy : 0 < y) : iquo .i64 x y = x / y := by
  unfold iquo; rw [tdiv_pos h.1]
  have h1 : 0 ≤ x / y := Int.ediv_nonneg h.1 (by omega)
  have h2 : x / y ≤ x := Int.ediv_le_self y h.1
  exact wi64 ⟨by omega, by omega⟩
theorem shr_def {k : IntKind} {x y : Int} (hy : y.toNat ≤ k.bits) : ishr k x y = x / 2 ^ y.toNat := by
  unfold ishr
  rw [Nat.min_eq_left hy]
  exact Int.fdiv_eq_ediv_of_nonneg _ (Int.le_of_lt (Int.pow_pos (by decide)))

/-- a byte, bit by bit: the 256 cases -/
theorem byte_cases {p : Int → Prop} (h : ∀ n : Fin 256, p (n.val : Int)) {x : Int} (hx : 0 ≤ x ∧ x < 256) : p x := by
  have := h ⟨x.toNat, by omega⟩
  simpa [Int.toNat_of_nonneg hx.1] using this
theorem or128 {x : Int} (hx : 0 ≤ x ∧ x < 256) : ior .u8 x 128 = x % 128 + 128 := byte_cases (p := fun x => ior .u8 x 128 = x % 128 + 128) (by decide +kernel) hx
theorem andn128 {x : Int} (hx : 0 ≤ x ∧ x < 256) : iandn .u8 x 128 = x % 128 := byte_cases (p := fun x => iandn .u8 x 128 = x % 128) (by decide +kernel) hx
/-- 'x<<7 | y' for a small y -/
theorem shl_or7 {x y : Int} (hx : 0 ≤ x ∧ x < 72057594037927936) (hy : 0 ≤ y ∧ y < 128) : ior .u64 (ishl .u64 x 7) y = x * 128 + y := by
  have h1 : ishl .u64 x 7 = x * 128 := by
    unfold ishl; exact wu64s ⟨by show 0 ≤ x * 128; omega, by show x * 128 < _; omega⟩
  rw [h1]
  unfold ior
  obtain ⟨m, rfl⟩ : ∃ m : Nat, x = m := ⟨x.toNat, by omega⟩
  obtain ⟨n, rfl⟩ : ∃ n : Nat, y = n := ⟨y.toNat, by omega⟩
  have h2 : (BitVec.ofInt IntKind.u64.bits ((m : Int) * 128) ||| BitVec.ofInt IntKind.u64.bits (n : Int)).toNat = m * 128 + n := by
    show (BitVec.ofInt 64 ((m : Int) * 128) ||| BitVec.ofInt 64 (n : Int)).toNat = _
    have e1 : (BitVec.ofInt 64 ((m : Int) * 128)) = BitVec.ofNat 64 (m * 128) := by
      rw [show ((m : Int) * 128) = ((m * 128 : Nat) : Int) by omega, BitVec.ofInt_natCast]
    have e2 : (BitVec.ofInt 64 (n : Int)) = BitVec.ofNat 64 n := BitVec.ofInt_natCast ..
    rw [e1, e2, BitVec.toNat_or, BitVec.toNat_ofNat, BitVec.toNat_ofNat, Nat.mod_eq_of_lt (by omega), Nat.mod_eq_of_lt (by omega)]
    have := Nat.two_pow_add_eq_or_of_lt (i := 7) (b := n) (by omega) m
    rw [show m * 128 = 2 ^ 7 * m by omega, this]
  rw [h2]
  exact wu64s ⟨by omega, by omega⟩

theorem at_get {α : Type} {l : List α} {i : Nat} (h : i < l.length) : at? l (i : Int) = some l[i] := by
  unfold at?; simp [h]
theorem cut_ok {α : Type} {l : List α} {a b : Int} (h : 0 ≤ a ∧ a ≤ b ∧ b ≤ l.length) : cut? l a b = some ((l.take b.toNat).drop a.toNat) := by
  unfold cut?; rw [if_pos h]
theorem cut_pre {α : Type} {l : List α} {n : Nat} (h : n ≤ l.length) : cut? l 0 (n : Int) = some (l.take n) := by
  rw [cut_ok ⟨by omega, by omega, by omega⟩]; simp
theorem cut_suf {α : Type} {l : List α} {n : Nat} (h : n ≤ l.length) : cut? l (n : Int) (l.length : Int) = some (l.drop n) := by
  rw [cut_ok ⟨by omega, by omega, by omega⟩]; simp

end Go.Proofs.Pure
