/- DigestRoots over its plain functions: no program in sight. The 64 rounds are evaluated by the kernel, one small group at a time. -/
import Derived.Test.YtpihmcfojdkpoaaDoorAPure
namespace Go.Proofs.Pure
open Go Go.RowKit Go.Proofs.Kit

def rootAt (i : Nat) : Bool := decide (caballaw01_DigestRoots 400 (i : Int) = some true)
theorem roots0 : ([0, 1, 2, 3, 4, 5, 6, 7].all rootAt) = true := by decide +kernel
theorem roots1 : ([8, 9, 10, 11, 12, 13, 14, 15].all rootAt) = true := by decide +kernel
theorem roots2 : ([16, 17, 18, 19, 20, 21, 22, 23].all rootAt) = true := by decide +kernel
theorem roots3 : ([24, 25, 26, 27, 28, 29, 30, 31].all rootAt) = true := by decide +kernel
theorem roots4 : ([32, 33, 34, 35, 36, 37, 38, 39].all rootAt) = true := by decide +kernel
theorem roots5 : ([40, 41, 42, 43, 44, 45, 46, 47].all rootAt) = true := by decide +kernel
theorem roots6 : ([48, 49, 50, 51, 52, 53, 54, 55].all rootAt) = true := by decide +kernel
theorem roots7 : ([56, 57, 58, 59, 60, 61, 62, 63].all rootAt) = true := by decide +kernel

theorem rootAll (i : Nat) (h : i < 64) : rootAt i = true := by
  have hc : (0 ≤ i ∧ i < 8) ∨ (8 ≤ i ∧ i < 16) ∨ (16 ≤ i ∧ i < 24) ∨ (24 ≤ i ∧ i < 32) ∨ (32 ≤ i ∧ i < 40) ∨ (40 ≤ i ∧ i < 48) ∨ (48 ≤ i ∧ i < 56) ∨ (56 ≤ i ∧ i < 64) := by omega
  rcases hc with h | h | h | h | h | h | h | h
  · exact List.all_eq_true.1 roots0 i (by simp; omega)
  · exact List.all_eq_true.1 roots1 i (by simp; omega)
  · exact List.all_eq_true.1 roots2 i (by simp; omega)
  · exact List.all_eq_true.1 roots3 i (by simp; omega)
  · exact List.all_eq_true.1 roots4 i (by simp; omega)
  · exact List.all_eq_true.1 roots5 i (by simp; omega)
  · exact List.all_eq_true.1 roots6 i (by simp; omega)
  · exact List.all_eq_true.1 roots7 i (by simp; omega)

theorem root_j1 (k : Nat) {p q : Int} (h : irem (IntKind.wrap .i64 p) 64 = irem (IntKind.wrap .i64 q) 64) (y : Int) : caballaw01_DigestRoots.j1 k p y = caballaw01_DigestRoots.j1 k q y := by
  unfold caballaw01_DigestRoots.j1; rw [h]

theorem root_l1 (k : Nat) {p q : Int} (h : irem (IntKind.wrap .i64 p) 64 = irem (IntKind.wrap .i64 q) 64) : ∀ n a b, caballaw01_DigestRoots.l1 k p n a b = caballaw01_DigestRoots.l1 k q n a b := by
  intro n
  induction n with
  | zero => intro a b; rfl
  | succ n ih =>
    intro a b
    have e : caballaw01_DigestRoots.l1 k p n = caballaw01_DigestRoots.l1 k q n := by funext a b; exact ih a b
    rw [caballaw01_DigestRoots.l1, caballaw01_DigestRoots.l1, h, e, root_j1 k h]

theorem DigestRoots (x0 : Int) (g0 : Fine (kint .u8) x0) : ∃ k, caballaw01_DigestRoots k x0 = some true := by
  have h := g0.int
  have h0 : 0 ≤ x0 ∧ x0 < 256 := by
    have e1 : IntKind.u8.min = 0 := rfl
    have e2 : IntKind.u8.max = 255 := rfl
    have h' : IntKind.u8.min ≤ x0 ∧ x0 ≤ IntKind.u8.max := h
    omega
  have hr := of_decide_eq_true (rootAll (x0.toNat % 64) (by omega))
  refine ⟨400, ?_⟩
  rw [← hr]
  unfold caballaw01_DigestRoots
  have e : irem (IntKind.wrap .i64 x0) 64 = irem (IntKind.wrap .i64 ((x0.toNat % 64 : Nat) : Int)) 64 := by
    unfold irem
    rw [IntKind.wrap_i64, IntKind.wrap_i64]
    rw [Int.tmod_eq_emod_of_nonneg (by omega), Int.tmod_eq_emod_of_nonneg (by omega)]
    omega
  rw [root_l1 400 e]

end Go.Proofs.Pure
