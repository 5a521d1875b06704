/- Ops that are right, nodes that fit: the program's test and the document's are the same. No program in sight. -/
import Derived.Test.YtdlnfgpcnfbjiaaVOp
namespace Go.Proofs.Pure
open Go Go.RowKit Go.Proofs.Kit
set_option linter.unusedVariables false

def Z32 : List Int := [0, 0, 0, 0, 0, 0, 0, 0, 0, 0, 0, 0, 0, 0, 0, 0, 0, 0, 0, 0, 0, 0, 0, 0, 0, 0, 0, 0, 0, 0, 0, 0]
def boxR (o : api_Op) : Bool := decide (o.Boxes.length ≤ 8) && inc ltB o.Boxes && !o.Boxes.any (badB o)
/-- what an op must be -/
def rightO (o : api_Op) : Bool :=
  mem8 o.Author && !(o.Seq == 0) && decide (1 ≤ o.Kind) && decide (o.Kind ≤ 7) && decide (o.Parents.length ≤ 8) && inc ltK o.Parents &&
  (decide (o.Kind = 1) == decide (o.Parents.length = 0)) && (!decide (o.Kind = 1) || o.Seq == 1) && (decide (o.Kind = 5 ∨ o.Kind = 6) == !decide (o.Of = Z32)) &&
  (decide (o.Kind = 7) == decide (o.Check = Z32)) && (decide (o.Kind = 7) == decide (0 < o.Text.length)) && decide (o.Text.length ≤ 256) && whoR o && boxR o

theorem frame_eq (o : api_Op) (h : OpFew o) : frame_Right 4000 o = some (rightO o) := by
  have hp := h.parents
  have hZ : ([0, 0, 0, 0, 0, 0, 0, 0, 0, 0, 0, 0, 0, 0, 0, 0, 0, 0, 0, 0, 0, 0, 0, 0, 0, 0, 0, 0, 0, 0, 0, 0] : List Int) = Z32 := rfl
  have hb := boxes_eq o h
  rw [show (decide (o.Boxes.length ≤ 8) && inc ltB o.Boxes && !o.Boxes.any (badB o)) = boxR o from rfl] at hb
  unfold frame_Right rightO
  simp only [hZ, member_eq, Option.bind_some, keys_rising o.Parents h.keys (by omega), who_eq o h, hb]
  generalize whoR o = W
  generalize boxR o = B
  generalize mem8 o.Author = M
  generalize inc ltK o.Parents = PR
  generalize hOF : decide (o.Of = Z32) = OF
  generalize hCK : decide (o.Check = Z32) = CK
  have eP : decide ((o.Parents.length : Int) > 8) = !decide (o.Parents.length ≤ 8) := by
    by_cases q : o.Parents.length ≤ 8
    · rw [decide_eq_true q, decide_eq_false (by omega)]; rfl
    · rw [decide_eq_false q, decide_eq_true (by omega)]; rfl
  have eP0 : ((o.Parents.length : Int) == 0) = decide (o.Parents.length = 0) := by
    by_cases q : o.Parents.length = 0
    · rw [decide_eq_true q, q]; rfl
    · rw [decide_eq_false q]; simp; exact fun e => q (by rw [e]; rfl)
  have eT : decide ((o.Text.length : Int) > 256) = !decide (o.Text.length ≤ 256) := by
    by_cases q : o.Text.length ≤ 256
    · rw [decide_eq_true q, decide_eq_false (by omega)]; rfl
    · rw [decide_eq_false q, decide_eq_true (by omega)]; rfl
  have eT0 : decide ((o.Text.length : Int) > 0) = decide (0 < o.Text.length) := by
    by_cases q : 0 < o.Text.length
    · rw [decide_eq_true q, decide_eq_true (by omega)]
    · rw [decide_eq_false q, decide_eq_false (by omega)]
  rw [eP, eP0, eT, eT0]
  generalize decide (o.Parents.length ≤ 8) = P8
  generalize decide (o.Parents.length = 0) = P0
  generalize decide (o.Text.length ≤ 256) = T8
  generalize decide (0 < o.Text.length) = T0
  generalize o.Seq = S
  generalize o.Kind = K
  cases M with
  | false => rfl
  | true =>
  by_cases hS : S = 0
  · simp [hS]
  have eS : (S == 0) = false := by simpa using hS
  rw [eS]
  by_cases k0 : K < 1
  · simp [k0]; omega
  by_cases k7 : K > 7
  · simp [k7]; omega
  rw [decide_eq_false k0, decide_eq_false k7, decide_eq_true (show 1 ≤ K by omega), decide_eq_true (show K ≤ 7 by omega)]
  cases P8 with
  | false => rfl
  | true =>
  cases PR with
  | false => rfl
  | true =>
  cases T8 with
  | false =>
    simp
  | true =>
  have hk : K = 1 ∨ K = 2 ∨ K = 3 ∨ K = 4 ∨ K = 5 ∨ K = 6 ∨ K = 7 := by omega
  have e1 : (S == 1) = decide (S = 1) := by by_cases q : S = 1 <;> simp [q]
  have e2 : (S != 1) = !decide (S = 1) := by by_cases q : S = 1 <;> simp [q]
  rw [e1, e2]
  generalize decide (S = 1) = S1
  rcases hk with rfl | rfl | rfl | rfl | rfl | rfl | rfl <;> (cases P0 <;> cases S1 <;> cases OF <;> cases CK <;> cases T0 <;> cases W <;> cases B <;> rfl)


end Go.Proofs.Pure
