/- Plain functions: what the program's functions answer, printed out of their code; kinds of their data. No condition. -/
import Derived.Test.YtgggcnadlnlmpaaKit9
namespace Go.Proofs.Pure
open Go Go.RowKit Go.Proofs.Kit
set_option linter.unusedVariables false

structure api_Span where
  Who : Int
  From : Int
  To : Int
  deriving DecidableEq
def t_api_Span (x : api_Span) : Int × Int × Int × Unit := (x.Who, x.From, x.To, ())
theorem t_api_Span_inj (x y : api_Span) (h : t_api_Span x = t_api_Span y) : x = y := by cases x; cases y; simpa [t_api_Span] using h
def k_api_Span : Kd api_Span := kiso (kpair (kint .i64) (kpair (kint .u32) (kpair (kint .u32) knil))) t_api_Span
theorem lg_api_Span_Who (x : api_Span) : LG k_api_Span (kint .i64) 0 x x.Who := LG.iso (LG.fst _ _ _)
theorem ls_api_Span_Who (x : api_Span) (y : Int) : LS k_api_Span (kint .i64) 0 x y { x with Who := y } := LS.iso (LS.fst _ _ _ _)
theorem lg_api_Span_From (x : api_Span) : LG k_api_Span (kint .u32) 1 x x.From := LG.iso (LG.snd _ (LG.fst _ _ _))
theorem ls_api_Span_From (x : api_Span) (y : Int) : LS k_api_Span (kint .u32) 1 x y { x with From := y } := LS.iso (LS.snd _ (LS.fst _ _ _ _))
theorem lg_api_Span_To (x : api_Span) : LG k_api_Span (kint .u32) 2 x x.To := LG.iso (LG.snd _ (LG.snd _ (LG.fst _ _ _)))
theorem ls_api_Span_To (x : api_Span) (y : Int) : LS k_api_Span (kint .u32) 2 x y { x with To := y } := LS.iso (LS.snd _ (LS.snd _ (LS.fst _ _ _ _)))

/- cabal/clock.Lacks -/
def clock_Lacks.j1 (k : Nat) (y1 : (List api_Span)) : Option (List api_Span) :=
  some y1

def clock_Lacks.j2 (k : Nat) (y3 : Int) (L_l1 : (List api_Span) → Int → Option (List api_Span)) (y4 : (List api_Span)) : Option (List api_Span) :=
  L_l1 y4 (iadd .i64 y3 (1 : Int))

def clock_Lacks.l1 (k : Nat) (p2 : (List Int)) (p1 : (List Int)) : Nat → (List api_Span) → Int → Option (List api_Span)
  | 0, _, _ => none
  | n + 1, y2, y3 =>
    if (decide (y3 < (8 : Int))) = true then (if (0 ≤ y3 ∧ y3 < 8) then ((at? p2 y3).bind fun x1 => if (0 ≤ y3 ∧ y3 < 8) then ((at? p1 y3).bind fun x2 => if (decide (x1 > x2)) = true then (if (0 ≤ y3 ∧ y3 < 8) then ((at? p1 y3).bind fun x3 => if (0 ≤ y3 ∧ y3 < 8) then ((at? p2 y3).bind fun x4 => if y2.length + ([(⟨y3, (iadd .u32 x3 (1 : Int)), x4⟩ : api_Span)] : (List api_Span)).length ≤ lim then ((clock_Lacks.j2 k y3 (clock_Lacks.l1 k p2 p1 n)) (y2 ++ ([(⟨y3, (iadd .u32 x3 (1 : Int)), x4⟩ : api_Span)] : (List api_Span)))) else none) else none) else none) else ((clock_Lacks.j2 k y3 (clock_Lacks.l1 k p2 p1 n)) y2)) else none) else none) else ((clock_Lacks.j1 k) y2)

def clock_Lacks (k : Nat) (p1 : (List Int)) (p2 : (List Int)) : Option (List api_Span) :=
  clock_Lacks.l1 k p2 p1 k [] (0 : Int)

/- cabal/clock.Join -/
def clock_Join.j1 (k : Nat) (y1 : (List Int)) : Option (List Int) :=
  some y1

def clock_Join.j2 (k : Nat) (y2 : Int) (L_l1 : Int → (List Int) → Option (List Int)) (y4 : (List Int)) : Option (List Int) :=
  L_l1 (iadd .i64 y2 (1 : Int)) y4

def clock_Join.l2 (k : Nat) (x1 : (List Int)) (y2 : Int) (L_l1 : Int → (List Int) → Option (List Int)) : Nat → Int → (List Int) → Option (List Int)
  | 0, _, _ => none
  | n + 1, y5, y6 =>
    if (decide (y5 < (8 : Int))) = true then ((at? x1 y5).bind fun x2 => if y5 < 8 then (if (0 ≤ y5 ∧ y5 < 8) then ((at? y6 y5).bind fun x3 => if (0 ≤ y5 ∧ y5 < 8) then ((set? y6 y5 (if x2 > x3 then x2 else x3)).bind fun x4 => (clock_Join.l2 k x1 y2 L_l1 n) (iadd .i64 y5 (1 : Int)) x4) else none) else none) else none) else ((clock_Join.j2 k y2 L_l1) y6)

def clock_Join.l1 (k : Nat) (p1 : (List (List Int))) : Nat → Int → (List Int) → Option (List Int)
  | 0, _, _ => none
  | n + 1, y2, y3 =>
    if (decide (y2 < (p1.length : Int))) = true then ((at? p1 y2).bind fun x1 => clock_Join.l2 k x1 y2 (clock_Join.l1 k p1 n) k (0 : Int) y3) else ((clock_Join.j1 k) y3)

def clock_Join (k : Nat) (p1 : (List (List Int))) : Option (List Int) :=
  clock_Join.l1 k p1 k (0 : Int) (List.replicate 8 (0 : Int))

/- cabal/clock.within -/
def clock_within (k : Nat) (p1 : (List Int)) (p2 : (List Int)) : Option Bool :=
  (clock_Join k ([p1, p2] : (List (List Int)))).bind fun x1 => some (decide (x1 = p2))

/- cabal/clock.Order -/
def clock_Order (k : Nat) (p1 : (List Int)) (p2 : (List Int)) : Option Int :=
  if (decide (p1 = p2)) = true then (some (0 : Int)) else ((clock_within k p1 p2).bind fun x1 => if x1 = true then (some (-1 : Int)) else ((clock_within k p2 p1).bind fun x2 => if x2 = true then (some (1 : Int)) else (some (2 : Int))))

/- cabal/clock.Due -/
def clock_Due (k : Nat) (p1 : (List Int)) (p2 : (List Int)) (p3 : Int) : Option Bool :=
  (some ((if (decide (p3 < (0 : Int))) then true else (decide (p3 ≥ (8 : Int)))))).bind fun x1 => if (x1 == false) = true → (0 ≤ p3 ∧ p3 < 8) then ((if (x1 == false) = true then at? p2 p3 else some (0 : Int)).bind fun x2 => if ((if x1 then true else (x2 == (0 : Int))) == false) = true → (0 ≤ p3 ∧ p3 < 8) then ((if ((if x1 then true else (x2 == (0 : Int))) == false) = true then at? p2 p3 else some (0 : Int)).bind fun x3 => if ((if x1 then true else (x2 == (0 : Int))) == false) = true → (0 ≤ p3 ∧ p3 < 8) then ((if ((if x1 then true else (x2 == (0 : Int))) == false) = true then at? p1 p3 else some (0 : Int)).bind fun x4 => (some ((if (if x1 then true else (x2 == (0 : Int))) then true else ((isub .u32 x3 (1 : Int)) != x4)))).bind fun x5 => if x5 = true then (some false) else (if (0 ≤ p3 ∧ p3 < 8) then ((at? p1 p3).bind fun x6 => if (0 ≤ p3 ∧ p3 < 8) then ((set? p2 p3 x6).bind fun x7 => (clock_within k x7 p1).bind fun x8 => some x8) else none) else none)) else none) else none) else none

/- cabal/caballaw26.alive -/
def caballaw26_alive (k : Nat) : Option Bool :=
  (some (([(1 : Int), (0 : Int), (0 : Int), (0 : Int), (0 : Int), (0 : Int), (0 : Int), (0 : Int)] : (List Int)))).bind fun x1 => (some (([(1 : Int), (2 : Int), (0 : Int), (0 : Int), (0 : Int), (0 : Int), (0 : Int), (0 : Int)] : (List Int)))).bind fun x2 => (some (([(0 : Int), (1 : Int), (0 : Int), (0 : Int), (0 : Int), (0 : Int), (0 : Int), (0 : Int)] : (List Int)))).bind fun x3 => (some (([(1 : Int), (4 : Int), (0 : Int), (0 : Int), (0 : Int), (0 : Int), (0 : Int), (0 : Int)] : (List Int)))).bind fun x4 => (some (([(3 : Int), (2 : Int), (0 : Int), (0 : Int), (0 : Int), (0 : Int), (0 : Int), (0 : Int)] : (List Int)))).bind fun x5 => (clock_Lacks k x4 x5).bind fun x6 => (clock_Order k x1 x2).bind fun x7 => (if ((x7 == (-1 : Int)) == true) = true then clock_Order k x1 x3 else some (0 : Int)).bind fun x8 => (if ((if (x7 == (-1 : Int)) then (x8 == (2 : Int)) else false) == true) = true then clock_Order k x2 x1 else some (0 : Int)).bind fun x9 => (some ((if (if (x7 == (-1 : Int)) then (x8 == (2 : Int)) else false) then (x9 == (1 : Int)) else false))).bind fun x10 => (if (x10 == true) = true then clock_Join k ([x1, x3] : (List (List Int))) else some (List.replicate 8 (0 : Int))).bind fun x11 => (some (([(1 : Int), (1 : Int), (0 : Int), (0 : Int), (0 : Int), (0 : Int), (0 : Int), (0 : Int)] : (List Int)))).bind fun x12 => (some ((if (if x10 then (decide (x11 = x12)) else false) then ((x6.length : Int) == (1 : Int)) else false))).bind fun x13 => (if (x13 == true) = true then at? x6 (0 : Int) else some (⟨(0 : Int), (0 : Int), (0 : Int)⟩ : api_Span)).bind fun x14 => (some ((if x13 then (decide (x14 = (⟨(0 : Int), (2 : Int), (3 : Int)⟩ : api_Span))) else false))).bind fun x15 => (some (([(1 : Int), (1 : Int), (0 : Int), (0 : Int), (0 : Int), (0 : Int), (0 : Int), (0 : Int)] : (List Int)))).bind fun x16 => (if (x15 == true) = true then clock_Due k x1 x16 (1 : Int) else some false).bind fun x17 => some (if x15 then x17 else false)

/- cabal/cabalref26.Lacks -/
def cabalref26_Lacks.j1 (k : Nat) (y1 : (List api_Span)) : Option (List api_Span) :=
  some y1

def cabalref26_Lacks.j2 (k : Nat) (y3 : Int) (L_l1 : (List api_Span) → Int → Option (List api_Span)) (y4 : (List api_Span)) : Option (List api_Span) :=
  L_l1 y4 (iadd .i64 y3 (1 : Int))

def cabalref26_Lacks.l1 (k : Nat) (p2 : (List Int)) (p1 : (List Int)) : Nat → (List api_Span) → Int → Option (List api_Span)
  | 0, _, _ => none
  | n + 1, y2, y3 =>
    if (decide (y3 < (8 : Int))) = true then (if (0 ≤ y3 ∧ y3 < 8) then ((at? p2 y3).bind fun x1 => if (0 ≤ y3 ∧ y3 < 8) then ((at? p1 y3).bind fun x2 => if (decide (x1 > x2)) = true then (if (0 ≤ y3 ∧ y3 < 8) then ((at? p1 y3).bind fun x3 => if (0 ≤ y3 ∧ y3 < 8) then ((at? p2 y3).bind fun x4 => if y2.length + ([(⟨y3, (iadd .u32 x3 (1 : Int)), x4⟩ : api_Span)] : (List api_Span)).length ≤ lim then ((cabalref26_Lacks.j2 k y3 (cabalref26_Lacks.l1 k p2 p1 n)) (y2 ++ ([(⟨y3, (iadd .u32 x3 (1 : Int)), x4⟩ : api_Span)] : (List api_Span)))) else none) else none) else none) else ((cabalref26_Lacks.j2 k y3 (cabalref26_Lacks.l1 k p2 p1 n)) y2)) else none) else none) else ((cabalref26_Lacks.j1 k) y2)

def cabalref26_Lacks (k : Nat) (p1 : (List Int)) (p2 : (List Int)) : Option (List api_Span) :=
  cabalref26_Lacks.l1 k p2 p1 k [] (0 : Int)

/- cabal/cabalref26.Most -/
def cabalref26_Most.j1 (k : Nat) : Option Bool :=
  some true

def cabalref26_Most.l1 (k : Nat) (p1 : (List Int)) (p2 : (List Int)) : Nat → Int → Option Bool
  | 0, _ => none
  | n + 1, y1 =>
    if (decide (y1 < (8 : Int))) = true then (if (0 ≤ y1 ∧ y1 < 8) then ((at? p1 y1).bind fun x1 => if (0 ≤ y1 ∧ y1 < 8) then ((at? p2 y1).bind fun x2 => if (decide (x1 > x2)) = true then (some false) else ((cabalref26_Most.l1 k p1 p2 n) (iadd .i64 y1 (1 : Int)))) else none) else none) else ((cabalref26_Most.j1 k))

def cabalref26_Most (k : Nat) (p1 : (List Int)) (p2 : (List Int)) : Option Bool :=
  cabalref26_Most.l1 k p1 p2 k (0 : Int)

/- cabal/cabalref26.Order -/
def cabalref26_Order (k : Nat) (p1 : (List Int)) (p2 : (List Int)) : Option Int :=
  if (decide (p1 = p2)) = true then (some (0 : Int)) else ((cabalref26_Most k p1 p2).bind fun x1 => if x1 = true then (some (-1 : Int)) else ((cabalref26_Most k p2 p1).bind fun x2 => if x2 = true then (some (1 : Int)) else (some (2 : Int))))

/- cabal/cabalref26.Join -/
def cabalref26_Join.j1 (k : Nat) (y1 : (List Int)) : Option (List Int) :=
  some y1

def cabalref26_Join.j2 (k : Nat) (y2 : Int) (L_l1 : Int → (List Int) → Option (List Int)) (y4 : (List Int)) : Option (List Int) :=
  L_l1 (iadd .i64 y2 (1 : Int)) y4

def cabalref26_Join.j3 (k : Nat) (y5 : Int) (L_l2 : Int → (List Int) → Option (List Int)) (y7 : (List Int)) : Option (List Int) :=
  L_l2 (iadd .i64 y5 (1 : Int)) y7

def cabalref26_Join.l2 (k : Nat) (p1 : (List (List Int))) (y2 : Int) (L_l1 : Int → (List Int) → Option (List Int)) : Nat → Int → (List Int) → Option (List Int)
  | 0, _, _ => none
  | n + 1, y5, y6 =>
    if (decide (y5 < (p1.length : Int))) = true then ((at? p1 y5).bind fun x1 => (at? x1 y2).bind fun x2 => if y2 < 8 then (if (0 ≤ y2 ∧ y2 < 8) then ((at? y6 y2).bind fun x3 => if (decide (x2 > x3)) = true then ((at? p1 y5).bind fun x4 => (at? x4 y2).bind fun x5 => if y2 < 8 then (if (0 ≤ y2 ∧ y2 < 8) then ((set? y6 y2 x5).bind fun x6 => (cabalref26_Join.j3 k y5 (cabalref26_Join.l2 k p1 y2 L_l1 n)) x6) else none) else none) else ((cabalref26_Join.j3 k y5 (cabalref26_Join.l2 k p1 y2 L_l1 n)) y6)) else none) else none) else ((cabalref26_Join.j2 k y2 L_l1) y6)

def cabalref26_Join.l1 (k : Nat) (p1 : (List (List Int))) : Nat → Int → (List Int) → Option (List Int)
  | 0, _, _ => none
  | n + 1, y2, y3 =>
    if (decide (y2 < (8 : Int))) = true then (cabalref26_Join.l2 k p1 y2 (cabalref26_Join.l1 k p1 n) k (0 : Int) y3) else ((cabalref26_Join.j1 k) y3)

def cabalref26_Join (k : Nat) (p1 : (List (List Int))) : Option (List Int) :=
  cabalref26_Join.l1 k p1 k (0 : Int) (List.replicate 8 (0 : Int))

/- cabal/cabalref26.Due -/
def cabalref26_Due.j1 (k : Nat) : Option Bool :=
  some true

def cabalref26_Due.l1 (k : Nat) (p3 : Int) (p2 : (List Int)) (p1 : (List Int)) : Nat → Int → Option Bool
  | 0, _ => none
  | n + 1, y1 =>
    if (decide (y1 < (8 : Int))) = true then (if ((y1 != p3) == true) = true → (0 ≤ y1 ∧ y1 < 8) then ((if ((y1 != p3) == true) = true then at? p2 y1 else some (0 : Int)).bind fun x6 => if ((y1 != p3) == true) = true → (0 ≤ y1 ∧ y1 < 8) then ((if ((y1 != p3) == true) = true then at? p1 y1 else some (0 : Int)).bind fun x7 => if (if (y1 != p3) then (decide (x6 > x7)) else false) = true then (some false) else ((cabalref26_Due.l1 k p3 p2 p1 n) (iadd .i64 y1 (1 : Int)))) else none) else none) else ((cabalref26_Due.j1 k))

def cabalref26_Due (k : Nat) (p1 : (List Int)) (p2 : (List Int)) (p3 : Int) : Option Bool :=
  (some ((if (decide (p3 < (0 : Int))) then true else (decide (p3 > (7 : Int)))))).bind fun x1 => if (x1 == false) = true → (0 ≤ p3 ∧ p3 < 8) then ((if (x1 == false) = true then at? p2 p3 else some (0 : Int)).bind fun x2 => if ((if x1 then true else (x2 == (0 : Int))) == false) = true → (0 ≤ p3 ∧ p3 < 8) then ((if ((if x1 then true else (x2 == (0 : Int))) == false) = true then at? p2 p3 else some (0 : Int)).bind fun x3 => if ((if x1 then true else (x2 == (0 : Int))) == false) = true → (0 ≤ p3 ∧ p3 < 8) then ((if ((if x1 then true else (x2 == (0 : Int))) == false) = true then at? p1 p3 else some (0 : Int)).bind fun x4 => (some (((IntKind.wrap .u64 x3) != (iadd .u64 (IntKind.wrap .u64 x4) (1 : Int))))).bind fun x5 => if (if (if x1 then true else (x2 == (0 : Int))) then true else x5) = true then (some false) else (cabalref26_Due.l1 k p3 p2 p1 k (0 : Int))) else none) else none) else none

/- cabal/caballaw26.ClockOrders -/
def caballaw26_ClockOrders.j1 (k : Nat) (p1 : (List Int)) (p2 : (List Int)) (p3 : (List (List Int))) (p4 : Int) : Option Bool :=
  (caballaw26_alive k).bind fun x5 => (if (x5 == true) = true then clock_Order k p1 p2 else some (0 : Int)).bind fun x6 => (if (x5 == true) = true then cabalref26_Order k p1 p2 else some (0 : Int)).bind fun x7 => (if ((if x5 then (x6 == x7) else false) == true) = true then clock_Join k p3 else some (List.replicate 8 (0 : Int))).bind fun x8 => (if ((if x5 then (x6 == x7) else false) == true) = true then cabalref26_Join k p3 else some (List.replicate 8 (0 : Int))).bind fun x9 => (some ((if (if x5 then (x6 == x7) else false) then (decide (x8 = x9)) else false))).bind fun x10 => (if (x10 == true) = true then clock_Due k p1 p2 p4 else some false).bind fun x11 => (if (x10 == true) = true then cabalref26_Due k p1 p2 p4 else some false).bind fun x12 => some (if x10 then (decide (x11 = x12)) else false)

def caballaw26_ClockOrders.l1 (k : Nat) (x3 : (List api_Span)) (x4 : (List api_Span)) (p1 : (List Int)) (p2 : (List Int)) (p3 : (List (List Int))) (p4 : Int) : Nat → Int → Option Bool
  | 0, _ => none
  | n + 1, y1 =>
    if (decide (y1 < (x3.length : Int))) = true then ((at? x3 y1).bind fun x13 => (at? x4 y1).bind fun x14 => if (!decide (x13 = x14)) = true then (some false) else ((caballaw26_ClockOrders.l1 k x3 x4 p1 p2 p3 p4 n) (iadd .i64 y1 (1 : Int)))) else ((caballaw26_ClockOrders.j1 k p1 p2 p3 p4))

def caballaw26_ClockOrders (k : Nat) (p1 : (List Int)) (p2 : (List Int)) (p3 : (List (List Int))) (p4 : Int) : Option Bool :=
  (caballaw26_alive k).bind fun x1 => if (!x1) = true then (some false) else (if (decide ((p3.length : Int) > (60 : Int))) = true then ((caballaw26_alive k).bind fun x2 => some x2) else ((clock_Lacks k p1 p2).bind fun x3 => (cabalref26_Lacks k p1 p2).bind fun x4 => if ((x3.length : Int) != (x4.length : Int)) = true then (some false) else (caballaw26_ClockOrders.l1 k x3 x4 p1 p2 p3 p4 k (0 : Int))))

/- cabal/caballaw26.most -/
def caballaw26_most (k : Nat) (p1 : (List Int)) (p2 : (List Int)) : Option Bool :=
  (clock_Order k p1 p2).bind fun x1 => (if ((x1 == (-1 : Int)) == false) = true then clock_Order k p1 p2 else some (0 : Int)).bind fun x2 => some (if (x1 == (-1 : Int)) then true else (x2 == (0 : Int)))

/- cabal/caballaw26.ClockLattice -/
def caballaw26_ClockLattice (k : Nat) (p1 : (List Int)) (p2 : (List Int)) (p3 : (List Int)) : Option Bool :=
  (caballaw26_alive k).bind fun x1 => if (!x1) = true then (some false) else ((clock_Join k ([p1, p2] : (List (List Int)))).bind fun x2 => (caballaw26_most k p1 x2).bind fun x3 => (if ((!x3) == false) = true then caballaw26_most k p2 x2 else some false).bind fun x4 => (if ((if (!x3) then true else (!x4)) == false) = true then clock_Join k ([x2, p3] : (List (List Int))) else some (List.replicate 8 (0 : Int))).bind fun x5 => (if ((if (!x3) then true else (!x4)) == false) = true then clock_Join k ([p2, p3] : (List (List Int))) else some (List.replicate 8 (0 : Int))).bind fun x6 => (if ((if (!x3) then true else (!x4)) == false) = true then clock_Join k ([p1, x6] : (List (List Int))) else some (List.replicate 8 (0 : Int))).bind fun x7 => (some ((if (if (!x3) then true else (!x4)) then true else (!decide (x5 = x7))))).bind fun x8 => (if (x8 == false) = true then clock_Join k ([p2, p1] : (List (List Int))) else some (List.replicate 8 (0 : Int))).bind fun x9 => if (if x8 then true else (!decide (x9 = x2))) = true then (some false) else ((caballaw26_most k p1 p3).bind fun x10 => (if (x10 == true) = true then caballaw26_most k p2 p3 else some false).bind fun x11 => (if ((if x10 then x11 else false) == true) = true then caballaw26_most k x2 p3 else some false).bind fun x12 => (if ((if (if x10 then x11 else false) then (!x12) else false) == false) = true then caballaw26_most k p1 p2 else some false).bind fun x13 => (if (((if (if x10 then x11 else false) then (!x12) else false) == false) && (x13 == true)) = true then caballaw26_most k p2 p3 else some false).bind fun x14 => (if (((if (if x10 then x11 else false) then (!x12) else false) == false) && ((if x13 then x14 else false) == true)) = true then caballaw26_most k p1 p3 else some false).bind fun x15 => (some ((if (if (if x10 then x11 else false) then (!x12) else false) then true else (if (if x13 then x14 else false) then (!x15) else false)))).bind fun x16 => (if (x16 == false) = true then caballaw26_most k p1 p2 else some false).bind fun x17 => (if ((x16 == false) && (x17 == true)) = true then caballaw26_most k p2 p1 else some false).bind fun x18 => (some ((if x16 then true else (if (if x17 then x18 else false) then (!decide (p1 = p2)) else false)))).bind fun x19 => if x19 = true then (some false) else ((caballaw26_alive k).bind fun x20 => (if (x20 == true) = true then caballaw26_most k p1 p1 else some false).bind fun x21 => some (if x20 then x21 else false))))

end Go.Proofs.Pure
