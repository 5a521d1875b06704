/- Plain functions: what the program's functions answer, printed out of their code; kinds of their data. No condition. -/
import Derived.Test.YtankoeffbdnffaaKit24
namespace Go.Proofs.Pure
open Go Go.RowKit Go.Proofs.Kit
set_option linter.unusedVariables false

structure strings_Builder where
  addr : Bool
  buf : (List Int)
  deriving DecidableEq
def t_strings_Builder (x : strings_Builder) : Bool × (List Int) × Unit := (x.addr, x.buf, ())
theorem t_strings_Builder_inj (x y : strings_Builder) (h : t_strings_Builder x = t_strings_Builder y) : x = y := by cases x; cases y; simpa [t_strings_Builder] using h
def k_strings_Builder : Kd strings_Builder := kiso (kpair (kbad 0) (kpair (ksl (kint .u8)) knil)) t_strings_Builder
theorem lg_strings_Builder_addr (x : strings_Builder) : LG k_strings_Builder (kbad 0) 0 x x.addr := LG.iso (LG.fst _ _ _)
theorem ls_strings_Builder_addr (x : strings_Builder) (y : Bool) : LS k_strings_Builder (kbad 0) 0 x y { x with addr := y } := LS.iso (LS.fst _ _ _ _)
theorem lg_strings_Builder_buf (x : strings_Builder) : LG k_strings_Builder (ksl (kint .u8)) 1 x x.buf := LG.iso (LG.snd _ (LG.fst _ _ _))
theorem ls_strings_Builder_buf (x : strings_Builder) (y : (List Int)) : LS k_strings_Builder (ksl (kint .u8)) 1 x y { x with buf := y } := LS.iso (LS.snd _ (LS.fst _ _ _ _))
def to_strings_Builder_1 (x : strings_Builder) : Bool × Unit × Unit := (x.addr, (), ())
def ko_strings_Builder_1 (b0 : Nat) (v1 : Value) : Kd strings_Builder := kiso (kpair (kbad b0) (kpair (kis v1) knil)) to_strings_Builder_1
theorem lgo_strings_Builder_1_addr {b0 : Nat} {v1 : Value} (x : strings_Builder) : LG (ko_strings_Builder_1 b0 v1) (kbad b0) 0 x x.addr := LG.iso (LG.fst _ _ _)
theorem lso_strings_Builder_1_addr {b0 : Nat} {v1 : Value} (x : strings_Builder) (y : Bool) : LS (ko_strings_Builder_1 b0 v1) (kbad b0) 0 x y { x with addr := y } := LS.iso (LS.fst _ _ _ _)
theorem lgo_strings_Builder_1_buf {b0 : Nat} {v1 : Value} (x : strings_Builder) : LG (ko_strings_Builder_1 b0 v1) (kis v1) 1 x () := LG.iso (LG.snd _ (LG.fst _ _ _))
theorem lsk_strings_Builder_1_to_1_at1 {b0 : Nat} {u1 v1 : Value} (x : strings_Builder) : LSK (ko_strings_Builder_1 b0 v1) (kis u1) (ko_strings_Builder_1 b0 u1) 1 x () x := LSK.iso (LSK.snd _ (LSK.fst (k := kis v1) (k' := kis u1) _ rfl _ _))



/- cabal/code.by10 -/
def code_by10.j1 (k : Nat) (y1 : Int) (y2 : (List Int)) : Option (Int × (List Int)) :=
  some ((IntKind.wrap .u8 y1), y2)

def code_by10.l1 (k : Nat) : Nat → Int → Int → (List Int) → Option (Int × (List Int))
  | 0, _, _, _ => none
  | n + 1, y3, y4, y5 =>
    if (decide (y4 < (32 : Int))) = true then (if (0 ≤ y4 ∧ y4 < 32) then ((at? y5 y4).bind fun x1 => (some ((iquo .i64 (ior .i64 (ishl .i64 y3 (8 : Int)) (IntKind.wrap .i64 x1)) (10 : Int)))).bind fun x2 => if (0 ≤ y4 ∧ y4 < 32) then ((set? y5 y4 (IntKind.wrap .u8 x2)).bind fun x3 => (some ((irem (ior .i64 (ishl .i64 y3 (8 : Int)) (IntKind.wrap .i64 x1)) (10 : Int)))).bind fun x4 => (code_by10.l1 k n) x4 (iadd .i64 y4 (1 : Int)) x3) else none) else none) else ((code_by10.j1 k) y3 y5)

def code_by10 (k : Nat) (p1 : (List Int)) : Option (Int × (List Int)) :=
  code_by10.l1 k k (0 : Int) (0 : Int) p1

/- (*cabal/code.digits).check -/
def code_digits_check.j1 (k : Nat) (y1 : Int) : Option (Int × Int) :=
  (some ((iquo .i64 (isub .i64 (98 : Int) (irem (imul .i64 (100 : Int) y1) (97 : Int))) (10 : Int)))).bind fun x2 => (some ((irem (isub .i64 (98 : Int) (irem (imul .i64 (100 : Int) y1) (97 : Int))) (10 : Int)))).bind fun x3 => some ((IntKind.wrap .u8 x2), (IntKind.wrap .u8 x3))

def code_digits_check.l1 (k : Nat) (x1 : (List Int)) : Nat → Int → Int → Option (Int × Int)
  | 0, _, _ => none
  | n + 1, y2, y3 =>
    if (decide (y3 < (x1.length : Int))) = true then ((at? x1 y3).bind fun x4 => (some ((irem (iadd .i64 (imul .i64 (10 : Int) y2) (IntKind.wrap .i64 x4)) (97 : Int)))).bind fun x5 => (code_digits_check.l1 k x1 n) x5 (iadd .i64 y3 (1 : Int))) else ((code_digits_check.j1 k) y2)

def code_digits_check (k : Nat) (p1 : (List Int)) : Option (Int × Int) :=
  (cut? p1 (0 : Int) (78 : Int)).bind fun x1 => code_digits_check.l1 k x1 k (0 : Int) (0 : Int)

/- (*strings.Builder).copyCheck -/
def strings_Builder_copyCheck (k : Nat) (p1 : strings_Builder) : Option strings_Builder :=
  if (!p1.addr) = true then (some (⟨true, p1.buf⟩ : strings_Builder)) else (if (!p1.addr) = true then (none) else (some p1))

/- (*strings.Builder).WriteByte -/
def strings_Builder_WriteByte (k : Nat) (p1 : strings_Builder) (p2 : Int) : Option (Unit × strings_Builder) :=
  (strings_Builder_copyCheck k p1).bind fun x1 => if x1.buf.length + ([p2] : (List Int)).length ≤ lim then (some ((), (⟨x1.addr, (x1.buf ++ ([p2] : (List Int)))⟩ : strings_Builder))) else none

/- (*strings.Builder).String -/
def strings_Builder_String (k : Nat) (p1 : strings_Builder) : Option (List Int) :=
  if 0 < p1.buf.length then (some p1.buf) else none

/- cabal/code.Write -/
def code_Write.j2 (k : Nat) (y2 : Bool) (y3 : (List Int)) : Option (List Int) :=
  (strings_Builder_String k (⟨y2, y3⟩ : strings_Builder)).bind fun x4 => some x4

def code_Write.j3 (k : Nat) (x5 : Int) (y4 : Int) (L_l1 : Int → Bool → (List Int) → Option (List Int)) (y7 : Bool) (y8 : (List Int)) : Option (List Int) :=
  (strings_Builder_WriteByte k (⟨y7, y8⟩ : strings_Builder) (iadd .u8 (48 : Int) x5)).bind fun x7 => L_l1 (iadd .i64 y4 (1 : Int)) x7.2.addr x7.2.buf

def code_Write.l1 (k : Nat) (x3 : (List Int)) : Nat → Int → Bool → (List Int) → Option (List Int)
  | 0, _, _, _ => none
  | n + 1, y4, y5, y6 =>
    if (decide (y4 < (80 : Int))) = true then ((at? x3 y4).bind fun x5 => if y4 < 80 then ((some ((if (decide (y4 > (0 : Int))) then ((irem y4 (5 : Int)) == (0 : Int)) else false))).bind fun x6 => if x6 = true then ((strings_Builder_WriteByte k (⟨y5, y6⟩ : strings_Builder) (32 : Int)).bind fun x8 => (code_Write.j3 k x5 y4 (code_Write.l1 k x3 n)) x8.2.addr x8.2.buf) else ((code_Write.j3 k x5 y4 (code_Write.l1 k x3 n)) y5 y6)) else none) else ((code_Write.j2 k) y5 y6)

def code_Write.j1 (k : Nat) (y1 : (List Int)) : Option (List Int) :=
  (code_digits_check k y1).bind fun x1 => (set? y1 (78 : Int) x1.1).bind fun x2 => (set? x2 (79 : Int) x1.2).bind fun x3 => code_Write.l1 k x3 k (0 : Int) false ([] : (List Int))

def code_Write.l2 (k : Nat) : Nat → Int → (List Int) → (List Int) → Option (List Int)
  | 0, _, _, _ => none
  | n + 1, y9, y10, y11 =>
    if (decide (y9 < (78 : Int))) = true then ((code_by10 k y10).bind fun x9 => if (0 ≤ (isub .i64 (77 : Int) y9) ∧ (isub .i64 (77 : Int) y9) < 80) then ((set? y11 (isub .i64 (77 : Int) y9) x9.1).bind fun x10 => (code_Write.l2 k n) (iadd .i64 y9 (1 : Int)) x9.2 x10) else none) else ((code_Write.j1 k) y11)

def code_Write (k : Nat) (p1 : (List Int)) : Option (List Int) :=
  code_Write.l2 k k (0 : Int) p1 (List.replicate 80 (0 : Int))

/- cabal/code.read -/
def code_read.j1 (k : Nat) (y1 : (List Int)) : Option ((List Int) × Bool) :=
  some (y1, true)

def code_read.j2 (k : Nat) (y2 : Int) (L_l1 : Int → (List Int) → Option ((List Int) × Bool)) (y4 : (List Int)) : Option ((List Int) × Bool) :=
  L_l1 (iadd .i64 y2 (1 : Int)) y4

def code_read.j3 (k : Nat) (y3 : (List Int)) (y2 : Int) (p1 : (List Int)) (L_l1 : Int → (List Int) → Option ((List Int) × Bool)) (y5 : Bool) : Option ((List Int) × Bool) :=
  if y5 = true then (some (y3, false)) else (if (!((irem y2 (6 : Int)) == (5 : Int))) = true then ((at? p1 y2).bind fun x3 => if (0 ≤ (isub .i64 y2 (iquo .i64 y2 (6 : Int))) ∧ (isub .i64 y2 (iquo .i64 y2 (6 : Int))) < 80) then ((set? y3 (isub .i64 y2 (iquo .i64 y2 (6 : Int))) (isub .u8 x3 (48 : Int))).bind fun x4 => (code_read.j2 k y2 L_l1) x4) else none) else ((code_read.j2 k y2 L_l1) y3))

def code_read.l1 (k : Nat) (p1 : (List Int)) : Nat → Int → (List Int) → Option ((List Int) × Bool)
  | 0, _, _ => none
  | n + 1, y2, y3 =>
    if (decide (y2 < (p1.length : Int))) = true then ((if (((irem y2 (6 : Int)) == (5 : Int)) == true) = true then at? p1 y2 else some (0 : Int)).bind fun x1 => (some ((if ((irem y2 (6 : Int)) == (5 : Int)) then (x1 != (32 : Int)) else false))).bind fun x2 => if x2 = true then ((code_read.j3 k y3 y2 p1 (code_read.l1 k p1 n)) x2) else ((if ((!((irem y2 (6 : Int)) == (5 : Int))) == true) = true then at? p1 y2 else some (0 : Int)).bind fun x5 => (if (((!((irem y2 (6 : Int)) == (5 : Int))) == true) && ((decide (x5 < (48 : Int))) == false)) = true then at? p1 y2 else some (0 : Int)).bind fun x6 => (some ((if (decide (x5 < (48 : Int))) then true else (decide (x6 > (57 : Int)))))).bind fun x7 => (code_read.j3 k y3 y2 p1 (code_read.l1 k p1 n)) (if (!((irem y2 (6 : Int)) == (5 : Int))) then x7 else false))) else ((code_read.j1 k) y3)

def code_read (k : Nat) (p1 : (List Int)) : Option ((List Int) × Bool) :=
  if ((p1.length : Int) != (95 : Int)) = true then (some ((List.replicate 80 (0 : Int)), false)) else (code_read.l1 k p1 k (0 : Int) (List.replicate 80 (0 : Int)))

/- cabal/code.times10 -/
def code_times10.j1 (k : Nat) (y1 : Int) (y2 : (List Int)) : Option (Bool × (List Int)) :=
  some ((y1 == (0 : Int)), y2)

def code_times10.l1 (k : Nat) : Nat → Int → Int → (List Int) → Option (Bool × (List Int))
  | 0, _, _, _ => none
  | n + 1, y3, y4, y5 =>
    if (decide (y4 ≥ (0 : Int))) = true then (if (0 ≤ y4 ∧ y4 < 32) then ((at? y5 y4).bind fun x1 => (some ((IntKind.wrap .u8 (iadd .i64 y3 (imul .i64 (10 : Int) (IntKind.wrap .i64 x1)))))).bind fun x2 => if (0 ≤ y4 ∧ y4 < 32) then ((set? y5 y4 x2).bind fun x3 => (some ((ishr .i64 (iadd .i64 y3 (imul .i64 (10 : Int) (IntKind.wrap .i64 x1))) (8 : Int)))).bind fun x4 => (code_times10.l1 k n) x4 (isub .i64 y4 (1 : Int)) x3) else none) else none) else ((code_times10.j1 k) y3 y5)

def code_times10 (k : Nat) (p1 : (List Int)) (p2 : Int) : Option (Bool × (List Int)) :=
  code_times10.l1 k k (IntKind.wrap .i64 p2) (31 : Int) p1

/- cabal/code.Read -/
def code_Read.j1 (k : Nat) (y1 : (List Int)) : Option ((List Int) × Int) :=
  some (y1, (0 : Int))

def code_Read.l1 (k : Nat) (x1 : ((List Int) × Bool)) : Nat → Int → (List Int) → Option ((List Int) × Int)
  | 0, _, _ => none
  | n + 1, y2, y3 =>
    if (decide (y2 < (78 : Int))) = true then (if (0 ≤ y2 ∧ y2 < (((78 : Int).toNat - (0 : Int).toNat : Nat) : Int)) then ((at? x1.1 y2).bind fun x7 => (code_times10 k y3 x7).bind fun x8 => if (!x8.1) = true then ((some (([(0 : Int), (0 : Int), (0 : Int), (0 : Int), (0 : Int), (0 : Int), (0 : Int), (0 : Int), (0 : Int), (0 : Int), (0 : Int), (0 : Int), (0 : Int), (0 : Int), (0 : Int), (0 : Int), (0 : Int), (0 : Int), (0 : Int), (0 : Int), (0 : Int), (0 : Int), (0 : Int), (0 : Int), (0 : Int), (0 : Int), (0 : Int), (0 : Int), (0 : Int), (0 : Int), (0 : Int), (0 : Int)] : (List Int)))).bind fun x9 => some (x9, (4 : Int))) else ((code_Read.l1 k x1 n) (iadd .i64 y2 (1 : Int)) x8.2)) else none) else ((code_Read.j1 k) y3)

def code_Read (k : Nat) (p1 : (List Int)) : Option ((List Int) × Int) :=
  (code_read k p1).bind fun x1 => if (!x1.2) = true then ((some (([(0 : Int), (0 : Int), (0 : Int), (0 : Int), (0 : Int), (0 : Int), (0 : Int), (0 : Int), (0 : Int), (0 : Int), (0 : Int), (0 : Int), (0 : Int), (0 : Int), (0 : Int), (0 : Int), (0 : Int), (0 : Int), (0 : Int), (0 : Int), (0 : Int), (0 : Int), (0 : Int), (0 : Int), (0 : Int), (0 : Int), (0 : Int), (0 : Int), (0 : Int), (0 : Int), (0 : Int), (0 : Int)] : (List Int)))).bind fun x2 => some (x2, (4 : Int))) else ((code_digits_check k x1.1).bind fun x3 => (at? x1.1 (78 : Int)).bind fun x4 => (if ((x4 != x3.1) == false) = true then at? x1.1 (79 : Int) else some (0 : Int)).bind fun x5 => if (if (x4 != x3.1) then true else (x5 != x3.2)) = true then ((some (([(0 : Int), (0 : Int), (0 : Int), (0 : Int), (0 : Int), (0 : Int), (0 : Int), (0 : Int), (0 : Int), (0 : Int), (0 : Int), (0 : Int), (0 : Int), (0 : Int), (0 : Int), (0 : Int), (0 : Int), (0 : Int), (0 : Int), (0 : Int), (0 : Int), (0 : Int), (0 : Int), (0 : Int), (0 : Int), (0 : Int), (0 : Int), (0 : Int), (0 : Int), (0 : Int), (0 : Int), (0 : Int)] : (List Int)))).bind fun x6 => some (x6, (2 : Int))) else (code_Read.l1 k x1 k (0 : Int) (List.replicate 32 (0 : Int))))

/- cabal/caballaw27.alive -/
def caballaw27_alive (k : Nat) : Option Bool :=
  (some (([(0 : Int), (0 : Int), (0 : Int), (0 : Int), (0 : Int), (0 : Int), (0 : Int), (0 : Int), (0 : Int), (0 : Int), (0 : Int), (0 : Int), (0 : Int), (0 : Int), (0 : Int), (0 : Int), (0 : Int), (0 : Int), (0 : Int), (0 : Int), (0 : Int), (0 : Int), (0 : Int), (0 : Int), (0 : Int), (0 : Int), (0 : Int), (0 : Int), (0 : Int), (0 : Int), (0 : Int), (0 : Int)] : (List Int)))).bind fun x1 => (code_Write k x1).bind fun x2 => (some (([(1 : Int), (2 : Int), (3 : Int), (0 : Int), (0 : Int), (0 : Int), (0 : Int), (0 : Int), (0 : Int), (0 : Int), (0 : Int), (0 : Int), (0 : Int), (0 : Int), (0 : Int), (0 : Int), (0 : Int), (0 : Int), (0 : Int), (0 : Int), (0 : Int), (0 : Int), (0 : Int), (0 : Int), (0 : Int), (0 : Int), (0 : Int), (0 : Int), (0 : Int), (0 : Int), (0 : Int), (0 : Int)] : (List Int)))).bind fun x3 => (code_Write k x3).bind fun x4 => (code_Read k x4).bind fun x5 => (if (((x2.length : Int) == (95 : Int)) == true) = true then cut? x2 (88 : Int) (x2.length : Int) else some []).bind fun x6 => (some ((if ((x2.length : Int) == (95 : Int)) then (decide (x6 = ([48, 32, 48, 48, 48, 57, 56] : List Int))) else false))).bind fun x7 => (some (([(1 : Int), (2 : Int), (3 : Int), (0 : Int), (0 : Int), (0 : Int), (0 : Int), (0 : Int), (0 : Int), (0 : Int), (0 : Int), (0 : Int), (0 : Int), (0 : Int), (0 : Int), (0 : Int), (0 : Int), (0 : Int), (0 : Int), (0 : Int), (0 : Int), (0 : Int), (0 : Int), (0 : Int), (0 : Int), (0 : Int), (0 : Int), (0 : Int), (0 : Int), (0 : Int), (0 : Int), (0 : Int)] : (List Int)))).bind fun x8 => (some ((if (if x7 then (decide (x5.1 = x8)) else false) then (x5.2 == (0 : Int)) else false))).bind fun x9 => some x9

/- cabal/caballaw27.CodeTurned -/
def caballaw27_CodeTurned.j1 (k : Nat) (y1 : (List Int)) : Option Bool :=
  (code_Read k y1).bind fun x4 => (caballaw27_alive k).bind fun x5 => (some (([(0 : Int), (0 : Int), (0 : Int), (0 : Int), (0 : Int), (0 : Int), (0 : Int), (0 : Int), (0 : Int), (0 : Int), (0 : Int), (0 : Int), (0 : Int), (0 : Int), (0 : Int), (0 : Int), (0 : Int), (0 : Int), (0 : Int), (0 : Int), (0 : Int), (0 : Int), (0 : Int), (0 : Int), (0 : Int), (0 : Int), (0 : Int), (0 : Int), (0 : Int), (0 : Int), (0 : Int), (0 : Int)] : (List Int)))).bind fun x6 => (some ((if (if x5 then (x4.2 == (2 : Int)) else false) then (decide (x4.1 = x6)) else false))).bind fun x7 => some x7

def caballaw27_CodeTurned (k : Nat) (p1 : (List Int)) (p2 : Int) (p3 : Int) (p4 : Bool) : Option Bool :=
  (caballaw27_alive k).bind fun x1 => if (!x1) = true then (some false) else ((code_Write k p1).bind fun x2 => if ((x2.length : Int) != (95 : Int)) = true then (some false) else ((some ((iadd .i64 (imul .i64 (IntKind.wrap .i64 (irem p2 (16 : Int))) (6 : Int)) (IntKind.wrap .i64 (irem (iquo .u8 p2 (16 : Int)) (5 : Int)))))).bind fun x3 => if p4 = true then ((some (((IntKind.wrap .i64 (irem (iquo .u8 p2 (16 : Int)) (5 : Int))) == (4 : Int)))).bind fun x8 => if (x8 == false) = true → (0 ≤ x3 ∧ x3 < x2.length) then ((if (x8 == false) = true then at? x2 x3 else some (0 : Int)).bind fun x9 => if (x8 == false) = true → (0 ≤ (iadd .i64 x3 (1 : Int)) ∧ (iadd .i64 x3 (1 : Int)) < x2.length) then ((if (x8 == false) = true then at? x2 (iadd .i64 x3 (1 : Int)) else some (0 : Int)).bind fun x10 => if (if x8 then true else (x9 == x10)) = true then ((caballaw27_alive k).bind fun x11 => some x11) else (if (0 ≤ (iadd .i64 x3 (1 : Int)) ∧ (iadd .i64 x3 (1 : Int)) < x2.length) then ((at? x2 (iadd .i64 x3 (1 : Int))).bind fun x12 => if (0 ≤ x3 ∧ x3 < x2.length) then ((at? x2 x3).bind fun x13 => if (0 ≤ x3 ∧ x3 < x2.length) then ((set? x2 x3 x12).bind fun x14 => if (0 ≤ (iadd .i64 x3 (1 : Int)) ∧ (iadd .i64 x3 (1 : Int)) < x14.length) then ((set? x14 (iadd .i64 x3 (1 : Int)) x13).bind fun x15 => (caballaw27_CodeTurned.j1 k) x15) else none) else none) else none) else none)) else none) else none) else (if (0 ≤ x3 ∧ x3 < x2.length) then ((at? x2 x3).bind fun x16 => (some ((iadd .u8 (iadd .u8 (isub .u8 x16 (48 : Int)) (1 : Int)) (irem p3 (9 : Int))))).bind fun x17 => if (0 ≤ x3 ∧ x3 < x2.length) then ((set? x2 x3 (iadd .u8 (48 : Int) (irem x17 (10 : Int)))).bind fun x18 => (caballaw27_CodeTurned.j1 k) x18) else none) else none)))

end Go.Proofs.Pure
