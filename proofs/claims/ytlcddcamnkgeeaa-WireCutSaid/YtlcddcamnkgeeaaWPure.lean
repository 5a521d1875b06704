/- Plain functions: what the program's functions answer, printed out of their code; kinds of their data. No condition. -/
import Derived.Test.YtlcddcamnkgeeaaKit22
namespace Go.Proofs.Pure
open Go Go.RowKit Go.Proofs.Kit
set_option linter.unusedVariables false

structure caballaw10_Item where
  Kind : Int
  Most : Int
  Numbers : (List Int)
  Text : (List Int)
  Keys : (List (List Int))
  deriving DecidableEq
def t_caballaw10_Item (x : caballaw10_Item) : Int × Int × (List Int) × (List Int) × (List (List Int)) × Unit := (x.Kind, x.Most, x.Numbers, x.Text, x.Keys, ())
theorem t_caballaw10_Item_inj (x y : caballaw10_Item) (h : t_caballaw10_Item x = t_caballaw10_Item y) : x = y := by cases x; cases y; simpa [t_caballaw10_Item] using h
def k_caballaw10_Item : Kd caballaw10_Item := kiso (kpair (kint .i64) (kpair (kint .i64) (kpair (ksl (kint .u32)) (kpair kstr (kpair (ksl (karr 32 (kint .u8))) knil))))) t_caballaw10_Item
theorem lg_caballaw10_Item_Kind (x : caballaw10_Item) : LG k_caballaw10_Item (kint .i64) 0 x x.Kind := LG.iso (LG.fst _ _ _)
theorem ls_caballaw10_Item_Kind (x : caballaw10_Item) (y : Int) : LS k_caballaw10_Item (kint .i64) 0 x y { x with Kind := y } := LS.iso (LS.fst _ _ _ _)
theorem lg_caballaw10_Item_Most (x : caballaw10_Item) : LG k_caballaw10_Item (kint .i64) 1 x x.Most := LG.iso (LG.snd _ (LG.fst _ _ _))
theorem ls_caballaw10_Item_Most (x : caballaw10_Item) (y : Int) : LS k_caballaw10_Item (kint .i64) 1 x y { x with Most := y } := LS.iso (LS.snd _ (LS.fst _ _ _ _))
theorem lg_caballaw10_Item_Numbers (x : caballaw10_Item) : LG k_caballaw10_Item (ksl (kint .u32)) 2 x x.Numbers := LG.iso (LG.snd _ (LG.snd _ (LG.fst _ _ _)))
theorem ls_caballaw10_Item_Numbers (x : caballaw10_Item) (y : (List Int)) : LS k_caballaw10_Item (ksl (kint .u32)) 2 x y { x with Numbers := y } := LS.iso (LS.snd _ (LS.snd _ (LS.fst _ _ _ _)))
theorem lg_caballaw10_Item_Text (x : caballaw10_Item) : LG k_caballaw10_Item kstr 3 x x.Text := LG.iso (LG.snd _ (LG.snd _ (LG.snd _ (LG.fst _ _ _))))
theorem ls_caballaw10_Item_Text (x : caballaw10_Item) (y : (List Int)) : LS k_caballaw10_Item kstr 3 x y { x with Text := y } := LS.iso (LS.snd _ (LS.snd _ (LS.snd _ (LS.fst _ _ _ _))))
theorem lg_caballaw10_Item_Keys (x : caballaw10_Item) : LG k_caballaw10_Item (ksl (karr 32 (kint .u8))) 4 x x.Keys := LG.iso (LG.snd _ (LG.snd _ (LG.snd _ (LG.snd _ (LG.fst _ _ _)))))
theorem ls_caballaw10_Item_Keys (x : caballaw10_Item) (y : (List (List Int))) : LS k_caballaw10_Item (ksl (karr 32 (kint .u8))) 4 x y { x with Keys := y } := LS.iso (LS.snd _ (LS.snd _ (LS.snd _ (LS.snd _ (LS.fst _ _ _ _)))))
structure wire_Writer where
  out : (List Int)
  deriving DecidableEq
def t_wire_Writer (x : wire_Writer) : (List Int) × Unit := (x.out, ())
theorem t_wire_Writer_inj (x y : wire_Writer) (h : t_wire_Writer x = t_wire_Writer y) : x = y := by cases x; cases y; simpa [t_wire_Writer] using h
def k_wire_Writer : Kd wire_Writer := kiso (kpair (ksl (kint .u8)) knil) t_wire_Writer
theorem lg_wire_Writer_out (x : wire_Writer) : LG k_wire_Writer (ksl (kint .u8)) 0 x x.out := LG.iso (LG.fst _ _ _)
theorem ls_wire_Writer_out (x : wire_Writer) (y : (List Int)) : LS k_wire_Writer (ksl (kint .u8)) 0 x y { x with out := y } := LS.iso (LS.fst _ _ _ _)
structure wire_Reader where
  s : (List Int)
  err : Int
  deriving DecidableEq
def t_wire_Reader (x : wire_Reader) : (List Int) × Int × Unit := (x.s, x.err, ())
theorem t_wire_Reader_inj (x y : wire_Reader) (h : t_wire_Reader x = t_wire_Reader y) : x = y := by cases x; cases y; simpa [t_wire_Reader] using h
def k_wire_Reader : Kd wire_Reader := kiso (kpair kstr (kpair (kint .i64) knil)) t_wire_Reader
theorem lg_wire_Reader_s (x : wire_Reader) : LG k_wire_Reader kstr 0 x x.s := LG.iso (LG.fst _ _ _)
theorem ls_wire_Reader_s (x : wire_Reader) (y : (List Int)) : LS k_wire_Reader kstr 0 x y { x with s := y } := LS.iso (LS.fst _ _ _ _)
theorem lg_wire_Reader_err (x : wire_Reader) : LG k_wire_Reader (kint .i64) 1 x x.err := LG.iso (LG.snd _ (LG.fst _ _ _))
theorem ls_wire_Reader_err (x : wire_Reader) (y : Int) : LS k_wire_Reader (kint .i64) 1 x y { x with err := y } := LS.iso (LS.snd _ (LS.fst _ _ _ _))
def to_wire_Writer_0 (x : wire_Writer) : Unit × Unit := ((), ())
def ko_wire_Writer_0 (v0 : Value) : Kd wire_Writer := kiso (kpair (kis v0) knil) to_wire_Writer_0
theorem lgo_wire_Writer_0_out {v0 : Value} (x : wire_Writer) : LG (ko_wire_Writer_0 v0) (kis v0) 0 x () := LG.iso (LG.fst _ _ _)
theorem upo_wire_Writer_0 {H : Ok → World → Prop} {v0 : Value} {x x' : wire_Writer} (hx : to_wire_Writer_0 x = to_wire_Writer_0 x') (u0 : Up H (kis v0) (ksl (kint .u8)) () x'.out) : Up H (ko_wire_Writer_0 v0) k_wire_Writer x x' := fun ok w cs hH hr => by
  have hr' : Kd.rel (kpair (kis v0) knil) ok w (to_wire_Writer_0 x) cs := hr
  rw [hx] at hr'
  exact (Up.pair u0 (Up.refl _ _) : Up H (kpair (kis v0) knil) (kpair (ksl (kint .u8)) knil) (to_wire_Writer_0 x') (t_wire_Writer x')) ok w cs hH hr'
theorem lsk_wire_Writer_0_to_0_at0 {u0 v0 : Value} (x : wire_Writer) : LSK (ko_wire_Writer_0 v0) (kis u0) (ko_wire_Writer_0 u0) 0 x () x := LSK.iso (LSK.fst (k := kis v0) (k' := kis u0) _ rfl _ _)



/- (*cabal/wire.Writer).Numbers -/
def wire_Writer_Numbers.j1 (k : Nat) (y1 : Int) (L_l1 : Int → (List Int) → Option wire_Writer) (y3 : (List Int)) : Option wire_Writer :=
  L_l1 (iadd .i64 y1 (1 : Int)) y3

def wire_Writer_Numbers.j2 (k : Nat) (x1 : Int) (y1 : Int) (L_l1 : Int → (List Int) → Option wire_Writer) (y4 : (List Int)) : Option wire_Writer :=
  if y4.length + ([(iandn .u8 (IntKind.wrap .u8 x1) (128 : Int))] : (List Int)).length ≤ lim then ((wire_Writer_Numbers.j1 k y1 L_l1) (y4 ++ ([(iandn .u8 (IntKind.wrap .u8 x1) (128 : Int))] : (List Int)))) else none

def wire_Writer_Numbers.j3 (k : Nat) (y5 : Int) (L_l2 : Int → (List Int) → Option wire_Writer) (y7 : (List Int)) : Option wire_Writer :=
  L_l2 (isub .i64 y5 (7 : Int)) y7

def wire_Writer_Numbers.l2 (k : Nat) (x1 : Int) (y1 : Int) (L_l1 : Int → (List Int) → Option wire_Writer) : Nat → Int → (List Int) → Option wire_Writer
  | 0, _, _ => none
  | n + 1, y5, y6 =>
    if (decide (y5 > (0 : Int))) = true then (if 0 ≤ y5 then (if (decide ((ishr .u32 x1 y5) > (0 : Int))) = true then (if 0 ≤ y5 then ((some (([(ior .u8 (IntKind.wrap .u8 (ishr .u32 x1 y5)) (128 : Int))] : (List Int)))).bind fun x2 => if y6.length + x2.length ≤ lim then ((wire_Writer_Numbers.j3 k y5 (wire_Writer_Numbers.l2 k x1 y1 L_l1 n)) (y6 ++ x2)) else none) else none) else ((wire_Writer_Numbers.j3 k y5 (wire_Writer_Numbers.l2 k x1 y1 L_l1 n)) y6)) else none) else ((wire_Writer_Numbers.j2 k x1 y1 L_l1) y6)

def wire_Writer_Numbers.l1 (k : Nat) (p2 : (List Int)) : Nat → Int → (List Int) → Option wire_Writer
  | 0, _, _ => none
  | n + 1, y1, y2 =>
    if (decide (y1 < (p2.length : Int))) = true then ((at? p2 y1).bind fun x1 => wire_Writer_Numbers.l2 k x1 y1 (wire_Writer_Numbers.l1 k p2 n) k (28 : Int) y2) else (some (⟨y2⟩ : wire_Writer))

def wire_Writer_Numbers (k : Nat) (p1 : wire_Writer) (p2 : (List Int)) : Option wire_Writer :=
  wire_Writer_Numbers.l1 k p2 k (0 : Int) p1.out

/- (*cabal/wire.Writer).Texts -/
def wire_Writer_Texts.l1 (k : Nat) (p2 : (List (List Int))) : Nat → Int → (List Int) → Option wire_Writer
  | 0, _, _ => none
  | n + 1, y1, y2 =>
    if (decide (y1 < (p2.length : Int))) = true then ((at? p2 y1).bind fun x1 => (wire_Writer_Numbers k (⟨y2⟩ : wire_Writer) ([(IntKind.wrap .u32 (x1.length : Int))] : (List Int))).bind fun x2 => if x2.out.length + x1.length ≤ lim then ((wire_Writer_Texts.l1 k p2 n) (iadd .i64 y1 (1 : Int)) (x2.out ++ x1)) else none) else (some (⟨y2⟩ : wire_Writer))

def wire_Writer_Texts (k : Nat) (p1 : wire_Writer) (p2 : (List (List Int))) : Option wire_Writer :=
  wire_Writer_Texts.l1 k p2 k (0 : Int) p1.out

/- (*cabal/wire.Writer).String -/
def wire_Writer_String (k : Nat) (p1 : wire_Writer) : Option (List Int) :=
  some p1.out

/- cabal/wire.NewReader -/
def wire_NewReader (k : Nat) (p1 : (List Int)) : Option wire_Reader :=
  some (⟨p1, (0 : Int)⟩ : wire_Reader)

/- (*cabal/wire.Reader).number -/
def wire_Reader_number.j1 (k : Nat) (y1 : Int) : Option (Int × Int × Int) :=
  some ((0 : Int), (0 : Int), y1)

def wire_Reader_number.j2 (k : Nat) (x1 : Int) (x2 : Int) (y3 : Int) (L_l1 : Int → Int → Option (Int × Int × Int)) (y4 : Bool) : Option (Int × Int × Int) :=
  if y4 = true then ((wire_Reader_number.j1 k) (4 : Int)) else (if (decide (x1 < (128 : Int))) = true then (some ((IntKind.wrap .u32 x2), (iadd .i64 y3 (1 : Int)), (0 : Int))) else (L_l1 x2 (iadd .i64 y3 (1 : Int))))

def wire_Reader_number.l1 (k : Nat) (p1 : wire_Reader) : Nat → Int → Int → Option (Int × Int × Int)
  | 0, _, _ => none
  | n + 1, y2, y3 =>
    if (decide (y3 < (p1.s.length : Int))) = true then ((at? p1.s y3).bind fun x1 => (some ((ior .u64 (ishl .u64 y2 (7 : Int)) (IntKind.wrap .u64 (iandn .u8 x1 (128 : Int)))))).bind fun x2 => if (if (x1 == (128 : Int)) then (y3 == (0 : Int)) else false) = true then ((wire_Reader_number.j2 k x1 x2 y3 (wire_Reader_number.l1 k p1 n)) (if (x1 == (128 : Int)) then (y3 == (0 : Int)) else false)) else (if (decide (x2 ≥ (4294967296 : Int))) = true then ((wire_Reader_number.j2 k x1 x2 y3 (wire_Reader_number.l1 k p1 n)) (decide (x2 ≥ (4294967296 : Int)))) else ((wire_Reader_number.j2 k x1 x2 y3 (wire_Reader_number.l1 k p1 n)) (if (y3 == (4 : Int)) then (decide (x1 ≥ (128 : Int))) else false)))) else ((wire_Reader_number.j1 k) (3 : Int))

def wire_Reader_number (k : Nat) (p1 : wire_Reader) : Option (Int × Int × Int) :=
  wire_Reader_number.l1 k p1 k (0 : Int) (0 : Int)

/- (*cabal/wire.Reader).Number -/
def wire_Reader_Number (k : Nat) (p1 : wire_Reader) : Option (Int × wire_Reader) :=
  if (p1.err != (0 : Int)) = true then (some ((0 : Int), p1)) else ((wire_Reader_number k p1).bind fun x1 => (cut? p1.s x1.2.1 (p1.s.length : Int)).bind fun x2 => some (x1.1, { { p1 with s := x2 } with err := x1.2.2 }))

/- (*cabal/wire.Reader).count -/
def wire_Reader_count (k : Nat) (p1 : wire_Reader) (p2 : Int) : Option (Int × wire_Reader) :=
  (wire_Reader_Number k p1).bind fun x1 => (some ((decide ((IntKind.wrap .i64 x1.1) > (if (0 : Int) > p2 then (0 : Int) else p2))))).bind fun x2 => if (if (x1.2.err == (0 : Int)) then x2 else false) = true then (some ((0 : Int), { { x1.2 with s := p1.s } with err := (5 : Int) })) else (some ((IntKind.wrap .i64 x1.1), x1.2))

/- (*cabal/wire.Reader).take -/
def wire_Reader_take.j1 (k : Nat) (p2 : Int) (y1 : wire_Reader) : Option ((List Int) × wire_Reader) :=
  if (y1.err != (0 : Int)) = true then (some (([] : List Int), y1)) else ((cut? y1.s (0 : Int) p2).bind fun x2 => (cut? y1.s p2 (y1.s.length : Int)).bind fun x3 => some (x2, { y1 with s := x3 }))

def wire_Reader_take (k : Nat) (p1 : wire_Reader) (p2 : Int) : Option ((List Int) × wire_Reader) :=
  (some ((if (p1.err == (0 : Int)) then (decide (p2 > (p1.s.length : Int))) else false))).bind fun x1 => if x1 = true then ((wire_Reader_take.j1 k p2) ({ p1 with err := (3 : Int) })) else ((wire_Reader_take.j1 k p2) p1)

/- (*cabal/wire.Reader).Text -/
def wire_Reader_Text.j1 (k : Nat) (x2 : ((List Int) × wire_Reader)) (y1 : wire_Reader) : Option ((List Int) × wire_Reader) :=
  some (x2.1, y1)

def wire_Reader_Text (k : Nat) (p1 : wire_Reader) (p2 : Int) : Option ((List Int) × wire_Reader) :=
  (wire_Reader_count k p1 p2).bind fun x1 => (wire_Reader_take k x1.2 x1.1).bind fun x2 => if (x2.2.err != (0 : Int)) = true then ((wire_Reader_Text.j1 k x2) ({ x2.2 with s := p1.s })) else ((wire_Reader_Text.j1 k x2) x2.2)

/- (*cabal/wire.Reader).End -/
def wire_Reader_End (k : Nat) (p1 : wire_Reader) : Option Int :=
  (some ((if (p1.err == (0 : Int)) then (decide ((p1.s.length : Int) > (0 : Int))) else false))).bind fun x1 => if x1 = true then (some (6 : Int)) else (some p1.err)

/- cabal/caballaw10.alive -/
def caballaw10_alive (k : Nat) : Option Bool :=
  (some (([(0 : Int), (127 : Int), (128 : Int), (4294967295 : Int)] : (List Int)))).bind fun x1 => (wire_Writer_Numbers k (⟨([] : (List Int))⟩ : wire_Writer) x1).bind fun x2 => (wire_Writer_Texts k x2 ([([97, 98] : List Int)] : (List (List Int)))).bind fun x3 => (wire_Writer_String k x3).bind fun x4 => (wire_NewReader k x4).bind fun x5 => (wire_Reader_Number k x5).bind fun x6 => (wire_Reader_Number k x6.2).bind fun x7 => (wire_Reader_Number k x7.2).bind fun x8 => (wire_Reader_Number k x8.2).bind fun x9 => (wire_Writer_String k x3).bind fun x10 => (some ((decide (x10 = ([0, 127, 129, 0, 143, 255, 255, 255, 127, 2, 97, 98] : List Int))))).bind fun x11 => (some ((if (if x11 then (x6.1 == (0 : Int)) else false) then (x7.1 == (127 : Int)) else false))).bind fun x12 => (some ((if (if x12 then (x8.1 == (128 : Int)) else false) then (x9.1 == (4294967295 : Int)) else false))).bind fun x13 => (if (x13 == true) = true then wire_Reader_Text k x9.2 (2 : Int) else some ([], x9.2)).bind fun x14 => (if ((if x13 then (decide (x14.1 = ([97, 98] : List Int))) else false) == true) = true then wire_Reader_End k x14.2 else some (0 : Int)).bind fun x15 => (some ((if (if x13 then (decide (x14.1 = ([97, 98] : List Int))) else false) then (x15 == (0 : Int)) else false))).bind fun x16 => some x16

/- cabal/caballaw10.great -/
def caballaw10_great.j1 (k : Nat) : Option Bool :=
  some false

def caballaw10_great.l1 (k : Nat) (p1 : (List caballaw10_Item)) : Nat → Int → Option Bool
  | 0, _ => none
  | n + 1, y1 =>
    if (decide (y1 < (p1.length : Int))) = true then ((at? p1 y1).bind fun x1 => (if ((decide ((x1.Text.length : Int) > (300 : Int))) == false) = true then at? p1 y1 else some (⟨(0 : Int), (0 : Int), [], [], []⟩ : caballaw10_Item)).bind fun x2 => (some ((if (decide ((x1.Text.length : Int) > (300 : Int))) then true else (decide ((x2.Numbers.length : Int) > (60 : Int)))))).bind fun x3 => (if (x3 == false) = true then at? p1 y1 else some (⟨(0 : Int), (0 : Int), [], [], []⟩ : caballaw10_Item)).bind fun x4 => if (if x3 then true else (decide ((x4.Keys.length : Int) > (20 : Int)))) = true then (some true) else ((caballaw10_great.l1 k p1 n) (iadd .i64 y1 (1 : Int)))) else ((caballaw10_great.j1 k))

def caballaw10_great (k : Nat) (p1 : (List caballaw10_Item)) : Option Bool :=
  if (decide ((p1.length : Int) > (20 : Int))) = true then (some true) else (caballaw10_great.l1 k p1 k (0 : Int))

/- cabal/cabalref10.Number -/
def cabalref10_Number.j1 (k : Nat) (y1 : (List Int)) : Option (List Int) :=
  some y1

def cabalref10_Number.l1 (k : Nat) : Nat → Int → (List Int) → Option (List Int)
  | 0, _, _ => none
  | n + 1, y2, y3 =>
    if (decide (y2 > (0 : Int))) = true then ((some (([(IntKind.wrap .u8 (iadd .u32 (irem y2 (128 : Int)) (128 : Int)))] : (List Int)))).bind fun x1 => if x1.length + y3.length ≤ lim then ((cabalref10_Number.l1 k n) (iquo .u32 y2 (128 : Int)) (x1 ++ y3)) else none) else ((cabalref10_Number.j1 k) y3)

def cabalref10_Number (k : Nat) (p1 : Int) : Option (List Int) :=
  cabalref10_Number.l1 k k (iquo .u32 p1 (128 : Int)) ([(IntKind.wrap .u8 (irem p1 (128 : Int)))] : (List Int))

/- cabal/cabalref10.Text -/
def cabalref10_Text (k : Nat) (p1 : (List Int)) : Option (List Int) :=
  (cabalref10_Number k (IntKind.wrap .u32 (p1.length : Int))).bind fun x1 => if x1.length + p1.length ≤ lim then (some (x1 ++ p1)) else none

/- (*cabal/wire.Writer).Keys -/
def wire_Writer_Keys.l1 (k : Nat) (p2 : (List (List Int))) : Nat → Int → (List Int) → Option wire_Writer
  | 0, _, _ => none
  | n + 1, y1, y2 =>
    if (decide (y1 < (p2.length : Int))) = true then ((at? p2 y1).bind fun x1 => (cut? x1 (0 : Int) (32 : Int)).bind fun x2 => if y2.length + x2.length ≤ lim then ((wire_Writer_Keys.l1 k p2 n) (iadd .i64 y1 (1 : Int)) (y2 ++ x2)) else none) else (some (⟨y2⟩ : wire_Writer))

def wire_Writer_Keys (k : Nat) (p1 : wire_Writer) (p2 : (List (List Int))) : Option wire_Writer :=
  wire_Writer_Keys.l1 k p2 k (0 : Int) p1.out

/- (*cabal/wire.Writer).KeyList -/
def wire_Writer_KeyList (k : Nat) (p1 : wire_Writer) (p2 : (List (List Int))) : Option wire_Writer :=
  (wire_Writer_Numbers k p1 ([(IntKind.wrap .u32 (p2.length : Int))] : (List Int))).bind fun x1 => (wire_Writer_Keys k x1 p2).bind fun x2 => some x2

/- cabal/cabalref10.KeyList -/
def cabalref10_KeyList.j1 (k : Nat) (y1 : (List Int)) : Option (List Int) :=
  some y1

def cabalref10_KeyList.l1 (k : Nat) (p1 : (List (List Int))) : Nat → (List Int) → Int → Option (List Int)
  | 0, _, _ => none
  | n + 1, y2, y3 =>
    if (decide (y3 < (p1.length : Int))) = true then ((at? p1 y3).bind fun x2 => (cut? x2 (0 : Int) (32 : Int)).bind fun x3 => if y2.length + x3.length ≤ lim then ((cabalref10_KeyList.l1 k p1 n) (y2 ++ x3) (iadd .i64 y3 (1 : Int))) else none) else ((cabalref10_KeyList.j1 k) y2)

def cabalref10_KeyList (k : Nat) (p1 : (List (List Int))) : Option (List Int) :=
  (cabalref10_Number k (IntKind.wrap .u32 (p1.length : Int))).bind fun x1 => cabalref10_KeyList.l1 k p1 k x1 (0 : Int)

/- (*cabal/wire.Writer).NumberList -/
def wire_Writer_NumberList (k : Nat) (p1 : wire_Writer) (p2 : (List Int)) : Option wire_Writer :=
  (wire_Writer_Numbers k p1 ([(IntKind.wrap .u32 (p2.length : Int))] : (List Int))).bind fun x1 => (wire_Writer_Numbers k x1 p2).bind fun x2 => some x2

/- cabal/cabalref10.NumberList -/
def cabalref10_NumberList.j1 (k : Nat) (y1 : (List Int)) : Option (List Int) :=
  some y1

def cabalref10_NumberList.l1 (k : Nat) (p1 : (List Int)) : Nat → (List Int) → Int → Option (List Int)
  | 0, _, _ => none
  | n + 1, y2, y3 =>
    if (decide (y3 < (p1.length : Int))) = true then ((at? p1 y3).bind fun x2 => (cabalref10_Number k x2).bind fun x3 => if y2.length + x3.length ≤ lim then ((cabalref10_NumberList.l1 k p1 n) (y2 ++ x3) (iadd .i64 y3 (1 : Int))) else none) else ((cabalref10_NumberList.j1 k) y2)

def cabalref10_NumberList (k : Nat) (p1 : (List Int)) : Option (List Int) :=
  (cabalref10_Number k (IntKind.wrap .u32 (p1.length : Int))).bind fun x1 => cabalref10_NumberList.l1 k p1 k x1 (0 : Int)

/- cabal/caballaw10.write -/
def caballaw10_write.j1 (k : Nat) (y1 : (List Int)) (y2 : (List Int)) : Option ((List Int) × wire_Writer) :=
  some (y1, (⟨y2⟩ : wire_Writer))

def caballaw10_write.l1 (k : Nat) (p2 : caballaw10_Item) (x1 : wire_Writer) : Nat → (List Int) → Int → Option ((List Int) × wire_Writer)
  | 0, _, _ => none
  | n + 1, y3, y4 =>
    if (decide (y4 < (p2.Numbers.length : Int))) = true then ((at? p2.Numbers y4).bind fun x2 => (cabalref10_Number k x2).bind fun x3 => if y3.length + x3.length ≤ lim then ((caballaw10_write.l1 k p2 x1 n) (y3 ++ x3) (iadd .i64 y4 (1 : Int))) else none) else ((caballaw10_write.j1 k) y3 x1.out)

def caballaw10_write.l2 (k : Nat) (p2 : caballaw10_Item) (x7 : wire_Writer) : Nat → (List Int) → Int → Option ((List Int) × wire_Writer)
  | 0, _, _ => none
  | n + 1, y5, y6 =>
    if (decide (y6 < (p2.Keys.length : Int))) = true then ((at? p2.Keys y6).bind fun x8 => (cut? x8 (0 : Int) (32 : Int)).bind fun x9 => if y5.length + x9.length ≤ lim then ((caballaw10_write.l2 k p2 x7 n) (y5 ++ x9) (iadd .i64 y6 (1 : Int))) else none) else ((caballaw10_write.j1 k) y5 x7.out)

def caballaw10_write (k : Nat) (p1 : wire_Writer) (p2 : caballaw10_Item) : Option ((List Int) × wire_Writer) :=
  if ((irem p2.Kind (5 : Int)) == (0 : Int)) = true then ((wire_Writer_Numbers k p1 p2.Numbers).bind fun x1 => caballaw10_write.l1 k p2 x1 k ([] : List Int) (0 : Int)) else (if ((irem p2.Kind (5 : Int)) == (1 : Int)) = true then ((wire_Writer_Texts k p1 ([p2.Text, p2.Text] : (List (List Int)))).bind fun x4 => (cabalref10_Text k p2.Text).bind fun x5 => (cabalref10_Text k p2.Text).bind fun x6 => if x5.length + x6.length ≤ lim then ((caballaw10_write.j1 k) (x5 ++ x6) x4.out) else none) else (if ((irem p2.Kind (5 : Int)) == (2 : Int)) = true then ((wire_Writer_Keys k p1 p2.Keys).bind fun x7 => caballaw10_write.l2 k p2 x7 k ([] : List Int) (0 : Int)) else (if ((irem p2.Kind (5 : Int)) == (3 : Int)) = true then ((wire_Writer_KeyList k p1 p2.Keys).bind fun x10 => (cabalref10_KeyList k p2.Keys).bind fun x11 => (caballaw10_write.j1 k) x11 x10.out) else (if ((irem p2.Kind (5 : Int)) == (4 : Int)) = true then ((wire_Writer_NumberList k p1 p2.Numbers).bind fun x12 => (cabalref10_NumberList k p2.Numbers).bind fun x13 => (caballaw10_write.j1 k) x13 x12.out) else ((caballaw10_write.j1 k) ([] : List Int) p1.out)))))

/- cabal/caballaw10.WireWrites -/
def caballaw10_WireWrites.j1 (k : Nat) (y1 : (List Int)) (y2 : (List Int)) : Option Bool :=
  (caballaw10_alive k).bind fun x4 => (if (x4 == true) = true then wire_Writer_String k (⟨y2⟩ : wire_Writer) else some []).bind fun x5 => some (if x4 then (decide (x5 = y1)) else false)

def caballaw10_WireWrites.l1 (k : Nat) (p1 : (List caballaw10_Item)) : Nat → (List Int) → Int → (List Int) → Option Bool
  | 0, _, _, _ => none
  | n + 1, y3, y4, y5 =>
    if (decide (y4 < (p1.length : Int))) = true then ((at? p1 y4).bind fun x6 => (caballaw10_write k (⟨y5⟩ : wire_Writer) x6).bind fun x7 => if y3.length + x7.1.length ≤ lim then ((wire_Writer_String k x7.2).bind fun x8 => if (!decide (x8 = (y3 ++ x7.1))) = true then (some false) else ((caballaw10_WireWrites.l1 k p1 n) (y3 ++ x7.1) (iadd .i64 y4 (1 : Int)) x7.2.out)) else none) else ((caballaw10_WireWrites.j1 k) y3 y5)

def caballaw10_WireWrites (k : Nat) (p1 : (List caballaw10_Item)) : Option Bool :=
  (caballaw10_alive k).bind fun x1 => if (!x1) = true then (some false) else ((caballaw10_great k p1).bind fun x2 => if x2 = true then ((caballaw10_alive k).bind fun x3 => some x3) else (caballaw10_WireWrites.l1 k p1 k ([] : List Int) (0 : Int) ([] : (List Int))))

/- (*cabal/wire.Reader).Key -/
def wire_Reader_Key (k : Nat) (p1 : wire_Reader) : Option ((List Int) × wire_Reader) :=
  (wire_Reader_take k p1 (32 : Int)).bind fun x1 => if x1.1.length ≤ ((32 : Int).toNat - (0 : Int).toNat) then ((some (((List.replicate 32 (0 : Int)).take (0 : Int).toNat ++ x1.1 ++ (List.replicate 32 (0 : Int)).drop ((0 : Int).toNat + x1.1.length)))).bind fun x2 => some (x2, x1.2)) else none

/- cabal/wire.list[cabal/api.Key] -/
def wire_list_api_Key_wire_Reader_Key.j1 (k : Nat) (y1 : wire_Reader) (y2 : (List (List Int))) : Option ((List (List Int)) × wire_Reader) :=
  some (y2, y1)

def wire_list_api_Key_wire_Reader_Key.l1 (k : Nat) (x1 : (Int × wire_Reader)) (p1 : wire_Reader) : Nat → Int → wire_Reader → (List (List Int)) → Option ((List (List Int)) × wire_Reader)
  | 0, _, _, _ => none
  | n + 1, y3, y4, y5 =>
    if (decide (y3 < x1.1)) = true then ((wire_Reader_Key k y4).bind fun x2 => if (x2.2.err != (0 : Int)) = true then (some (([] : (List (List Int))), { x2.2 with s := p1.s })) else (if y5.length + ([x2.1] : (List (List Int))).length ≤ lim then ((wire_list_api_Key_wire_Reader_Key.l1 k x1 p1 n) (iadd .i64 y3 (1 : Int)) x2.2 (y5 ++ ([x2.1] : (List (List Int))))) else none)) else ((wire_list_api_Key_wire_Reader_Key.j1 k) y4 y5)

def wire_list_api_Key_wire_Reader_Key (k : Nat) (p1 : wire_Reader) (p2 : Int) : Option ((List (List Int)) × wire_Reader) :=
  (wire_Reader_count k p1 p2).bind fun x1 => wire_list_api_Key_wire_Reader_Key.l1 k x1 p1 k (0 : Int) x1.2 ([] : (List (List Int)))

/- (*cabal/wire.Reader).KeyList -/
def wire_Reader_KeyList (k : Nat) (p1 : wire_Reader) (p2 : Int) : Option ((List (List Int)) × wire_Reader) :=
  (wire_list_api_Key_wire_Reader_Key k p1 p2).bind fun x1 => some (x1.1, x1.2)

/- cabal/wire.list[uint32] -/
def wire_list_uint32_wire_Reader_Number.j1 (k : Nat) (y1 : wire_Reader) (y2 : (List Int)) : Option ((List Int) × wire_Reader) :=
  some (y2, y1)

def wire_list_uint32_wire_Reader_Number.l1 (k : Nat) (x1 : (Int × wire_Reader)) (p1 : wire_Reader) : Nat → Int → wire_Reader → (List Int) → Option ((List Int) × wire_Reader)
  | 0, _, _, _ => none
  | n + 1, y3, y4, y5 =>
    if (decide (y3 < x1.1)) = true then ((wire_Reader_Number k y4).bind fun x2 => if (x2.2.err != (0 : Int)) = true then (some (([] : (List Int)), { x2.2 with s := p1.s })) else (if y5.length + ([x2.1] : (List Int)).length ≤ lim then ((wire_list_uint32_wire_Reader_Number.l1 k x1 p1 n) (iadd .i64 y3 (1 : Int)) x2.2 (y5 ++ ([x2.1] : (List Int)))) else none)) else ((wire_list_uint32_wire_Reader_Number.j1 k) y4 y5)

def wire_list_uint32_wire_Reader_Number (k : Nat) (p1 : wire_Reader) (p2 : Int) : Option ((List Int) × wire_Reader) :=
  (wire_Reader_count k p1 p2).bind fun x1 => wire_list_uint32_wire_Reader_Number.l1 k x1 p1 k (0 : Int) x1.2 ([] : (List Int))

/- (*cabal/wire.Reader).NumberList -/
def wire_Reader_NumberList (k : Nat) (p1 : wire_Reader) (p2 : Int) : Option ((List Int) × wire_Reader) :=
  (wire_list_uint32_wire_Reader_Number k p1 p2).bind fun x1 => some (x1.1, x1.2)

/- cabal/caballaw10.WireCut -/
def caballaw10_WireCut.j1 (k : Nat) (y1 : wire_Reader) : Option Bool :=
  (caballaw10_alive k).bind fun x10 => (if (x10 == true) = true then wire_Reader_End k y1 else some (0 : Int)).bind fun x11 => some (if x10 then (x11 == (3 : Int)) else false)

def caballaw10_WireCut.l1 (k : Nat) (p1 : caballaw10_Item) : Nat → Int → wire_Reader → Option Bool
  | 0, _, _ => none
  | n + 1, y2, y3 =>
    if (decide (y2 < (p1.Numbers.length : Int))) = true then ((wire_Reader_Number k y3).bind fun x12 => (caballaw10_WireCut.l1 k p1 n) (iadd .i64 y2 (1 : Int)) x12.2) else ((caballaw10_WireCut.j1 k) y3)

def caballaw10_WireCut.l2 (k : Nat) (p1 : caballaw10_Item) : Nat → Int → wire_Reader → Option Bool
  | 0, _, _ => none
  | n + 1, y4, y5 =>
    if (decide (y4 < (p1.Keys.length : Int))) = true then ((wire_Reader_Key k y5).bind fun x15 => (caballaw10_WireCut.l2 k p1 n) (iadd .i64 y4 (1 : Int)) x15.2) else ((caballaw10_WireCut.j1 k) y5)

def caballaw10_WireCut (k : Nat) (p1 : caballaw10_Item) (p2 : Int) : Option Bool :=
  (caballaw10_alive k).bind fun x1 => if (!x1) = true then (some false) else ((caballaw10_great k ([p1] : (List caballaw10_Item))).bind fun x2 => if x2 = true then ((caballaw10_alive k).bind fun x3 => some x3) else ((caballaw10_write k (⟨([] : (List Int))⟩ : wire_Writer) p1).bind fun x4 => (wire_Writer_String k x4.2).bind fun x5 => if ((x5.length : Int) == (0 : Int)) = true then ((caballaw10_alive k).bind fun x6 => some x6) else (if (IntKind.wrap .u64 (x5.length : Int)) ≠ 0 then ((some ((IntKind.wrap .i64 (irem (IntKind.wrap .u64 p2) (IntKind.wrap .u64 (x5.length : Int)))))).bind fun x7 => (cut? x5 (0 : Int) x7).bind fun x8 => (wire_NewReader k x8).bind fun x9 => if ((irem p1.Kind (5 : Int)) == (0 : Int)) = true then (caballaw10_WireCut.l1 k p1 k (0 : Int) x9) else (if ((irem p1.Kind (5 : Int)) == (1 : Int)) = true then ((wire_Reader_Text k x9 (300 : Int)).bind fun x13 => (wire_Reader_Text k x13.2 (300 : Int)).bind fun x14 => (caballaw10_WireCut.j1 k) x14.2) else (if ((irem p1.Kind (5 : Int)) == (2 : Int)) = true then (caballaw10_WireCut.l2 k p1 k (0 : Int) x9) else (if ((irem p1.Kind (5 : Int)) == (3 : Int)) = true then ((wire_Reader_KeyList k x9 (20 : Int)).bind fun x16 => (caballaw10_WireCut.j1 k) x16.2) else (if ((irem p1.Kind (5 : Int)) == (4 : Int)) = true then ((wire_Reader_NumberList k x9 (60 : Int)).bind fun x17 => (caballaw10_WireCut.j1 k) x17.2) else ((caballaw10_WireCut.j1 k) x9)))))) else none)))

/- (*cabal/wire.Reader).KeyList -/
def wire_Reader_KeyList_w2 (k : Nat) (p1 : wire_Reader) (p2 : Int) : Option ((List (List Int)) × wire_Reader) :=
  (wire_list_api_Key_wire_Reader_Key k p1 p2).bind fun x1 => some (x1.1, x1.2)

/- cabal/cabalref08.SameKeys -/
def cabalref08_SameKeys.j1 (k : Nat) : Option Bool :=
  some true

def cabalref08_SameKeys.l1 (k : Nat) (p1 : (List (List Int))) (p2 : (List (List Int))) : Nat → Int → Option Bool
  | 0, _ => none
  | n + 1, y1 =>
    if (decide (y1 < (p1.length : Int))) = true then ((at? p1 y1).bind fun x1 => (at? p2 y1).bind fun x2 => if (!decide (x1 = x2)) = true then (some false) else ((cabalref08_SameKeys.l1 k p1 p2 n) (iadd .i64 y1 (1 : Int)))) else ((cabalref08_SameKeys.j1 k))

def cabalref08_SameKeys (k : Nat) (p1 : (List (List Int))) (p2 : (List (List Int))) : Option Bool :=
  if ((p1.length : Int) != (p2.length : Int)) = true then (some false) else (cabalref08_SameKeys.l1 k p1 p2 k (0 : Int))

/- (*cabal/wire.Reader).NumberList -/
def wire_Reader_NumberList_w2 (k : Nat) (p1 : wire_Reader) (p2 : Int) : Option ((List Int) × wire_Reader) :=
  (wire_list_uint32_wire_Reader_Number k p1 p2).bind fun x1 => some (x1.1, x1.2)

/- cabal/cabalref10.SameNumbers -/
def cabalref10_SameNumbers.j1 (k : Nat) : Option Bool :=
  some true

def cabalref10_SameNumbers.l1 (k : Nat) (p1 : (List Int)) (p2 : (List Int)) : Nat → Int → Option Bool
  | 0, _ => none
  | n + 1, y1 =>
    if (decide (y1 < (p1.length : Int))) = true then ((at? p1 y1).bind fun x1 => (at? p2 y1).bind fun x2 => if (x1 != x2) = true then (some false) else ((cabalref10_SameNumbers.l1 k p1 p2 n) (iadd .i64 y1 (1 : Int)))) else ((cabalref10_SameNumbers.j1 k))

def cabalref10_SameNumbers (k : Nat) (p1 : (List Int)) (p2 : (List Int)) : Option Bool :=
  if ((p1.length : Int) != (p2.length : Int)) = true then (some false) else (cabalref10_SameNumbers.l1 k p1 p2 k (0 : Int))

/- (*cabal/wire.Reader).Left -/
def wire_Reader_Left (k : Nat) (p1 : wire_Reader) : Option Int :=
  some (p1.s.length : Int)

/- cabal/caballaw10.WireBack -/
def caballaw10_WireBack.j2 (k : Nat) (y2 : wire_Reader) : Option Bool :=
  (caballaw10_alive k).bind fun x6 => (if (x6 == true) = true then wire_Reader_End k y2 else some (0 : Int)).bind fun x7 => (if ((if x6 then (x7 == (0 : Int)) else false) == true) = true then wire_Reader_Left k y2 else some (0 : Int)).bind fun x8 => (some ((if (if x6 then (x7 == (0 : Int)) else false) then (x8 == (0 : Int)) else false))).bind fun x9 => some x9

def caballaw10_WireBack.j3 (k : Nat) (y3 : Int) (L_l1 : Int → wire_Reader → Option Bool) (y5 : wire_Reader) : Option Bool :=
  L_l1 (iadd .i64 y3 (1 : Int)) y5

def caballaw10_WireBack.l2 (k : Nat) (x10 : caballaw10_Item) (y3 : Int) (L_l1 : Int → wire_Reader → Option Bool) : Nat → Int → wire_Reader → Option Bool
  | 0, _, _ => none
  | n + 1, y6, y7 =>
    if (decide (y6 < (x10.Numbers.length : Int))) = true then ((wire_Reader_Number k y7).bind fun x11 => (at? x10.Numbers y6).bind fun x12 => if (x11.1 != x12) = true then (some false) else ((caballaw10_WireBack.l2 k x10 y3 L_l1 n) (iadd .i64 y6 (1 : Int)) x11.2)) else ((caballaw10_WireBack.j3 k y3 L_l1) y7)

def caballaw10_WireBack.l3 (k : Nat) (x10 : caballaw10_Item) (y3 : Int) (L_l1 : Int → wire_Reader → Option Bool) : Nat → Int → wire_Reader → Option Bool
  | 0, _, _ => none
  | n + 1, y8, y9 =>
    if (decide (y8 < (x10.Keys.length : Int))) = true then ((wire_Reader_Key k y9).bind fun x16 => (at? x10.Keys y8).bind fun x17 => if (!decide (x16.1 = x17)) = true then (some false) else ((caballaw10_WireBack.l3 k x10 y3 L_l1 n) (iadd .i64 y8 (1 : Int)) x16.2)) else ((caballaw10_WireBack.j3 k y3 L_l1) y9)

def caballaw10_WireBack.l1 (k : Nat) (p1 : (List caballaw10_Item)) : Nat → Int → wire_Reader → Option Bool
  | 0, _, _ => none
  | n + 1, y3, y4 =>
    if (decide (y3 < (p1.length : Int))) = true then ((at? p1 y3).bind fun x10 => if ((irem x10.Kind (5 : Int)) == (0 : Int)) = true then (caballaw10_WireBack.l2 k x10 y3 (caballaw10_WireBack.l1 k p1 n) k (0 : Int) y4) else (if ((irem x10.Kind (5 : Int)) == (1 : Int)) = true then ((wire_Reader_Text k y4 (300 : Int)).bind fun x13 => (if ((!decide (x13.1 = x10.Text)) == false) = true then wire_Reader_Text k x13.2 (x10.Text.length : Int) else some ([], x13.2)).bind fun x14 => (some ((if (!decide (x13.1 = x10.Text)) then true else (!decide (x14.1 = x10.Text))))).bind fun x15 => if x15 = true then (some false) else ((caballaw10_WireBack.j3 k y3 (caballaw10_WireBack.l1 k p1 n)) x14.2)) else (if ((irem x10.Kind (5 : Int)) == (2 : Int)) = true then (caballaw10_WireBack.l3 k x10 y3 (caballaw10_WireBack.l1 k p1 n) k (0 : Int) y4) else (if ((irem x10.Kind (5 : Int)) == (3 : Int)) = true then ((wire_Reader_KeyList_w2 k y4 (20 : Int)).bind fun x18 => (cabalref08_SameKeys k x18.1 x10.Keys).bind fun x19 => if (!x19) = true then (some false) else ((caballaw10_WireBack.j3 k y3 (caballaw10_WireBack.l1 k p1 n)) x18.2)) else (if ((irem x10.Kind (5 : Int)) == (4 : Int)) = true then ((wire_Reader_NumberList_w2 k y4 (60 : Int)).bind fun x20 => (cabalref10_SameNumbers k x20.1 x10.Numbers).bind fun x21 => if (!x21) = true then (some false) else ((caballaw10_WireBack.j3 k y3 (caballaw10_WireBack.l1 k p1 n)) x20.2)) else ((caballaw10_WireBack.j3 k y3 (caballaw10_WireBack.l1 k p1 n)) y4)))))) else ((caballaw10_WireBack.j2 k) y4)

def caballaw10_WireBack.j1 (k : Nat) (p1 : (List caballaw10_Item)) (y1 : (List Int)) : Option Bool :=
  (wire_Writer_String k (⟨y1⟩ : wire_Writer)).bind fun x4 => (wire_NewReader k x4).bind fun x5 => caballaw10_WireBack.l1 k p1 k (0 : Int) x5

def caballaw10_WireBack.l4 (k : Nat) (p1 : (List caballaw10_Item)) : Nat → Int → (List Int) → Option Bool
  | 0, _, _ => none
  | n + 1, y10, y11 =>
    if (decide (y10 < (p1.length : Int))) = true then ((at? p1 y10).bind fun x22 => (caballaw10_write k (⟨y11⟩ : wire_Writer) x22).bind fun x23 => (caballaw10_WireBack.l4 k p1 n) (iadd .i64 y10 (1 : Int)) x23.2.out) else ((caballaw10_WireBack.j1 k p1) y11)

def caballaw10_WireBack (k : Nat) (p1 : (List caballaw10_Item)) : Option Bool :=
  (caballaw10_alive k).bind fun x1 => if (!x1) = true then (some false) else ((caballaw10_great k p1).bind fun x2 => if x2 = true then ((caballaw10_alive k).bind fun x3 => some x3) else (caballaw10_WireBack.l4 k p1 k (0 : Int) ([] : (List Int))))

/- cabal/caballaw10.WireOne -/
def caballaw10_WireOne.j1 (k : Nat) (p2 : Int) (p1 : (List Int)) (y1 : wire_Reader) (y2 : (List Int)) : Option Bool :=
  (if ((decide (p2 < (0 : Int))) == false) = true then wire_Reader_End k y1 else some (0 : Int)).bind fun x4 => (if (((decide (p2 < (0 : Int))) == false) && ((x4 != (0 : Int)) == true)) = true then wire_Reader_End k y1 else some (0 : Int)).bind fun x5 => (some ((if (decide (p2 < (0 : Int))) then true else (if (x4 != (0 : Int)) then (x5 != (6 : Int)) else false)))).bind fun x6 => if x6 = true then ((caballaw10_alive k).bind fun x7 => some x7) else ((caballaw10_alive k).bind fun x8 => (if (x8 == true) = true then wire_Writer_String k (⟨y2⟩ : wire_Writer) else some []).bind fun x9 => (if (x8 == true) = true then wire_Reader_Left k y1 else some (0 : Int)).bind fun x10 => (if (x8 == true) = true then cut? p1 (0 : Int) (isub .i64 (p1.length : Int) x10) else some []).bind fun x11 => some (if x8 then (decide (x9 = x11)) else false))

def caballaw10_WireOne (k : Nat) (p1 : (List Int)) (p2 : Int) : Option Bool :=
  (caballaw10_alive k).bind fun x1 => if (!x1) = true then (some false) else (if (decide ((p1.length : Int) > (3000 : Int))) = true then ((caballaw10_alive k).bind fun x2 => some x2) else ((wire_NewReader k p1).bind fun x3 => if ((irem p2 (4 : Int)) == (0 : Int)) = true then ((wire_Reader_Number k x3).bind fun x12 => (wire_Writer_Numbers k (⟨([] : (List Int))⟩ : wire_Writer) ([x12.1] : (List Int))).bind fun x13 => (caballaw10_WireOne.j1 k p2 p1) x12.2 x13.out) else (if ((irem p2 (4 : Int)) == (1 : Int)) = true then ((wire_Reader_Text k x3 (3000 : Int)).bind fun x14 => (wire_Writer_Texts k (⟨([] : (List Int))⟩ : wire_Writer) ([x14.1] : (List (List Int)))).bind fun x15 => (caballaw10_WireOne.j1 k p2 p1) x14.2 x15.out) else (if ((irem p2 (4 : Int)) == (2 : Int)) = true then ((wire_Reader_KeyList k x3 (100 : Int)).bind fun x16 => (wire_Writer_KeyList k (⟨([] : (List Int))⟩ : wire_Writer) x16.1).bind fun x17 => (caballaw10_WireOne.j1 k p2 p1) x16.2 x17.out) else (if ((irem p2 (4 : Int)) == (3 : Int)) = true then ((wire_Reader_NumberList k x3 (3000 : Int)).bind fun x18 => (wire_Writer_NumberList k (⟨([] : (List Int))⟩ : wire_Writer) x18.1).bind fun x19 => (caballaw10_WireOne.j1 k p2 p1) x18.2 x19.out) else ((caballaw10_WireOne.j1 k p2 p1) x3 ([] : (List Int))))))))

end Go.Proofs.Pure
