/- Plain functions: what the program's functions answer, printed out of their code; kinds of their data. No condition. -/
import Derived.Test.YtankoeffbdnffaaDoorKit24
namespace Go.Proofs.Pure
open Go Go.RowKit Go.Proofs.Kit
set_option linter.unusedVariables false

structure strings_Builder where
  addr : Bool
  buf : (List Int)
  deriving DecidableEq
def t_strings_Builder (x : strings_Builder) : Bool × (List Int) × Unit := (x.addr, x.buf, ())
theorem t_strings_Builder_inj (x y : strings_Builder) (h : t_strings_Builder x = t_strings_Builder y) : x = y := by cases x; cases y; simpa [t_strings_Builder] using h
def k_strings_Builder : Kd strings_Builder := kiso (kpair (kbad 0) (kpair (ksl (kint .u8)) knil)) t_strings_Builder
theorem lg_strings_Builder_addr (x : strings_Builder) : LG k_strings_Builder (kbad 0) 0 x x.addr := LG.iso (LG.fst _ _ _)
theorem ls_strings_Builder_addr (x : strings_Builder) (y : Bool) : LS k_strings_Builder (kbad 0) 0 x y { x with addr := y } := LS.iso (LS.fst _ _ _ _)
theorem lg_strings_Builder_buf (x : strings_Builder) : LG k_strings_Builder (ksl (kint .u8)) 1 x x.buf := LG.iso (LG.snd _ (LG.fst _ _ _))
theorem ls_strings_Builder_buf (x : strings_Builder) (y : (List Int)) : LS k_strings_Builder (ksl (kint .u8)) 1 x y { x with buf := y } := LS.iso (LS.snd _ (LS.fst _ _ _ _))
structure digest_Hash where
  begun : Bool
  state : (List Int)
  rest : (List Int)
  many : Int
  taken : Int
  deriving DecidableEq
def t_digest_Hash (x : digest_Hash) : Bool × (List Int) × (List Int) × Int × Int × Unit := (x.begun, x.state, x.rest, x.many, x.taken, ())
theorem t_digest_Hash_inj (x y : digest_Hash) (h : t_digest_Hash x = t_digest_Hash y) : x = y := by cases x; cases y; simpa [t_digest_Hash] using h
def k_digest_Hash : Kd digest_Hash := kiso (kpair kbool (kpair (karr 8 (kint .u32)) (kpair (karr 64 (kint .u8)) (kpair (kint .i64) (kpair (kint .u64) knil))))) t_digest_Hash
theorem lg_digest_Hash_begun (x : digest_Hash) : LG k_digest_Hash kbool 0 x x.begun := LG.iso (LG.fst _ _ _)
theorem ls_digest_Hash_begun (x : digest_Hash) (y : Bool) : LS k_digest_Hash kbool 0 x y { x with begun := y } := LS.iso (LS.fst _ _ _ _)
theorem lg_digest_Hash_state (x : digest_Hash) : LG k_digest_Hash (karr 8 (kint .u32)) 1 x x.state := LG.iso (LG.snd _ (LG.fst _ _ _))
theorem ls_digest_Hash_state (x : digest_Hash) (y : (List Int)) : LS k_digest_Hash (karr 8 (kint .u32)) 1 x y { x with state := y } := LS.iso (LS.snd _ (LS.fst _ _ _ _))
theorem lg_digest_Hash_rest (x : digest_Hash) : LG k_digest_Hash (karr 64 (kint .u8)) 9 x x.rest := LG.iso (LG.snd _ (LG.snd _ (LG.fst _ _ _)))
theorem ls_digest_Hash_rest (x : digest_Hash) (y : (List Int)) : LS k_digest_Hash (karr 64 (kint .u8)) 9 x y { x with rest := y } := LS.iso (LS.snd _ (LS.snd _ (LS.fst _ _ _ _)))
theorem lg_digest_Hash_many (x : digest_Hash) : LG k_digest_Hash (kint .i64) 73 x x.many := LG.iso (LG.snd _ (LG.snd _ (LG.snd _ (LG.fst _ _ _))))
theorem ls_digest_Hash_many (x : digest_Hash) (y : Int) : LS k_digest_Hash (kint .i64) 73 x y { x with many := y } := LS.iso (LS.snd _ (LS.snd _ (LS.snd _ (LS.fst _ _ _ _))))
theorem lg_digest_Hash_taken (x : digest_Hash) : LG k_digest_Hash (kint .u64) 74 x x.taken := LG.iso (LG.snd _ (LG.snd _ (LG.snd _ (LG.snd _ (LG.fst _ _ _)))))
theorem ls_digest_Hash_taken (x : digest_Hash) (y : Int) : LS k_digest_Hash (kint .u64) 74 x y { x with taken := y } := LS.iso (LS.snd _ (LS.snd _ (LS.snd _ (LS.snd _ (LS.fst _ _ _ _)))))
def to_strings_Builder_1 (x : strings_Builder) : Bool × Unit × Unit := (x.addr, (), ())
def ko_strings_Builder_1 (b0 : Nat) (v1 : Value) : Kd strings_Builder := kiso (kpair (kbad b0) (kpair (kis v1) knil)) to_strings_Builder_1
theorem lgo_strings_Builder_1_addr {b0 : Nat} {v1 : Value} (x : strings_Builder) : LG (ko_strings_Builder_1 b0 v1) (kbad b0) 0 x x.addr := LG.iso (LG.fst _ _ _)
theorem lso_strings_Builder_1_addr {b0 : Nat} {v1 : Value} (x : strings_Builder) (y : Bool) : LS (ko_strings_Builder_1 b0 v1) (kbad b0) 0 x y { x with addr := y } := LS.iso (LS.fst _ _ _ _)
theorem lgo_strings_Builder_1_buf {b0 : Nat} {v1 : Value} (x : strings_Builder) : LG (ko_strings_Builder_1 b0 v1) (kis v1) 1 x () := LG.iso (LG.snd _ (LG.fst _ _ _))
theorem lsk_strings_Builder_1_to_1_at1 {b0 : Nat} {u1 v1 : Value} (x : strings_Builder) : LSK (ko_strings_Builder_1 b0 v1) (kis u1) (ko_strings_Builder_1 b0 u1) 1 x () x := LSK.iso (LSK.snd _ (LSK.fst (k := kis v1) (k' := kis u1) _ rfl _ _))

def G_digest_first : (List Int) := [1779033703, 3144134277, 1013904242, 2773480762, 1359893119, 2600822924, 528734635, 1541459225]
def G_digest_rounds : (List Int) := [1116352408, 1899447441, 3049323471, 3921009573, 961987163, 1508970993, 2453635748, 2870763221, 3624381080, 310598401, 607225278, 1426881987, 1925078388, 2162078206, 2614888103, 3248222580, 3835390401, 4022224774, 264347078, 604807628, 770255983, 1249150122, 1555081692, 1996064986, 2554220882, 2821834349, 2952996808, 3210313671, 3336571891, 3584528711, 113926993, 338241895, 666307205, 773529912, 1294757372, 1396182291, 1695183700, 1986661051, 2177026350, 2456956037, 2730485921, 2820302411, 3259730800, 3345764771, 3516065817, 3600352804, 4094571909, 275423344, 430227734, 506948616, 659060556, 883997877, 958139571, 1322822218, 1537002063, 1747873779, 1955562222, 2024104815, 2227730452, 2361852424, 2428436474, 2756734187, 3204031479, 3329325298]


/- cabal/code.by10 -/
def code_by10.j1 (k : Nat) (y1 : Int) (y2 : (List Int)) : Option (Int × (List Int)) :=
  some ((IntKind.wrap .u8 y1), y2)

def code_by10.l1 (k : Nat) : Nat → Int → Int → (List Int) → Option (Int × (List Int))
  | 0, _, _, _ => none
  | n + 1, y3, y4, y5 =>
    if (decide (y4 < (32 : Int))) = true then (if (0 ≤ y4 ∧ y4 < 32) then ((at? y5 y4).bind fun x1 => (some ((iquo .i64 (ior .i64 (ishl .i64 y3 (8 : Int)) (IntKind.wrap .i64 x1)) (10 : Int)))).bind fun x2 => if (0 ≤ y4 ∧ y4 < 32) then ((set? y5 y4 (IntKind.wrap .u8 x2)).bind fun x3 => (some ((irem (ior .i64 (ishl .i64 y3 (8 : Int)) (IntKind.wrap .i64 x1)) (10 : Int)))).bind fun x4 => (code_by10.l1 k n) x4 (iadd .i64 y4 (1 : Int)) x3) else none) else none) else ((code_by10.j1 k) y3 y5)

def code_by10 (k : Nat) (p1 : (List Int)) : Option (Int × (List Int)) :=
  code_by10.l1 k k (0 : Int) (0 : Int) p1

/- (*cabal/code.digits).check -/
def code_digits_check.j1 (k : Nat) (y1 : Int) : Option (Int × Int) :=
  (some ((iquo .i64 (isub .i64 (98 : Int) (irem (imul .i64 (100 : Int) y1) (97 : Int))) (10 : Int)))).bind fun x2 => (some ((irem (isub .i64 (98 : Int) (irem (imul .i64 (100 : Int) y1) (97 : Int))) (10 : Int)))).bind fun x3 => some ((IntKind.wrap .u8 x2), (IntKind.wrap .u8 x3))

def code_digits_check.l1 (k : Nat) (x1 : (List Int)) : Nat → Int → Int → Option (Int × Int)
  | 0, _, _ => none
  | n + 1, y2, y3 =>
    if (decide (y3 < (x1.length : Int))) = true then ((at? x1 y3).bind fun x4 => (some ((irem (iadd .i64 (imul .i64 (10 : Int) y2) (IntKind.wrap .i64 x4)) (97 : Int)))).bind fun x5 => (code_digits_check.l1 k x1 n) x5 (iadd .i64 y3 (1 : Int))) else ((code_digits_check.j1 k) y2)

def code_digits_check (k : Nat) (p1 : (List Int)) : Option (Int × Int) :=
  (cut? p1 (0 : Int) (78 : Int)).bind fun x1 => code_digits_check.l1 k x1 k (0 : Int) (0 : Int)

/- (*strings.Builder).copyCheck -/
def strings_Builder_copyCheck (k : Nat) (p1 : strings_Builder) : Option strings_Builder :=
  if (!p1.addr) = true then (some (⟨true, p1.buf⟩ : strings_Builder)) else (if (!p1.addr) = true then (none) else (some p1))

/- (*strings.Builder).WriteByte -/
def strings_Builder_WriteByte (k : Nat) (p1 : strings_Builder) (p2 : Int) : Option (Unit × strings_Builder) :=
  (strings_Builder_copyCheck k p1).bind fun x1 => if x1.buf.length + ([p2] : (List Int)).length ≤ lim then (some ((), (⟨x1.addr, (x1.buf ++ ([p2] : (List Int)))⟩ : strings_Builder))) else none

/- (*strings.Builder).String -/
def strings_Builder_String (k : Nat) (p1 : strings_Builder) : Option (List Int) :=
  if 0 < p1.buf.length then (some p1.buf) else none

/- cabal/code.Write -/
def code_Write.j2 (k : Nat) (y2 : Bool) (y3 : (List Int)) : Option (List Int) :=
  (strings_Builder_String k (⟨y2, y3⟩ : strings_Builder)).bind fun x4 => some x4

def code_Write.j3 (k : Nat) (x5 : Int) (y4 : Int) (L_l1 : Int → Bool → (List Int) → Option (List Int)) (y7 : Bool) (y8 : (List Int)) : Option (List Int) :=
  (strings_Builder_WriteByte k (⟨y7, y8⟩ : strings_Builder) (iadd .u8 (48 : Int) x5)).bind fun x7 => L_l1 (iadd .i64 y4 (1 : Int)) x7.2.addr x7.2.buf

def code_Write.l1 (k : Nat) (x3 : (List Int)) : Nat → Int → Bool → (List Int) → Option (List Int)
  | 0, _, _, _ => none
  | n + 1, y4, y5, y6 =>
    if (decide (y4 < (80 : Int))) = true then ((at? x3 y4).bind fun x5 => if y4 < 80 then ((some ((if (decide (y4 > (0 : Int))) then ((irem y4 (5 : Int)) == (0 : Int)) else false))).bind fun x6 => if x6 = true then ((strings_Builder_WriteByte k (⟨y5, y6⟩ : strings_Builder) (32 : Int)).bind fun x8 => (code_Write.j3 k x5 y4 (code_Write.l1 k x3 n)) x8.2.addr x8.2.buf) else ((code_Write.j3 k x5 y4 (code_Write.l1 k x3 n)) y5 y6)) else none) else ((code_Write.j2 k) y5 y6)

def code_Write.j1 (k : Nat) (y1 : (List Int)) : Option (List Int) :=
  (code_digits_check k y1).bind fun x1 => (set? y1 (78 : Int) x1.1).bind fun x2 => (set? x2 (79 : Int) x1.2).bind fun x3 => code_Write.l1 k x3 k (0 : Int) false ([] : (List Int))

def code_Write.l2 (k : Nat) : Nat → Int → (List Int) → (List Int) → Option (List Int)
  | 0, _, _, _ => none
  | n + 1, y9, y10, y11 =>
    if (decide (y9 < (78 : Int))) = true then ((code_by10 k y10).bind fun x9 => if (0 ≤ (isub .i64 (77 : Int) y9) ∧ (isub .i64 (77 : Int) y9) < 80) then ((set? y11 (isub .i64 (77 : Int) y9) x9.1).bind fun x10 => (code_Write.l2 k n) (iadd .i64 y9 (1 : Int)) x9.2 x10) else none) else ((code_Write.j1 k) y11)

def code_Write (k : Nat) (p1 : (List Int)) : Option (List Int) :=
  code_Write.l2 k k (0 : Int) p1 (List.replicate 80 (0 : Int))

/- cabal/code.read -/
def code_read.j1 (k : Nat) (y1 : (List Int)) : Option ((List Int) × Bool) :=
  some (y1, true)

def code_read.j2 (k : Nat) (y2 : Int) (L_l1 : Int → (List Int) → Option ((List Int) × Bool)) (y4 : (List Int)) : Option ((List Int) × Bool) :=
  L_l1 (iadd .i64 y2 (1 : Int)) y4

def code_read.j3 (k : Nat) (y3 : (List Int)) (y2 : Int) (p1 : (List Int)) (L_l1 : Int → (List Int) → Option ((List Int) × Bool)) (y5 : Bool) : Option ((List Int) × Bool) :=
  if y5 = true then (some (y3, false)) else (if (!((irem y2 (6 : Int)) == (5 : Int))) = true then ((at? p1 y2).bind fun x3 => if (0 ≤ (isub .i64 y2 (iquo .i64 y2 (6 : Int))) ∧ (isub .i64 y2 (iquo .i64 y2 (6 : Int))) < 80) then ((set? y3 (isub .i64 y2 (iquo .i64 y2 (6 : Int))) (isub .u8 x3 (48 : Int))).bind fun x4 => (code_read.j2 k y2 L_l1) x4) else none) else ((code_read.j2 k y2 L_l1) y3))

def code_read.l1 (k : Nat) (p1 : (List Int)) : Nat → Int → (List Int) → Option ((List Int) × Bool)
  | 0, _, _ => none
  | n + 1, y2, y3 =>
    if (decide (y2 < (p1.length : Int))) = true then ((if (((irem y2 (6 : Int)) == (5 : Int)) == true) = true then at? p1 y2 else some (0 : Int)).bind fun x1 => (some ((if ((irem y2 (6 : Int)) == (5 : Int)) then (x1 != (32 : Int)) else false))).bind fun x2 => if x2 = true then ((code_read.j3 k y3 y2 p1 (code_read.l1 k p1 n)) x2) else ((if ((!((irem y2 (6 : Int)) == (5 : Int))) == true) = true then at? p1 y2 else some (0 : Int)).bind fun x5 => (if (((!((irem y2 (6 : Int)) == (5 : Int))) == true) && ((decide (x5 < (48 : Int))) == false)) = true then at? p1 y2 else some (0 : Int)).bind fun x6 => (some ((if (decide (x5 < (48 : Int))) then true else (decide (x6 > (57 : Int)))))).bind fun x7 => (code_read.j3 k y3 y2 p1 (code_read.l1 k p1 n)) (if (!((irem y2 (6 : Int)) == (5 : Int))) then x7 else false))) else ((code_read.j1 k) y3)

def code_read (k : Nat) (p1 : (List Int)) : Option ((List Int) × Bool) :=
  if ((p1.length : Int) != (95 : Int)) = true then (some ((List.replicate 80 (0 : Int)), false)) else (code_read.l1 k p1 k (0 : Int) (List.replicate 80 (0 : Int)))

/- cabal/code.times10 -/
def code_times10.j1 (k : Nat) (y1 : Int) (y2 : (List Int)) : Option (Bool × (List Int)) :=
  some ((y1 == (0 : Int)), y2)

def code_times10.l1 (k : Nat) : Nat → Int → Int → (List Int) → Option (Bool × (List Int))
  | 0, _, _, _ => none
  | n + 1, y3, y4, y5 =>
    if (decide (y4 ≥ (0 : Int))) = true then (if (0 ≤ y4 ∧ y4 < 32) then ((at? y5 y4).bind fun x1 => (some ((IntKind.wrap .u8 (iadd .i64 y3 (imul .i64 (10 : Int) (IntKind.wrap .i64 x1)))))).bind fun x2 => if (0 ≤ y4 ∧ y4 < 32) then ((set? y5 y4 x2).bind fun x3 => (some ((ishr .i64 (iadd .i64 y3 (imul .i64 (10 : Int) (IntKind.wrap .i64 x1))) (8 : Int)))).bind fun x4 => (code_times10.l1 k n) x4 (isub .i64 y4 (1 : Int)) x3) else none) else none) else ((code_times10.j1 k) y3 y5)

def code_times10 (k : Nat) (p1 : (List Int)) (p2 : Int) : Option (Bool × (List Int)) :=
  code_times10.l1 k k (IntKind.wrap .i64 p2) (31 : Int) p1

/- cabal/code.Read -/
def code_Read.j1 (k : Nat) (y1 : (List Int)) : Option ((List Int) × Int) :=
  some (y1, (0 : Int))

def code_Read.l1 (k : Nat) (x1 : ((List Int) × Bool)) : Nat → Int → (List Int) → Option ((List Int) × Int)
  | 0, _, _ => none
  | n + 1, y2, y3 =>
    if (decide (y2 < (78 : Int))) = true then (if (0 ≤ y2 ∧ y2 < (((78 : Int).toNat - (0 : Int).toNat : Nat) : Int)) then ((at? x1.1 y2).bind fun x7 => (code_times10 k y3 x7).bind fun x8 => if (!x8.1) = true then ((some (([(0 : Int), (0 : Int), (0 : Int), (0 : Int), (0 : Int), (0 : Int), (0 : Int), (0 : Int), (0 : Int), (0 : Int), (0 : Int), (0 : Int), (0 : Int), (0 : Int), (0 : Int), (0 : Int), (0 : Int), (0 : Int), (0 : Int), (0 : Int), (0 : Int), (0 : Int), (0 : Int), (0 : Int), (0 : Int), (0 : Int), (0 : Int), (0 : Int), (0 : Int), (0 : Int), (0 : Int), (0 : Int)] : (List Int)))).bind fun x9 => some (x9, (4 : Int))) else ((code_Read.l1 k x1 n) (iadd .i64 y2 (1 : Int)) x8.2)) else none) else ((code_Read.j1 k) y3)

def code_Read (k : Nat) (p1 : (List Int)) : Option ((List Int) × Int) :=
  (code_read k p1).bind fun x1 => if (!x1.2) = true then ((some (([(0 : Int), (0 : Int), (0 : Int), (0 : Int), (0 : Int), (0 : Int), (0 : Int), (0 : Int), (0 : Int), (0 : Int), (0 : Int), (0 : Int), (0 : Int), (0 : Int), (0 : Int), (0 : Int), (0 : Int), (0 : Int), (0 : Int), (0 : Int), (0 : Int), (0 : Int), (0 : Int), (0 : Int), (0 : Int), (0 : Int), (0 : Int), (0 : Int), (0 : Int), (0 : Int), (0 : Int), (0 : Int)] : (List Int)))).bind fun x2 => some (x2, (4 : Int))) else ((code_digits_check k x1.1).bind fun x3 => (at? x1.1 (78 : Int)).bind fun x4 => (if ((x4 != x3.1) == false) = true then at? x1.1 (79 : Int) else some (0 : Int)).bind fun x5 => if (if (x4 != x3.1) then true else (x5 != x3.2)) = true then ((some (([(0 : Int), (0 : Int), (0 : Int), (0 : Int), (0 : Int), (0 : Int), (0 : Int), (0 : Int), (0 : Int), (0 : Int), (0 : Int), (0 : Int), (0 : Int), (0 : Int), (0 : Int), (0 : Int), (0 : Int), (0 : Int), (0 : Int), (0 : Int), (0 : Int), (0 : Int), (0 : Int), (0 : Int), (0 : Int), (0 : Int), (0 : Int), (0 : Int), (0 : Int), (0 : Int), (0 : Int), (0 : Int)] : (List Int)))).bind fun x6 => some (x6, (2 : Int))) else (code_Read.l1 k x1 k (0 : Int) (List.replicate 32 (0 : Int))))

/- cabal/caballaw27.alive -/
def caballaw27_alive (k : Nat) : Option Bool :=
  (some (([(0 : Int), (0 : Int), (0 : Int), (0 : Int), (0 : Int), (0 : Int), (0 : Int), (0 : Int), (0 : Int), (0 : Int), (0 : Int), (0 : Int), (0 : Int), (0 : Int), (0 : Int), (0 : Int), (0 : Int), (0 : Int), (0 : Int), (0 : Int), (0 : Int), (0 : Int), (0 : Int), (0 : Int), (0 : Int), (0 : Int), (0 : Int), (0 : Int), (0 : Int), (0 : Int), (0 : Int), (0 : Int)] : (List Int)))).bind fun x1 => (code_Write k x1).bind fun x2 => (some (([(1 : Int), (2 : Int), (3 : Int), (0 : Int), (0 : Int), (0 : Int), (0 : Int), (0 : Int), (0 : Int), (0 : Int), (0 : Int), (0 : Int), (0 : Int), (0 : Int), (0 : Int), (0 : Int), (0 : Int), (0 : Int), (0 : Int), (0 : Int), (0 : Int), (0 : Int), (0 : Int), (0 : Int), (0 : Int), (0 : Int), (0 : Int), (0 : Int), (0 : Int), (0 : Int), (0 : Int), (0 : Int)] : (List Int)))).bind fun x3 => (code_Write k x3).bind fun x4 => (code_Read k x4).bind fun x5 => (if (((x2.length : Int) == (95 : Int)) == true) = true then cut? x2 (88 : Int) (x2.length : Int) else some []).bind fun x6 => (some ((if ((x2.length : Int) == (95 : Int)) then (decide (x6 = ([48, 32, 48, 48, 48, 57, 56] : List Int))) else false))).bind fun x7 => (some (([(1 : Int), (2 : Int), (3 : Int), (0 : Int), (0 : Int), (0 : Int), (0 : Int), (0 : Int), (0 : Int), (0 : Int), (0 : Int), (0 : Int), (0 : Int), (0 : Int), (0 : Int), (0 : Int), (0 : Int), (0 : Int), (0 : Int), (0 : Int), (0 : Int), (0 : Int), (0 : Int), (0 : Int), (0 : Int), (0 : Int), (0 : Int), (0 : Int), (0 : Int), (0 : Int), (0 : Int), (0 : Int)] : (List Int)))).bind fun x8 => (some ((if (if x7 then (decide (x5.1 = x8)) else false) then (x5.2 == (0 : Int)) else false))).bind fun x9 => some x9

/- cabal/cabalref27.Decimal -/
def cabalref27_Decimal.j1 (k : Nat) (y1 : (List Int)) : Option (List Int) :=
  some y1

def cabalref27_Decimal.j2 (k : Nat) (y2 : Int) (L_l1 : Int → (List Int) → Option (List Int)) (y4 : (List Int)) : Option (List Int) :=
  L_l1 (iadd .i64 y2 (1 : Int)) y4

def cabalref27_Decimal.l2 (k : Nat) (y2 : Int) (L_l1 : Int → (List Int) → Option (List Int)) : Nat → Int → Int → (List Int) → Option (List Int)
  | 0, _, _, _ => none
  | n + 1, y5, y6, y7 =>
    if (decide (y6 ≥ (0 : Int))) = true then (if (0 ≤ y6 ∧ y6 < y7.length) then ((at? y7 y6).bind fun x2 => if (0 ≤ y6 ∧ y6 < y7.length) then ((set? y7 y6 (irem (iadd .i64 (imul .i64 x2 (256 : Int)) y5) (10 : Int))).bind fun x3 => (cabalref27_Decimal.l2 k y2 L_l1 n) (iquo .i64 (iadd .i64 (imul .i64 x2 (256 : Int)) y5) (10 : Int)) (isub .i64 y6 (1 : Int)) x3) else none) else none) else ((cabalref27_Decimal.j2 k y2 L_l1) y7)

def cabalref27_Decimal.l1 (k : Nat) (p1 : (List Int)) : Nat → Int → (List Int) → Option (List Int)
  | 0, _, _ => none
  | n + 1, y2, y3 =>
    if (decide (y2 < (32 : Int))) = true then (if (0 ≤ y2 ∧ y2 < 32) then ((at? p1 y2).bind fun x1 => cabalref27_Decimal.l2 k y2 (cabalref27_Decimal.l1 k p1 n) k (IntKind.wrap .i64 x1) (77 : Int) y3) else none) else ((cabalref27_Decimal.j1 k) y3)

def cabalref27_Decimal (k : Nat) (p1 : (List Int)) : Option (List Int) :=
  if (0 ≤ (78 : Int) ∧ (78 : Int).toNat ≤ lim) then (cabalref27_Decimal.l1 k p1 k (0 : Int) (List.replicate (78 : Int).toNat (0 : Int))) else none

/- cabal/cabalref27.Check -/
def cabalref27_Check.j1 (k : Nat) (y1 : Int) : Option Int :=
  some (isub .i64 (98 : Int) (irem (imul .i64 y1 (100 : Int)) (97 : Int)))

def cabalref27_Check.l1 (k : Nat) (p1 : (List Int)) : Nat → Int → Int → Option Int
  | 0, _, _ => none
  | n + 1, y2, y3 =>
    if (decide (y3 < (78 : Int))) = true then ((at? p1 y3).bind fun x1 => (cabalref27_Check.l1 k p1 n) (irem (iadd .i64 (imul .i64 y2 (10 : Int)) x1) (97 : Int)) (iadd .i64 y3 (1 : Int))) else ((cabalref27_Check.j1 k) y2)

def cabalref27_Check (k : Nat) (p1 : (List Int)) : Option Int :=
  cabalref27_Check.l1 k p1 k (0 : Int) (0 : Int)

/- cabal/cabalref27.Grouped -/
def cabalref27_Grouped.j1 (k : Nat) (y1 : (List Int)) : Option (List Int) :=
  some y1

def cabalref27_Grouped.j2 (k : Nat) (p1 : (List Int)) (y3 : Int) (L_l1 : (List Int) → Int → Option (List Int)) (y4 : (List Int)) : Option (List Int) :=
  (at? p1 y3).bind fun x2 => if y4.length + ([(IntKind.wrap .u8 (iadd .i64 (48 : Int) x2))] : (List Int)).length ≤ lim then (L_l1 (y4 ++ ([(IntKind.wrap .u8 (iadd .i64 (48 : Int) x2))] : (List Int))) (iadd .i64 y3 (1 : Int))) else none

def cabalref27_Grouped.l1 (k : Nat) (p1 : (List Int)) : Nat → (List Int) → Int → Option (List Int)
  | 0, _, _ => none
  | n + 1, y2, y3 =>
    if (decide (y3 < (80 : Int))) = true then ((some ((if (decide (y3 > (0 : Int))) then ((irem y3 (5 : Int)) == (0 : Int)) else false))).bind fun x1 => if x1 = true then (if y2.length + ([32] : List Int).length ≤ lim then ((cabalref27_Grouped.j2 k p1 y3 (cabalref27_Grouped.l1 k p1 n)) (y2 ++ ([32] : List Int))) else none) else ((cabalref27_Grouped.j2 k p1 y3 (cabalref27_Grouped.l1 k p1 n)) y2)) else ((cabalref27_Grouped.j1 k) y2)

def cabalref27_Grouped (k : Nat) (p1 : (List Int)) : Option (List Int) :=
  cabalref27_Grouped.l1 k p1 k ([] : List Int) (0 : Int)

/- cabal/cabalref27.Write -/
def cabalref27_Write (k : Nat) (p1 : (List Int)) : Option (List Int) :=
  (cabalref27_Decimal k p1).bind fun x1 => (cabalref27_Check k x1).bind fun x2 => if x1.length + ([(iquo .i64 x2 (10 : Int)), (irem x2 (10 : Int))] : (List Int)).length ≤ lim then ((cabalref27_Grouped k (x1 ++ ([(iquo .i64 x2 (10 : Int)), (irem x2 (10 : Int))] : (List Int)))).bind fun x3 => some x3) else none

/- bytes.Compare -/
def bytes_Compare (k : Nat) (p1 : (List Int)) (p2 : (List Int)) : Option Int :=
  some (cmpB p1 p2)

/- (*cabal/digest.Hash).begin -/
def digest_Hash_begin (k : Nat) (p1 : digest_Hash) : Option digest_Hash :=
  if (!p1.begun) = true then (some ({ { p1 with begun := true } with state := G_digest_first })) else (some p1)

/- math/bits.RotateLeft32 -/
def math_bits_RotateLeft32 (k : Nat) (p1 : Int) (p2 : Int) : Option Int :=
  if 0 ≤ (iand .u64 (IntKind.wrap .u64 p2) (31 : Int)) then (if 0 ≤ (isub .u64 (32 : Int) (iand .u64 (IntKind.wrap .u64 p2) (31 : Int))) then ((some ((ishr .u32 p1 (isub .u64 (32 : Int) (iand .u64 (IntKind.wrap .u64 p2) (31 : Int)))))).bind fun x1 => (some ((ior .u32 (ishl .u32 p1 (iand .u64 (IntKind.wrap .u64 p2) (31 : Int))) x1))).bind fun x2 => some x2) else none) else none

/- cabal/digest.turn -/
def digest_turn (k : Nat) (p1 : Int) (p2 : Int) (p3 : Int) (p4 : Int) : Option Int :=
  (math_bits_RotateLeft32 k p1 (isub .i64 0 p2)).bind fun x1 => (math_bits_RotateLeft32 k p1 (isub .i64 0 p3)).bind fun x2 => if 0 ≤ p4 then (some (ixor .u32 (ixor .u32 x1 x2) (ishr .u32 p1 p4))) else none

/- cabal/digest.spin -/
def digest_spin (k : Nat) (p1 : Int) (p2 : Int) (p3 : Int) (p4 : Int) : Option Int :=
  (math_bits_RotateLeft32 k p1 (isub .i64 0 p2)).bind fun x1 => (math_bits_RotateLeft32 k p1 (isub .i64 0 p3)).bind fun x2 => (math_bits_RotateLeft32 k p1 (isub .i64 0 p4)).bind fun x3 => some (ixor .u32 (ixor .u32 x1 x2) x3)

/- (*cabal/digest.Hash).take -/
def digest_Hash_take.j4 (k : Nat) (y4 : digest_Hash) : Option digest_Hash :=
  some ({ y4 with many := (0 : Int) })

def digest_Hash_take.l1 (k : Nat) (y3 : (List Int)) : Nat → Int → digest_Hash → Option digest_Hash
  | 0, _, _ => none
  | n + 1, y5, y6 =>
    if (decide (y5 < (8 : Int))) = true then (if (0 ≤ y5 ∧ y5 < 8) then ((at? y6.state y5).bind fun x1 => if (0 ≤ y5 ∧ y5 < 8) then ((at? y3 y5).bind fun x2 => if (0 ≤ y5 ∧ y5 < 8) then ((set? y6.state y5 (iadd .u32 x1 x2)).bind fun x3 => (digest_Hash_take.l1 k y3 n) (iadd .i64 y5 (1 : Int)) ({ y6 with state := x3 })) else none) else none) else none) else ((digest_Hash_take.j4 k) y6)

def digest_Hash_take.j3 (k : Nat) (p1 : digest_Hash) (y3 : (List Int)) : Option digest_Hash :=
  digest_Hash_take.l1 k y3 k (0 : Int) p1

def digest_Hash_take.l2 (k : Nat) (y2 : (List Int)) (p1 : digest_Hash) : Nat → Int → (List Int) → Option digest_Hash
  | 0, _, _ => none
  | n + 1, y7, y8 =>
    if (decide (y7 < (64 : Int))) = true then ((at? G_digest_rounds y7).bind fun x4 => if y7 < 64 then ((at? y8 (7 : Int)).bind fun x5 => (at? y8 (4 : Int)).bind fun x6 => (digest_spin k x6 (6 : Int) (11 : Int) (25 : Int)).bind fun x7 => (at? y8 (4 : Int)).bind fun x8 => (at? y8 (5 : Int)).bind fun x9 => (at? y8 (4 : Int)).bind fun x10 => (at? y8 (6 : Int)).bind fun x11 => (some ((iadd .u32 (iadd .u32 x5 x7) (ixor .u32 (iand .u32 x8 x9) (iand .u32 (inot .u32 x10) x11))))).bind fun x12 => if (0 ≤ y7 ∧ y7 < 64) then ((at? y2 y7).bind fun x13 => (at? y8 (0 : Int)).bind fun x14 => (digest_spin k x14 (2 : Int) (13 : Int) (22 : Int)).bind fun x15 => (at? y8 (0 : Int)).bind fun x16 => (at? y8 (1 : Int)).bind fun x17 => (at? y8 (0 : Int)).bind fun x18 => (at? y8 (2 : Int)).bind fun x19 => (at? y8 (1 : Int)).bind fun x20 => (at? y8 (2 : Int)).bind fun x21 => (some ((ixor .u32 (ixor .u32 (iand .u32 x16 x17) (iand .u32 x18 x19)) (iand .u32 x20 x21)))).bind fun x22 => (at? y8 (0 : Int)).bind fun x23 => (at? y8 (1 : Int)).bind fun x24 => (at? y8 (2 : Int)).bind fun x25 => (at? y8 (3 : Int)).bind fun x26 => (at? y8 (4 : Int)).bind fun x27 => (at? y8 (5 : Int)).bind fun x28 => (at? y8 (6 : Int)).bind fun x29 => (some (([(iadd .u32 (iadd .u32 (iadd .u32 x12 x4) x13) (iadd .u32 x15 x22)), x23, x24, x25, (iadd .u32 x26 (iadd .u32 (iadd .u32 x12 x4) x13)), x27, x28, x29] : (List Int)))).bind fun x30 => (digest_Hash_take.l2 k y2 p1 n) (iadd .i64 y7 (1 : Int)) x30) else none) else none) else ((digest_Hash_take.j3 k p1) y8)

def digest_Hash_take.j2 (k : Nat) (p1 : digest_Hash) (y2 : (List Int)) : Option digest_Hash :=
  digest_Hash_take.l2 k y2 p1 k (0 : Int) p1.state

def digest_Hash_take.l3 (k : Nat) (p1 : digest_Hash) : Nat → Int → (List Int) → Option digest_Hash
  | 0, _, _ => none
  | n + 1, y9, y10 =>
    if (decide (y9 < (64 : Int))) = true then (if (0 ≤ (isub .i64 y9 (2 : Int)) ∧ (isub .i64 y9 (2 : Int)) < 64) then ((at? y10 (isub .i64 y9 (2 : Int))).bind fun x31 => (digest_turn k x31 (17 : Int) (19 : Int) (10 : Int)).bind fun x32 => if (0 ≤ (isub .i64 y9 (7 : Int)) ∧ (isub .i64 y9 (7 : Int)) < 64) then ((at? y10 (isub .i64 y9 (7 : Int))).bind fun x33 => if (0 ≤ (isub .i64 y9 (15 : Int)) ∧ (isub .i64 y9 (15 : Int)) < 64) then ((at? y10 (isub .i64 y9 (15 : Int))).bind fun x34 => (digest_turn k x34 (7 : Int) (18 : Int) (3 : Int)).bind fun x35 => if (0 ≤ (isub .i64 y9 (16 : Int)) ∧ (isub .i64 y9 (16 : Int)) < 64) then ((at? y10 (isub .i64 y9 (16 : Int))).bind fun x36 => if (0 ≤ y9 ∧ y9 < 64) then ((set? y10 y9 (iadd .u32 (iadd .u32 (iadd .u32 x32 x33) x35) x36)).bind fun x37 => (digest_Hash_take.l3 k p1 n) (iadd .i64 y9 (1 : Int)) x37) else none) else none) else none) else none) else none) else ((digest_Hash_take.j2 k p1) y10)

def digest_Hash_take.j1 (k : Nat) (p1 : digest_Hash) (y1 : (List Int)) : Option digest_Hash :=
  digest_Hash_take.l3 k p1 k (16 : Int) y1

def digest_Hash_take.j5 (k : Nat) (y11 : Int) (L_l4 : Int → (List Int) → Option digest_Hash) (y13 : (List Int)) : Option digest_Hash :=
  L_l4 (iadd .i64 y11 (1 : Int)) y13

def digest_Hash_take.l5 (k : Nat) (x38 : Int) (y11 : Int) (p1 : digest_Hash) (L_l4 : Int → (List Int) → Option digest_Hash) : Nat → Int → (List Int) → Option digest_Hash
  | 0, _, _ => none
  | n + 1, y14, y15 =>
    if (decide (y14 < x38)) = true then (if (0 ≤ y14 ∧ y14 < (((iadd .i64 (imul .i64 (4 : Int) y11) (4 : Int)).toNat - (imul .i64 (4 : Int) y11).toNat : Nat) : Int)) then ((at? p1.rest ((imul .i64 (4 : Int) y11) + y14)).bind fun x39 => if (0 ≤ y11 ∧ y11 < 64) then ((at? y15 y11).bind fun x40 => if (0 ≤ y11 ∧ y11 < 64) then ((set? y15 y11 (ior .u32 (ishl .u32 x40 (8 : Int)) (IntKind.wrap .u32 x39))).bind fun x41 => (digest_Hash_take.l5 k x38 y11 p1 L_l4 n) (iadd .i64 y14 (1 : Int)) x41) else none) else none) else none) else ((digest_Hash_take.j5 k y11 L_l4) y15)

def digest_Hash_take.l4 (k : Nat) (p1 : digest_Hash) : Nat → Int → (List Int) → Option digest_Hash
  | 0, _, _ => none
  | n + 1, y11, y12 =>
    if (decide (y11 < (16 : Int))) = true then (if (0 ≤ (imul .i64 (4 : Int) y11) ∧ (imul .i64 (4 : Int) y11) ≤ (iadd .i64 (imul .i64 (4 : Int) y11) (4 : Int)) ∧ (iadd .i64 (imul .i64 (4 : Int) y11) (4 : Int)) ≤ ((64 : Nat) : Int)) then ((some ((((iadd .i64 (imul .i64 (4 : Int) y11) (4 : Int)).toNat - (imul .i64 (4 : Int) y11).toNat : Nat) : Int))).bind fun x38 => digest_Hash_take.l5 k x38 y11 p1 (digest_Hash_take.l4 k p1 n) k (0 : Int) y12) else none) else ((digest_Hash_take.j1 k p1) y12)

def digest_Hash_take (k : Nat) (p1 : digest_Hash) : Option digest_Hash :=
  digest_Hash_take.l4 k p1 k (0 : Int) (List.replicate 64 (0 : Int))

/- (*cabal/digest.Hash).put -/
def digest_Hash_put (k : Nat) (p1 : digest_Hash) (p2 : Int) : Option digest_Hash :=
  if (0 ≤ p1.many ∧ p1.many < 64) then ((set? p1.rest p1.many p2).bind fun x1 => (some ({ { p1 with rest := x1 } with many := (iadd .i64 (({ p1 with rest := x1 }).many) (1 : Int)) })).bind fun x2 => if (x2.many == (64 : Int)) = true then ((digest_Hash_take k x2).bind fun x3 => some x3) else (some x2)) else none

/- (*cabal/digest.Hash).Write -/
def digest_Hash_Write.j1 (k : Nat) (y1 : Int) (L_l1 : Int → digest_Hash → Option digest_Hash) (y3 : digest_Hash) : Option digest_Hash :=
  L_l1 (iadd .i64 y1 (1 : Int)) y3

def digest_Hash_Write.j2 (k : Nat) (x2 : (List Int)) (y1 : Int) (L_l1 : Int → digest_Hash → Option digest_Hash) (y4 : digest_Hash) : Option digest_Hash :=
  (some ({ y4 with taken := (iadd .u64 y4.taken (IntKind.wrap .u64 (x2.length : Int))) })).bind fun x3 => (digest_Hash_Write.j1 k y1 L_l1) x3

def digest_Hash_Write.l2 (k : Nat) (x2 : (List Int)) (y1 : Int) (L_l1 : Int → digest_Hash → Option digest_Hash) : Nat → Int → digest_Hash → Option digest_Hash
  | 0, _, _ => none
  | n + 1, y5, y6 =>
    if (decide (y5 < (x2.length : Int))) = true then ((at? x2 y5).bind fun x4 => (digest_Hash_put k y6 x4).bind fun x5 => (digest_Hash_Write.l2 k x2 y1 L_l1 n) (iadd .i64 y5 (1 : Int)) x5) else ((digest_Hash_Write.j2 k x2 y1 L_l1) y6)

def digest_Hash_Write.l1 (k : Nat) (p2 : (List (List Int))) : Nat → Int → digest_Hash → Option digest_Hash
  | 0, _, _ => none
  | n + 1, y1, y2 =>
    if (decide (y1 < (p2.length : Int))) = true then ((at? p2 y1).bind fun x2 => digest_Hash_Write.l2 k x2 y1 (digest_Hash_Write.l1 k p2 n) k (0 : Int) y2) else (some y2)

def digest_Hash_Write (k : Nat) (p1 : digest_Hash) (p2 : (List (List Int))) : Option digest_Hash :=
  (digest_Hash_begin k p1).bind fun x1 => digest_Hash_Write.l1 k p2 k (0 : Int) x1

/- (*cabal/digest.Hash).Sum -/
def digest_Hash_Sum.j3 (k : Nat) (y3 : (List Int)) : Option (List Int) :=
  some y3

def digest_Hash_Sum.l1 (k : Nat) (y2 : digest_Hash) : Nat → Int → (List Int) → Option (List Int)
  | 0, _, _ => none
  | n + 1, y4, y5 =>
    if (decide (y4 < (8 : Int))) = true then ((at? y2.state y4).bind fun x3 => if y4 < 8 then (if (0 ≤ (imul .i64 (4 : Int) y4) ∧ (imul .i64 (4 : Int) y4) < 32) then ((set? y5 (imul .i64 (4 : Int) y4) (IntKind.wrap .u8 (ishr .u32 x3 (24 : Int)))).bind fun x4 => if (0 ≤ (iadd .i64 (imul .i64 (4 : Int) y4) (1 : Int)) ∧ (iadd .i64 (imul .i64 (4 : Int) y4) (1 : Int)) < 32) then ((set? x4 (iadd .i64 (imul .i64 (4 : Int) y4) (1 : Int)) (IntKind.wrap .u8 (ishr .u32 x3 (16 : Int)))).bind fun x5 => if (0 ≤ (iadd .i64 (imul .i64 (4 : Int) y4) (2 : Int)) ∧ (iadd .i64 (imul .i64 (4 : Int) y4) (2 : Int)) < 32) then ((set? x5 (iadd .i64 (imul .i64 (4 : Int) y4) (2 : Int)) (IntKind.wrap .u8 (ishr .u32 x3 (8 : Int)))).bind fun x6 => if (0 ≤ (iadd .i64 (imul .i64 (4 : Int) y4) (3 : Int)) ∧ (iadd .i64 (imul .i64 (4 : Int) y4) (3 : Int)) < 32) then ((set? x6 (iadd .i64 (imul .i64 (4 : Int) y4) (3 : Int)) (IntKind.wrap .u8 x3)).bind fun x7 => (digest_Hash_Sum.l1 k y2 n) (iadd .i64 y4 (1 : Int)) x7) else none) else none) else none) else none) else none) else ((digest_Hash_Sum.j3 k) y5)

def digest_Hash_Sum.j2 (k : Nat) (y2 : digest_Hash) : Option (List Int) :=
  digest_Hash_Sum.l1 k y2 k (0 : Int) (List.replicate 32 (0 : Int))

def digest_Hash_Sum.l2 (k : Nat) : Nat → Int → digest_Hash → Option (List Int)
  | 0, _, _ => none
  | n + 1, y6, y7 =>
    if (decide (y6 ≥ (0 : Int))) = true then (if 0 ≤ y6 then ((digest_Hash_put k y7 (IntKind.wrap .u8 (ishr .u64 (imul .u64 (8 : Int) y7.taken) y6))).bind fun x8 => (digest_Hash_Sum.l2 k n) (isub .i64 y6 (8 : Int)) x8) else none) else ((digest_Hash_Sum.j2 k) y7)

def digest_Hash_Sum.j1 (k : Nat) (y1 : digest_Hash) : Option (List Int) :=
  digest_Hash_Sum.l2 k k (56 : Int) y1

def digest_Hash_Sum.l3 (k : Nat) : Nat → digest_Hash → Option (List Int)
  | 0, _ => none
  | n + 1, y8 =>
    if (y8.many != (56 : Int)) = true then ((digest_Hash_put k y8 (0 : Int)).bind fun x9 => (digest_Hash_Sum.l3 k n) x9) else ((digest_Hash_Sum.j1 k) y8)

def digest_Hash_Sum (k : Nat) (p1 : digest_Hash) : Option (List Int) :=
  (digest_Hash_begin k p1).bind fun x1 => (digest_Hash_put k x1 (128 : Int)).bind fun x2 => digest_Hash_Sum.l3 k k x2

/- cabal/digest.Sum -/
def digest_Sum (k : Nat) (p1 : (List (List Int))) : Option (List Int) :=
  (digest_Hash_Write k (⟨false, (List.replicate 8 (0 : Int)), (List.replicate 64 (0 : Int)), (0 : Int), (0 : Int)⟩ : digest_Hash) p1).bind fun x1 => (digest_Hash_Sum k x1).bind fun x2 => some x2

/- cabal/code.Both -/
def code_Both.j1 (k : Nat) (y1 : (List Int)) (y2 : (List Int)) : Option (List Int) :=
  (cut? y1 (0 : Int) (32 : Int)).bind fun x4 => (cut? y2 (0 : Int) (32 : Int)).bind fun x5 => (digest_Sum k ([x4, x5] : (List (List Int)))).bind fun x6 => (code_Write k x6).bind fun x7 => some x7

def code_Both (k : Nat) (p1 : (List Int)) (p2 : (List Int)) : Option (List Int) :=
  (cut? p1 (0 : Int) (32 : Int)).bind fun x1 => (cut? p2 (0 : Int) (32 : Int)).bind fun x2 => (bytes_Compare k x1 x2).bind fun x3 => if (decide (x3 > (0 : Int))) = true then ((code_Both.j1 k) p2 p1) else ((code_Both.j1 k) p1 p2)

/- cabal/cabalref11.Less -/
def cabalref11_Less.j1 (k : Nat) : Option Bool :=
  some false

def cabalref11_Less.l1 (k : Nat) (p1 : (List Int)) (p2 : (List Int)) : Nat → Int → Option Bool
  | 0, _ => none
  | n + 1, y1 =>
    if (decide (y1 < (32 : Int))) = true then (if (0 ≤ y1 ∧ y1 < 32) then ((at? p1 y1).bind fun x1 => if (0 ≤ y1 ∧ y1 < 32) then ((at? p2 y1).bind fun x2 => if (x1 != x2) = true then (if (0 ≤ y1 ∧ y1 < 32) then ((at? p1 y1).bind fun x3 => if (0 ≤ y1 ∧ y1 < 32) then ((at? p2 y1).bind fun x4 => some (decide (x3 < x4))) else none) else none) else ((cabalref11_Less.l1 k p1 p2 n) (iadd .i64 y1 (1 : Int)))) else none) else none) else ((cabalref11_Less.j1 k))

def cabalref11_Less (k : Nat) (p1 : (List Int)) (p2 : (List Int)) : Option Bool :=
  cabalref11_Less.l1 k p1 p2 k (0 : Int)

/- cabal/cabalref01.Lengthened -/
def cabalref01_Lengthened.j2 (k : Nat) (y1 : (List Int)) (y2 : (List Int)) : Option (List Int) :=
  (cut? y2 (0 : Int) (8 : Int)).bind fun x1 => if y1.length + x1.length ≤ lim then (some (y1 ++ x1)) else none

def cabalref01_Lengthened.l1 (k : Nat) (y1 : (List Int)) : Nat → Int → Int → (List Int) → Option (List Int)
  | 0, _, _, _ => none
  | n + 1, y3, y4, y5 =>
    if (decide (y4 < (8 : Int))) = true then (if (0 ≤ (isub .i64 (7 : Int) y4) ∧ (isub .i64 (7 : Int) y4) < 8) then ((set? y5 (isub .i64 (7 : Int) y4) (IntKind.wrap .u8 (irem y3 (256 : Int)))).bind fun x2 => (cabalref01_Lengthened.l1 k y1 n) (iquo .u64 y3 (256 : Int)) (iadd .i64 y4 (1 : Int)) x2) else none) else ((cabalref01_Lengthened.j2 k y1) y5)

def cabalref01_Lengthened.j1 (k : Nat) (p1 : (List Int)) (y1 : (List Int)) : Option (List Int) :=
  cabalref01_Lengthened.l1 k y1 k (imul .u64 (IntKind.wrap .u64 (p1.length : Int)) (8 : Int)) (0 : Int) (List.replicate 8 (0 : Int))

def cabalref01_Lengthened.l2 (k : Nat) (p1 : (List Int)) : Nat → (List Int) → Option (List Int)
  | 0, _ => none
  | n + 1, y6 =>
    if ((irem (y6.length : Int) (64 : Int)) != (56 : Int)) = true then (if y6.length + ([0] : List Int).length ≤ lim then ((cabalref01_Lengthened.l2 k p1 n) (y6 ++ ([0] : List Int))) else none) else ((cabalref01_Lengthened.j1 k p1) y6)

def cabalref01_Lengthened (k : Nat) (p1 : (List Int)) : Option (List Int) :=
  if p1.length + ([128] : List Int).length ≤ lim then (cabalref01_Lengthened.l2 k p1 k (p1 ++ ([128] : List Int))) else none

/- cabal/cabalref01.Right -/
def cabalref01_Right (k : Nat) (p1 : Int) (p2 : Int) : Option Int :=
  if 0 ≤ p2 then (if 0 ≤ (isub .u64 (32 : Int) p2) then (some (ior .u32 (ishr .u32 p1 p2) (ishl .u32 p1 (isub .u64 (32 : Int) p2)))) else none) else none

/- cabal/cabalref01.Rounds -/
def cabalref01_Rounds (k : Nat) : Option (List Int) :=
  (some (([(1116352408 : Int), (1899447441 : Int), (3049323471 : Int), (3921009573 : Int), (961987163 : Int), (1508970993 : Int), (2453635748 : Int), (2870763221 : Int), (3624381080 : Int), (310598401 : Int), (607225278 : Int), (1426881987 : Int), (1925078388 : Int), (2162078206 : Int), (2614888103 : Int), (3248222580 : Int), (3835390401 : Int), (4022224774 : Int), (264347078 : Int), (604807628 : Int), (770255983 : Int), (1249150122 : Int), (1555081692 : Int), (1996064986 : Int), (2554220882 : Int), (2821834349 : Int), (2952996808 : Int), (3210313671 : Int), (3336571891 : Int), (3584528711 : Int), (113926993 : Int), (338241895 : Int), (666307205 : Int), (773529912 : Int), (1294757372 : Int), (1396182291 : Int), (1695183700 : Int), (1986661051 : Int), (2177026350 : Int), (2456956037 : Int), (2730485921 : Int), (2820302411 : Int), (3259730800 : Int), (3345764771 : Int), (3516065817 : Int), (3600352804 : Int), (4094571909 : Int), (275423344 : Int), (430227734 : Int), (506948616 : Int), (659060556 : Int), (883997877 : Int), (958139571 : Int), (1322822218 : Int), (1537002063 : Int), (1747873779 : Int), (1955562222 : Int), (2024104815 : Int), (2227730452 : Int), (2361852424 : Int), (2428436474 : Int), (2756734187 : Int), (3204031479 : Int), (3329325298 : Int)] : (List Int)))).bind fun x1 => some x1

/- cabal/cabalref01.Block -/
def cabalref01_Block.j3 (k : Nat) (p1 : (List Int)) (y3 : Int) (y4 : Int) (y5 : Int) (y6 : Int) (y7 : Int) (y8 : Int) (y9 : Int) (y10 : Int) : Option (List Int) :=
  (at? p1 (0 : Int)).bind fun x10 => (at? p1 (1 : Int)).bind fun x11 => (at? p1 (2 : Int)).bind fun x12 => (at? p1 (3 : Int)).bind fun x13 => (at? p1 (4 : Int)).bind fun x14 => (at? p1 (5 : Int)).bind fun x15 => (at? p1 (6 : Int)).bind fun x16 => (at? p1 (7 : Int)).bind fun x17 => (some (([(iadd .u32 x10 y3), (iadd .u32 x11 y4), (iadd .u32 x12 y5), (iadd .u32 x13 y6), (iadd .u32 x14 y7), (iadd .u32 x15 y8), (iadd .u32 x16 y9), (iadd .u32 x17 y10)] : (List Int)))).bind fun x18 => some x18

def cabalref01_Block.l1 (k : Nat) (x1 : (List Int)) (y2 : (List Int)) (p1 : (List Int)) : Nat → Int → Int → Int → Int → Int → Int → Int → Int → Int → Option (List Int)
  | 0, _, _, _, _, _, _, _, _, _ => none
  | n + 1, y11, y12, y13, y14, y15, y16, y17, y18, y19 =>
    if (decide (y19 < (64 : Int))) = true then ((cabalref01_Right k y15 (6 : Int)).bind fun x19 => (cabalref01_Right k y15 (11 : Int)).bind fun x20 => (cabalref01_Right k y15 (25 : Int)).bind fun x21 => (some ((iadd .u32 (iadd .u32 y18 (ixor .u32 (ixor .u32 x19 x20) x21)) (ior .u32 (iand .u32 y15 y16) (iand .u32 (inot .u32 y15) y17))))).bind fun x22 => if (0 ≤ y19 ∧ y19 < 64) then ((at? x1 y19).bind fun x23 => if (0 ≤ y19 ∧ y19 < 64) then ((at? y2 y19).bind fun x24 => (cabalref01_Right k y11 (2 : Int)).bind fun x25 => (cabalref01_Right k y11 (13 : Int)).bind fun x26 => (cabalref01_Right k y11 (22 : Int)).bind fun x27 => (some ((ior .u32 (ior .u32 (iand .u32 y11 y12) (iand .u32 y11 y13)) (iand .u32 y12 y13)))).bind fun x28 => (some ((iadd .u32 (iadd .u32 (iadd .u32 x22 x23) x24) (iadd .u32 (ixor .u32 (ixor .u32 x25 x26) x27) x28)))).bind fun x29 => (cabalref01_Block.l1 k x1 y2 p1 n) x29 y11 y12 y13 (iadd .u32 y14 (iadd .u32 (iadd .u32 x22 x23) x24)) y15 y16 y17 (iadd .i64 y19 (1 : Int))) else none) else none) else ((cabalref01_Block.j3 k p1) y11 y12 y13 y14 y15 y16 y17 y18)

def cabalref01_Block.j2 (k : Nat) (p1 : (List Int)) (y2 : (List Int)) : Option (List Int) :=
  (cabalref01_Rounds k).bind fun x1 => (at? p1 (0 : Int)).bind fun x2 => (at? p1 (1 : Int)).bind fun x3 => (at? p1 (2 : Int)).bind fun x4 => (at? p1 (3 : Int)).bind fun x5 => (at? p1 (4 : Int)).bind fun x6 => (at? p1 (5 : Int)).bind fun x7 => (at? p1 (6 : Int)).bind fun x8 => (at? p1 (7 : Int)).bind fun x9 => cabalref01_Block.l1 k x1 y2 p1 k x2 x3 x4 x5 x6 x7 x8 x9 (0 : Int)

def cabalref01_Block.l2 (k : Nat) (p1 : (List Int)) : Nat → Int → (List Int) → Option (List Int)
  | 0, _, _ => none
  | n + 1, y20, y21 =>
    if (decide (y20 < (64 : Int))) = true then (if (0 ≤ (isub .i64 y20 (15 : Int)) ∧ (isub .i64 y20 (15 : Int)) < 64) then ((at? y21 (isub .i64 y20 (15 : Int))).bind fun x30 => if (0 ≤ (isub .i64 y20 (2 : Int)) ∧ (isub .i64 y20 (2 : Int)) < 64) then ((at? y21 (isub .i64 y20 (2 : Int))).bind fun x31 => (cabalref01_Right k x31 (17 : Int)).bind fun x32 => (cabalref01_Right k x31 (19 : Int)).bind fun x33 => if (0 ≤ (isub .i64 y20 (7 : Int)) ∧ (isub .i64 y20 (7 : Int)) < 64) then ((at? y21 (isub .i64 y20 (7 : Int))).bind fun x34 => (some ((iadd .u32 (ixor .u32 (ixor .u32 x32 x33) (ishr .u32 x31 (10 : Int))) x34))).bind fun x35 => (cabalref01_Right k x30 (7 : Int)).bind fun x36 => (cabalref01_Right k x30 (18 : Int)).bind fun x37 => (some ((iadd .u32 x35 (ixor .u32 (ixor .u32 x36 x37) (ishr .u32 x30 (3 : Int)))))).bind fun x38 => if (0 ≤ (isub .i64 y20 (16 : Int)) ∧ (isub .i64 y20 (16 : Int)) < 64) then ((at? y21 (isub .i64 y20 (16 : Int))).bind fun x39 => if (0 ≤ y20 ∧ y20 < 64) then ((set? y21 y20 (iadd .u32 x38 x39)).bind fun x40 => (cabalref01_Block.l2 k p1 n) (iadd .i64 y20 (1 : Int)) x40) else none) else none) else none) else none) else none) else ((cabalref01_Block.j2 k p1) y21)

def cabalref01_Block.j1 (k : Nat) (p1 : (List Int)) (y1 : (List Int)) : Option (List Int) :=
  cabalref01_Block.l2 k p1 k (16 : Int) y1

def cabalref01_Block.l3 (k : Nat) (p2 : (List Int)) (p1 : (List Int)) : Nat → Int → (List Int) → Option (List Int)
  | 0, _, _ => none
  | n + 1, y22, y23 =>
    if (decide (y22 < (16 : Int))) = true then ((at? p2 (imul .i64 (4 : Int) y22)).bind fun x41 => (at? p2 (iadd .i64 (imul .i64 (4 : Int) y22) (1 : Int))).bind fun x42 => (some ((iadd .u32 (imul .u32 (IntKind.wrap .u32 x41) (16777216 : Int)) (imul .u32 (IntKind.wrap .u32 x42) (65536 : Int))))).bind fun x43 => (at? p2 (iadd .i64 (imul .i64 (4 : Int) y22) (2 : Int))).bind fun x44 => (at? p2 (iadd .i64 (imul .i64 (4 : Int) y22) (3 : Int))).bind fun x45 => (some ((iadd .u32 (iadd .u32 x43 (imul .u32 (IntKind.wrap .u32 x44) (256 : Int))) (IntKind.wrap .u32 x45)))).bind fun x46 => if (0 ≤ y22 ∧ y22 < 64) then ((set? y23 y22 x46).bind fun x47 => (cabalref01_Block.l3 k p2 p1 n) (iadd .i64 y22 (1 : Int)) x47) else none) else ((cabalref01_Block.j1 k p1) y23)

def cabalref01_Block (k : Nat) (p1 : (List Int)) (p2 : (List Int)) : Option (List Int) :=
  cabalref01_Block.l3 k p2 p1 k (0 : Int) (List.replicate 64 (0 : Int))

/- cabal/cabalref01.Sum -/
def cabalref01_Sum.j2 (k : Nat) (y2 : (List Int)) : Option (List Int) :=
  some y2

def cabalref01_Sum.l1 (k : Nat) (y1 : (List Int)) : Nat → Int → (List Int) → Option (List Int)
  | 0, _, _ => none
  | n + 1, y3, y4 =>
    if (decide (y3 < (32 : Int))) = true then (if (0 ≤ (iquo .i64 y3 (4 : Int)) ∧ (iquo .i64 y3 (4 : Int)) < 8) then ((at? y1 (iquo .i64 y3 (4 : Int))).bind fun x3 => (some ((IntKind.wrap .u64 (isub .i64 (24 : Int) (imul .i64 (8 : Int) (irem y3 (4 : Int))))))).bind fun x4 => if 0 ≤ x4 then (if (0 ≤ y3 ∧ y3 < 32) then ((set? y4 y3 (IntKind.wrap .u8 (ishr .u32 x3 x4))).bind fun x5 => (cabalref01_Sum.l1 k y1 n) (iadd .i64 y3 (1 : Int)) x5) else none) else none) else none) else ((cabalref01_Sum.j2 k) y4)

def cabalref01_Sum.j1 (k : Nat) (y1 : (List Int)) : Option (List Int) :=
  cabalref01_Sum.l1 k y1 k (0 : Int) (List.replicate 32 (0 : Int))

def cabalref01_Sum.l2 (k : Nat) (x1 : (List Int)) : Nat → Int → (List Int) → Option (List Int)
  | 0, _, _ => none
  | n + 1, y5, y6 =>
    if (decide (y5 < (x1.length : Int))) = true then ((cut? x1 y5 (iadd .i64 y5 (64 : Int))).bind fun x6 => (cabalref01_Block k y6 x6).bind fun x7 => (cabalref01_Sum.l2 k x1 n) (iadd .i64 y5 (64 : Int)) x7) else ((cabalref01_Sum.j1 k) y6)

def cabalref01_Sum (k : Nat) (p1 : (List Int)) : Option (List Int) :=
  (cabalref01_Lengthened k p1).bind fun x1 => (some (([(1779033703 : Int), (3144134277 : Int), (1013904242 : Int), (2773480762 : Int), (1359893119 : Int), (2600822924 : Int), (528734635 : Int), (1541459225 : Int)] : (List Int)))).bind fun x2 => cabalref01_Sum.l2 k x1 k (0 : Int) x2

/- cabal/cabalref27.Both -/
def cabalref27_Both.j1 (k : Nat) (y1 : (List Int)) (y2 : (List Int)) : Option (List Int) :=
  (cut? y1 (0 : Int) (32 : Int)).bind fun x2 => (cut? y2 (0 : Int) (32 : Int)).bind fun x3 => if x2.length + x3.length ≤ lim then ((cabalref01_Sum k (x2 ++ x3)).bind fun x4 => (cabalref27_Write k x4).bind fun x5 => some x5) else none

def cabalref27_Both (k : Nat) (p1 : (List Int)) (p2 : (List Int)) : Option (List Int) :=
  (cabalref11_Less k p2 p1).bind fun x1 => if x1 = true then ((cabalref27_Both.j1 k) p2 p1) else ((cabalref27_Both.j1 k) p1 p2)

/- cabal/caballaw27.CodeWrites -/
def caballaw27_CodeWrites (k : Nat) (p1 : (List Int)) (p2 : (List Int)) : Option Bool :=
  (caballaw27_alive k).bind fun x1 => if (!x1) = true then (some false) else ((caballaw27_alive k).bind fun x2 => (if (x2 == true) = true then code_Write k p1 else some []).bind fun x3 => (if (x2 == true) = true then cabalref27_Write k p1 else some []).bind fun x4 => (if ((if x2 then (decide (x3 = x4)) else false) == true) = true then code_Both k p1 p2 else some []).bind fun x5 => (if ((if x2 then (decide (x3 = x4)) else false) == true) = true then cabalref27_Both k p1 p2 else some []).bind fun x6 => (some ((if (if x2 then (decide (x3 = x4)) else false) then (decide (x5 = x6)) else false))).bind fun x7 => some x7)

/- cabal/caballaw27.CodeBoth -/
def caballaw27_CodeBoth (k : Nat) (p1 : (List Int)) (p2 : (List Int)) : Option Bool :=
  (caballaw27_alive k).bind fun x1 => if (!x1) = true then (some false) else ((code_Both k p1 p2).bind fun x2 => (code_Read k x2).bind fun x3 => (caballaw27_alive k).bind fun x4 => (if (x4 == true) = true then code_Both k p1 p2 else some []).bind fun x5 => (if (x4 == true) = true then code_Both k p2 p1 else some []).bind fun x6 => (some ((if (if x4 then (decide (x5 = x6)) else false) then (x3.2 == (0 : Int)) else false))).bind fun x7 => some x7)

end Go.Proofs.Pure
