/- Several parts of this proof in one file. No condition. -/
import Derived.Test.YtdlnfgpcnfbjiaaKyB
import Derived.Test.YtdlnfgpcnfbjiaaProg
section
namespace Go.Proofs.Pure
open Go Go.RowKit Go.Proofs.Kit
theorem wu8 (n : Int) : IntKind.wrap .u8 n = n % 256 := by unfold IntKind.wrap; simp [IntKind.signed, IntKind.bits]
theorem wu32 (n : Int) : IntKind.wrap .u32 n = n % 4294967296 := by unfold IntKind.wrap; simp [IntKind.signed, IntKind.bits]
theorem wu64 (n : Int) : IntKind.wrap .u64 n = n % 18446744073709551616 := by unfold IntKind.wrap; simp [IntKind.signed, IntKind.bits]
theorem wi64 {n : Int} (h : -9223372036854775808 ≤ n ∧ n < 9223372036854775808) : IntKind.wrap .i64 n = n := by
  unfold IntKind.wrap; simp [IntKind.signed, IntKind.bits]; split <;> omega
theorem wu32s {n : Int} (h : 0 ≤ n ∧ n < 4294967296) : IntKind.wrap .u32 n = n := by rw [wu32]; omega
theorem wu64s {n : Int} (h : 0 ≤ n ∧ n < 18446744073709551616) : IntKind.wrap .u64 n = n := by rw [wu64]; omega
theorem wu8s {n : Int} (h : 0 ≤ n ∧ n < 256) : IntKind.wrap .u8 n = n := by rw [wu8]; omega
theorem add64 {x y : Int} (h : -9223372036854775808 ≤ x + y ∧ x + y < 9223372036854775808) : iadd .i64 x y = x + y := wi64 h
theorem sub64 {x y : Int} (h : -9223372036854775808 ≤ x - y ∧ x - y < 9223372036854775808) : isub .i64 x y = x - y := wi64 h
theorem mul64 {x y : Int} (h : -9223372036854775808 ≤ x * y ∧ x * y < 9223372036854775808) : imul .i64 x y = x * y := wi64 h
theorem add32 {x y : Int} (h : 0 ≤ x + y ∧ x + y < 4294967296) : iadd .u32 x y = x + y := wu32s h
theorem addu64 {x y : Int} (h : 0 ≤ x + y ∧ x + y < 18446744073709551616) : iadd .u64 x y = x + y := wu64s h
theorem mulu64 {x y : Int} (h : 0 ≤ x * y ∧ x * y < 18446744073709551616) : imul .u64 x y = x * y := wu64s h
theorem rem_pos {x y : Int} (h : 0 ≤ x) : irem x y = x % y := by unfold irem; exact Int.tmod_eq_emod_of_nonneg h
theorem tdiv_pos {x y : Int} (h : 0 ≤ x) : x.tdiv y = x / y := Int.tdiv_eq_ediv_of_nonneg h
theorem quo32 {x y : Int} (h : 0 ≤ x ∧ x < 4294967296) (hy : 0 < y) : iquo .u32 x y = x / y := by
  unfold iquo; rw [tdiv_pos h.1]
  have h1 : 0 ≤ x / y := Int.ediv_nonneg h.1 (by omega)
  have h2 : x / y ≤ x := Int.ediv_le_self y h.1
  exact wu32s ⟨h1, by omega⟩
theorem quo64 {x y : Int} (h : 0 ≤ x ∧ x < 9223372036854775808) (hy : 0 < y) : iquo .i64 x y = x / y := by
  unfold iquo; rw [tdiv_pos h.1]
  have h1 : 0 ≤ x / y := Int.ediv_nonneg h.1 (by omega)
  have h2 : x / y ≤ x := Int.ediv_le_self y h.1
  exact wi64 ⟨by omega, by omega⟩
theorem shr_def {k : IntKind} {x y : Int} (hy : y.toNat ≤ k.bits) : ishr k x y = x / 2 ^ y.toNat := by
  unfold ishr
  rw [Nat.min_eq_left hy]
  exact Int.fdiv_eq_ediv_of_nonneg _ (Int.le_of_lt (Int.pow_pos (by decide)))
theorem byte_cases {p : Int → Prop} (h : ∀ n : Fin 256, p (n.val : Int)) {x : Int} (hx : 0 ≤ x ∧ x < 256) : p x := by
  have := h ⟨x.toNat, by omega⟩
  simpa [Int.toNat_of_nonneg hx.1] using this
theorem or128 {x : Int} (hx : 0 ≤ x ∧ x < 256) : ior .u8 x 128 = x % 128 + 128 := byte_cases (p := fun x => ior .u8 x 128 = x % 128 + 128) (by decide +kernel) hx
theorem andn128 {x : Int} (hx : 0 ≤ x ∧ x < 256) : iandn .u8 x 128 = x % 128 := byte_cases (p := fun x => iandn .u8 x 128 = x % 128) (by decide +kernel) hx
theorem shl_or7 {x y : Int} (hx : 0 ≤ x ∧ x < 72057594037927936) (hy : 0 ≤ y ∧ y < 128) : ior .u64 (ishl .u64 x 7) y = x * 128 + y := by
  have h1 : ishl .u64 x 7 = x * 128 := by
    unfold ishl; exact wu64s ⟨by show 0 ≤ x * 128; omega, by show x * 128 < _; omega⟩
  rw [h1]
  unfold ior
  obtain ⟨m, rfl⟩ : ∃ m : Nat, x = m := ⟨x.toNat, by omega⟩
  obtain ⟨n, rfl⟩ : ∃ n : Nat, y = n := ⟨y.toNat, by omega⟩
  have h2 : (BitVec.ofInt IntKind.u64.bits ((m : Int) * 128) ||| BitVec.ofInt IntKind.u64.bits (n : Int)).toNat = m * 128 + n := by
    show (BitVec.ofInt 64 ((m : Int) * 128) ||| BitVec.ofInt 64 (n : Int)).toNat = _
    have e1 : (BitVec.ofInt 64 ((m : Int) * 128)) = BitVec.ofNat 64 (m * 128) := by
      rw [show ((m : Int) * 128) = ((m * 128 : Nat) : Int) by omega, BitVec.ofInt_natCast]
    have e2 : (BitVec.ofInt 64 (n : Int)) = BitVec.ofNat 64 n := BitVec.ofInt_natCast ..
    rw [e1, e2, BitVec.toNat_or, BitVec.toNat_ofNat, BitVec.toNat_ofNat, Nat.mod_eq_of_lt (by omega), Nat.mod_eq_of_lt (by omega)]
    have := Nat.two_pow_add_eq_or_of_lt (i := 7) (b := n) (by omega) m
    rw [show m * 128 = 2 ^ 7 * m by omega, this]
  rw [h2]
  exact wu64s ⟨by omega, by omega⟩
theorem at_get {α : Type} {l : List α} {i : Nat} (h : i < l.length) : at? l (i : Int) = some l[i] := by
  unfold at?; simp [h]
theorem cut_ok {α : Type} {l : List α} {a b : Int} (h : 0 ≤ a ∧ a ≤ b ∧ b ≤ l.length) : cut? l a b = some ((l.take b.toNat).drop a.toNat) := by
  unfold cut?; rw [if_pos h]
theorem cut_pre {α : Type} {l : List α} {n : Nat} (h : n ≤ l.length) : cut? l 0 (n : Int) = some (l.take n) := by
  rw [cut_ok ⟨by omega, by omega, by omega⟩]; simp
theorem cut_suf {α : Type} {l : List α} {n : Nat} (h : n ≤ l.length) : cut? l (n : Int) (l.length : Int) = some (l.drop n) := by
  rw [cut_ok ⟨by omega, by omega, by omega⟩]; simp
end Go.Proofs.Pure
end
section
namespace Go.Proofs.Pure
open Go Go.RowKit Go.Proofs.Kit
set_option linter.unusedVariables false
structure api_Head where
  Pub : (List Int)
  N : Int
  Prev : Int
  deriving DecidableEq
def t_api_Head (x : api_Head) : (List Int) × Int × Int × Unit := (x.Pub, x.N, x.Prev, ())
theorem t_api_Head_inj (x y : api_Head) (h : t_api_Head x = t_api_Head y) : x = y := by cases x; cases y; simpa [t_api_Head] using h
def k_api_Head : Kd api_Head := kiso (kpair (karr 32 (kint .u8)) (kpair (kint .u32) (kpair (kint .u32) knil))) t_api_Head
theorem lg_api_Head_Pub (x : api_Head) : LG k_api_Head (karr 32 (kint .u8)) 0 x x.Pub := LG.iso (LG.fst _ _ _)
theorem ls_api_Head_Pub (x : api_Head) (y : (List Int)) : LS k_api_Head (karr 32 (kint .u8)) 0 x y { x with Pub := y } := LS.iso (LS.fst _ _ _ _)
theorem lg_api_Head_N (x : api_Head) : LG k_api_Head (kint .u32) 32 x x.N := LG.iso (LG.snd _ (LG.fst _ _ _))
theorem ls_api_Head_N (x : api_Head) (y : Int) : LS k_api_Head (kint .u32) 32 x y { x with N := y } := LS.iso (LS.snd _ (LS.fst _ _ _ _))
theorem lg_api_Head_Prev (x : api_Head) : LG k_api_Head (kint .u32) 33 x x.Prev := LG.iso (LG.snd _ (LG.snd _ (LG.fst _ _ _)))
theorem ls_api_Head_Prev (x : api_Head) (y : Int) : LS k_api_Head (kint .u32) 33 x y { x with Prev := y } := LS.iso (LS.snd _ (LS.snd _ (LS.fst _ _ _ _)))
structure api_Box where
  To : Int
  Head : api_Head
  Body : (List Int)
  deriving DecidableEq
def t_api_Box (x : api_Box) : Int × api_Head × (List Int) × Unit := (x.To, x.Head, x.Body, ())
theorem t_api_Box_inj (x y : api_Box) (h : t_api_Box x = t_api_Box y) : x = y := by cases x; cases y; simpa [t_api_Box] using h
def k_api_Box : Kd api_Box := kiso (kpair (kint .i64) (kpair k_api_Head (kpair kstr knil))) t_api_Box
theorem lg_api_Box_To (x : api_Box) : LG k_api_Box (kint .i64) 0 x x.To := LG.iso (LG.fst _ _ _)
theorem ls_api_Box_To (x : api_Box) (y : Int) : LS k_api_Box (kint .i64) 0 x y { x with To := y } := LS.iso (LS.fst _ _ _ _)
theorem lg_api_Box_Head (x : api_Box) : LG k_api_Box k_api_Head 1 x x.Head := LG.iso (LG.snd _ (LG.fst _ _ _))
theorem ls_api_Box_Head (x : api_Box) (y : api_Head) : LS k_api_Box k_api_Head 1 x y { x with Head := y } := LS.iso (LS.snd _ (LS.fst _ _ _ _))
theorem lg_api_Box_Body (x : api_Box) : LG k_api_Box kstr 35 x x.Body := LG.iso (LG.snd _ (LG.snd _ (LG.fst _ _ _)))
theorem ls_api_Box_Body (x : api_Box) (y : (List Int)) : LS k_api_Box kstr 35 x y { x with Body := y } := LS.iso (LS.snd _ (LS.snd _ (LS.fst _ _ _ _)))
structure api_Op where
  Author : Int
  Seq : Int
  Parents : (List (List Int))
  Kind : Int
  Who : (List Int)
  Of : (List Int)
  Check : (List Int)
  Text : (List Int)
  Boxes : (List api_Box)
  deriving DecidableEq
def t_api_Op (x : api_Op) : Int × Int × (List (List Int)) × Int × (List Int) × (List Int) × (List Int) × (List Int) × (List api_Box) × Unit := (x.Author, x.Seq, x.Parents, x.Kind, x.Who, x.Of, x.Check, x.Text, x.Boxes, ())
theorem t_api_Op_inj (x y : api_Op) (h : t_api_Op x = t_api_Op y) : x = y := by cases x; cases y; simpa [t_api_Op] using h
def k_api_Op : Kd api_Op := kiso (kpair (kint .i64) (kpair (kint .u32) (kpair (ksl (karr 32 (kint .u8))) (kpair (kint .i64) (kpair (ksl (kint .i64)) (kpair (karr 32 (kint .u8)) (kpair (karr 32 (kint .u8)) (kpair kstr (kpair (ksl k_api_Box) knil))))))))) t_api_Op
theorem lg_api_Op_Author (x : api_Op) : LG k_api_Op (kint .i64) 0 x x.Author := LG.iso (LG.fst _ _ _)
theorem ls_api_Op_Author (x : api_Op) (y : Int) : LS k_api_Op (kint .i64) 0 x y { x with Author := y } := LS.iso (LS.fst _ _ _ _)
theorem lg_api_Op_Seq (x : api_Op) : LG k_api_Op (kint .u32) 1 x x.Seq := LG.iso (LG.snd _ (LG.fst _ _ _))
theorem ls_api_Op_Seq (x : api_Op) (y : Int) : LS k_api_Op (kint .u32) 1 x y { x with Seq := y } := LS.iso (LS.snd _ (LS.fst _ _ _ _))
theorem lg_api_Op_Parents (x : api_Op) : LG k_api_Op (ksl (karr 32 (kint .u8))) 2 x x.Parents := LG.iso (LG.snd _ (LG.snd _ (LG.fst _ _ _)))
theorem ls_api_Op_Parents (x : api_Op) (y : (List (List Int))) : LS k_api_Op (ksl (karr 32 (kint .u8))) 2 x y { x with Parents := y } := LS.iso (LS.snd _ (LS.snd _ (LS.fst _ _ _ _)))
theorem lg_api_Op_Kind (x : api_Op) : LG k_api_Op (kint .i64) 3 x x.Kind := LG.iso (LG.snd _ (LG.snd _ (LG.snd _ (LG.fst _ _ _))))
theorem ls_api_Op_Kind (x : api_Op) (y : Int) : LS k_api_Op (kint .i64) 3 x y { x with Kind := y } := LS.iso (LS.snd _ (LS.snd _ (LS.snd _ (LS.fst _ _ _ _))))
theorem lg_api_Op_Who (x : api_Op) : LG k_api_Op (ksl (kint .i64)) 4 x x.Who := LG.iso (LG.snd _ (LG.snd _ (LG.snd _ (LG.snd _ (LG.fst _ _ _)))))
theorem ls_api_Op_Who (x : api_Op) (y : (List Int)) : LS k_api_Op (ksl (kint .i64)) 4 x y { x with Who := y } := LS.iso (LS.snd _ (LS.snd _ (LS.snd _ (LS.snd _ (LS.fst _ _ _ _)))))
theorem lg_api_Op_Of (x : api_Op) : LG k_api_Op (karr 32 (kint .u8)) 5 x x.Of := LG.iso (LG.snd _ (LG.snd _ (LG.snd _ (LG.snd _ (LG.snd _ (LG.fst _ _ _))))))
theorem ls_api_Op_Of (x : api_Op) (y : (List Int)) : LS k_api_Op (karr 32 (kint .u8)) 5 x y { x with Of := y } := LS.iso (LS.snd _ (LS.snd _ (LS.snd _ (LS.snd _ (LS.snd _ (LS.fst _ _ _ _))))))
theorem lg_api_Op_Check (x : api_Op) : LG k_api_Op (karr 32 (kint .u8)) 37 x x.Check := LG.iso (LG.snd _ (LG.snd _ (LG.snd _ (LG.snd _ (LG.snd _ (LG.snd _ (LG.fst _ _ _)))))))
theorem ls_api_Op_Check (x : api_Op) (y : (List Int)) : LS k_api_Op (karr 32 (kint .u8)) 37 x y { x with Check := y } := LS.iso (LS.snd _ (LS.snd _ (LS.snd _ (LS.snd _ (LS.snd _ (LS.snd _ (LS.fst _ _ _ _)))))))
theorem lg_api_Op_Text (x : api_Op) : LG k_api_Op kstr 69 x x.Text := LG.iso (LG.snd _ (LG.snd _ (LG.snd _ (LG.snd _ (LG.snd _ (LG.snd _ (LG.snd _ (LG.fst _ _ _))))))))
theorem ls_api_Op_Text (x : api_Op) (y : (List Int)) : LS k_api_Op kstr 69 x y { x with Text := y } := LS.iso (LS.snd _ (LS.snd _ (LS.snd _ (LS.snd _ (LS.snd _ (LS.snd _ (LS.snd _ (LS.fst _ _ _ _))))))))
theorem lg_api_Op_Boxes (x : api_Op) : LG k_api_Op (ksl k_api_Box) 70 x x.Boxes := LG.iso (LG.snd _ (LG.snd _ (LG.snd _ (LG.snd _ (LG.snd _ (LG.snd _ (LG.snd _ (LG.snd _ (LG.fst _ _ _)))))))))
theorem ls_api_Op_Boxes (x : api_Op) (y : (List api_Box)) : LS k_api_Op (ksl k_api_Box) 70 x y { x with Boxes := y } := LS.iso (LS.snd _ (LS.snd _ (LS.snd _ (LS.snd _ (LS.snd _ (LS.snd _ (LS.snd _ (LS.snd _ (LS.fst _ _ _ _)))))))))
structure api_Node where
  Id : (List Int)
  Op : api_Op
  Past : (List Int)
  deriving DecidableEq
def t_api_Node (x : api_Node) : (List Int) × api_Op × (List Int) × Unit := (x.Id, x.Op, x.Past, ())
theorem t_api_Node_inj (x y : api_Node) (h : t_api_Node x = t_api_Node y) : x = y := by cases x; cases y; simpa [t_api_Node] using h
def k_api_Node : Kd api_Node := kiso (kpair (karr 32 (kint .u8)) (kpair k_api_Op (kpair (ksl (kint .i64)) knil))) t_api_Node
theorem lg_api_Node_Id (x : api_Node) : LG k_api_Node (karr 32 (kint .u8)) 0 x x.Id := LG.iso (LG.fst _ _ _)
theorem ls_api_Node_Id (x : api_Node) (y : (List Int)) : LS k_api_Node (karr 32 (kint .u8)) 0 x y { x with Id := y } := LS.iso (LS.fst _ _ _ _)
theorem lg_api_Node_Op (x : api_Node) : LG k_api_Node k_api_Op 32 x x.Op := LG.iso (LG.snd _ (LG.fst _ _ _))
theorem ls_api_Node_Op (x : api_Node) (y : api_Op) : LS k_api_Node k_api_Op 32 x y { x with Op := y } := LS.iso (LS.snd _ (LS.fst _ _ _ _))
theorem lg_api_Node_Past (x : api_Node) : LG k_api_Node (ksl (kint .i64)) 103 x x.Past := LG.iso (LG.snd _ (LG.snd _ (LG.fst _ _ _)))
theorem ls_api_Node_Past (x : api_Node) (y : (List Int)) : LS k_api_Node (ksl (kint .i64)) 103 x y { x with Past := y } := LS.iso (LS.snd _ (LS.snd _ (LS.fst _ _ _ _)))
structure api_Held where
  Id : (List Int)
  Op : api_Op
  Got : (List (List Int))
  deriving DecidableEq
def t_api_Held (x : api_Held) : (List Int) × api_Op × (List (List Int)) × Unit := (x.Id, x.Op, x.Got, ())
theorem t_api_Held_inj (x y : api_Held) (h : t_api_Held x = t_api_Held y) : x = y := by cases x; cases y; simpa [t_api_Held] using h
def k_api_Held : Kd api_Held := kiso (kpair (karr 32 (kint .u8)) (kpair k_api_Op (kpair (ksl (karr 32 (kint .u8))) knil))) t_api_Held
theorem lg_api_Held_Id (x : api_Held) : LG k_api_Held (karr 32 (kint .u8)) 0 x x.Id := LG.iso (LG.fst _ _ _)
theorem ls_api_Held_Id (x : api_Held) (y : (List Int)) : LS k_api_Held (karr 32 (kint .u8)) 0 x y { x with Id := y } := LS.iso (LS.fst _ _ _ _)
theorem lg_api_Held_Op (x : api_Held) : LG k_api_Held k_api_Op 32 x x.Op := LG.iso (LG.snd _ (LG.fst _ _ _))
theorem ls_api_Held_Op (x : api_Held) (y : api_Op) : LS k_api_Held k_api_Op 32 x y { x with Op := y } := LS.iso (LS.snd _ (LS.fst _ _ _ _))
theorem lg_api_Held_Got (x : api_Held) : LG k_api_Held (ksl (karr 32 (kint .u8))) 103 x x.Got := LG.iso (LG.snd _ (LG.snd _ (LG.fst _ _ _)))
theorem ls_api_Held_Got (x : api_Held) (y : (List (List Int))) : LS k_api_Held (ksl (karr 32 (kint .u8))) 103 x y { x with Got := y } := LS.iso (LS.snd _ (LS.snd _ (LS.fst _ _ _ _)))
structure api_Frame where
  Kind : Int
  From : Int
  Op : api_Op
  Ids : (List (List Int))
  deriving DecidableEq
def t_api_Frame (x : api_Frame) : Int × Int × api_Op × (List (List Int)) × Unit := (x.Kind, x.From, x.Op, x.Ids, ())
theorem t_api_Frame_inj (x y : api_Frame) (h : t_api_Frame x = t_api_Frame y) : x = y := by cases x; cases y; simpa [t_api_Frame] using h
def k_api_Frame : Kd api_Frame := kiso (kpair (kint .i64) (kpair (kint .i64) (kpair k_api_Op (kpair (ksl (karr 32 (kint .u8))) knil)))) t_api_Frame
theorem lg_api_Frame_Kind (x : api_Frame) : LG k_api_Frame (kint .i64) 0 x x.Kind := LG.iso (LG.fst _ _ _)
theorem ls_api_Frame_Kind (x : api_Frame) (y : Int) : LS k_api_Frame (kint .i64) 0 x y { x with Kind := y } := LS.iso (LS.fst _ _ _ _)
theorem lg_api_Frame_From (x : api_Frame) : LG k_api_Frame (kint .i64) 1 x x.From := LG.iso (LG.snd _ (LG.fst _ _ _))
theorem ls_api_Frame_From (x : api_Frame) (y : Int) : LS k_api_Frame (kint .i64) 1 x y { x with From := y } := LS.iso (LS.snd _ (LS.fst _ _ _ _))
theorem lg_api_Frame_Op (x : api_Frame) : LG k_api_Frame k_api_Op 2 x x.Op := LG.iso (LG.snd _ (LG.snd _ (LG.fst _ _ _)))
theorem ls_api_Frame_Op (x : api_Frame) (y : api_Op) : LS k_api_Frame k_api_Op 2 x y { x with Op := y } := LS.iso (LS.snd _ (LS.snd _ (LS.fst _ _ _ _)))
theorem lg_api_Frame_Ids (x : api_Frame) : LG k_api_Frame (ksl (karr 32 (kint .u8))) 73 x x.Ids := LG.iso (LG.snd _ (LG.snd _ (LG.snd _ (LG.fst _ _ _))))
theorem ls_api_Frame_Ids (x : api_Frame) (y : (List (List Int))) : LS k_api_Frame (ksl (karr 32 (kint .u8))) 73 x y { x with Ids := y } := LS.iso (LS.snd _ (LS.snd _ (LS.snd _ (LS.fst _ _ _ _))))
structure api_Key_ where
  l : (List (List Int))
  order : Unit
  deriving DecidableEq
def t_api_Key_ (x : api_Key_) : (List (List Int)) × Unit × Unit := (x.l, x.order, ())
theorem t_api_Key__inj (x y : api_Key_) (h : t_api_Key_ x = t_api_Key_ y) : x = y := by cases x; cases y; simpa [t_api_Key_] using h
def k_api_Key_ : Kd api_Key_ := kiso (kpair (ksl (karr 32 (kint .u8))) (kpair (kis (.func (.func 137) #[] #[])) knil)) t_api_Key_
theorem lg_api_Key__l (x : api_Key_) : LG k_api_Key_ (ksl (karr 32 (kint .u8))) 0 x x.l := LG.iso (LG.fst _ _ _)
theorem ls_api_Key__l (x : api_Key_) (y : (List (List Int))) : LS k_api_Key_ (ksl (karr 32 (kint .u8))) 0 x y { x with l := y } := LS.iso (LS.fst _ _ _ _)
theorem lg_api_Key__order (x : api_Key_) : LG k_api_Key_ (kis (.func (.func 137) #[] #[])) 1 x x.order := LG.iso (LG.snd _ (LG.fst _ _ _))
theorem ls_api_Key__order (x : api_Key_) (y : Unit) : LS k_api_Key_ (kis (.func (.func 137) #[] #[])) 1 x y { x with order := y } := LS.iso (LS.snd _ (LS.fst _ _ _ _))
structure frame_row_int_ where
  l : (List Int)
  order : Unit
  deriving DecidableEq
def t_frame_row_int_ (x : frame_row_int_) : (List Int) × Unit × Unit := (x.l, x.order, ())
theorem t_frame_row_int__inj (x y : frame_row_int_) (h : t_frame_row_int_ x = t_frame_row_int_ y) : x = y := by cases x; cases y; simpa [t_frame_row_int_] using h
def k_frame_row_int_ : Kd frame_row_int_ := kiso (kpair (ksl (kint .i64)) (kpair (kis (.func (.func 155) #[] #[])) knil)) t_frame_row_int_
theorem lg_frame_row_int__l (x : frame_row_int_) : LG k_frame_row_int_ (ksl (kint .i64)) 0 x x.l := LG.iso (LG.fst _ _ _)
theorem ls_frame_row_int__l (x : frame_row_int_) (y : (List Int)) : LS k_frame_row_int_ (ksl (kint .i64)) 0 x y { x with l := y } := LS.iso (LS.fst _ _ _ _)
theorem lg_frame_row_int__order (x : frame_row_int_) : LG k_frame_row_int_ (kis (.func (.func 155) #[] #[])) 1 x x.order := LG.iso (LG.snd _ (LG.fst _ _ _))
theorem ls_frame_row_int__order (x : frame_row_int_) (y : Unit) : LS k_frame_row_int_ (kis (.func (.func 155) #[] #[])) 1 x y { x with order := y } := LS.iso (LS.snd _ (LS.fst _ _ _ _))
structure api_Box_ where
  l : (List api_Box)
  order : Unit
  deriving DecidableEq
def t_api_Box_ (x : api_Box_) : (List api_Box) × Unit × Unit := (x.l, x.order, ())
theorem t_api_Box__inj (x y : api_Box_) (h : t_api_Box_ x = t_api_Box_ y) : x = y := by cases x; cases y; simpa [t_api_Box_] using h
def k_api_Box_ : Kd api_Box_ := kiso (kpair (ksl k_api_Box) (kpair (kis (.func (.func 158) #[] #[])) knil)) t_api_Box_
theorem lg_api_Box__l (x : api_Box_) : LG k_api_Box_ (ksl k_api_Box) 0 x x.l := LG.iso (LG.fst _ _ _)
theorem ls_api_Box__l (x : api_Box_) (y : (List api_Box)) : LS k_api_Box_ (ksl k_api_Box) 0 x y { x with l := y } := LS.iso (LS.fst _ _ _ _)
theorem lg_api_Box__order (x : api_Box_) : LG k_api_Box_ (kis (.func (.func 158) #[] #[])) 1 x x.order := LG.iso (LG.snd _ (LG.fst _ _ _))
theorem ls_api_Box__order (x : api_Box_) (y : Unit) : LS k_api_Box_ (kis (.func (.func 158) #[] #[])) 1 x y { x with order := y } := LS.iso (LS.snd _ (LS.fst _ _ _ _))
def to_api_Key__1 (x : api_Key_) : (List (List Int)) × Unit × Unit := (x.l, (), ())
def ko_api_Key__1 (v1 : Value) : Kd api_Key_ := kiso (kpair (ksl (karr 32 (kint .u8))) (kpair (kis v1) knil)) to_api_Key__1
theorem lgo_api_Key__1_l {v1 : Value} (x : api_Key_) : LG (ko_api_Key__1 v1) (ksl (karr 32 (kint .u8))) 0 x x.l := LG.iso (LG.fst _ _ _)
theorem lso_api_Key__1_l {v1 : Value} (x : api_Key_) (y : (List (List Int))) : LS (ko_api_Key__1 v1) (ksl (karr 32 (kint .u8))) 0 x y { x with l := y } := LS.iso (LS.fst _ _ _ _)
theorem lgo_api_Key__1_order {v1 : Value} (x : api_Key_) : LG (ko_api_Key__1 v1) (kis v1) 1 x () := LG.iso (LG.snd _ (LG.fst _ _ _))
theorem upo_api_Key__1 {H : Ok → World → Prop} {v1 : Value} {x x' : api_Key_} (hx : to_api_Key__1 x = to_api_Key__1 x') (u1 : Up H (kis v1) (kis (.func (.func 137) #[] #[])) () x'.order) : Up H (ko_api_Key__1 v1) k_api_Key_ x x' := fun ok w cs hH hr => by
  have hr' : Kd.rel (kpair (ksl (karr 32 (kint .u8))) (kpair (kis v1) knil)) ok w (to_api_Key__1 x) cs := hr
  rw [hx] at hr'
  exact (Up.pair (Up.refl _ _) (Up.pair u1 (Up.refl _ _)) : Up H (kpair (ksl (karr 32 (kint .u8))) (kpair (kis v1) knil)) (kpair (ksl (karr 32 (kint .u8))) (kpair (kis (.func (.func 137) #[] #[])) knil)) (to_api_Key__1 x') (t_api_Key_ x')) ok w cs hH hr'
def to_frame_row_int__1 (x : frame_row_int_) : (List Int) × Unit × Unit := (x.l, (), ())
def ko_frame_row_int__1 (v1 : Value) : Kd frame_row_int_ := kiso (kpair (ksl (kint .i64)) (kpair (kis v1) knil)) to_frame_row_int__1
theorem lgo_frame_row_int__1_l {v1 : Value} (x : frame_row_int_) : LG (ko_frame_row_int__1 v1) (ksl (kint .i64)) 0 x x.l := LG.iso (LG.fst _ _ _)
theorem lso_frame_row_int__1_l {v1 : Value} (x : frame_row_int_) (y : (List Int)) : LS (ko_frame_row_int__1 v1) (ksl (kint .i64)) 0 x y { x with l := y } := LS.iso (LS.fst _ _ _ _)
theorem lgo_frame_row_int__1_order {v1 : Value} (x : frame_row_int_) : LG (ko_frame_row_int__1 v1) (kis v1) 1 x () := LG.iso (LG.snd _ (LG.fst _ _ _))
theorem upo_frame_row_int__1 {H : Ok → World → Prop} {v1 : Value} {x x' : frame_row_int_} (hx : to_frame_row_int__1 x = to_frame_row_int__1 x') (u1 : Up H (kis v1) (kis (.func (.func 155) #[] #[])) () x'.order) : Up H (ko_frame_row_int__1 v1) k_frame_row_int_ x x' := fun ok w cs hH hr => by
  have hr' : Kd.rel (kpair (ksl (kint .i64)) (kpair (kis v1) knil)) ok w (to_frame_row_int__1 x) cs := hr
  rw [hx] at hr'
  exact (Up.pair (Up.refl _ _) (Up.pair u1 (Up.refl _ _)) : Up H (kpair (ksl (kint .i64)) (kpair (kis v1) knil)) (kpair (ksl (kint .i64)) (kpair (kis (.func (.func 155) #[] #[])) knil)) (to_frame_row_int__1 x') (t_frame_row_int_ x')) ok w cs hH hr'
def to_api_Box__1 (x : api_Box_) : (List api_Box) × Unit × Unit := (x.l, (), ())
def ko_api_Box__1 (v1 : Value) : Kd api_Box_ := kiso (kpair (ksl k_api_Box) (kpair (kis v1) knil)) to_api_Box__1
theorem lgo_api_Box__1_l {v1 : Value} (x : api_Box_) : LG (ko_api_Box__1 v1) (ksl k_api_Box) 0 x x.l := LG.iso (LG.fst _ _ _)
theorem lso_api_Box__1_l {v1 : Value} (x : api_Box_) (y : (List api_Box)) : LS (ko_api_Box__1 v1) (ksl k_api_Box) 0 x y { x with l := y } := LS.iso (LS.fst _ _ _ _)
theorem lgo_api_Box__1_order {v1 : Value} (x : api_Box_) : LG (ko_api_Box__1 v1) (kis v1) 1 x () := LG.iso (LG.snd _ (LG.fst _ _ _))
theorem upo_api_Box__1 {H : Ok → World → Prop} {v1 : Value} {x x' : api_Box_} (hx : to_api_Box__1 x = to_api_Box__1 x') (u1 : Up H (kis v1) (kis (.func (.func 158) #[] #[])) () x'.order) : Up H (ko_api_Box__1 v1) k_api_Box_ x x' := fun ok w cs hH hr => by
  have hr' : Kd.rel (kpair (ksl k_api_Box) (kpair (kis v1) knil)) ok w (to_api_Box__1 x) cs := hr
  rw [hx] at hr'
  exact (Up.pair (Up.refl _ _) (Up.pair u1 (Up.refl _ _)) : Up H (kpair (ksl k_api_Box) (kpair (kis v1) knil)) (kpair (ksl k_api_Box) (kpair (kis (.func (.func 158) #[] #[])) knil)) (to_api_Box__1 x') (t_api_Box_ x')) ok w cs hH hr'
theorem lsk_api_Key__1_to_1_at1 {u1 v1 : Value} (x : api_Key_) : LSK (ko_api_Key__1 v1) (kis u1) (ko_api_Key__1 u1) 1 x () x := LSK.iso (LSK.snd _ (LSK.fst (k := kis v1) (k' := kis u1) _ rfl _ _))
theorem lsk_frame_row_int__1_to_1_at1 {u1 v1 : Value} (x : frame_row_int_) : LSK (ko_frame_row_int__1 v1) (kis u1) (ko_frame_row_int__1 u1) 1 x () x := LSK.iso (LSK.snd _ (LSK.fst (k := kis v1) (k' := kis u1) _ rfl _ _))
theorem lsk_api_Box__1_to_1_at1 {u1 v1 : Value} (x : api_Box_) : LSK (ko_api_Box__1 v1) (kis u1) (ko_api_Box__1 u1) 1 x () x := LSK.iso (LSK.snd _ (LSK.fst (k := kis v1) (k' := kis u1) _ rfl _ _))
def caballaw19_update (k : Nat) (p1 : (List Int)) : Option api_Op :=
  (some (([(1 : Int), (0 : Int), (0 : Int), (0 : Int), (0 : Int), (0 : Int), (0 : Int), (0 : Int), (0 : Int), (0 : Int), (0 : Int), (0 : Int), (0 : Int), (0 : Int), (0 : Int), (0 : Int), (0 : Int), (0 : Int), (0 : Int), (0 : Int), (0 : Int), (0 : Int), (0 : Int), (0 : Int), (0 : Int), (0 : Int), (0 : Int), (0 : Int), (0 : Int), (0 : Int), (0 : Int), (0 : Int)] : (List Int)))).bind fun x1 => (some ((⟨(1 : Int), (1 : Int), ([p1] : (List (List Int))), (4 : Int), [], (List.replicate 32 (0 : Int)), x1, [], []⟩ : api_Op))).bind fun x2 => some x2
def queue_Find_1 (k : Nat) (p1 : api_Held) (p2 : (List Int)) : Option Bool :=
  some (decide (p1.Id = p2))
def slices_IndexFunc_api_Held_api_Held_queue_Find_1.j1 (k : Nat) : Option Int :=
  some (-1 : Int)
def slices_IndexFunc_api_Held_api_Held_queue_Find_1.l1 (k : Nat) (p1 : (List api_Held)) (p2 : (List Int)) : Nat → Int → Option Int
  | 0, _ => none
  | n + 1, y1 =>
    if (decide (y1 < (p1.length : Int))) = true then ((at? p1 y1).bind fun x1 => (queue_Find_1 k x1 p2).bind fun x2 => if x2 = true then (some y1) else ((slices_IndexFunc_api_Held_api_Held_queue_Find_1.l1 k p1 p2 n) (iadd .i64 y1 (1 : Int)))) else ((slices_IndexFunc_api_Held_api_Held_queue_Find_1.j1 k))
def slices_IndexFunc_api_Held_api_Held_queue_Find_1 (k : Nat) (p1 : (List api_Held)) (p2 : (List Int)) : Option Int :=
  slices_IndexFunc_api_Held_api_Held_queue_Find_1.l1 k p1 p2 k (0 : Int)
def queue_Find (k : Nat) (p1 : (List api_Held)) (p2 : (List Int)) : Option Int :=
  (slices_IndexFunc_api_Held_api_Held_queue_Find_1 k p1 p2).bind fun x1 => some x1
def frame_member (k : Nat) (p1 : Int) : Option Bool :=
  (some ((if (decide (p1 ≥ (0 : Int))) then (decide (p1 < (8 : Int))) else false))).bind fun x1 => some x1
def bytes_Compare (k : Nat) (p1 : (List Int)) (p2 : (List Int)) : Option Int :=
  some (cmpB p1 p2)
def frame_byKey (k : Nat) (p1 : (List Int)) (p2 : (List Int)) : Option Int :=
  (cut? p1 (0 : Int) (32 : Int)).bind fun x1 => (cut? p2 (0 : Int) (32 : Int)).bind fun x2 => (bytes_Compare k x1 x2).bind fun x3 => some x3
def frame_row_api_Key_rising.j1 (k : Nat) : Option Bool :=
  some true
def frame_row_api_Key_rising.l1 (k : Nat) (p1 : api_Key_) : Nat → Int → Option Bool
  | 0, _ => none
  | n + 1, y1 =>
    if (decide (y1 < (p1.l.length : Int))) = true then ((at? p1.l (isub .i64 y1 (1 : Int))).bind fun x1 => (at? p1.l y1).bind fun x2 => (frame_byKey k x1 x2).bind fun x3 => if (decide (x3 ≥ (0 : Int))) = true then (some false) else ((frame_row_api_Key_rising.l1 k p1 n) (iadd .i64 y1 (1 : Int)))) else ((frame_row_api_Key_rising.j1 k))
def frame_row_api_Key_rising (k : Nat) (p1 : api_Key_) : Option Bool :=
  frame_row_api_Key_rising.l1 k p1 k (1 : Int)
def frame_byNumber (k : Nat) (p1 : Int) (p2 : Int) : Option Int :=
  if (decide (p1 < p2)) = true then (some (-1 : Int)) else (if (decide (p1 > p2)) = true then (some (1 : Int)) else (some (0 : Int)))
def frame_row_int_rising.j1 (k : Nat) : Option Bool :=
  some true
def frame_row_int_rising.l1 (k : Nat) (p1 : frame_row_int_) : Nat → Int → Option Bool
  | 0, _ => none
  | n + 1, y1 =>
    if (decide (y1 < (p1.l.length : Int))) = true then ((at? p1.l (isub .i64 y1 (1 : Int))).bind fun x1 => (at? p1.l y1).bind fun x2 => (frame_byNumber k x1 x2).bind fun x3 => if (decide (x3 ≥ (0 : Int))) = true then (some false) else ((frame_row_int_rising.l1 k p1 n) (iadd .i64 y1 (1 : Int)))) else ((frame_row_int_rising.j1 k))
def frame_row_int_rising (k : Nat) (p1 : frame_row_int_) : Option Bool :=
  frame_row_int_rising.l1 k p1 k (1 : Int)
def frame_who_1 (k : Nat) (p1 : Int) : Option Bool :=
  (frame_member k p1).bind fun x1 => some (!x1)
def slices_IndexFunc_int_int_frame_who_1.j1 (k : Nat) : Option Int :=
  some (-1 : Int)
def slices_IndexFunc_int_int_frame_who_1.l1 (k : Nat) (p1 : (List Int)) : Nat → Int → Option Int
  | 0, _ => none
  | n + 1, y1 =>
    if (decide (y1 < (p1.length : Int))) = true then ((at? p1 y1).bind fun x1 => (frame_who_1 k x1).bind fun x2 => if x2 = true then (some y1) else ((slices_IndexFunc_int_int_frame_who_1.l1 k p1 n) (iadd .i64 y1 (1 : Int)))) else ((slices_IndexFunc_int_int_frame_who_1.j1 k))
def slices_IndexFunc_int_int_frame_who_1 (k : Nat) (p1 : (List Int)) : Option Int :=
  slices_IndexFunc_int_int_frame_who_1.l1 k p1 k (0 : Int)
def slices_ContainsFunc_int_int_frame_who_1 (k : Nat) (p1 : (List Int)) : Option Bool :=
  (slices_IndexFunc_int_int_frame_who_1 k p1).bind fun x1 => some (decide (x1 ≥ (0 : Int)))
def slices_Index_int_int.j1 (k : Nat) : Option Int :=
  some (-1 : Int)
def slices_Index_int_int.l1 (k : Nat) (p1 : (List Int)) (p2 : Int) : Nat → Int → Option Int
  | 0, _ => none
  | n + 1, y1 =>
    if (decide (y1 < (p1.length : Int))) = true then ((at? p1 y1).bind fun x1 => if (p2 == x1) = true then (some y1) else ((slices_Index_int_int.l1 k p1 p2 n) (iadd .i64 y1 (1 : Int)))) else ((slices_Index_int_int.j1 k))
def slices_Index_int_int (k : Nat) (p1 : (List Int)) (p2 : Int) : Option Int :=
  slices_Index_int_int.l1 k p1 p2 k (0 : Int)
def slices_Contains_int_int (k : Nat) (p1 : (List Int)) (p2 : Int) : Option Bool :=
  (slices_Index_int_int k p1 p2).bind fun x1 => some (decide (x1 ≥ (0 : Int)))
def frame_who.j1 (k : Nat) (p1 : api_Op) (y1 : Bool) : Option Bool :=
  if y1 = true then ((if (((p1.Who.length : Int) == (1 : Int)) == true) = true then at? p1.Who (0 : Int) else some (0 : Int)).bind fun x4 => (some ((if ((p1.Who.length : Int) == (1 : Int)) then (x4 != p1.Author) else false))).bind fun x5 => some x5) else (some ((p1.Who.length : Int) == (0 : Int)))
def frame_who (k : Nat) (p1 : api_Op) : Option Bool :=
  (frame_row_int_rising k (⟨p1.Who, ()⟩ : frame_row_int_)).bind fun x1 => (if ((!x1) == false) = true then slices_ContainsFunc_int_int_frame_who_1 k p1.Who else some false).bind fun x2 => if (if (!x1) then true else x2) = true then (some false) else (if (p1.Kind == (1 : Int)) = true then ((slices_Contains_int_int k p1.Who p1.Author).bind fun x3 => some x3) else (if (p1.Kind == (2 : Int)) = true then ((frame_who.j1 k p1) (p1.Kind == (2 : Int))) else ((frame_who.j1 k p1) (p1.Kind == (3 : Int)))))
def frame_boxes_1 (k : Nat) (p1 : api_Box) (p2 : api_Box) : Option Int :=
  (frame_byNumber k p1.To p2.To).bind fun x1 => some x1
def frame_row_api_Box_rising.j1 (k : Nat) : Option Bool :=
  some true
def frame_row_api_Box_rising.l1 (k : Nat) (p1 : api_Box_) : Nat → Int → Option Bool
  | 0, _ => none
  | n + 1, y1 =>
    if (decide (y1 < (p1.l.length : Int))) = true then ((at? p1.l (isub .i64 y1 (1 : Int))).bind fun x1 => (at? p1.l y1).bind fun x2 => (frame_boxes_1 k x1 x2).bind fun x3 => if (decide (x3 ≥ (0 : Int))) = true then (some false) else ((frame_row_api_Box_rising.l1 k p1 n) (iadd .i64 y1 (1 : Int)))) else ((frame_row_api_Box_rising.j1 k))
def frame_row_api_Box_rising (k : Nat) (p1 : api_Box_) : Option Bool :=
  frame_row_api_Box_rising.l1 k p1 k (1 : Int)
def frame_boxes_2 (k : Nat) (p1 : api_Box) (p2 : api_Op) : Option Bool :=
  (frame_member k p1.To).bind fun x1 => (some ((if (if (!x1) then true else (p1.To == p2.Author)) then true else (decide ((p1.Body.length : Int) > (256 : Int)))))).bind fun x2 => some x2
def slices_IndexFunc_api_Box_api_Box_frame_boxes_2.j1 (k : Nat) : Option Int :=
  some (-1 : Int)
def slices_IndexFunc_api_Box_api_Box_frame_boxes_2.l1 (k : Nat) (p1 : (List api_Box)) (p2 : api_Op) : Nat → Int → Option Int
  | 0, _ => none
  | n + 1, y1 =>
    if (decide (y1 < (p1.length : Int))) = true then ((at? p1 y1).bind fun x1 => (frame_boxes_2 k x1 p2).bind fun x2 => if x2 = true then (some y1) else ((slices_IndexFunc_api_Box_api_Box_frame_boxes_2.l1 k p1 p2 n) (iadd .i64 y1 (1 : Int)))) else ((slices_IndexFunc_api_Box_api_Box_frame_boxes_2.j1 k))
def slices_IndexFunc_api_Box_api_Box_frame_boxes_2 (k : Nat) (p1 : (List api_Box)) (p2 : api_Op) : Option Int :=
  slices_IndexFunc_api_Box_api_Box_frame_boxes_2.l1 k p1 p2 k (0 : Int)
def slices_ContainsFunc_api_Box_api_Box_frame_boxes_2 (k : Nat) (p1 : (List api_Box)) (p2 : api_Op) : Option Bool :=
  (slices_IndexFunc_api_Box_api_Box_frame_boxes_2 k p1 p2).bind fun x1 => some (decide (x1 ≥ (0 : Int)))
def frame_boxes (k : Nat) (p1 : api_Op) : Option Bool :=
  (if ((decide ((p1.Boxes.length : Int) ≤ (8 : Int))) == true) = true then frame_row_api_Box_rising k (⟨p1.Boxes, ()⟩ : api_Box_) else some false).bind fun x1 => (if ((if (decide ((p1.Boxes.length : Int) ≤ (8 : Int))) then x1 else false) == true) = true then slices_ContainsFunc_api_Box_api_Box_frame_boxes_2 k p1.Boxes p1 else some false).bind fun x2 => (some ((if (if (decide ((p1.Boxes.length : Int) ≤ (8 : Int))) then x1 else false) then (!x2) else false))).bind fun x3 => some x3
def frame_Right (k : Nat) (p1 : api_Op) : Option Bool :=
  (some (([(0 : Int), (0 : Int), (0 : Int), (0 : Int), (0 : Int), (0 : Int), (0 : Int), (0 : Int), (0 : Int), (0 : Int), (0 : Int), (0 : Int), (0 : Int), (0 : Int), (0 : Int), (0 : Int), (0 : Int), (0 : Int), (0 : Int), (0 : Int), (0 : Int), (0 : Int), (0 : Int), (0 : Int), (0 : Int), (0 : Int), (0 : Int), (0 : Int), (0 : Int), (0 : Int), (0 : Int), (0 : Int)] : (List Int)))).bind fun x1 => (frame_member k p1.Author).bind fun x2 => (some ((if (if (!x2) then true else (p1.Seq == (0 : Int))) then true else (decide (p1.Kind < (1 : Int)))))).bind fun x3 => if (if x3 then true else (decide (p1.Kind > (7 : Int)))) = true then (some false) else ((if ((decide ((p1.Parents.length : Int) > (8 : Int))) == false) = true then frame_row_api_Key_rising k (⟨p1.Parents, ()⟩ : api_Key_) else some false).bind fun x4 => (some ((if (decide ((p1.Parents.length : Int) > (8 : Int))) then true else (!x4)))).bind fun x5 => (some ((!decide ((p1.Kind == (1 : Int)) = ((p1.Parents.length : Int) == (0 : Int)))))).bind fun x6 => (some ((if (if x5 then true else x6) then true else (if (p1.Kind == (1 : Int)) then (p1.Seq != (1 : Int)) else false)))).bind fun x7 => if x7 = true then (some false) else ((some ((!decide ((if (p1.Kind == (5 : Int)) then true else (p1.Kind == (6 : Int))) = (!decide (p1.Of = x1)))))).bind fun x8 => (some ((if x8 then true else (decide ((p1.Kind == (7 : Int)) = (!decide (p1.Check = x1))))))).bind fun x9 => (some ((!decide ((p1.Kind == (7 : Int)) = (decide ((p1.Text.length : Int) > (0 : Int))))))).bind fun x10 => (some ((if (if x9 then true else x10) then true else (decide ((p1.Text.length : Int) > (256 : Int)))))).bind fun x11 => if x11 = true then (some false) else ((frame_who k p1).bind fun x12 => (if (x12 == true) = true then frame_boxes k p1 else some false).bind fun x13 => some (if x12 then x13 else false))))
def queue_Right.j1 (k : Nat) : Option Bool :=
  some true
def queue_Right.l1 (k : Nat) (p1 : (List api_Held)) : Nat → Int → Option Bool
  | 0, _ => none
  | n + 1, y1 =>
    if (decide (y1 < (p1.length : Int))) = true then ((at? p1 y1).bind fun x1 => (cut? p1 (0 : Int) y1).bind fun x2 => (queue_Find k x2 x1.Id).bind fun x3 => (if ((decide (x3 ≥ (0 : Int))) == false) = true then frame_Right k x1.Op else some false).bind fun x4 => if (if (decide (x3 ≥ (0 : Int))) then true else (!x4)) = true then (some false) else ((queue_Right.l1 k p1 n) (iadd .i64 y1 (1 : Int)))) else ((queue_Right.j1 k))
def queue_Right (k : Nat) (p1 : (List api_Held)) : Option Bool :=
  if (decide ((p1.length : Int) > (24 : Int))) = true then (some false) else (queue_Right.l1 k p1 k (0 : Int))
def slices_Clone_api_Key_api_Key (k : Nat) (p1 : (List (List Int))) : Option (List (List Int)) :=
  if ([] : List (List Int)).length + p1.length ≤ lim then (some (([] : List (List Int)) ++ p1)) else none
def slices_Clone_int_int (k : Nat) (p1 : (List Int)) : Option (List Int) :=
  if ([] : List Int).length + p1.length ≤ lim then (some (([] : List Int) ++ p1)) else none
def slices_Clone_api_Box_api_Box (k : Nat) (p1 : (List api_Box)) : Option (List api_Box) :=
  if ([] : List api_Box).length + p1.length ≤ lim then (some (([] : List api_Box) ++ p1)) else none
def queue_clone (k : Nat) (p1 : api_Held) : Option api_Held :=
  (slices_Clone_api_Key_api_Key k p1.Op.Parents).bind fun x1 => (slices_Clone_int_int k p1.Op.Who).bind fun x2 => (slices_Clone_api_Box_api_Box k p1.Op.Boxes).bind fun x3 => (slices_Clone_api_Key_api_Key k p1.Got).bind fun x4 => (some ({ ({ p1 with Op := { p1.Op with Parents := x1 } }).Op with Who := x2 })).bind fun x5 => (some ({ { p1 with Op := { p1.Op with Parents := x1 } } with Op := x5 })).bind fun x6 => (some ({ { x6 with Op := { x6.Op with Boxes := x3 } } with Got := x4 })).bind fun x7 => some x7
def queue_copied.j1 (k : Nat) (y1 : (List api_Held)) : Option (List api_Held) :=
  some y1
def queue_copied.j2 (k : Nat) (y2 : Int) (L_l1 : Int → (List api_Held) → Option (List api_Held)) (y4 : (List api_Held)) : Option (List api_Held) :=
  L_l1 (iadd .i64 y2 (1 : Int)) y4
def queue_copied.l1 (k : Nat) (p1 : (List api_Held)) (p2 : Int) : Nat → Int → (List api_Held) → Option (List api_Held)
  | 0, _, _ => none
  | n + 1, y2, y3 =>
    if (decide (y2 < (p1.length : Int))) = true then ((at? p1 y2).bind fun x1 => if (y2 != p2) = true then ((queue_clone k x1).bind fun x2 => if y3.length + ([x2] : (List api_Held)).length ≤ lim then ((queue_copied.j2 k y2 (queue_copied.l1 k p1 p2 n)) (y3 ++ ([x2] : (List api_Held)))) else none) else ((queue_copied.j2 k y2 (queue_copied.l1 k p1 p2 n)) y3)) else ((queue_copied.j1 k) y3)
def queue_copied (k : Nat) (p1 : (List api_Held)) (p2 : Int) : Option (List api_Held) :=
  queue_copied.l1 k p1 p2 k (0 : Int) ([] : (List api_Held))
def queue_Put (k : Nat) (p1 : (List api_Held)) (p2 : api_Held) : Option ((List api_Held) × Int) :=
  (queue_Right k p1).bind fun x1 => (if ((!x1) == false) = true then frame_Right k p2.Op else some false).bind fun x2 => if (if (!x1) then true else (!x2)) = true then (some (([] : (List api_Held)), (1 : Int))) else ((queue_Find k p1 p2.Id).bind fun x3 => if (decide (x3 ≥ (0 : Int))) = true then (some (([] : (List api_Held)), (13 : Int))) else (if ((p1.length : Int) == (24 : Int)) = true then (some (([] : (List api_Held)), (8 : Int))) else ((queue_copied k p1 (-1 : Int)).bind fun x4 => (queue_clone k p2).bind fun x5 => if x4.length + ([x5] : (List api_Held)).length ≤ lim then (some ((x4 ++ ([x5] : (List api_Held))), (0 : Int))) else none)))
def graph_Find_1 (k : Nat) (p1 : api_Node) (p2 : (List Int)) : Option Bool :=
  some (decide (p1.Id = p2))
def slices_IndexFunc_api_Node_api_Node_graph_Find_1.j1 (k : Nat) : Option Int :=
  some (-1 : Int)
def slices_IndexFunc_api_Node_api_Node_graph_Find_1.l1 (k : Nat) (p1 : (List api_Node)) (p2 : (List Int)) : Nat → Int → Option Int
  | 0, _ => none
  | n + 1, y1 =>
    if (decide (y1 < (p1.length : Int))) = true then ((at? p1 y1).bind fun x1 => (graph_Find_1 k x1 p2).bind fun x2 => if x2 = true then (some y1) else ((slices_IndexFunc_api_Node_api_Node_graph_Find_1.l1 k p1 p2 n) (iadd .i64 y1 (1 : Int)))) else ((slices_IndexFunc_api_Node_api_Node_graph_Find_1.j1 k))
def slices_IndexFunc_api_Node_api_Node_graph_Find_1 (k : Nat) (p1 : (List api_Node)) (p2 : (List Int)) : Option Int :=
  slices_IndexFunc_api_Node_api_Node_graph_Find_1.l1 k p1 p2 k (0 : Int)
def graph_Find (k : Nat) (p1 : (List api_Node)) (p2 : (List Int)) : Option Int :=
  (slices_IndexFunc_api_Node_api_Node_graph_Find_1 k p1 p2).bind fun x1 => some x1
def graph_past.j2 (k : Nat) (y2 : (List Int)) : Option ((List Int) × Int) :=
  some (y2, (0 : Int))
def graph_past.j3 (k : Nat) (y3 : Int) (L_l1 : Int → (List Int) → Option ((List Int) × Int)) (y5 : (List Int)) : Option ((List Int) × Int) :=
  L_l1 (iadd .i64 y3 (1 : Int)) y5
def graph_past.l1 (k : Nat) (p1 : (List api_Node)) (y1 : (List (Int × Bool))) : Nat → Int → (List Int) → Option ((List Int) × Int)
  | 0, _, _ => none
  | n + 1, y3, y4 =>
    if (decide (y3 < (p1.length : Int))) = true then (if (mget y1 y3) = true then (if y4.length + ([y3] : (List Int)).length ≤ lim then ((graph_past.j3 k y3 (graph_past.l1 k p1 y1 n)) (y4 ++ ([y3] : (List Int)))) else none) else ((graph_past.j3 k y3 (graph_past.l1 k p1 y1 n)) y4)) else ((graph_past.j2 k) y4)
def graph_past.j1 (k : Nat) (p1 : (List api_Node)) (y1 : (List (Int × Bool))) : Option ((List Int) × Int) :=
  graph_past.l1 k p1 y1 k (0 : Int) ([] : (List Int))
def graph_past.j4 (k : Nat) (y6 : Int) (L_l2 : Int → (List (Int × Bool)) → Option ((List Int) × Int)) (y8 : (List (Int × Bool))) : Option ((List Int) × Int) :=
  L_l2 (iadd .i64 y6 (1 : Int)) y8
def graph_past.l3 (k : Nat) (x3 : api_Node) (y6 : Int) (L_l2 : Int → (List (Int × Bool)) → Option ((List Int) × Int)) : Nat → Int → (List (Int × Bool)) → Option ((List Int) × Int)
  | 0, _, _ => none
  | n + 1, y9, y10 =>
    if (decide (y9 < (x3.Past.length : Int))) = true then ((at? x3.Past y9).bind fun x4 => (graph_past.l3 k x3 y6 L_l2 n) (iadd .i64 y9 (1 : Int)) (mput y10 x4 true)) else ((graph_past.j4 k y6 L_l2) y10)
def graph_past.l2 (k : Nat) (p2 : (List (List Int))) (p1 : (List api_Node)) : Nat → Int → (List (Int × Bool)) → Option ((List Int) × Int)
  | 0, _, _ => none
  | n + 1, y6, y7 =>
    if (decide (y6 < (p2.length : Int))) = true then ((at? p2 y6).bind fun x1 => (graph_Find k p1 x1).bind fun x2 => if (decide (x2 < (0 : Int))) = true then (some (([] : (List Int)), (14 : Int))) else ((at? p1 x2).bind fun x3 => graph_past.l3 k x3 y6 (graph_past.l2 k p2 p1 n) k (0 : Int) (mput y7 x2 true))) else ((graph_past.j1 k p1) y7)
def graph_past (k : Nat) (p1 : (List api_Node)) (p2 : (List (List Int))) : Option ((List Int) × Int) :=
  graph_past.l2 k p2 p1 k (0 : Int) ([] : List (Int × Bool))
def slices_Equal_int_int.j1 (k : Nat) : Option Bool :=
  some true
def slices_Equal_int_int.l1 (k : Nat) (p1 : (List Int)) (p2 : (List Int)) : Nat → Int → Option Bool
  | 0, _ => none
  | n + 1, y1 =>
    if (decide (y1 < (p1.length : Int))) = true then ((at? p1 y1).bind fun x1 => (at? p2 y1).bind fun x2 => if (x1 != x2) = true then (some false) else ((slices_Equal_int_int.l1 k p1 p2 n) (iadd .i64 y1 (1 : Int)))) else ((slices_Equal_int_int.j1 k))
def slices_Equal_int_int (k : Nat) (p1 : (List Int)) (p2 : (List Int)) : Option Bool :=
  if ((p1.length : Int) != (p2.length : Int)) = true then (some false) else (slices_Equal_int_int.l1 k p1 p2 k (0 : Int))
def cmp_isNaN_int (k : Nat) (p1 : Int) : Option Bool :=
  some (p1 != p1)
def cmp_Less_int (k : Nat) (p1 : Int) (p2 : Int) : Option Bool :=
  (cmp_isNaN_int k p1).bind fun x1 => (if (x1 == true) = true then cmp_isNaN_int k p2 else some false).bind fun x2 => some (if (if x1 then (!x2) else false) then true else (decide (p1 < p2)))
def slices_isNaN_int (k : Nat) (p1 : Int) : Option Bool :=
  some (p1 != p1)
def slices_BinarySearch_int_int.j1 (k : Nat) (p1 : (List Int)) (p2 : Int) (y1 : Int) : Option (Int × Bool) :=
  (if ((decide (y1 < (p1.length : Int))) == true) = true then at? p1 y1 else some (0 : Int)).bind fun x1 => (if (((decide (y1 < (p1.length : Int))) == true) && ((x1 == p2) == false)) = true then at? p1 y1 else some (0 : Int)).bind fun x2 => (if (((decide (y1 < (p1.length : Int))) == true) && ((x1 == p2) == false)) = true then slices_isNaN_int k x2 else some false).bind fun x3 => (if ((((decide (y1 < (p1.length : Int))) == true) && ((x1 == p2) == false)) && (x3 == true)) = true then slices_isNaN_int k p2 else some false).bind fun x4 => (some ((if (decide (y1 < (p1.length : Int))) then (if (x1 == p2) then true else (if x3 then x4 else false)) else false))).bind fun x5 => some (y1, x5)
def slices_BinarySearch_int_int.l1 (k : Nat) (p1 : (List Int)) (p2 : Int) : Nat → Int → Int → Option (Int × Bool)
  | 0, _, _ => none
  | n + 1, y2, y3 =>
    if (decide (y2 < y3)) = true then ((some ((IntKind.wrap .i64 (ishr .u64 (IntKind.wrap .u64 (iadd .i64 y2 y3)) (1 : Int))))).bind fun x6 => (at? p1 x6).bind fun x7 => (cmp_Less_int k x7 p2).bind fun x8 => if x8 = true then ((slices_BinarySearch_int_int.l1 k p1 p2 n) (iadd .i64 x6 (1 : Int)) y3) else ((slices_BinarySearch_int_int.l1 k p1 p2 n) y2 x6)) else ((slices_BinarySearch_int_int.j1 k p1 p2) y2)
def slices_BinarySearch_int_int (k : Nat) (p1 : (List Int)) (p2 : Int) : Option (Int × Bool) :=
  slices_BinarySearch_int_int.l1 k p1 p2 k (0 : Int) (p1.length : Int)
def graph_turn.j1 (k : Nat) (p2 : api_Op) (p1 : (List api_Node)) (y1 : Int) : Option Bool :=
  (some ((if (p2.Seq == y1) then (decide ((p2.Kind == (1 : Int)) = ((p1.length : Int) == (0 : Int)))) else false))).bind fun x1 => some x1
def graph_turn.j2 (k : Nat) (y3 : Int) (L_l1 : Int → Int → Option Bool) (y4 : Int) : Option Bool :=
  L_l1 y4 (iadd .i64 y3 (1 : Int))
def graph_turn.l1 (k : Nat) (p1 : (List api_Node)) (p2 : api_Op) (p3 : (List Int)) : Nat → Int → Int → Option Bool
  | 0, _, _ => none
  | n + 1, y2, y3 =>
    if (decide (y3 < (p1.length : Int))) = true then ((at? p1 y3).bind fun x2 => if (x2.Op.Author != p2.Author) = true then ((graph_turn.j2 k y3 (graph_turn.l1 k p1 p2 p3 n)) y2) else ((slices_BinarySearch_int_int k p3 y3).bind fun x3 => if (!x3.2) = true then (some false) else ((graph_turn.j2 k y3 (graph_turn.l1 k p1 p2 p3 n)) (iadd .u32 y2 (1 : Int))))) else ((graph_turn.j1 k p2 p1) y2)
def graph_turn (k : Nat) (p1 : (List api_Node)) (p2 : api_Op) (p3 : (List Int)) : Option Bool :=
  graph_turn.l1 k p1 p2 p3 k (1 : Int) (0 : Int)
def graph_fits (k : Nat) (p1 : (List api_Node)) (p2 : api_Node) : Option Bool :=
  (graph_past k p1 p2.Op.Parents).bind fun x1 => (if ((x1.2 == (0 : Int)) == true) = true then frame_Right k p2.Op else some false).bind fun x2 => (if ((if (x1.2 == (0 : Int)) then x2 else false) == true) = true then graph_Find k p1 p2.Id else some (0 : Int)).bind fun x3 => (some ((if (if (x1.2 == (0 : Int)) then x2 else false) then (decide (x3 < (0 : Int))) else false))).bind fun x4 => (if (x4 == true) = true then slices_Equal_int_int k x1.1 p2.Past else some false).bind fun x5 => (if ((if x4 then x5 else false) == true) = true then graph_turn k p1 p2.Op x1.1 else some false).bind fun x6 => some (if (if x4 then x5 else false) then x6 else false)
def graph_Right.j1 (k : Nat) : Option Bool :=
  some true
def graph_Right.l1 (k : Nat) (p1 : (List api_Node)) : Nat → Int → Option Bool
  | 0, _ => none
  | n + 1, y1 =>
    if (decide (y1 < (p1.length : Int))) = true then ((at? p1 y1).bind fun x1 => (cut? p1 (0 : Int) y1).bind fun x2 => (graph_fits k x2 x1).bind fun x3 => if (!x3) = true then (some false) else ((graph_Right.l1 k p1 n) (iadd .i64 y1 (1 : Int)))) else ((graph_Right.j1 k))
def graph_Right (k : Nat) (p1 : (List api_Node)) : Option Bool :=
  if (decide ((p1.length : Int) > (96 : Int))) = true then (some false) else (graph_Right.l1 k p1 k (0 : Int))
def math_bits_Len64.j3 (k : Nat) (y5 : Int) (y6 : Int) : Option Int :=
  (at? ([0, 1, 2, 2, 3, 3, 3, 3, 4, 4, 4, 4, 4, 4, 4, 4, 5, 5, 5, 5, 5, 5, 5, 5, 5, 5, 5, 5, 5, 5, 5, 5, 6, 6, 6, 6, 6, 6, 6, 6, 6, 6, 6, 6, 6, 6, 6, 6, 6, 6, 6, 6, 6, 6, 6, 6, 6, 6, 6, 6, 6, 6, 6, 6, 7, 7, 7, 7, 7, 7, 7, 7, 7, 7, 7, 7, 7, 7, 7, 7, 7, 7, 7, 7, 7, 7, 7, 7, 7, 7, 7, 7, 7, 7, 7, 7, 7, 7, 7, 7, 7, 7, 7, 7, 7, 7, 7, 7, 7, 7, 7, 7, 7, 7, 7, 7, 7, 7, 7, 7, 7, 7, 7, 7, 7, 7, 7, 7, 8, 8, 8, 8, 8, 8, 8, 8, 8, 8, 8, 8, 8, 8, 8, 8, 8, 8, 8, 8, 8, 8, 8, 8, 8, 8, 8, 8, 8, 8, 8, 8, 8, 8, 8, 8, 8, 8, 8, 8, 8, 8, 8, 8, 8, 8, 8, 8, 8, 8, 8, 8, 8, 8, 8, 8, 8, 8, 8, 8, 8, 8, 8, 8, 8, 8, 8, 8, 8, 8, 8, 8, 8, 8, 8, 8, 8, 8, 8, 8, 8, 8, 8, 8, 8, 8, 8, 8, 8, 8, 8, 8, 8, 8, 8, 8, 8, 8, 8, 8, 8, 8, 8, 8, 8, 8, 8, 8, 8, 8, 8, 8, 8, 8, 8, 8, 8, 8, 8, 8, 8, 8, 8, 8, 8, 8, 8, 8] : List Int) (IntKind.wrap .u8 y5)).bind fun x1 => some (iadd .i64 y6 (IntKind.wrap .i64 x1))
def math_bits_Len64.j2 (k : Nat) (y3 : Int) (y4 : Int) : Option Int :=
  if (decide (y3 ≥ (256 : Int))) = true then ((math_bits_Len64.j3 k) (ishr .u64 y3 (8 : Int)) (iadd .i64 y4 (8 : Int))) else ((math_bits_Len64.j3 k) y3 y4)
def math_bits_Len64.j1 (k : Nat) (y1 : Int) (y2 : Int) : Option Int :=
  if (decide (y1 ≥ (65536 : Int))) = true then ((math_bits_Len64.j2 k) (ishr .u64 y1 (16 : Int)) (iadd .i64 y2 (16 : Int))) else ((math_bits_Len64.j2 k) y1 y2)
def math_bits_Len64 (k : Nat) (p1 : Int) : Option Int :=
  if (decide (p1 ≥ (4294967296 : Int))) = true then ((math_bits_Len64.j1 k) (ishr .u64 p1 (32 : Int)) (32 : Int)) else ((math_bits_Len64.j1 k) p1 (0 : Int))
def math_bits_Len (k : Nat) (p1 : Int) : Option Int :=
  (math_bits_Len64 k p1).bind fun x1 => some x1
def queue_Wanted_1 (k : Nat) (p1 : (List Int)) (p2 : (List Int)) : Option Int :=
  (cut? p1 (0 : Int) (32 : Int)).bind fun x1 => (cut? p2 (0 : Int) (32 : Int)).bind fun x2 => (bytes_Compare k x1 x2).bind fun x3 => some x3
def slices_insertionSortCmpFunc_api_Key_queue_Wanted_1.j1 (k : Nat) (y1 : Int) (L_l1 : Int → (List (List Int)) → Option (List (List Int))) (y3 : (List (List Int))) : Option (List (List Int)) :=
  L_l1 (iadd .i64 y1 (1 : Int)) y3
def slices_insertionSortCmpFunc_api_Key_queue_Wanted_1.l2 (k : Nat) (p2 : Int) (y1 : Int) (L_l1 : Int → (List (List Int)) → Option (List (List Int))) : Nat → Int → (List (List Int)) → Option (List (List Int))
  | 0, _, _ => none
  | n + 1, y4, y5 =>
    if ((decide (y4 > p2)) == true) = true → (0 ≤ y4 ∧ y4 < y5.length) then ((if ((decide (y4 > p2)) == true) = true then at? y5 y4 else some (List.replicate 32 (0 : Int))).bind fun x1 => if ((decide (y4 > p2)) == true) = true → (0 ≤ (isub .i64 y4 (1 : Int)) ∧ (isub .i64 y4 (1 : Int)) < y5.length) then ((if ((decide (y4 > p2)) == true) = true then at? y5 (isub .i64 y4 (1 : Int)) else some (List.replicate 32 (0 : Int))).bind fun x2 => (if ((decide (y4 > p2)) == true) = true then queue_Wanted_1 k x1 x2 else some (0 : Int)).bind fun x3 => if (if (decide (y4 > p2)) then (decide (x3 < (0 : Int))) else false) = true then (if (0 ≤ (isub .i64 y4 (1 : Int)) ∧ (isub .i64 y4 (1 : Int)) < y5.length) then ((at? y5 (isub .i64 y4 (1 : Int))).bind fun x4 => if (0 ≤ y4 ∧ y4 < y5.length) then ((at? y5 y4).bind fun x5 => if (0 ≤ y4 ∧ y4 < y5.length) then ((set? y5 y4 x4).bind fun x6 => if (0 ≤ (isub .i64 y4 (1 : Int)) ∧ (isub .i64 y4 (1 : Int)) < x6.length) then ((set? x6 (isub .i64 y4 (1 : Int)) x5).bind fun x7 => (slices_insertionSortCmpFunc_api_Key_queue_Wanted_1.l2 k p2 y1 L_l1 n) (isub .i64 y4 (1 : Int)) x7) else none) else none) else none) else none) else ((slices_insertionSortCmpFunc_api_Key_queue_Wanted_1.j1 k y1 L_l1) y5)) else none) else none
def slices_insertionSortCmpFunc_api_Key_queue_Wanted_1.l1 (k : Nat) (p3 : Int) (p2 : Int) : Nat → Int → (List (List Int)) → Option (List (List Int))
  | 0, _, _ => none
  | n + 1, y1, y2 =>
    if (decide (y1 < p3)) = true then (slices_insertionSortCmpFunc_api_Key_queue_Wanted_1.l2 k p2 y1 (slices_insertionSortCmpFunc_api_Key_queue_Wanted_1.l1 k p3 p2 n) k y1 y2) else (some y2)
def slices_insertionSortCmpFunc_api_Key_queue_Wanted_1 (k : Nat) (p1 : (List (List Int))) (p2 : Int) (p3 : Int) : Option (List (List Int)) :=
  slices_insertionSortCmpFunc_api_Key_queue_Wanted_1.l1 k p3 p2 k (iadd .i64 p2 (1 : Int)) p1
def slices_siftDownCmpFunc_api_Key_queue_Wanted_1.j1 (k : Nat) (p4 : Int) (y1 : Int) (y2 : (List (List Int))) (L_l1 : Int → (List (List Int)) → Option (List (List Int))) (y3 : Int) : Option (List (List Int)) :=
  if (0 ≤ (iadd .i64 p4 y1) ∧ (iadd .i64 p4 y1) < y2.length) then ((at? y2 (iadd .i64 p4 y1)).bind fun x6 => if (0 ≤ (iadd .i64 p4 y3) ∧ (iadd .i64 p4 y3) < y2.length) then ((at? y2 (iadd .i64 p4 y3)).bind fun x7 => (queue_Wanted_1 k x6 x7).bind fun x8 => if (!(decide (x8 < (0 : Int)))) = true then (some y2) else (if (0 ≤ (iadd .i64 p4 y3) ∧ (iadd .i64 p4 y3) < y2.length) then ((at? y2 (iadd .i64 p4 y3)).bind fun x9 => if (0 ≤ (iadd .i64 p4 y1) ∧ (iadd .i64 p4 y1) < y2.length) then ((at? y2 (iadd .i64 p4 y1)).bind fun x10 => if (0 ≤ (iadd .i64 p4 y1) ∧ (iadd .i64 p4 y1) < y2.length) then ((set? y2 (iadd .i64 p4 y1) x9).bind fun x11 => if (0 ≤ (iadd .i64 p4 y3) ∧ (iadd .i64 p4 y3) < x11.length) then ((set? x11 (iadd .i64 p4 y3) x10).bind fun x12 => L_l1 y3 x12) else none) else none) else none) else none)) else none) else none
def slices_siftDownCmpFunc_api_Key_queue_Wanted_1.l1 (k : Nat) (p3 : Int) (p4 : Int) : Nat → Int → (List (List Int)) → Option (List (List Int))
  | 0, _, _ => none
  | n + 1, y1, y2 =>
    if (decide ((iadd .i64 (imul .i64 (2 : Int) y1) (1 : Int)) ≥ p3)) = true then (some y2) else ((some ((decide ((iadd .i64 (iadd .i64 (imul .i64 (2 : Int) y1) (1 : Int)) (1 : Int)) < p3)))).bind fun x1 => if (x1 == true) = true → (0 ≤ (iadd .i64 p4 (iadd .i64 (imul .i64 (2 : Int) y1) (1 : Int))) ∧ (iadd .i64 p4 (iadd .i64 (imul .i64 (2 : Int) y1) (1 : Int))) < y2.length) then ((if (x1 == true) = true then at? y2 (iadd .i64 p4 (iadd .i64 (imul .i64 (2 : Int) y1) (1 : Int))) else some (List.replicate 32 (0 : Int))).bind fun x2 => (some ((iadd .i64 (iadd .i64 p4 (iadd .i64 (imul .i64 (2 : Int) y1) (1 : Int))) (1 : Int)))).bind fun x3 => if (x1 == true) = true → (0 ≤ x3 ∧ x3 < y2.length) then ((if (x1 == true) = true then at? y2 x3 else some (List.replicate 32 (0 : Int))).bind fun x4 => (if (x1 == true) = true then queue_Wanted_1 k x2 x4 else some (0 : Int)).bind fun x5 => if (if x1 then (decide (x5 < (0 : Int))) else false) = true then ((slices_siftDownCmpFunc_api_Key_queue_Wanted_1.j1 k p4 y1 y2 (slices_siftDownCmpFunc_api_Key_queue_Wanted_1.l1 k p3 p4 n)) (iadd .i64 (iadd .i64 (imul .i64 (2 : Int) y1) (1 : Int)) (1 : Int))) else ((slices_siftDownCmpFunc_api_Key_queue_Wanted_1.j1 k p4 y1 y2 (slices_siftDownCmpFunc_api_Key_queue_Wanted_1.l1 k p3 p4 n)) (iadd .i64 (imul .i64 (2 : Int) y1) (1 : Int)))) else none) else none)
def slices_siftDownCmpFunc_api_Key_queue_Wanted_1 (k : Nat) (p1 : (List (List Int))) (p2 : Int) (p3 : Int) (p4 : Int) : Option (List (List Int)) :=
  slices_siftDownCmpFunc_api_Key_queue_Wanted_1.l1 k p3 p4 k p2 p1
def slices_heapSortCmpFunc_api_Key_queue_Wanted_1.l1 (k : Nat) (p2 : Int) : Nat → Int → (List (List Int)) → Option (List (List Int))
  | 0, _, _ => none
  | n + 1, y2, y3 =>
    if (decide (y2 ≥ (0 : Int))) = true then (if (0 ≤ (iadd .i64 p2 y2) ∧ (iadd .i64 p2 y2) < y3.length) then ((at? y3 (iadd .i64 p2 y2)).bind fun x1 => if (0 ≤ p2 ∧ p2 < y3.length) then ((at? y3 p2).bind fun x2 => if (0 ≤ p2 ∧ p2 < y3.length) then ((set? y3 p2 x1).bind fun x3 => if (0 ≤ (iadd .i64 p2 y2) ∧ (iadd .i64 p2 y2) < x3.length) then ((set? x3 (iadd .i64 p2 y2) x2).bind fun x4 => (slices_siftDownCmpFunc_api_Key_queue_Wanted_1 k x4 (0 : Int) y2 p2).bind fun x5 => (slices_heapSortCmpFunc_api_Key_queue_Wanted_1.l1 k p2 n) (isub .i64 y2 (1 : Int)) x5) else none) else none) else none) else none) else (some y3)
def slices_heapSortCmpFunc_api_Key_queue_Wanted_1.j1 (k : Nat) (p2 : Int) (p3 : Int) (y1 : (List (List Int))) : Option (List (List Int)) :=
  slices_heapSortCmpFunc_api_Key_queue_Wanted_1.l1 k p2 k (isub .i64 (isub .i64 p3 p2) (1 : Int)) y1
def slices_heapSortCmpFunc_api_Key_queue_Wanted_1.l2 (k : Nat) (p3 : Int) (p2 : Int) : Nat → Int → (List (List Int)) → Option (List (List Int))
  | 0, _, _ => none
  | n + 1, y4, y5 =>
    if (decide (y4 ≥ (0 : Int))) = true then ((slices_siftDownCmpFunc_api_Key_queue_Wanted_1 k y5 y4 (isub .i64 p3 p2) p2).bind fun x6 => (slices_heapSortCmpFunc_api_Key_queue_Wanted_1.l2 k p3 p2 n) (isub .i64 y4 (1 : Int)) x6) else ((slices_heapSortCmpFunc_api_Key_queue_Wanted_1.j1 k p2 p3) y5)
def slices_heapSortCmpFunc_api_Key_queue_Wanted_1 (k : Nat) (p1 : (List (List Int))) (p2 : Int) (p3 : Int) : Option (List (List Int)) :=
  slices_heapSortCmpFunc_api_Key_queue_Wanted_1.l2 k p3 p2 k (iquo .i64 (isub .i64 (isub .i64 p3 p2) (1 : Int)) (2 : Int)) p1
def slices_nextPowerOfTwo (k : Nat) (p1 : Int) : Option Int :=
  (math_bits_Len k (IntKind.wrap .u64 p1)).bind fun x1 => if 0 ≤ x1 then (some (ishl .u64 (1 : Int) x1)) else none
def slices_xorshift_Next (k : Nat) (p1 : Int) : Option (Int × Int) :=
  (some ((ixor .u64 (ixor .u64 p1 (ishl .u64 p1 (13 : Int))) (ishr .u64 (ixor .u64 p1 (ishl .u64 p1 (13 : Int))) (7 : Int))))).bind fun x1 => some ((ixor .u64 x1 (ishl .u64 x1 (17 : Int))), (ixor .u64 x1 (ishl .u64 x1 (17 : Int))))
def slices_breakPatternsCmpFunc_api_Key_queue_Wanted_1.j1 (k : Nat) (p2 : Int) (y3 : (List (List Int))) (y1 : Int) (x4 : (Int × Int)) (L_l1 : Int → Int → (List (List Int)) → Option (List (List Int))) (y4 : Int) : Option (List (List Int)) :=
  if (0 ≤ (iadd .i64 p2 y4) ∧ (iadd .i64 p2 y4) < y3.length) then ((at? y3 (iadd .i64 p2 y4)).bind fun x6 => if (0 ≤ y1 ∧ y1 < y3.length) then ((at? y3 y1).bind fun x7 => if (0 ≤ y1 ∧ y1 < y3.length) then ((set? y3 y1 x6).bind fun x8 => if (0 ≤ (iadd .i64 p2 y4) ∧ (iadd .i64 p2 y4) < x8.length) then ((set? x8 (iadd .i64 p2 y4) x7).bind fun x9 => L_l1 (iadd .i64 y1 (1 : Int)) x4.2 x9) else none) else none) else none) else none
def slices_breakPatternsCmpFunc_api_Key_queue_Wanted_1.l1 (k : Nat) (p2 : Int) (p3 : Int) (x1 : Int) : Nat → Int → Int → (List (List Int)) → Option (List (List Int))
  | 0, _, _, _ => none
  | n + 1, y1, y2, y3 =>
    (some ((iadd .i64 p2 (imul .i64 (iquo .i64 (isub .i64 p3 p2) (4 : Int)) (2 : Int))))).bind fun x3 => if (decide (y1 ≤ (iadd .i64 x3 (1 : Int)))) = true then ((slices_xorshift_Next k y2).bind fun x4 => (some ((decide ((IntKind.wrap .i64 (iand .u64 x4.1 (isub .u64 x1 (1 : Int)))) ≥ (isub .i64 p3 p2))))).bind fun x5 => if x5 = true then ((some ((isub .i64 (IntKind.wrap .i64 (iand .u64 x4.1 (isub .u64 x1 (1 : Int)))) (isub .i64 p3 p2)))).bind fun x10 => (slices_breakPatternsCmpFunc_api_Key_queue_Wanted_1.j1 k p2 y3 y1 x4 (slices_breakPatternsCmpFunc_api_Key_queue_Wanted_1.l1 k p2 p3 x1 n)) x10) else ((slices_breakPatternsCmpFunc_api_Key_queue_Wanted_1.j1 k p2 y3 y1 x4 (slices_breakPatternsCmpFunc_api_Key_queue_Wanted_1.l1 k p2 p3 x1 n)) (IntKind.wrap .i64 (iand .u64 x4.1 (isub .u64 x1 (1 : Int)))))) else (some y3)
def slices_breakPatternsCmpFunc_api_Key_queue_Wanted_1 (k : Nat) (p1 : (List (List Int))) (p2 : Int) (p3 : Int) : Option (List (List Int)) :=
  if (decide ((isub .i64 p3 p2) ≥ (8 : Int))) = true then ((slices_nextPowerOfTwo k (isub .i64 p3 p2)).bind fun x1 => (some ((iadd .i64 p2 (imul .i64 (iquo .i64 (isub .i64 p3 p2) (4 : Int)) (2 : Int))))).bind fun x2 => slices_breakPatternsCmpFunc_api_Key_queue_Wanted_1.l1 k p2 p3 x1 k (isub .i64 x2 (1 : Int)) (IntKind.wrap .u64 (isub .i64 p3 p2)) p1) else (some p1)
def slices_order2CmpFunc_api_Key_queue_Wanted_1 (k : Nat) (p1 : (List (List Int))) (p2 : Int) (p3 : Int) (p4 : Int) : Option (Int × Int × Int) :=
  (at? p1 p3).bind fun x1 => (at? p1 p2).bind fun x2 => (queue_Wanted_1 k x1 x2).bind fun x3 => if (decide (x3 < (0 : Int))) = true then (some (p3, p2, (iadd .i64 p4 (1 : Int)))) else (some (p2, p3, p4))
def slices_medianCmpFunc_api_Key_queue_Wanted_1 (k : Nat) (p1 : (List (List Int))) (p2 : Int) (p3 : Int) (p4 : Int) (p5 : Int) : Option (Int × Int) :=
  (slices_order2CmpFunc_api_Key_queue_Wanted_1 k p1 p2 p3 p5).bind fun x1 => (slices_order2CmpFunc_api_Key_queue_Wanted_1 k p1 x1.2.1 p4 x1.2.2).bind fun x2 => (slices_order2CmpFunc_api_Key_queue_Wanted_1 k p1 x1.1 x2.1 x2.2.2).bind fun x3 => some (x3.2.1, x3.2.2)
def slices_medianAdjacentCmpFunc_api_Key_queue_Wanted_1 (k : Nat) (p1 : (List (List Int))) (p2 : Int) (p3 : Int) : Option (Int × Int) :=
  (slices_medianCmpFunc_api_Key_queue_Wanted_1 k p1 (isub .i64 p2 (1 : Int)) p2 (iadd .i64 p2 (1 : Int)) p3).bind fun x1 => some (x1.1, x1.2)
def slices_choosePivotCmpFunc_api_Key_queue_Wanted_1.j1 (k : Nat) (y1 : Int) (y2 : Int) : Option (Int × Int) :=
  if (y2 == (0 : Int)) = true then (some (y1, (1 : Int))) else (if (y2 == (12 : Int)) = true then (some (y1, (2 : Int))) else (some (y1, (0 : Int))))
def slices_choosePivotCmpFunc_api_Key_queue_Wanted_1.j2 (k : Nat) (p1 : (List (List Int))) (y3 : Int) (y4 : Int) (y5 : Int) (y6 : Int) : Option (Int × Int) :=
  (slices_medianCmpFunc_api_Key_queue_Wanted_1 k p1 y3 y4 y5 y6).bind fun x4 => (slices_choosePivotCmpFunc_api_Key_queue_Wanted_1.j1 k) x4.1 x4.2
def slices_choosePivotCmpFunc_api_Key_queue_Wanted_1 (k : Nat) (p1 : (List (List Int))) (p2 : Int) (p3 : Int) : Option (Int × Int) :=
  (some ((iadd .i64 p2 (imul .i64 (iquo .i64 (isub .i64 p3 p2) (4 : Int)) (1 : Int))))).bind fun x1 => (some ((iadd .i64 p2 (imul .i64 (iquo .i64 (isub .i64 p3 p2) (4 : Int)) (2 : Int))))).bind fun x2 => (some ((iadd .i64 p2 (imul .i64 (iquo .i64 (isub .i64 p3 p2) (4 : Int)) (3 : Int))))).bind fun x3 => if (decide ((isub .i64 p3 p2) ≥ (8 : Int))) = true then (if (decide ((isub .i64 p3 p2) ≥ (50 : Int))) = true then ((slices_medianAdjacentCmpFunc_api_Key_queue_Wanted_1 k p1 x1 (0 : Int)).bind fun x5 => (slices_medianAdjacentCmpFunc_api_Key_queue_Wanted_1 k p1 x2 x5.2).bind fun x6 => (slices_medianAdjacentCmpFunc_api_Key_queue_Wanted_1 k p1 x3 x6.2).bind fun x7 => (slices_choosePivotCmpFunc_api_Key_queue_Wanted_1.j2 k p1) x5.1 x6.1 x7.1 x7.2) else ((slices_choosePivotCmpFunc_api_Key_queue_Wanted_1.j2 k p1) x1 x2 x3 (0 : Int))) else ((slices_choosePivotCmpFunc_api_Key_queue_Wanted_1.j1 k) x2 (0 : Int))
def slices_reverseRangeCmpFunc_api_Key_queue_Wanted_1.l1 (k : Nat) : Nat → Int → Int → (List (List Int)) → Option (List (List Int))
  | 0, _, _, _ => none
  | n + 1, y1, y2, y3 =>
    if (decide (y1 < y2)) = true then (if (0 ≤ y2 ∧ y2 < y3.length) then ((at? y3 y2).bind fun x1 => if (0 ≤ y1 ∧ y1 < y3.length) then ((at? y3 y1).bind fun x2 => if (0 ≤ y1 ∧ y1 < y3.length) then ((set? y3 y1 x1).bind fun x3 => if (0 ≤ y2 ∧ y2 < x3.length) then ((set? x3 y2 x2).bind fun x4 => (slices_reverseRangeCmpFunc_api_Key_queue_Wanted_1.l1 k n) (iadd .i64 y1 (1 : Int)) (isub .i64 y2 (1 : Int)) x4) else none) else none) else none) else none) else (some y3)
def slices_reverseRangeCmpFunc_api_Key_queue_Wanted_1 (k : Nat) (p1 : (List (List Int))) (p2 : Int) (p3 : Int) : Option (List (List Int)) :=
  slices_reverseRangeCmpFunc_api_Key_queue_Wanted_1.l1 k k p2 (isub .i64 p3 (1 : Int)) p1
def slices_partialInsertionSortCmpFunc_api_Key_queue_Wanted_1.j1 (k : Nat) (y1 : (List (List Int))) : Option (Bool × (List (List Int))) :=
  some (false, y1)
def slices_partialInsertionSortCmpFunc_api_Key_queue_Wanted_1.j2 (k : Nat) (y3 : Int) (L_l1 : Int → Int → (List (List Int)) → Option (Bool × (List (List Int)))) (y5 : Int) (y6 : (List (List Int))) : Option (Bool × (List (List Int))) :=
  L_l1 y5 (iadd .i64 y3 (1 : Int)) y6
def slices_partialInsertionSortCmpFunc_api_Key_queue_Wanted_1.l2 (k : Nat) (p3 : Int) (y3 : Int) (y7 : Int) (L_l1 : Int → Int → (List (List Int)) → Option (Bool × (List (List Int)))) : Nat → Int → (List (List Int)) → Option (Bool × (List (List Int)))
  | 0, _, _ => none
  | n + 1, y9, y10 =>
    if (decide (y9 < p3)) = true then (if (0 ≤ y9 ∧ y9 < y10.length) then ((at? y10 y9).bind fun x5 => if (0 ≤ (isub .i64 y9 (1 : Int)) ∧ (isub .i64 y9 (1 : Int)) < y10.length) then ((at? y10 (isub .i64 y9 (1 : Int))).bind fun x6 => (queue_Wanted_1 k x5 x6).bind fun x7 => if (!(decide (x7 < (0 : Int)))) = true then ((slices_partialInsertionSortCmpFunc_api_Key_queue_Wanted_1.j2 k y3 L_l1) y7 y10) else (if (0 ≤ (isub .i64 y9 (1 : Int)) ∧ (isub .i64 y9 (1 : Int)) < y10.length) then ((at? y10 (isub .i64 y9 (1 : Int))).bind fun x8 => if (0 ≤ y9 ∧ y9 < y10.length) then ((at? y10 y9).bind fun x9 => if (0 ≤ y9 ∧ y9 < y10.length) then ((set? y10 y9 x8).bind fun x10 => if (0 ≤ (isub .i64 y9 (1 : Int)) ∧ (isub .i64 y9 (1 : Int)) < x10.length) then ((set? x10 (isub .i64 y9 (1 : Int)) x9).bind fun x11 => (slices_partialInsertionSortCmpFunc_api_Key_queue_Wanted_1.l2 k p3 y3 y7 L_l1 n) (iadd .i64 y9 (1 : Int)) x11) else none) else none) else none) else none)) else none) else none) else ((slices_partialInsertionSortCmpFunc_api_Key_queue_Wanted_1.j2 k y3 L_l1) y7 y10)
def slices_partialInsertionSortCmpFunc_api_Key_queue_Wanted_1.j4 (k : Nat) (p3 : Int) (y7 : Int) (y3 : Int) (L_l1 : Int → Int → (List (List Int)) → Option (Bool × (List (List Int)))) (y8 : (List (List Int))) : Option (Bool × (List (List Int))) :=
  if (decide ((isub .i64 p3 y7) ≥ (2 : Int))) = true then (slices_partialInsertionSortCmpFunc_api_Key_queue_Wanted_1.l2 k p3 y3 y7 L_l1 k (iadd .i64 y7 (1 : Int)) y8) else ((slices_partialInsertionSortCmpFunc_api_Key_queue_Wanted_1.j2 k y3 L_l1) y7 y8)
def slices_partialInsertionSortCmpFunc_api_Key_queue_Wanted_1.l3 (k : Nat) (p3 : Int) (y7 : Int) (y3 : Int) (L_l1 : Int → Int → (List (List Int)) → Option (Bool × (List (List Int)))) : Nat → Int → (List (List Int)) → Option (Bool × (List (List Int)))
  | 0, _, _ => none
  | n + 1, y11, y12 =>
    if (decide (y11 ≥ (1 : Int))) = true then (if (0 ≤ y11 ∧ y11 < y12.length) then ((at? y12 y11).bind fun x12 => if (0 ≤ (isub .i64 y11 (1 : Int)) ∧ (isub .i64 y11 (1 : Int)) < y12.length) then ((at? y12 (isub .i64 y11 (1 : Int))).bind fun x13 => (queue_Wanted_1 k x12 x13).bind fun x14 => if (!(decide (x14 < (0 : Int)))) = true then ((slices_partialInsertionSortCmpFunc_api_Key_queue_Wanted_1.j4 k p3 y7 y3 L_l1) y12) else (if (0 ≤ (isub .i64 y11 (1 : Int)) ∧ (isub .i64 y11 (1 : Int)) < y12.length) then ((at? y12 (isub .i64 y11 (1 : Int))).bind fun x15 => if (0 ≤ y11 ∧ y11 < y12.length) then ((at? y12 y11).bind fun x16 => if (0 ≤ y11 ∧ y11 < y12.length) then ((set? y12 y11 x15).bind fun x17 => if (0 ≤ (isub .i64 y11 (1 : Int)) ∧ (isub .i64 y11 (1 : Int)) < x17.length) then ((set? x17 (isub .i64 y11 (1 : Int)) x16).bind fun x18 => (slices_partialInsertionSortCmpFunc_api_Key_queue_Wanted_1.l3 k p3 y7 y3 L_l1 n) (isub .i64 y11 (1 : Int)) x18) else none) else none) else none) else none)) else none) else none) else ((slices_partialInsertionSortCmpFunc_api_Key_queue_Wanted_1.j4 k p3 y7 y3 L_l1) y12)
def slices_partialInsertionSortCmpFunc_api_Key_queue_Wanted_1.j3 (k : Nat) (p3 : Int) (y4 : (List (List Int))) (p2 : Int) (y3 : Int) (L_l1 : Int → Int → (List (List Int)) → Option (Bool × (List (List Int)))) (y7 : Int) : Option (Bool × (List (List Int))) :=
  if (y7 == p3) = true then (some (true, y4)) else (if (decide ((isub .i64 p3 p2) < (50 : Int))) = true then (some (false, y4)) else (if (0 ≤ (isub .i64 y7 (1 : Int)) ∧ (isub .i64 y7 (1 : Int)) < y4.length) then ((at? y4 (isub .i64 y7 (1 : Int))).bind fun x1 => if (0 ≤ y7 ∧ y7 < y4.length) then ((at? y4 y7).bind fun x2 => if (0 ≤ y7 ∧ y7 < y4.length) then ((set? y4 y7 x1).bind fun x3 => if (0 ≤ (isub .i64 y7 (1 : Int)) ∧ (isub .i64 y7 (1 : Int)) < x3.length) then ((set? x3 (isub .i64 y7 (1 : Int)) x2).bind fun x4 => if (decide ((isub .i64 y7 p2) ≥ (2 : Int))) = true then (slices_partialInsertionSortCmpFunc_api_Key_queue_Wanted_1.l3 k p3 y7 y3 L_l1 k (isub .i64 y7 (1 : Int)) x4) else ((slices_partialInsertionSortCmpFunc_api_Key_queue_Wanted_1.j4 k p3 y7 y3 L_l1) x4)) else none) else none) else none) else none))
def slices_partialInsertionSortCmpFunc_api_Key_queue_Wanted_1.l4 (k : Nat) (p3 : Int) (y4 : (List (List Int))) (p2 : Int) (y3 : Int) (L_l1 : Int → Int → (List (List Int)) → Option (Bool × (List (List Int)))) : Nat → Int → Option (Bool × (List (List Int)))
  | 0, _ => none
  | n + 1, y13 =>
    if ((decide (y13 < p3)) == true) = true → (0 ≤ y13 ∧ y13 < y4.length) then ((if ((decide (y13 < p3)) == true) = true then at? y4 y13 else some (List.replicate 32 (0 : Int))).bind fun x19 => if ((decide (y13 < p3)) == true) = true → (0 ≤ (isub .i64 y13 (1 : Int)) ∧ (isub .i64 y13 (1 : Int)) < y4.length) then ((if ((decide (y13 < p3)) == true) = true then at? y4 (isub .i64 y13 (1 : Int)) else some (List.replicate 32 (0 : Int))).bind fun x20 => (if ((decide (y13 < p3)) == true) = true then queue_Wanted_1 k x19 x20 else some (0 : Int)).bind fun x21 => if (if (decide (y13 < p3)) then (!(decide (x21 < (0 : Int)))) else false) = true then ((slices_partialInsertionSortCmpFunc_api_Key_queue_Wanted_1.l4 k p3 y4 p2 y3 L_l1 n) (iadd .i64 y13 (1 : Int))) else ((slices_partialInsertionSortCmpFunc_api_Key_queue_Wanted_1.j3 k p3 y4 p2 y3 L_l1) y13)) else none) else none
def slices_partialInsertionSortCmpFunc_api_Key_queue_Wanted_1.l1 (k : Nat) (p3 : Int) (p2 : Int) : Nat → Int → Int → (List (List Int)) → Option (Bool × (List (List Int)))
  | 0, _, _, _ => none
  | n + 1, y2, y3, y4 =>
    if (decide (y3 < (5 : Int))) = true then (slices_partialInsertionSortCmpFunc_api_Key_queue_Wanted_1.l4 k p3 y4 p2 y3 (slices_partialInsertionSortCmpFunc_api_Key_queue_Wanted_1.l1 k p3 p2 n) k y2) else ((slices_partialInsertionSortCmpFunc_api_Key_queue_Wanted_1.j1 k) y4)
def slices_partialInsertionSortCmpFunc_api_Key_queue_Wanted_1 (k : Nat) (p1 : (List (List Int))) (p2 : Int) (p3 : Int) : Option (Bool × (List (List Int))) :=
  slices_partialInsertionSortCmpFunc_api_Key_queue_Wanted_1.l1 k p3 p2 k (iadd .i64 p2 (1 : Int)) (0 : Int) p1
def slices_partitionEqualCmpFunc_api_Key_queue_Wanted_1.j1 (k : Nat) (y1 : Int) (y2 : (List (List Int))) : Option (Int × (List (List Int))) :=
  some (y1, y2)
def slices_partitionEqualCmpFunc_api_Key_queue_Wanted_1.j3 (k : Nat) (y6 : Int) (y5 : (List (List Int))) (L_l1 : Int → Int → (List (List Int)) → Option (Int × (List (List Int)))) (y7 : Int) : Option (Int × (List (List Int))) :=
  if (decide (y6 > y7)) = true then ((slices_partitionEqualCmpFunc_api_Key_queue_Wanted_1.j1 k) y6 y5) else (if (0 ≤ y7 ∧ y7 < y5.length) then ((at? y5 y7).bind fun x5 => if (0 ≤ y6 ∧ y6 < y5.length) then ((at? y5 y6).bind fun x6 => if (0 ≤ y6 ∧ y6 < y5.length) then ((set? y5 y6 x5).bind fun x7 => if (0 ≤ y7 ∧ y7 < x7.length) then ((set? x7 y7 x6).bind fun x8 => L_l1 (iadd .i64 y6 (1 : Int)) (isub .i64 y7 (1 : Int)) x8) else none) else none) else none) else none)
def slices_partitionEqualCmpFunc_api_Key_queue_Wanted_1.l2 (k : Nat) (y6 : Int) (p2 : Int) (y5 : (List (List Int))) (L_l1 : Int → Int → (List (List Int)) → Option (Int × (List (List Int)))) : Nat → Int → Option (Int × (List (List Int)))
  | 0, _ => none
  | n + 1, y8 =>
    if ((decide (y6 ≤ y8)) == true) = true → (0 ≤ p2 ∧ p2 < y5.length) then ((if ((decide (y6 ≤ y8)) == true) = true then at? y5 p2 else some (List.replicate 32 (0 : Int))).bind fun x9 => if ((decide (y6 ≤ y8)) == true) = true → (0 ≤ y8 ∧ y8 < y5.length) then ((if ((decide (y6 ≤ y8)) == true) = true then at? y5 y8 else some (List.replicate 32 (0 : Int))).bind fun x10 => (if ((decide (y6 ≤ y8)) == true) = true then queue_Wanted_1 k x9 x10 else some (0 : Int)).bind fun x11 => if (if (decide (y6 ≤ y8)) then (decide (x11 < (0 : Int))) else false) = true then ((slices_partitionEqualCmpFunc_api_Key_queue_Wanted_1.l2 k y6 p2 y5 L_l1 n) (isub .i64 y8 (1 : Int))) else ((slices_partitionEqualCmpFunc_api_Key_queue_Wanted_1.j3 k y6 y5 L_l1) y8)) else none) else none
def slices_partitionEqualCmpFunc_api_Key_queue_Wanted_1.j2 (k : Nat) (p2 : Int) (y5 : (List (List Int))) (y4 : Int) (L_l1 : Int → Int → (List (List Int)) → Option (Int × (List (List Int)))) (y6 : Int) : Option (Int × (List (List Int))) :=
  slices_partitionEqualCmpFunc_api_Key_queue_Wanted_1.l2 k y6 p2 y5 L_l1 k y4
def slices_partitionEqualCmpFunc_api_Key_queue_Wanted_1.l3 (k : Nat) (y4 : Int) (p2 : Int) (y5 : (List (List Int))) (L_l1 : Int → Int → (List (List Int)) → Option (Int × (List (List Int)))) : Nat → Int → Option (Int × (List (List Int)))
  | 0, _ => none
  | n + 1, y9 =>
    if ((decide (y9 ≤ y4)) == true) = true → (0 ≤ p2 ∧ p2 < y5.length) then ((if ((decide (y9 ≤ y4)) == true) = true then at? y5 p2 else some (List.replicate 32 (0 : Int))).bind fun x12 => if ((decide (y9 ≤ y4)) == true) = true → (0 ≤ y9 ∧ y9 < y5.length) then ((if ((decide (y9 ≤ y4)) == true) = true then at? y5 y9 else some (List.replicate 32 (0 : Int))).bind fun x13 => (if ((decide (y9 ≤ y4)) == true) = true then queue_Wanted_1 k x12 x13 else some (0 : Int)).bind fun x14 => if (if (decide (y9 ≤ y4)) then (!(decide (x14 < (0 : Int)))) else false) = true then ((slices_partitionEqualCmpFunc_api_Key_queue_Wanted_1.l3 k y4 p2 y5 L_l1 n) (iadd .i64 y9 (1 : Int))) else ((slices_partitionEqualCmpFunc_api_Key_queue_Wanted_1.j2 k p2 y5 y4 L_l1) y9)) else none) else none
def slices_partitionEqualCmpFunc_api_Key_queue_Wanted_1.l1 (k : Nat) (p2 : Int) : Nat → Int → Int → (List (List Int)) → Option (Int × (List (List Int)))
  | 0, _, _, _ => none
  | n + 1, y3, y4, y5 =>
    slices_partitionEqualCmpFunc_api_Key_queue_Wanted_1.l3 k y4 p2 y5 (slices_partitionEqualCmpFunc_api_Key_queue_Wanted_1.l1 k p2 n) k y3
def slices_partitionEqualCmpFunc_api_Key_queue_Wanted_1 (k : Nat) (p1 : (List (List Int))) (p2 : Int) (p3 : Int) (p4 : Int) : Option (Int × (List (List Int))) :=
  if (0 ≤ p4 ∧ p4 < p1.length) then ((at? p1 p4).bind fun x1 => if (0 ≤ p2 ∧ p2 < p1.length) then ((at? p1 p2).bind fun x2 => if (0 ≤ p2 ∧ p2 < p1.length) then ((set? p1 p2 x1).bind fun x3 => if (0 ≤ p4 ∧ p4 < x3.length) then ((set? x3 p4 x2).bind fun x4 => slices_partitionEqualCmpFunc_api_Key_queue_Wanted_1.l1 k p2 k (iadd .i64 p2 (1 : Int)) (isub .i64 p3 (1 : Int)) x4) else none) else none) else none) else none
def slices_partitionCmpFunc_api_Key_queue_Wanted_1.j3 (k : Nat) (p2 : Int) (y3 : Int) (y4 : (List (List Int))) : Option (Int × Bool × (List (List Int))) :=
  if (0 ≤ p2 ∧ p2 < y4.length) then ((at? y4 p2).bind fun x13 => if (0 ≤ y3 ∧ y3 < y4.length) then ((at? y4 y3).bind fun x14 => if (0 ≤ y3 ∧ y3 < y4.length) then ((set? y4 y3 x13).bind fun x15 => if (0 ≤ p2 ∧ p2 < x15.length) then ((set? x15 p2 x14).bind fun x16 => some (y3, false, x16)) else none) else none) else none) else none
def slices_partitionCmpFunc_api_Key_queue_Wanted_1.j5 (k : Nat) (y8 : Int) (p2 : Int) (y7 : (List (List Int))) (L_l1 : Int → Int → (List (List Int)) → Option (Int × Bool × (List (List Int)))) (y9 : Int) : Option (Int × Bool × (List (List Int))) :=
  if (decide (y8 > y9)) = true then ((slices_partitionCmpFunc_api_Key_queue_Wanted_1.j3 k p2) y9 y7) else (if (0 ≤ y9 ∧ y9 < y7.length) then ((at? y7 y9).bind fun x17 => if (0 ≤ y8 ∧ y8 < y7.length) then ((at? y7 y8).bind fun x18 => if (0 ≤ y8 ∧ y8 < y7.length) then ((set? y7 y8 x17).bind fun x19 => if (0 ≤ y9 ∧ y9 < x19.length) then ((set? x19 y9 x18).bind fun x20 => L_l1 (iadd .i64 y8 (1 : Int)) (isub .i64 y9 (1 : Int)) x20) else none) else none) else none) else none)
def slices_partitionCmpFunc_api_Key_queue_Wanted_1.l2 (k : Nat) (y8 : Int) (y7 : (List (List Int))) (p2 : Int) (L_l1 : Int → Int → (List (List Int)) → Option (Int × Bool × (List (List Int)))) : Nat → Int → Option (Int × Bool × (List (List Int)))
  | 0, _ => none
  | n + 1, y10 =>
    if ((decide (y8 ≤ y10)) == true) = true → (0 ≤ y10 ∧ y10 < y7.length) then ((if ((decide (y8 ≤ y10)) == true) = true then at? y7 y10 else some (List.replicate 32 (0 : Int))).bind fun x21 => if ((decide (y8 ≤ y10)) == true) = true → (0 ≤ p2 ∧ p2 < y7.length) then ((if ((decide (y8 ≤ y10)) == true) = true then at? y7 p2 else some (List.replicate 32 (0 : Int))).bind fun x22 => (if ((decide (y8 ≤ y10)) == true) = true then queue_Wanted_1 k x21 x22 else some (0 : Int)).bind fun x23 => if (if (decide (y8 ≤ y10)) then (!(decide (x23 < (0 : Int)))) else false) = true then ((slices_partitionCmpFunc_api_Key_queue_Wanted_1.l2 k y8 y7 p2 L_l1 n) (isub .i64 y10 (1 : Int))) else ((slices_partitionCmpFunc_api_Key_queue_Wanted_1.j5 k y8 p2 y7 L_l1) y10)) else none) else none
def slices_partitionCmpFunc_api_Key_queue_Wanted_1.j4 (k : Nat) (y7 : (List (List Int))) (p2 : Int) (y6 : Int) (L_l1 : Int → Int → (List (List Int)) → Option (Int × Bool × (List (List Int)))) (y8 : Int) : Option (Int × Bool × (List (List Int))) :=
  slices_partitionCmpFunc_api_Key_queue_Wanted_1.l2 k y8 y7 p2 L_l1 k y6
def slices_partitionCmpFunc_api_Key_queue_Wanted_1.l3 (k : Nat) (y6 : Int) (y7 : (List (List Int))) (p2 : Int) (L_l1 : Int → Int → (List (List Int)) → Option (Int × Bool × (List (List Int)))) : Nat → Int → Option (Int × Bool × (List (List Int)))
  | 0, _ => none
  | n + 1, y11 =>
    if ((decide (y11 ≤ y6)) == true) = true → (0 ≤ y11 ∧ y11 < y7.length) then ((if ((decide (y11 ≤ y6)) == true) = true then at? y7 y11 else some (List.replicate 32 (0 : Int))).bind fun x24 => if ((decide (y11 ≤ y6)) == true) = true → (0 ≤ p2 ∧ p2 < y7.length) then ((if ((decide (y11 ≤ y6)) == true) = true then at? y7 p2 else some (List.replicate 32 (0 : Int))).bind fun x25 => (if ((decide (y11 ≤ y6)) == true) = true then queue_Wanted_1 k x24 x25 else some (0 : Int)).bind fun x26 => if (if (decide (y11 ≤ y6)) then (decide (x26 < (0 : Int))) else false) = true then ((slices_partitionCmpFunc_api_Key_queue_Wanted_1.l3 k y6 y7 p2 L_l1 n) (iadd .i64 y11 (1 : Int))) else ((slices_partitionCmpFunc_api_Key_queue_Wanted_1.j4 k y7 p2 y6 L_l1) y11)) else none) else none
def slices_partitionCmpFunc_api_Key_queue_Wanted_1.l1 (k : Nat) (p2 : Int) : Nat → Int → Int → (List (List Int)) → Option (Int × Bool × (List (List Int)))
  | 0, _, _, _ => none
  | n + 1, y5, y6, y7 =>
    slices_partitionCmpFunc_api_Key_queue_Wanted_1.l3 k y6 y7 p2 (slices_partitionCmpFunc_api_Key_queue_Wanted_1.l1 k p2 n) k y5
def slices_partitionCmpFunc_api_Key_queue_Wanted_1.j2 (k : Nat) (y1 : Int) (p2 : Int) (x4 : (List (List Int))) (y2 : Int) : Option (Int × Bool × (List (List Int))) :=
  if (decide (y1 > y2)) = true then (if (0 ≤ p2 ∧ p2 < x4.length) then ((at? x4 p2).bind fun x5 => if (0 ≤ y2 ∧ y2 < x4.length) then ((at? x4 y2).bind fun x6 => if (0 ≤ y2 ∧ y2 < x4.length) then ((set? x4 y2 x5).bind fun x7 => if (0 ≤ p2 ∧ p2 < x7.length) then ((set? x7 p2 x6).bind fun x8 => some (y2, true, x8)) else none) else none) else none) else none) else (if (0 ≤ y2 ∧ y2 < x4.length) then ((at? x4 y2).bind fun x9 => if (0 ≤ y1 ∧ y1 < x4.length) then ((at? x4 y1).bind fun x10 => if (0 ≤ y1 ∧ y1 < x4.length) then ((set? x4 y1 x9).bind fun x11 => if (0 ≤ y2 ∧ y2 < x11.length) then ((set? x11 y2 x10).bind fun x12 => slices_partitionCmpFunc_api_Key_queue_Wanted_1.l1 k p2 k (iadd .i64 y1 (1 : Int)) (isub .i64 y2 (1 : Int)) x12) else none) else none) else none) else none)
def slices_partitionCmpFunc_api_Key_queue_Wanted_1.l4 (k : Nat) (y1 : Int) (x4 : (List (List Int))) (p2 : Int) : Nat → Int → Option (Int × Bool × (List (List Int)))
  | 0, _ => none
  | n + 1, y12 =>
    if ((decide (y1 ≤ y12)) == true) = true → (0 ≤ y12 ∧ y12 < x4.length) then ((if ((decide (y1 ≤ y12)) == true) = true then at? x4 y12 else some (List.replicate 32 (0 : Int))).bind fun x27 => if ((decide (y1 ≤ y12)) == true) = true → (0 ≤ p2 ∧ p2 < x4.length) then ((if ((decide (y1 ≤ y12)) == true) = true then at? x4 p2 else some (List.replicate 32 (0 : Int))).bind fun x28 => (if ((decide (y1 ≤ y12)) == true) = true then queue_Wanted_1 k x27 x28 else some (0 : Int)).bind fun x29 => if (if (decide (y1 ≤ y12)) then (!(decide (x29 < (0 : Int)))) else false) = true then ((slices_partitionCmpFunc_api_Key_queue_Wanted_1.l4 k y1 x4 p2 n) (isub .i64 y12 (1 : Int))) else ((slices_partitionCmpFunc_api_Key_queue_Wanted_1.j2 k y1 p2 x4) y12)) else none) else none
def slices_partitionCmpFunc_api_Key_queue_Wanted_1.j1 (k : Nat) (x4 : (List (List Int))) (p2 : Int) (p3 : Int) (y1 : Int) : Option (Int × Bool × (List (List Int))) :=
  slices_partitionCmpFunc_api_Key_queue_Wanted_1.l4 k y1 x4 p2 k (isub .i64 p3 (1 : Int))
def slices_partitionCmpFunc_api_Key_queue_Wanted_1.l5 (k : Nat) (p3 : Int) (x4 : (List (List Int))) (p2 : Int) : Nat → Int → Option (Int × Bool × (List (List Int)))
  | 0, _ => none
  | n + 1, y13 =>
    if ((decide (y13 ≤ (isub .i64 p3 (1 : Int)))) == true) = true → (0 ≤ y13 ∧ y13 < x4.length) then ((if ((decide (y13 ≤ (isub .i64 p3 (1 : Int)))) == true) = true then at? x4 y13 else some (List.replicate 32 (0 : Int))).bind fun x30 => if ((decide (y13 ≤ (isub .i64 p3 (1 : Int)))) == true) = true → (0 ≤ p2 ∧ p2 < x4.length) then ((if ((decide (y13 ≤ (isub .i64 p3 (1 : Int)))) == true) = true then at? x4 p2 else some (List.replicate 32 (0 : Int))).bind fun x31 => (if ((decide (y13 ≤ (isub .i64 p3 (1 : Int)))) == true) = true then queue_Wanted_1 k x30 x31 else some (0 : Int)).bind fun x32 => (some ((if (decide (y13 ≤ (isub .i64 p3 (1 : Int)))) then (decide (x32 < (0 : Int))) else false))).bind fun x33 => if x33 = true then ((slices_partitionCmpFunc_api_Key_queue_Wanted_1.l5 k p3 x4 p2 n) (iadd .i64 y13 (1 : Int))) else ((slices_partitionCmpFunc_api_Key_queue_Wanted_1.j1 k x4 p2 p3) y13)) else none) else none
def slices_partitionCmpFunc_api_Key_queue_Wanted_1 (k : Nat) (p1 : (List (List Int))) (p2 : Int) (p3 : Int) (p4 : Int) : Option (Int × Bool × (List (List Int))) :=
  if (0 ≤ p4 ∧ p4 < p1.length) then ((at? p1 p4).bind fun x1 => if (0 ≤ p2 ∧ p2 < p1.length) then ((at? p1 p2).bind fun x2 => if (0 ≤ p2 ∧ p2 < p1.length) then ((set? p1 p2 x1).bind fun x3 => if (0 ≤ p4 ∧ p4 < x3.length) then ((set? x3 p4 x2).bind fun x4 => slices_partitionCmpFunc_api_Key_queue_Wanted_1.l5 k p3 x4 p2 k (iadd .i64 p2 (1 : Int))) else none) else none) else none) else none
def slices_pdqsortCmpFunc_api_Key_queue_Wanted_1.j3 (k : Nat) (y1 : Int) (y9 : Int) (y2 : Int) (y7 : Int) (y4 : Bool) (y5 : Bool) (L_l1 : Int → Int → Int → Bool → Bool → (List (List Int)) → Option (List (List Int))) (L_rec : (List (List Int)) → Int → Int → Int → Option (List (List Int))) (y12 : (List (List Int))) : Option (List (List Int)) :=
  if ((decide (y1 > (0 : Int))) == true) = true → (0 ≤ (isub .i64 y1 (1 : Int)) ∧ (isub .i64 y1 (1 : Int)) < y12.length) then ((if ((decide (y1 > (0 : Int))) == true) = true then at? y12 (isub .i64 y1 (1 : Int)) else some (List.replicate 32 (0 : Int))).bind fun x4 => if ((decide (y1 > (0 : Int))) == true) = true → (0 ≤ y9 ∧ y9 < y12.length) then ((if ((decide (y1 > (0 : Int))) == true) = true then at? y12 y9 else some (List.replicate 32 (0 : Int))).bind fun x5 => (if ((decide (y1 > (0 : Int))) == true) = true then queue_Wanted_1 k x4 x5 else some (0 : Int)).bind fun x6 => (some ((if (decide (y1 > (0 : Int))) then (!(decide (x6 < (0 : Int)))) else false))).bind fun x7 => if x7 = true then ((slices_partitionEqualCmpFunc_api_Key_queue_Wanted_1 k y12 y1 y2 y9).bind fun x8 => L_l1 x8.1 y2 y7 y4 y5 x8.2) else ((slices_partitionCmpFunc_api_Key_queue_Wanted_1 k y12 y1 y2 y9).bind fun x9 => if (decide ((isub .i64 x9.1 y1) < (isub .i64 y2 x9.1))) = true then ((some ((decide ((isub .i64 x9.1 y1) ≥ (iquo .i64 (isub .i64 y2 y1) (8 : Int)))))).bind fun x10 => (L_rec x9.2.2 y1 x9.1 y7).bind fun x11 => L_l1 (iadd .i64 x9.1 (1 : Int)) y2 y7 x10 x9.2.1 x11) else ((some ((decide ((isub .i64 y2 x9.1) ≥ (iquo .i64 (isub .i64 y2 y1) (8 : Int)))))).bind fun x12 => (L_rec x9.2.2 (iadd .i64 x9.1 (1 : Int)) y2 y7).bind fun x13 => L_l1 y1 x9.1 y7 x12 x9.2.1 x13))) else none) else none
def slices_pdqsortCmpFunc_api_Key_queue_Wanted_1.j2 (k : Nat) (y4 : Bool) (y5 : Bool) (y1 : Int) (y2 : Int) (y7 : Int) (L_l1 : Int → Int → Int → Bool → Bool → (List (List Int)) → Option (List (List Int))) (L_rec : (List (List Int)) → Int → Int → Int → Option (List (List Int))) (y9 : Int) (y10 : Int) (y11 : (List (List Int))) : Option (List (List Int)) :=
  if (if (if y4 then y5 else false) then (y10 == (1 : Int)) else false) = true then ((slices_partialInsertionSortCmpFunc_api_Key_queue_Wanted_1 k y11 y1 y2).bind fun x14 => if x14.1 = true then (some x14.2) else ((slices_pdqsortCmpFunc_api_Key_queue_Wanted_1.j3 k y1 y9 y2 y7 y4 y5 L_l1 L_rec) x14.2)) else ((slices_pdqsortCmpFunc_api_Key_queue_Wanted_1.j3 k y1 y9 y2 y7 y4 y5 L_l1 L_rec) y11)
def slices_pdqsortCmpFunc_api_Key_queue_Wanted_1.j1 (k : Nat) (y1 : Int) (y2 : Int) (y4 : Bool) (y5 : Bool) (L_l1 : Int → Int → Int → Bool → Bool → (List (List Int)) → Option (List (List Int))) (L_rec : (List (List Int)) → Int → Int → Int → Option (List (List Int))) (y7 : Int) (y8 : (List (List Int))) : Option (List (List Int)) :=
  (slices_choosePivotCmpFunc_api_Key_queue_Wanted_1 k y8 y1 y2).bind fun x3 => if (x3.2 == (2 : Int)) = true then ((slices_reverseRangeCmpFunc_api_Key_queue_Wanted_1 k y8 y1 y2).bind fun x15 => (slices_pdqsortCmpFunc_api_Key_queue_Wanted_1.j2 k y4 y5 y1 y2 y7 L_l1 L_rec) (isub .i64 (isub .i64 y2 (1 : Int)) (isub .i64 x3.1 y1)) (1 : Int) x15) else ((slices_pdqsortCmpFunc_api_Key_queue_Wanted_1.j2 k y4 y5 y1 y2 y7 L_l1 L_rec) x3.1 x3.2 y8)
def slices_pdqsortCmpFunc_api_Key_queue_Wanted_1.l1 (k : Nat) (L_rec : (List (List Int)) → Int → Int → Int → Option (List (List Int))) : Nat → Int → Int → Int → Bool → Bool → (List (List Int)) → Option (List (List Int))
  | 0, _, _, _, _, _, _ => none
  | n + 1, y1, y2, y3, y4, y5, y6 =>
    if (decide ((isub .i64 y2 y1) ≤ (12 : Int))) = true then ((slices_insertionSortCmpFunc_api_Key_queue_Wanted_1 k y6 y1 y2).bind fun x1 => some x1) else (if (y3 == (0 : Int)) = true then ((slices_heapSortCmpFunc_api_Key_queue_Wanted_1 k y6 y1 y2).bind fun x2 => some x2) else (if (!y4) = true then ((slices_breakPatternsCmpFunc_api_Key_queue_Wanted_1 k y6 y1 y2).bind fun x16 => (slices_pdqsortCmpFunc_api_Key_queue_Wanted_1.j1 k y1 y2 y4 y5 (slices_pdqsortCmpFunc_api_Key_queue_Wanted_1.l1 k L_rec n) L_rec) (isub .i64 y3 (1 : Int)) x16) else ((slices_pdqsortCmpFunc_api_Key_queue_Wanted_1.j1 k y1 y2 y4 y5 (slices_pdqsortCmpFunc_api_Key_queue_Wanted_1.l1 k L_rec n) L_rec) y3 y6)))
def slices_pdqsortCmpFunc_api_Key_queue_Wanted_1 : Nat → (List (List Int)) → Int → Int → Int → Option (List (List Int))
  | 0, _, _, _, _ => none
  | k + 1, p1, p2, p3, p4 =>
    slices_pdqsortCmpFunc_api_Key_queue_Wanted_1.l1 k (slices_pdqsortCmpFunc_api_Key_queue_Wanted_1 k) k p2 p3 p4 true true p1
def slices_SortFunc_api_Key_api_Key_queue_Wanted_1 (k : Nat) (p1 : (List (List Int))) : Option (List (List Int)) :=
  (math_bits_Len k (IntKind.wrap .u64 (p1.length : Int))).bind fun x1 => (slices_pdqsortCmpFunc_api_Key_queue_Wanted_1 k p1 (0 : Int) (p1.length : Int) x1).bind fun x2 => some x2
def slices_Compact_api_Key_api_Key.j1 (k : Nat) (p1 : (List (List Int))) : Option (List (List Int)) :=
  some p1
def slices_Compact_api_Key_api_Key.j2 (k : Nat) (y1 : Int) (L_l1 : Int → Option (List (List Int))) : Option (List (List Int)) :=
  L_l1 (iadd .i64 y1 (1 : Int))
def slices_Compact_api_Key_api_Key.j3 (k : Nat) (y2 : Int) (y3 : (List (List Int))) : Option (List (List Int)) :=
  if (0 ≤ y2 ∧ y2 ≤ (y3.length : Int)) then (if y2.toNat + (y3.length - y2.toNat) ≤ y3.length then (if (0 ≤ y2 ∧ y2 ≤ ((y3.take y2.toNat ++ List.replicate (y3.length - y2.toNat) (List.replicate 32 (0 : Int)) ++ y3.drop (y2.toNat + (y3.length - y2.toNat))).length : Int)) then (some ((y3.take y2.toNat ++ List.replicate (y3.length - y2.toNat) (List.replicate 32 (0 : Int)) ++ y3.drop (y2.toNat + (y3.length - y2.toNat))).take y2.toNat)) else none) else none) else none
def slices_Compact_api_Key_api_Key.j4 (k : Nat) (y5 : Int) (L_l2 : Int → Int → (List (List Int)) → Option (List (List Int))) (y7 : Int) (y8 : (List (List Int))) : Option (List (List Int)) :=
  L_l2 y7 (iadd .i64 y5 (1 : Int)) y8
def slices_Compact_api_Key_api_Key.l2 (k : Nat) (p1 : (List (List Int))) (y1 : Int) : Nat → Int → Int → (List (List Int)) → Option (List (List Int))
  | 0, _, _, _ => none
  | n + 1, y4, y5, y6 =>
    if (decide (y5 < (((p1.length - y1.toNat) : Nat) : Int))) = true then (if (0 ≤ y5 ∧ y5 < (((p1.length - y1.toNat) : Nat) : Int)) then (if 0 ≤ y1 then ((at? y6 (y1 + y5)).bind fun x3 => if (0 ≤ (isub .i64 y5 (1 : Int)) ∧ (isub .i64 y5 (1 : Int)) < (((p1.length - y1.toNat) : Nat) : Int)) then (if 0 ≤ y1 then ((at? y6 (y1 + (isub .i64 y5 (1 : Int)))).bind fun x4 => if (!decide (x3 = x4)) = true then (if (0 ≤ y5 ∧ y5 < (((p1.length - y1.toNat) : Nat) : Int)) then (if 0 ≤ y1 then ((at? y6 (y1 + y5)).bind fun x5 => if (0 ≤ y4 ∧ y4 < y6.length) then ((set? y6 y4 x5).bind fun x6 => (slices_Compact_api_Key_api_Key.j4 k y5 (slices_Compact_api_Key_api_Key.l2 k p1 y1 n)) (iadd .i64 y4 (1 : Int)) x6) else none) else none) else none) else ((slices_Compact_api_Key_api_Key.j4 k y5 (slices_Compact_api_Key_api_Key.l2 k p1 y1 n)) y4 y6)) else none) else none) else none) else none) else ((slices_Compact_api_Key_api_Key.j3 k) y4 y6)
def slices_Compact_api_Key_api_Key.l1 (k : Nat) (p1 : (List (List Int))) : Nat → Int → Option (List (List Int))
  | 0, _ => none
  | n + 1, y1 =>
    if (decide (y1 < (p1.length : Int))) = true then (if (0 ≤ y1 ∧ y1 < p1.length) then ((at? p1 y1).bind fun x1 => if (0 ≤ (isub .i64 y1 (1 : Int)) ∧ (isub .i64 y1 (1 : Int)) < p1.length) then ((at? p1 (isub .i64 y1 (1 : Int))).bind fun x2 => if (decide (x1 = x2)) = true then (if (0 ≤ y1 ∧ y1 ≤ (p1.length : Int)) then (slices_Compact_api_Key_api_Key.l2 k p1 y1 k y1 (1 : Int) p1) else none) else ((slices_Compact_api_Key_api_Key.j2 k y1 (slices_Compact_api_Key_api_Key.l1 k p1 n)))) else none) else none) else ((slices_Compact_api_Key_api_Key.j1 k p1))
def slices_Compact_api_Key_api_Key (k : Nat) (p1 : (List (List Int))) : Option (List (List Int)) :=
  if (decide ((p1.length : Int) < (2 : Int))) = true then (some p1) else (slices_Compact_api_Key_api_Key.l1 k p1 k (1 : Int))
def queue_once_api_Key_queue_Wanted_1 (k : Nat) (p1 : (List (List Int))) : Option (List (List Int)) :=
  (slices_SortFunc_api_Key_api_Key_queue_Wanted_1 k p1).bind fun x1 => (slices_Compact_api_Key_api_Key k x1).bind fun x2 => some x2
def queue_Wanted.j1 (k : Nat) (y1 : (List (List Int))) : Option (List (List Int)) :=
  (queue_once_api_Key_queue_Wanted_1 k y1).bind fun x3 => some x3
def queue_Wanted.j2 (k : Nat) (y2 : Int) (L_l1 : Int → (List (List Int)) → Option (List (List Int))) (y4 : (List (List Int))) : Option (List (List Int)) :=
  L_l1 (iadd .i64 y2 (1 : Int)) y4
def queue_Wanted.j3 (k : Nat) (y5 : Int) (L_l2 : Int → (List (List Int)) → Option (List (List Int))) (y7 : (List (List Int))) : Option (List (List Int)) :=
  L_l2 (iadd .i64 y5 (1 : Int)) y7
def queue_Wanted.l2 (k : Nat) (x4 : api_Held) (p1 : (List api_Node)) (p2 : (List api_Held)) (y2 : Int) (L_l1 : Int → (List (List Int)) → Option (List (List Int))) : Nat → Int → (List (List Int)) → Option (List (List Int))
  | 0, _, _ => none
  | n + 1, y5, y6 =>
    if (decide (y5 < (x4.Op.Parents.length : Int))) = true then ((at? x4.Op.Parents y5).bind fun x5 => (graph_Find k p1 x5).bind fun x6 => (if ((decide (x6 < (0 : Int))) == true) = true then queue_Find k p2 x5 else some (0 : Int)).bind fun x7 => (some ((if (decide (x6 < (0 : Int))) then (decide (x7 < (0 : Int))) else false))).bind fun x8 => if x8 = true then (if y6.length + ([x5] : (List (List Int))).length ≤ lim then ((queue_Wanted.j3 k y5 (queue_Wanted.l2 k x4 p1 p2 y2 L_l1 n)) (y6 ++ ([x5] : (List (List Int))))) else none) else ((queue_Wanted.j3 k y5 (queue_Wanted.l2 k x4 p1 p2 y2 L_l1 n)) y6)) else ((queue_Wanted.j2 k y2 L_l1) y6)
def queue_Wanted.l1 (k : Nat) (p2 : (List api_Held)) (p1 : (List api_Node)) : Nat → Int → (List (List Int)) → Option (List (List Int))
  | 0, _, _ => none
  | n + 1, y2, y3 =>
    if (decide (y2 < (p2.length : Int))) = true then ((at? p2 y2).bind fun x4 => queue_Wanted.l2 k x4 p1 p2 y2 (queue_Wanted.l1 k p2 p1 n) k (0 : Int) y3) else ((queue_Wanted.j1 k) y3)
def queue_Wanted (k : Nat) (p1 : (List api_Node)) (p2 : (List api_Held)) : Option (List (List Int)) :=
  (graph_Right k p1).bind fun x1 => (if ((!x1) == false) = true then queue_Right k p2 else some false).bind fun x2 => if (if (!x1) then true else (!x2)) = true then (some ([] : (List (List Int)))) else (queue_Wanted.l1 k p2 p1 k (0 : Int) ([] : (List (List Int))))
def queue_Without (k : Nat) (p1 : (List api_Held)) (p2 : Int) : Option ((List api_Held) × Int) :=
  (queue_Right k p1).bind fun x1 => if (!x1) = true then (some (([] : (List api_Held)), (1 : Int))) else ((some ((if (decide (p2 < (0 : Int))) then true else (decide (p2 ≥ (p1.length : Int)))))).bind fun x2 => if x2 = true then (some (([] : (List api_Held)), (22 : Int))) else ((queue_copied k p1 p2).bind fun x3 => some (x3, (0 : Int))))
def queue_Ready_1_1 (k : Nat) (p1 : (List Int)) (p2 : (List api_Node)) : Option Bool :=
  (graph_Find k p2 p1).bind fun x1 => some (decide (x1 < (0 : Int)))
def slices_IndexFunc_api_Key_api_Key_queue_Ready_1_1.j1 (k : Nat) : Option Int :=
  some (-1 : Int)
def slices_IndexFunc_api_Key_api_Key_queue_Ready_1_1.l1 (k : Nat) (p1 : (List (List Int))) (p2 : (List api_Node)) : Nat → Int → Option Int
  | 0, _ => none
  | n + 1, y1 =>
    if (decide (y1 < (p1.length : Int))) = true then ((at? p1 y1).bind fun x1 => (queue_Ready_1_1 k x1 p2).bind fun x2 => if x2 = true then (some y1) else ((slices_IndexFunc_api_Key_api_Key_queue_Ready_1_1.l1 k p1 p2 n) (iadd .i64 y1 (1 : Int)))) else ((slices_IndexFunc_api_Key_api_Key_queue_Ready_1_1.j1 k))
def slices_IndexFunc_api_Key_api_Key_queue_Ready_1_1 (k : Nat) (p1 : (List (List Int))) (p2 : (List api_Node)) : Option Int :=
  slices_IndexFunc_api_Key_api_Key_queue_Ready_1_1.l1 k p1 p2 k (0 : Int)
def slices_ContainsFunc_api_Key_api_Key_queue_Ready_1_1 (k : Nat) (p1 : (List (List Int))) (p2 : (List api_Node)) : Option Bool :=
  (slices_IndexFunc_api_Key_api_Key_queue_Ready_1_1 k p1 p2).bind fun x1 => some (decide (x1 ≥ (0 : Int)))
def queue_Ready_1 (k : Nat) (p1 : api_Held) (p2 : (List api_Node)) : Option Bool :=
  (slices_ContainsFunc_api_Key_api_Key_queue_Ready_1_1 k p1.Op.Parents p2).bind fun x1 => some (!x1)
def slices_IndexFunc_api_Held_api_Held_queue_Ready_1.j1 (k : Nat) : Option Int :=
  some (-1 : Int)
def slices_IndexFunc_api_Held_api_Held_queue_Ready_1.l1 (k : Nat) (p1 : (List api_Held)) (p2 : (List api_Node)) : Nat → Int → Option Int
  | 0, _ => none
  | n + 1, y1 =>
    if (decide (y1 < (p1.length : Int))) = true then ((at? p1 y1).bind fun x1 => (queue_Ready_1 k x1 p2).bind fun x2 => if x2 = true then (some y1) else ((slices_IndexFunc_api_Held_api_Held_queue_Ready_1.l1 k p1 p2 n) (iadd .i64 y1 (1 : Int)))) else ((slices_IndexFunc_api_Held_api_Held_queue_Ready_1.j1 k))
def slices_IndexFunc_api_Held_api_Held_queue_Ready_1 (k : Nat) (p1 : (List api_Held)) (p2 : (List api_Node)) : Option Int :=
  slices_IndexFunc_api_Held_api_Held_queue_Ready_1.l1 k p1 p2 k (0 : Int)
def queue_Ready (k : Nat) (p1 : (List api_Node)) (p2 : (List api_Held)) : Option Int :=
  (graph_Right k p1).bind fun x1 => (if ((!x1) == false) = true then queue_Right k p2 else some false).bind fun x2 => if (if (!x1) then true else (!x2)) = true then (some (-1 : Int)) else ((slices_IndexFunc_api_Held_api_Held_queue_Ready_1 k p2 p1).bind fun x3 => some x3)
def caballaw19_alive (k : Nat) : Option Bool :=
  (some (([(3 : Int), (0 : Int), (0 : Int), (0 : Int), (0 : Int), (0 : Int), (0 : Int), (0 : Int), (0 : Int), (0 : Int), (0 : Int), (0 : Int), (0 : Int), (0 : Int), (0 : Int), (0 : Int), (0 : Int), (0 : Int), (0 : Int), (0 : Int), (0 : Int), (0 : Int), (0 : Int), (0 : Int), (0 : Int), (0 : Int), (0 : Int), (0 : Int), (0 : Int), (0 : Int), (0 : Int), (0 : Int)] : (List Int)))).bind fun x1 => (some (([(2 : Int), (0 : Int), (0 : Int), (0 : Int), (0 : Int), (0 : Int), (0 : Int), (0 : Int), (0 : Int), (0 : Int), (0 : Int), (0 : Int), (0 : Int), (0 : Int), (0 : Int), (0 : Int), (0 : Int), (0 : Int), (0 : Int), (0 : Int), (0 : Int), (0 : Int), (0 : Int), (0 : Int), (0 : Int), (0 : Int), (0 : Int), (0 : Int), (0 : Int), (0 : Int), (0 : Int), (0 : Int)] : (List Int)))).bind fun x2 => (caballaw19_update k x2).bind fun x3 => (queue_Put k [] (⟨x1, x3, []⟩ : api_Held)).bind fun x4 => (queue_Wanted k [] x4.1).bind fun x5 => (some (([(2 : Int), (0 : Int), (0 : Int), (0 : Int), (0 : Int), (0 : Int), (0 : Int), (0 : Int), (0 : Int), (0 : Int), (0 : Int), (0 : Int), (0 : Int), (0 : Int), (0 : Int), (0 : Int), (0 : Int), (0 : Int), (0 : Int), (0 : Int), (0 : Int), (0 : Int), (0 : Int), (0 : Int), (0 : Int), (0 : Int), (0 : Int), (0 : Int), (0 : Int), (0 : Int), (0 : Int), (0 : Int)] : (List Int)))).bind fun x6 => (some (([(1 : Int), (0 : Int), (0 : Int), (0 : Int), (0 : Int), (0 : Int), (0 : Int), (0 : Int), (0 : Int), (0 : Int), (0 : Int), (0 : Int), (0 : Int), (0 : Int), (0 : Int), (0 : Int), (0 : Int), (0 : Int), (0 : Int), (0 : Int), (0 : Int), (0 : Int), (0 : Int), (0 : Int), (0 : Int), (0 : Int), (0 : Int), (0 : Int), (0 : Int), (0 : Int), (0 : Int), (0 : Int)] : (List Int)))).bind fun x7 => (some ((⟨(0 : Int), (1 : Int), [], (1 : Int), ([(0 : Int)] : (List Int)), (List.replicate 32 (0 : Int)), x7, [], []⟩ : api_Op))).bind fun x8 => (queue_Put k x4.1 (⟨x6, x8, []⟩ : api_Held)).bind fun x9 => (queue_Without k x9.1 (0 : Int)).bind fun x10 => (some ((if (if (x4.2 == (0 : Int)) then (x9.2 == (0 : Int)) else false) then (x10.2 == (0 : Int)) else false))).bind fun x11 => if ((if x11 then ((x5.length : Int) == (1 : Int)) else false) == true) = true → (0 ≤ (0 : Int) ∧ (0 : Int) < x5.length) then ((if ((if x11 then ((x5.length : Int) == (1 : Int)) else false) == true) = true then at? x5 (0 : Int) else some (List.replicate 32 (0 : Int))).bind fun x12 => (some (([(2 : Int), (0 : Int), (0 : Int), (0 : Int), (0 : Int), (0 : Int), (0 : Int), (0 : Int), (0 : Int), (0 : Int), (0 : Int), (0 : Int), (0 : Int), (0 : Int), (0 : Int), (0 : Int), (0 : Int), (0 : Int), (0 : Int), (0 : Int), (0 : Int), (0 : Int), (0 : Int), (0 : Int), (0 : Int), (0 : Int), (0 : Int), (0 : Int), (0 : Int), (0 : Int), (0 : Int), (0 : Int)] : (List Int)))).bind fun x13 => (some ((if (if x11 then ((x5.length : Int) == (1 : Int)) else false) then (decide (x12 = x13)) else false))).bind fun x14 => (if (x14 == true) = true then queue_Ready k [] x4.1 else some (0 : Int)).bind fun x15 => (if ((if x14 then (x15 == (-1 : Int)) else false) == true) = true then queue_Ready k [] x9.1 else some (0 : Int)).bind fun x16 => (some ((if (if x14 then (x15 == (-1 : Int)) else false) then (x16 == (1 : Int)) else false))).bind fun x17 => (some (([(2 : Int), (0 : Int), (0 : Int), (0 : Int), (0 : Int), (0 : Int), (0 : Int), (0 : Int), (0 : Int), (0 : Int), (0 : Int), (0 : Int), (0 : Int), (0 : Int), (0 : Int), (0 : Int), (0 : Int), (0 : Int), (0 : Int), (0 : Int), (0 : Int), (0 : Int), (0 : Int), (0 : Int), (0 : Int), (0 : Int), (0 : Int), (0 : Int), (0 : Int), (0 : Int), (0 : Int), (0 : Int)] : (List Int)))).bind fun x18 => (if ((if x17 then ((x10.1.length : Int) == (1 : Int)) else false) == true) = true then queue_Find k x9.1 x18 else some (0 : Int)).bind fun x19 => (some ((if (if x17 then ((x10.1.length : Int) == (1 : Int)) else false) then (x19 == (1 : Int)) else false))).bind fun x20 => (if (x20 == true) = true then queue_Right k x9.1 else some false).bind fun x21 => some (if x20 then x21 else false)) else none
def cabalref11_Great.j1 (k : Nat) : Option Bool :=
  some false
def cabalref11_Great.l1 (k : Nat) (p1 : api_Op) : Nat → Int → Option Bool
  | 0, _ => none
  | n + 1, y1 =>
    if (decide (y1 < (p1.Boxes.length : Int))) = true then ((at? p1.Boxes y1).bind fun x3 => if (decide ((x3.Body.length : Int) > (600 : Int))) = true then (some true) else ((cabalref11_Great.l1 k p1 n) (iadd .i64 y1 (1 : Int)))) else ((cabalref11_Great.j1 k))
def cabalref11_Great (k : Nat) (p1 : api_Op) : Option Bool :=
  (some ((if (decide ((p1.Parents.length : Int) > (30 : Int))) then true else (decide ((p1.Who.length : Int) > (30 : Int)))))).bind fun x1 => (some ((if (if x1 then true else (decide ((p1.Boxes.length : Int) > (30 : Int)))) then true else (decide ((p1.Text.length : Int) > (600 : Int)))))).bind fun x2 => if x2 = true then (some true) else (cabalref11_Great.l1 k p1 k (0 : Int))
def cabalref19_Great.j1 (k : Nat) : Option Bool :=
  some false
def cabalref19_Great.l1 (k : Nat) (p1 : (List api_Held)) : Nat → Int → Option Bool
  | 0, _ => none
  | n + 1, y1 =>
    if (decide (y1 < (p1.length : Int))) = true then ((at? p1 y1).bind fun x1 => (cabalref11_Great k x1.Op).bind fun x2 => (if (x2 == false) = true then at? p1 y1 else some (⟨(List.replicate 32 (0 : Int)), (⟨(0 : Int), (0 : Int), [], (0 : Int), [], (List.replicate 32 (0 : Int)), (List.replicate 32 (0 : Int)), [], []⟩ : api_Op), []⟩ : api_Held)).bind fun x3 => if (if x2 then true else (decide ((x3.Got.length : Int) > (20 : Int)))) = true then (some true) else ((cabalref19_Great.l1 k p1 n) (iadd .i64 y1 (1 : Int)))) else ((cabalref19_Great.j1 k))
def cabalref19_Great (k : Nat) (p1 : (List api_Held)) : Option Bool :=
  if (decide ((p1.length : Int) > (40 : Int))) = true then (some true) else (cabalref19_Great.l1 k p1 k (0 : Int))
def cabalref11_Member (k : Nat) (p1 : Int) : Option Bool :=
  (some ((if (decide (p1 ≥ (0 : Int))) then (decide (p1 ≤ (7 : Int))) else false))).bind fun x1 => some x1
def cabalref11_Less.j1 (k : Nat) : Option Bool :=
  some false
def cabalref11_Less.l1 (k : Nat) (p1 : (List Int)) (p2 : (List Int)) : Nat → Int → Option Bool
  | 0, _ => none
  | n + 1, y1 =>
    if (decide (y1 < (32 : Int))) = true then (if (0 ≤ y1 ∧ y1 < 32) then ((at? p1 y1).bind fun x1 => if (0 ≤ y1 ∧ y1 < 32) then ((at? p2 y1).bind fun x2 => if (x1 != x2) = true then (if (0 ≤ y1 ∧ y1 < 32) then ((at? p1 y1).bind fun x3 => if (0 ≤ y1 ∧ y1 < 32) then ((at? p2 y1).bind fun x4 => some (decide (x3 < x4))) else none) else none) else ((cabalref11_Less.l1 k p1 p2 n) (iadd .i64 y1 (1 : Int)))) else none) else none) else ((cabalref11_Less.j1 k))
def cabalref11_Less (k : Nat) (p1 : (List Int)) (p2 : (List Int)) : Option Bool :=
  cabalref11_Less.l1 k p1 p2 k (0 : Int)
def cabalref11_kind (k : Nat) (p1 : api_Op) (p2 : Bool) : Option Bool :=
  (some (([(0 : Int), (0 : Int), (0 : Int), (0 : Int), (0 : Int), (0 : Int), (0 : Int), (0 : Int), (0 : Int), (0 : Int), (0 : Int), (0 : Int), (0 : Int), (0 : Int), (0 : Int), (0 : Int), (0 : Int), (0 : Int), (0 : Int), (0 : Int), (0 : Int), (0 : Int), (0 : Int), (0 : Int), (0 : Int), (0 : Int), (0 : Int), (0 : Int), (0 : Int), (0 : Int), (0 : Int), (0 : Int)] : (List Int)))).bind fun x1 => (some ((if (!p2) then true else (decide ((p1.Parents.length : Int) > (0 : Int)))))).bind fun x2 => (some ((if (p1.Kind == (1 : Int)) then (if x2 then true else (p1.Seq != (1 : Int))) else false))).bind fun x3 => (some ((if (p1.Kind != (1 : Int)) then ((p1.Parents.length : Int) == (0 : Int)) else false))).bind fun x4 => if (if x3 then true else x4) = true then (some false) else ((some ((if (if (p1.Kind == (2 : Int)) then true else (p1.Kind == (3 : Int))) then (if p2 then true else ((p1.Who.length : Int) != (1 : Int))) else false))).bind fun x5 => (some ((if (decide (p1.Kind > (3 : Int))) then (decide ((p1.Who.length : Int) > (0 : Int))) else false))).bind fun x6 => if (if x5 then true else x6) = true then (some false) else ((some ((decide ((if (p1.Kind == (5 : Int)) then true else (p1.Kind == (6 : Int))) = (decide (p1.Of = x1)))))).bind fun x7 => if x7 = true then (some false) else (if (p1.Kind == (7 : Int)) = true then ((some ((if (decide (p1.Check = x1)) then (decide ((p1.Text.length : Int) > (0 : Int))) else false))).bind fun x8 => some x8) else ((some ((if (!decide (p1.Check = x1)) then ((p1.Text.length : Int) == (0 : Int)) else false))).bind fun x9 => some x9))))
def cabalref11_Right.j3 (k : Nat) (p1 : api_Op) (y1 : Bool) : Option Bool :=
  (cabalref11_kind k p1 y1).bind fun x5 => some x5
def cabalref11_Right.l1 (k : Nat) (p1 : api_Op) (y1 : Bool) : Nat → Int → Option Bool
  | 0, _ => none
  | n + 1, y2 =>
    if (decide (y2 < (p1.Boxes.length : Int))) = true then ((at? p1.Boxes y2).bind fun x6 => (cabalref11_Member k x6.To).bind fun x7 => (some ((if (if (!x7) then true else (x6.To == p1.Author)) then true else (decide ((x6.Body.length : Int) > (256 : Int)))))).bind fun x8 => (if ((x8 == false) && ((decide (y2 > (0 : Int))) == true)) = true then at? p1.Boxes (isub .i64 y2 (1 : Int)) else some (⟨(0 : Int), (⟨(List.replicate 32 (0 : Int)), (0 : Int), (0 : Int)⟩ : api_Head), []⟩ : api_Box)).bind fun x9 => (some ((if (decide (y2 > (0 : Int))) then (decide (x9.To ≥ x6.To)) else false))).bind fun x10 => if (if x8 then true else x10) = true then (some false) else ((cabalref11_Right.l1 k p1 y1 n) (iadd .i64 y2 (1 : Int)))) else ((cabalref11_Right.j3 k p1 y1))
def cabalref11_Right.j2 (k : Nat) (p1 : api_Op) (y1 : Bool) : Option Bool :=
  cabalref11_Right.l1 k p1 y1 k (0 : Int)
def cabalref11_Right.l2 (k : Nat) (p1 : api_Op) : Nat → Bool → Int → Option Bool
  | 0, _, _ => none
  | n + 1, y3, y4 =>
    if (decide (y4 < (p1.Who.length : Int))) = true then ((at? p1.Who y4).bind fun x11 => (cabalref11_Member k x11).bind fun x12 => (if (((!x12) == false) && ((decide (y4 > (0 : Int))) == true)) = true then at? p1.Who (isub .i64 y4 (1 : Int)) else some (0 : Int)).bind fun x13 => (if (((!x12) == false) && ((decide (y4 > (0 : Int))) == true)) = true then at? p1.Who y4 else some (0 : Int)).bind fun x14 => (some ((if (!x12) then true else (if (decide (y4 > (0 : Int))) then (decide (x13 ≥ x14)) else false)))).bind fun x15 => if x15 = true then (some false) else ((if (y3 == false) = true then at? p1.Who y4 else some (0 : Int)).bind fun x16 => (cabalref11_Right.l2 k p1 n) (if y3 then true else (x16 == p1.Author)) (iadd .i64 y4 (1 : Int)))) else ((cabalref11_Right.j2 k p1) y3)
def cabalref11_Right.j1 (k : Nat) (p1 : api_Op) : Option Bool :=
  cabalref11_Right.l2 k p1 k false (0 : Int)
def cabalref11_Right.l3 (k : Nat) (p1 : api_Op) : Nat → Int → Option Bool
  | 0, _ => none
  | n + 1, y5 =>
    if (decide (y5 < (p1.Parents.length : Int))) = true then ((at? p1.Parents (isub .i64 y5 (1 : Int))).bind fun x17 => (at? p1.Parents y5).bind fun x18 => (cabalref11_Less k x17 x18).bind fun x19 => if (!x19) = true then (some false) else ((cabalref11_Right.l3 k p1 n) (iadd .i64 y5 (1 : Int)))) else ((cabalref11_Right.j1 k p1))
def cabalref11_Right (k : Nat) (p1 : api_Op) : Option Bool :=
  (cabalref11_Member k p1.Author).bind fun x1 => (some ((if (if (!x1) then true else (p1.Seq == (0 : Int))) then true else (decide (p1.Kind < (1 : Int)))))).bind fun x2 => (some ((if (if x2 then true else (decide (p1.Kind > (7 : Int)))) then true else (decide ((p1.Parents.length : Int) > (8 : Int)))))).bind fun x3 => (some ((if (if x3 then true else (decide ((p1.Boxes.length : Int) > (8 : Int)))) then true else (decide ((p1.Text.length : Int) > (256 : Int)))))).bind fun x4 => if x4 = true then (some false) else (cabalref11_Right.l3 k p1 k (1 : Int))
def cabalref19_Find.j1 (k : Nat) : Option Int :=
  some (-1 : Int)
def cabalref19_Find.l1 (k : Nat) (p1 : (List api_Held)) (p2 : (List Int)) : Nat → Int → Option Int
  | 0, _ => none
  | n + 1, y1 =>
    if (decide (y1 < (p1.length : Int))) = true then ((at? p1 y1).bind fun x1 => if (decide (x1.Id = p2)) = true then (some y1) else ((cabalref19_Find.l1 k p1 p2 n) (iadd .i64 y1 (1 : Int)))) else ((cabalref19_Find.j1 k))
def cabalref19_Find (k : Nat) (p1 : (List api_Held)) (p2 : (List Int)) : Option Int :=
  cabalref19_Find.l1 k p1 p2 k (0 : Int)
def cabalref19_Right.j1 (k : Nat) (p1 : (List api_Held)) : Option Bool :=
  some (decide ((p1.length : Int) ≤ (24 : Int)))
def cabalref19_Right.l1 (k : Nat) (p1 : (List api_Held)) : Nat → Int → Option Bool
  | 0, _ => none
  | n + 1, y1 =>
    if (decide (y1 < (p1.length : Int))) = true then ((at? p1 y1).bind fun x1 => (cabalref11_Right k x1.Op).bind fun x2 => (if ((!x2) == false) = true then at? p1 y1 else some (⟨(List.replicate 32 (0 : Int)), (⟨(0 : Int), (0 : Int), [], (0 : Int), [], (List.replicate 32 (0 : Int)), (List.replicate 32 (0 : Int)), [], []⟩ : api_Op), []⟩ : api_Held)).bind fun x3 => (if ((!x2) == false) = true then cabalref19_Find k p1 x3.Id else some (0 : Int)).bind fun x4 => if (if (!x2) then true else (x4 != y1)) = true then (some false) else ((cabalref19_Right.l1 k p1 n) (iadd .i64 y1 (1 : Int)))) else ((cabalref19_Right.j1 k p1))
def cabalref19_Right (k : Nat) (p1 : (List api_Held)) : Option Bool :=
  cabalref19_Right.l1 k p1 k (0 : Int)
def cabalref19_Put (k : Nat) (p1 : (List api_Held)) (p2 : api_Held) : Option ((List api_Held) × Int) :=
  (cabalref19_Right k p1).bind fun x1 => (if ((!x1) == false) = true then cabalref11_Right k p2.Op else some false).bind fun x2 => if (if (!x1) then true else (!x2)) = true then (some (([] : (List api_Held)), (1 : Int))) else ((cabalref19_Find k p1 p2.Id).bind fun x3 => if (decide (x3 ≥ (0 : Int))) = true then (some (([] : (List api_Held)), (13 : Int))) else (if ((p1.length : Int) == (24 : Int)) = true then (some (([] : (List api_Held)), (8 : Int))) else (if ([] : (List api_Held)).length + p1.length ≤ lim then (if (([] : (List api_Held)) ++ p1).length + ([p2] : (List api_Held)).length ≤ lim then (some (((([] : (List api_Held)) ++ p1) ++ ([p2] : (List api_Held))), (0 : Int))) else none) else none)))
def cabalref19_Without (k : Nat) (p1 : (List api_Held)) (p2 : Int) : Option ((List api_Held) × Int) :=
  (cabalref19_Right k p1).bind fun x1 => if (!x1) = true then (some (([] : (List api_Held)), (1 : Int))) else ((some ((if (decide (p2 < (0 : Int))) then true else (decide (p2 ≥ (p1.length : Int)))))).bind fun x2 => if x2 = true then (some (([] : (List api_Held)), (22 : Int))) else ((cut? p1 (0 : Int) p2).bind fun x3 => if ([] : (List api_Held)).length + x3.length ≤ lim then ((cut? p1 (iadd .i64 p2 (1 : Int)) (p1.length : Int)).bind fun x4 => if (([] : (List api_Held)) ++ x3).length + x4.length ≤ lim then (some (((([] : (List api_Held)) ++ x3) ++ x4), (0 : Int))) else none) else none))
def slices_Equal_api_Key_api_Key.j1 (k : Nat) : Option Bool :=
  some true
def slices_Equal_api_Key_api_Key.l1 (k : Nat) (p1 : (List (List Int))) (p2 : (List (List Int))) : Nat → Int → Option Bool
  | 0, _ => none
  | n + 1, y1 =>
    if (decide (y1 < (p1.length : Int))) = true then ((at? p1 y1).bind fun x1 => (at? p2 y1).bind fun x2 => if (!decide (x1 = x2)) = true then (some false) else ((slices_Equal_api_Key_api_Key.l1 k p1 p2 n) (iadd .i64 y1 (1 : Int)))) else ((slices_Equal_api_Key_api_Key.j1 k))
def slices_Equal_api_Key_api_Key (k : Nat) (p1 : (List (List Int))) (p2 : (List (List Int))) : Option Bool :=
  if ((p1.length : Int) != (p2.length : Int)) = true then (some false) else (slices_Equal_api_Key_api_Key.l1 k p1 p2 k (0 : Int))
def slices_Equal_api_Box_api_Box.j1 (k : Nat) : Option Bool :=
  some true
def slices_Equal_api_Box_api_Box.l1 (k : Nat) (p1 : (List api_Box)) (p2 : (List api_Box)) : Nat → Int → Option Bool
  | 0, _ => none
  | n + 1, y1 =>
    if (decide (y1 < (p1.length : Int))) = true then ((at? p1 y1).bind fun x1 => (at? p2 y1).bind fun x2 => if (!decide (x1 = x2)) = true then (some false) else ((slices_Equal_api_Box_api_Box.l1 k p1 p2 n) (iadd .i64 y1 (1 : Int)))) else ((slices_Equal_api_Box_api_Box.j1 k))
def slices_Equal_api_Box_api_Box (k : Nat) (p1 : (List api_Box)) (p2 : (List api_Box)) : Option Bool :=
  if ((p1.length : Int) != (p2.length : Int)) = true then (some false) else (slices_Equal_api_Box_api_Box.l1 k p1 p2 k (0 : Int))
def frame_same (k : Nat) (p1 : api_Op) (p2 : api_Op) : Option Bool :=
  (some ((if (if (p1.Author == p2.Author) then (p1.Seq == p2.Seq) else false) then (p1.Kind == p2.Kind) else false))).bind fun x1 => (some ((if (if x1 then (decide (p1.Of = p2.Of)) else false) then (decide (p1.Check = p2.Check)) else false))).bind fun x2 => (if ((if x2 then (decide (p1.Text = p2.Text)) else false) == true) = true then slices_Equal_api_Key_api_Key k p1.Parents p2.Parents else some false).bind fun x3 => (some ((if (if x2 then (decide (p1.Text = p2.Text)) else false) then x3 else false))).bind fun x4 => (if (x4 == true) = true then slices_Equal_int_int k p1.Who p2.Who else some false).bind fun x5 => (if ((if x4 then x5 else false) == true) = true then slices_Equal_api_Box_api_Box k p1.Boxes p2.Boxes else some false).bind fun x6 => some (if (if x4 then x5 else false) then x6 else false)
def frame_Same (k : Nat) (p1 : api_Frame) (p2 : api_Frame) : Option Bool :=
  (if ((if (p1.Kind == p2.Kind) then (p1.From == p2.From) else false) == true) = true then frame_same k p1.Op p2.Op else some false).bind fun x1 => (some ((if (if (p1.Kind == p2.Kind) then (p1.From == p2.From) else false) then x1 else false))).bind fun x2 => (if (x2 == true) = true then slices_Equal_api_Key_api_Key k p1.Ids p2.Ids else some false).bind fun x3 => some (if x2 then x3 else false)
def queue_Same_1 (k : Nat) (p1 : api_Held) (p2 : api_Held) : Option Bool :=
  (if ((decide (p1.Id = p2.Id)) == true) = true then slices_Equal_api_Key_api_Key k p1.Got p2.Got else some false).bind fun x1 => (if ((if (decide (p1.Id = p2.Id)) then x1 else false) == true) = true then frame_Same k (⟨(0 : Int), (0 : Int), p1.Op, []⟩ : api_Frame) (⟨(0 : Int), (0 : Int), p2.Op, []⟩ : api_Frame) else some false).bind fun x2 => (some ((if (if (decide (p1.Id = p2.Id)) then x1 else false) then x2 else false))).bind fun x3 => some x3
def slices_EqualFunc_api_Held_api_Held_api_Held_api_Held_queue_Same_1.j1 (k : Nat) : Option Bool :=
  some true
def slices_EqualFunc_api_Held_api_Held_api_Held_api_Held_queue_Same_1.l1 (k : Nat) (p1 : (List api_Held)) (p2 : (List api_Held)) : Nat → Int → Option Bool
  | 0, _ => none
  | n + 1, y1 =>
    if (decide (y1 < (p1.length : Int))) = true then ((at? p1 y1).bind fun x1 => (at? p2 y1).bind fun x2 => (queue_Same_1 k x1 x2).bind fun x3 => if (!x3) = true then (some false) else ((slices_EqualFunc_api_Held_api_Held_api_Held_api_Held_queue_Same_1.l1 k p1 p2 n) (iadd .i64 y1 (1 : Int)))) else ((slices_EqualFunc_api_Held_api_Held_api_Held_api_Held_queue_Same_1.j1 k))
def slices_EqualFunc_api_Held_api_Held_api_Held_api_Held_queue_Same_1 (k : Nat) (p1 : (List api_Held)) (p2 : (List api_Held)) : Option Bool :=
  if ((p1.length : Int) != (p2.length : Int)) = true then (some false) else (slices_EqualFunc_api_Held_api_Held_api_Held_api_Held_queue_Same_1.l1 k p1 p2 k (0 : Int))
def queue_Same (k : Nat) (p1 : (List api_Held)) (p2 : (List api_Held)) : Option Bool :=
  (slices_EqualFunc_api_Held_api_Held_api_Held_api_Held_queue_Same_1 k p1 p2).bind fun x1 => some x1
def cabalref11_SameOp.j3 (k : Nat) : Option Bool :=
  some true
def cabalref11_SameOp.l1 (k : Nat) (p1 : api_Op) (p2 : api_Op) : Nat → Int → Option Bool
  | 0, _ => none
  | n + 1, y1 =>
    if (decide (y1 < (p1.Boxes.length : Int))) = true then ((at? p1.Boxes y1).bind fun x6 => (at? p2.Boxes y1).bind fun x7 => if (!decide (x6 = x7)) = true then (some false) else ((cabalref11_SameOp.l1 k p1 p2 n) (iadd .i64 y1 (1 : Int)))) else ((cabalref11_SameOp.j3 k))
def cabalref11_SameOp.j2 (k : Nat) (p1 : api_Op) (p2 : api_Op) : Option Bool :=
  cabalref11_SameOp.l1 k p1 p2 k (0 : Int)
def cabalref11_SameOp.l2 (k : Nat) (p1 : api_Op) (p2 : api_Op) : Nat → Int → Option Bool
  | 0, _ => none
  | n + 1, y2 =>
    if (decide (y2 < (p1.Who.length : Int))) = true then ((at? p1.Who y2).bind fun x8 => (at? p2.Who y2).bind fun x9 => if (x8 != x9) = true then (some false) else ((cabalref11_SameOp.l2 k p1 p2 n) (iadd .i64 y2 (1 : Int)))) else ((cabalref11_SameOp.j2 k p1 p2))
def cabalref11_SameOp.j1 (k : Nat) (p1 : api_Op) (p2 : api_Op) : Option Bool :=
  cabalref11_SameOp.l2 k p1 p2 k (0 : Int)
def cabalref11_SameOp.l3 (k : Nat) (p1 : api_Op) (p2 : api_Op) : Nat → Int → Option Bool
  | 0, _ => none
  | n + 1, y3 =>
    if (decide (y3 < (p1.Parents.length : Int))) = true then ((at? p1.Parents y3).bind fun x10 => (at? p2.Parents y3).bind fun x11 => if (!decide (x10 = x11)) = true then (some false) else ((cabalref11_SameOp.l3 k p1 p2 n) (iadd .i64 y3 (1 : Int)))) else ((cabalref11_SameOp.j1 k p1 p2))
def cabalref11_SameOp (k : Nat) (p1 : api_Op) (p2 : api_Op) : Option Bool :=
  (some ((if (if (p1.Author != p2.Author) then true else (p1.Seq != p2.Seq)) then true else (p1.Kind != p2.Kind)))).bind fun x1 => (some ((if (if x1 then true else (!decide (p1.Of = p2.Of))) then true else (!decide (p1.Check = p2.Check))))).bind fun x2 => (some ((if (if x2 then true else (!decide (p1.Text = p2.Text))) then true else ((p1.Parents.length : Int) != (p2.Parents.length : Int))))).bind fun x3 => (some ((if x3 then true else ((p1.Who.length : Int) != (p2.Who.length : Int))))).bind fun x4 => (some ((if x4 then true else ((p1.Boxes.length : Int) != (p2.Boxes.length : Int))))).bind fun x5 => if x5 = true then (some false) else (cabalref11_SameOp.l3 k p1 p2 k (0 : Int))
def cabalref08_SameKeys.j1 (k : Nat) : Option Bool :=
  some true
def cabalref08_SameKeys.l1 (k : Nat) (p1 : (List (List Int))) (p2 : (List (List Int))) : Nat → Int → Option Bool
  | 0, _ => none
  | n + 1, y1 =>
    if (decide (y1 < (p1.length : Int))) = true then ((at? p1 y1).bind fun x1 => (at? p2 y1).bind fun x2 => if (!decide (x1 = x2)) = true then (some false) else ((cabalref08_SameKeys.l1 k p1 p2 n) (iadd .i64 y1 (1 : Int)))) else ((cabalref08_SameKeys.j1 k))
def cabalref08_SameKeys (k : Nat) (p1 : (List (List Int))) (p2 : (List (List Int))) : Option Bool :=
  if ((p1.length : Int) != (p2.length : Int)) = true then (some false) else (cabalref08_SameKeys.l1 k p1 p2 k (0 : Int))
def cabalref19_Same.j1 (k : Nat) : Option Bool :=
  some true
def cabalref19_Same.l1 (k : Nat) (p1 : (List api_Held)) (p2 : (List api_Held)) : Nat → Int → Option Bool
  | 0, _ => none
  | n + 1, y1 =>
    if (decide (y1 < (p1.length : Int))) = true then ((at? p1 y1).bind fun x1 => (at? p2 y1).bind fun x2 => (if ((!decide (x1.Id = x2.Id)) == false) = true then at? p1 y1 else some (⟨(List.replicate 32 (0 : Int)), (⟨(0 : Int), (0 : Int), [], (0 : Int), [], (List.replicate 32 (0 : Int)), (List.replicate 32 (0 : Int)), [], []⟩ : api_Op), []⟩ : api_Held)).bind fun x3 => (if ((!decide (x1.Id = x2.Id)) == false) = true then at? p2 y1 else some (⟨(List.replicate 32 (0 : Int)), (⟨(0 : Int), (0 : Int), [], (0 : Int), [], (List.replicate 32 (0 : Int)), (List.replicate 32 (0 : Int)), [], []⟩ : api_Op), []⟩ : api_Held)).bind fun x4 => (if ((!decide (x1.Id = x2.Id)) == false) = true then cabalref11_SameOp k x3.Op x4.Op else some false).bind fun x5 => (if ((if (!decide (x1.Id = x2.Id)) then true else (!x5)) == false) = true then at? p1 y1 else some (⟨(List.replicate 32 (0 : Int)), (⟨(0 : Int), (0 : Int), [], (0 : Int), [], (List.replicate 32 (0 : Int)), (List.replicate 32 (0 : Int)), [], []⟩ : api_Op), []⟩ : api_Held)).bind fun x6 => (if ((if (!decide (x1.Id = x2.Id)) then true else (!x5)) == false) = true then at? p2 y1 else some (⟨(List.replicate 32 (0 : Int)), (⟨(0 : Int), (0 : Int), [], (0 : Int), [], (List.replicate 32 (0 : Int)), (List.replicate 32 (0 : Int)), [], []⟩ : api_Op), []⟩ : api_Held)).bind fun x7 => (if ((if (!decide (x1.Id = x2.Id)) then true else (!x5)) == false) = true then cabalref08_SameKeys k x6.Got x7.Got else some false).bind fun x8 => (some ((if (if (!decide (x1.Id = x2.Id)) then true else (!x5)) then true else (!x8)))).bind fun x9 => if x9 = true then (some false) else ((cabalref19_Same.l1 k p1 p2 n) (iadd .i64 y1 (1 : Int)))) else ((cabalref19_Same.j1 k))
def cabalref19_Same (k : Nat) (p1 : (List api_Held)) (p2 : (List api_Held)) : Option Bool :=
  if ((p1.length : Int) != (p2.length : Int)) = true then (some false) else (cabalref19_Same.l1 k p1 p2 k (0 : Int))
def caballaw19_QueuePuts (k : Nat) (p1 : (List api_Held)) (p2 : (List api_Held)) (p3 : api_Held) (p4 : Int) : Option Bool :=
  (caballaw19_alive k).bind fun x1 => if (!x1) = true then (some false) else ((cabalref19_Great k p1).bind fun x2 => (if (x2 == false) = true then cabalref19_Great k p2 else some false).bind fun x3 => (if ((if x2 then true else x3) == false) = true then cabalref11_Great k p3.Op else some false).bind fun x4 => (some ((if (if (if x2 then true else x3) then true else x4) then true else (decide ((p3.Got.length : Int) > (20 : Int)))))).bind fun x5 => if x5 = true then ((caballaw19_alive k).bind fun x6 => some x6) else ((queue_Put k p1 p3).bind fun x7 => (cabalref19_Put k p1 p3).bind fun x8 => (queue_Without k p1 p4).bind fun x9 => (cabalref19_Without k p1 p4).bind fun x10 => (caballaw19_alive k).bind fun x11 => (if (x11 == true) = true then queue_Right k p1 else some false).bind fun x12 => (if (x11 == true) = true then cabalref19_Right k p1 else some false).bind fun x13 => (if ((if x11 then (decide (x12 = x13)) else false) == true) = true then queue_Find k p1 p3.Id else some (0 : Int)).bind fun x14 => (if ((if x11 then (decide (x12 = x13)) else false) == true) = true then cabalref19_Find k p1 p3.Id else some (0 : Int)).bind fun x15 => (some ((if (if x11 then (decide (x12 = x13)) else false) then (x14 == x15) else false))).bind fun x16 => (if (x16 == true) = true then queue_Same k p1 p2 else some false).bind fun x17 => (if (x16 == true) = true then cabalref19_Same k p1 p2 else some false).bind fun x18 => (if ((if x16 then (decide (x17 = x18)) else false) == true) = true then queue_Same k p1 p1 else some false).bind fun x19 => (some ((if (if (if x16 then (decide (x17 = x18)) else false) then x19 else false) then (x7.2 == x8.2) else false))).bind fun x20 => (if ((if x20 then (x9.2 == x10.2) else false) == true) = true then cabalref19_Same k x7.1 x8.1 else some false).bind fun x21 => (if ((if (if x20 then (x9.2 == x10.2) else false) then x21 else false) == true) = true then cabalref19_Same k x9.1 x10.1 else some false).bind fun x22 => (some ((if (if (if x20 then (x9.2 == x10.2) else false) then x21 else false) then x22 else false))).bind fun x23 => some x23))
end Go.Proofs.Pure
end
section
namespace Go.Proofs.Ytdlnfgpcnfbjiaa
open Go Go.RowKit Go.Proofs.Kit Go.Proofs.Pure
set_option linter.unusedVariables false
set_option linter.unusedSimpArgs false
set_option maxRecDepth 100000
set_option maxHeartbeats 2000000
theorem mx : Try.prog.follows .mixedOrders = true := by kernel_rfl
theorem zz39 : ((Try.prog.info? 39).bind (·.zero)) = some (mkv true (List.replicate 32 [.int .u8 0]).flatten) := by kernel_rfl
theorem sz5 : (Try.prog.info? 5).map (·.size) = some 1 := by kernel_rfl
theorem zz44 : ((Try.prog.info? 44).bind (·.zero)) = some (mkv true ([.int .i64 0] ++ ([.int .u32 0] ++ ([.slice none 0 0] ++ ([.int .i64 0] ++ ([.slice none 0 0] ++ ((List.replicate 32 [.int .u8 0]).flatten ++ ((List.replicate 32 [.int .u8 0]).flatten ++ ([.string ⟨#[]⟩] ++ ([.slice none 0 0] ++ [])))))))))) := by kernel_rfl
theorem tk39 : TK Try.prog 39 (karr 32 (kint .u8)) := ⟨by kernel_rfl, by kernel_rfl⟩
theorem sz39 : (Try.prog.info? 39).map (·.size) = some 32 := by kernel_rfl
theorem pl44 : (match Try.prog.underlying 44 with | some (.struct fs) => fs.toList.mapM (fun f => (Try.prog.info? f.type).map fun i => (f.offset, i.size)) | _ => none) = some [(0, 1), (1, 1), (2, 1), (3, 1), (4, 1), (5, 32), (37, 32), (69, 1), (70, 1)] := by kernel_rfl
theorem tk44 : TK Try.prog 44 k_api_Op := ⟨by kernel_rfl, by kernel_rfl⟩
theorem hb109 : hasBody Try.prog 109 := ⟨_, Try.func109, by kernel_rfl, by kernel_rfl⟩
theorem zz91 : ((Try.prog.info? 91).bind (·.zero)) = some (mkv true ((List.replicate 32 [.int .u8 0]).flatten ++ (([.int .i64 0] ++ ([.int .u32 0] ++ ([.slice none 0 0] ++ ([.int .i64 0] ++ ([.slice none 0 0] ++ ((List.replicate 32 [.int .u8 0]).flatten ++ ((List.replicate 32 [.int .u8 0]).flatten ++ ([.string ⟨#[]⟩] ++ ([.slice none 0 0] ++ []))))))))) ++ ([.slice none 0 0] ++ [])))) := by kernel_rfl
theorem pl91 : (match Try.prog.underlying 91 with | some (.struct fs) => fs.toList.mapM (fun f => (Try.prog.info? f.type).map fun i => (f.offset, i.size)) | _ => none) = some [(0, 32), (32, 71), (103, 1)] := by kernel_rfl
theorem sz91 : (Try.prog.info? 91).map (·.size) = some 104 := by kernel_rfl
theorem tk91 : TK Try.prog 91 k_api_Held := ⟨by kernel_rfl, by kernel_rfl⟩
theorem tk5 : TK Try.prog 5 (kint .u8) := ⟨by kernel_rfl, by kernel_rfl⟩
theorem eq5 : EqK Try.prog 5 (kint .u8) 1 := eq_int Try.underlying5
theorem eq39 : EqK Try.prog 39 (karr 32 (kint .u8)) 2 := eq_arr Try.underlying39 tk5 eq5
theorem hb119 : hasBody Try.prog 119 := ⟨_, Try.func119, by kernel_rfl, by kernel_rfl⟩
theorem hb110 : hasBody Try.prog 110 := ⟨_, Try.func110, by kernel_rfl, by kernel_rfl⟩
theorem hb72 : hasBody Try.prog 72 := ⟨_, Try.func72, by kernel_rfl, by kernel_rfl⟩
theorem sz44 : (Try.prog.info? 44).map (·.size) = some 71 := by kernel_rfl
theorem sz3 : (Try.prog.info? 3).map (·.size) = some 1 := by kernel_rfl
theorem tk3 : TK Try.prog 3 (kint .i64) := ⟨by kernel_rfl, by kernel_rfl⟩
theorem hb136 : hasBody Try.prog 136 := ⟨_, Try.func136, by kernel_rfl, by kernel_rfl⟩
theorem sz25 : (Try.prog.info? 25).map (·.size) = some 1 := by kernel_rfl
theorem tk25 : TK Try.prog 25 (kint .u32) := ⟨by kernel_rfl, by kernel_rfl⟩
theorem sz40 : (Try.prog.info? 40).map (·.size) = some 1 := by kernel_rfl
theorem tk40 : TK Try.prog 40 (ksl (karr 32 (kint .u8))) := ⟨by kernel_rfl, by kernel_rfl⟩
theorem zz156 : ((Try.prog.info? 156).bind (·.zero)) = some (mkv true ([.slice none 0 0] ++ ([.nilFunc] ++ []))) := by kernel_rfl
theorem pl156 : (match Try.prog.underlying 156 with | some (.struct fs) => fs.toList.mapM (fun f => (Try.prog.info? f.type).map fun i => (f.offset, i.size)) | _ => none) = some [(0, 1), (1, 1)] := by kernel_rfl
theorem sz125 : (Try.prog.info? 125).map (·.size) = some 1 := by kernel_rfl
theorem tk125 : TK Try.prog 125 (kis (.func (.func 137) #[] #[])) := ⟨by kernel_rfl, by kernel_rfl⟩
theorem xc147 : isCompare Try.prog 147 := ⟨_, Try.func147, by kernel_rfl, by kernel_rfl, by kernel_rfl, by kernel_rfl⟩
theorem hb102 : hasBody Try.prog 102 := ⟨_, Try.func102, by kernel_rfl, by kernel_rfl⟩
theorem hb137 : hasBody Try.prog 137 := ⟨_, Try.func137, by kernel_rfl, by kernel_rfl⟩
theorem hb138 : hasBody Try.prog 138 := ⟨_, Try.func138, by kernel_rfl, by kernel_rfl⟩
theorem sz9 : (Try.prog.info? 9).map (·.size) = some 1 := by kernel_rfl
theorem tk9 : TK Try.prog 9 kstr := ⟨by kernel_rfl, by kernel_rfl⟩
theorem sz41 : (Try.prog.info? 41).map (·.size) = some 1 := by kernel_rfl
theorem tk41 : TK Try.prog 41 (ksl (kint .i64)) := ⟨by kernel_rfl, by kernel_rfl⟩
theorem zz170 : ((Try.prog.info? 170).bind (·.zero)) = some (mkv true ([.slice none 0 0] ++ ([.nilFunc] ++ []))) := by kernel_rfl
theorem pl170 : (match Try.prog.underlying 170 with | some (.struct fs) => fs.toList.mapM (fun f => (Try.prog.info? f.type).map fun i => (f.offset, i.size)) | _ => none) = some [(0, 1), (1, 1)] := by kernel_rfl
theorem sz168 : (Try.prog.info? 168).map (·.size) = some 1 := by kernel_rfl
theorem tk168 : TK Try.prog 168 (kis (.func (.func 155) #[] #[])) := ⟨by kernel_rfl, by kernel_rfl⟩
theorem hb155 : hasBody Try.prog 155 := ⟨_, Try.func155, by kernel_rfl, by kernel_rfl⟩
theorem hb156 : hasBody Try.prog 156 := ⟨_, Try.func156, by kernel_rfl, by kernel_rfl⟩
theorem hb157 : hasBody Try.prog 157 := ⟨_, Try.func157, by kernel_rfl, by kernel_rfl⟩
theorem hb152 : hasBody Try.prog 152 := ⟨_, Try.func152, by kernel_rfl, by kernel_rfl⟩
theorem hb132 : hasBody Try.prog 132 := ⟨_, Try.func132, by kernel_rfl, by kernel_rfl⟩
theorem hb128 : hasBody Try.prog 128 := ⟨_, Try.func128, by kernel_rfl, by kernel_rfl⟩
theorem hb83 : hasBody Try.prog 83 := ⟨_, Try.func83, by kernel_rfl, by kernel_rfl⟩
theorem hb139 : hasBody Try.prog 139 := ⟨_, Try.func139, by kernel_rfl, by kernel_rfl⟩
theorem sz42 : (Try.prog.info? 42).map (·.size) = some 1 := by kernel_rfl
theorem tk42 : TK Try.prog 42 (ksl k_api_Box) := ⟨by kernel_rfl, by kernel_rfl⟩
theorem zz173 : ((Try.prog.info? 173).bind (·.zero)) = some (mkv true ([.slice none 0 0] ++ ([.nilFunc] ++ []))) := by kernel_rfl
theorem pl173 : (match Try.prog.underlying 173 with | some (.struct fs) => fs.toList.mapM (fun f => (Try.prog.info? f.type).map fun i => (f.offset, i.size)) | _ => none) = some [(0, 1), (1, 1)] := by kernel_rfl
theorem sz171 : (Try.prog.info? 171).map (·.size) = some 1 := by kernel_rfl
theorem tk171 : TK Try.prog 171 (kis (.func (.func 158) #[] #[])) := ⟨by kernel_rfl, by kernel_rfl⟩
theorem sz78 : (Try.prog.info? 78).map (·.size) = some 36 := by kernel_rfl
theorem tk78 : TK Try.prog 78 k_api_Box := ⟨by kernel_rfl, by kernel_rfl⟩
theorem hb158 : hasBody Try.prog 158 := ⟨_, Try.func158, by kernel_rfl, by kernel_rfl⟩
theorem hb159 : hasBody Try.prog 159 := ⟨_, Try.func159, by kernel_rfl, by kernel_rfl⟩
theorem hb161 : hasBody Try.prog 161 := ⟨_, Try.func161, by kernel_rfl, by kernel_rfl⟩
theorem hb184 : hasBody Try.prog 184 := ⟨_, Try.func184, by kernel_rfl, by kernel_rfl⟩
theorem hb160 : hasBody Try.prog 160 := ⟨_, Try.func160, by kernel_rfl, by kernel_rfl⟩
theorem hb140 : hasBody Try.prog 140 := ⟨_, Try.func140, by kernel_rfl, by kernel_rfl⟩
theorem hb91 : hasBody Try.prog 91 := ⟨_, Try.func91, by kernel_rfl, by kernel_rfl⟩
theorem hb71 : hasBody Try.prog 71 := ⟨_, Try.func71, by kernel_rfl, by kernel_rfl⟩
theorem kf_api_Head : KFlat k_api_Head := KFlat.iso (KFlat.pair (KFlat.arr (KFlat.int _)) (KFlat.pair (KFlat.int _) (KFlat.pair (KFlat.int _) KFlat.nil)))
theorem kf_api_Box : KFlat k_api_Box := KFlat.iso (KFlat.pair (KFlat.int _) (KFlat.pair kf_api_Head (KFlat.pair KFlat.str KFlat.nil)))
theorem ap39 : ApOk Try.prog 39 (karr 32 (kint .u8)) (List.replicate 32 [.int .u8 0]).flatten := ⟨by kernel_rfl, by kernel_rfl, by kernel_rfl⟩
theorem hb142 : hasBody Try.prog 142 := ⟨_, Try.func142, by kernel_rfl, by kernel_rfl⟩
theorem ap3 : ApOk Try.prog 3 (kint .i64) [.int .i64 0] := ⟨by kernel_rfl, by kernel_rfl, by kernel_rfl⟩
theorem hb80 : hasBody Try.prog 80 := ⟨_, Try.func80, by kernel_rfl, by kernel_rfl⟩
theorem ap78 : ApOk Try.prog 78 k_api_Box ([.int .i64 0] ++ (((List.replicate 32 [.int .u8 0]).flatten ++ ([.int .u32 0] ++ ([.int .u32 0] ++ []))) ++ ([.string ⟨#[]⟩] ++ []))) := ⟨by kernel_rfl, by kernel_rfl, by kernel_rfl⟩
theorem hb143 : hasBody Try.prog 143 := ⟨_, Try.func143, by kernel_rfl, by kernel_rfl⟩
theorem hb118 : hasBody Try.prog 118 := ⟨_, Try.func118, by kernel_rfl, by kernel_rfl⟩
theorem ap91 : ApOk Try.prog 91 k_api_Held ((List.replicate 32 [.int .u8 0]).flatten ++ (([.int .i64 0] ++ ([.int .u32 0] ++ ([.slice none 0 0] ++ ([.int .i64 0] ++ ([.slice none 0 0] ++ ((List.replicate 32 [.int .u8 0]).flatten ++ ((List.replicate 32 [.int .u8 0]).flatten ++ ([.string ⟨#[]⟩] ++ ([.slice none 0 0] ++ []))))))))) ++ ([.slice none 0 0] ++ []))) := ⟨by kernel_rfl, by kernel_rfl, by kernel_rfl⟩
theorem hb117 : hasBody Try.prog 117 := ⟨_, Try.func117, by kernel_rfl, by kernel_rfl⟩
theorem hb66 : hasBody Try.prog 66 := ⟨_, Try.func66, by kernel_rfl, by kernel_rfl⟩
theorem sz46 : (Try.prog.info? 46).map (·.size) = some 104 := by kernel_rfl
theorem tk46 : TK Try.prog 46 k_api_Node := ⟨by kernel_rfl, by kernel_rfl⟩
theorem zz46 : ((Try.prog.info? 46).bind (·.zero)) = some (mkv true ((List.replicate 32 [.int .u8 0]).flatten ++ (([.int .i64 0] ++ ([.int .u32 0] ++ ([.slice none 0 0] ++ ([.int .i64 0] ++ ([.slice none 0 0] ++ ((List.replicate 32 [.int .u8 0]).flatten ++ ((List.replicate 32 [.int .u8 0]).flatten ++ ([.string ⟨#[]⟩] ++ ([.slice none 0 0] ++ []))))))))) ++ ([.slice none 0 0] ++ [])))) := by kernel_rfl
theorem hb99 : hasBody Try.prog 99 := ⟨_, Try.func99, by kernel_rfl, by kernel_rfl⟩
theorem hb98 : hasBody Try.prog 98 := ⟨_, Try.func98, by kernel_rfl, by kernel_rfl⟩
theorem hb48 : hasBody Try.prog 48 := ⟨_, Try.func48, by kernel_rfl, by kernel_rfl⟩
theorem zz4 : ((Try.prog.info? 4).bind (·.zero)) = some (mkv false [.bool false]) := by kernel_rfl
theorem zz3 : ((Try.prog.info? 3).bind (·.zero)) = some (mkv false [.int .i64 0]) := by kernel_rfl
theorem hb92 : hasBody Try.prog 92 := ⟨_, Try.func92, by kernel_rfl, by kernel_rfl⟩
theorem hb106 : hasBody Try.prog 106 := ⟨_, Try.func106, by kernel_rfl, by kernel_rfl⟩
theorem hb185 : hasBody Try.prog 185 := ⟨_, Try.func185, by kernel_rfl, by kernel_rfl⟩
theorem hb162 : hasBody Try.prog 162 := ⟨_, Try.func162, by kernel_rfl, by kernel_rfl⟩
theorem hb163 : hasBody Try.prog 163 := ⟨_, Try.func163, by kernel_rfl, by kernel_rfl⟩
theorem hb141 : hasBody Try.prog 141 := ⟨_, Try.func141, by kernel_rfl, by kernel_rfl⟩
theorem hb93 : hasBody Try.prog 93 := ⟨_, Try.func93, by kernel_rfl, by kernel_rfl⟩
theorem hb78 : hasBody Try.prog 78 := ⟨_, Try.func78, by kernel_rfl, by kernel_rfl⟩
theorem hb24 : hasBody Try.prog 24 := ⟨_, Try.func24, by kernel_rfl, by kernel_rfl⟩
theorem hb174 : hasBody Try.prog 174 := ⟨_, Try.func174, by kernel_rfl, by kernel_rfl⟩
theorem hb146 : hasBody Try.prog 146 := ⟨_, Try.func146, by kernel_rfl, by kernel_rfl⟩
theorem hb115 : hasBody Try.prog 115 := ⟨_, Try.func115, by kernel_rfl, by kernel_rfl⟩
theorem hb165 : hasBody Try.prog 165 := ⟨_, Try.func165, by kernel_rfl, by kernel_rfl⟩
theorem hb186 : hasBody Try.prog 186 := ⟨_, Try.func186, by kernel_rfl, by kernel_rfl⟩
theorem hb166 : hasBody Try.prog 166 := ⟨_, Try.func166, by kernel_rfl, by kernel_rfl⟩
theorem zz192 : ((Try.prog.info? 192).bind (·.zero)) = some (mkv false [.int .u64 0]) := by kernel_rfl
theorem tk192 : TK Try.prog 192 (kint .u64) := ⟨by kernel_rfl, by kernel_rfl⟩
theorem hb187 : hasBody Try.prog 187 := ⟨_, Try.func187, by kernel_rfl, by kernel_rfl⟩
theorem hb188 : hasBody Try.prog 188 := ⟨_, Try.func188, by kernel_rfl, by kernel_rfl⟩
theorem hb167 : hasBody Try.prog 167 := ⟨_, Try.func167, by kernel_rfl, by kernel_rfl⟩
theorem hb194 : hasBody Try.prog 194 := ⟨_, Try.func194, by kernel_rfl, by kernel_rfl⟩
theorem hb190 : hasBody Try.prog 190 := ⟨_, Try.func190, by kernel_rfl, by kernel_rfl⟩
theorem hb189 : hasBody Try.prog 189 := ⟨_, Try.func189, by kernel_rfl, by kernel_rfl⟩
theorem hb168 : hasBody Try.prog 168 := ⟨_, Try.func168, by kernel_rfl, by kernel_rfl⟩
theorem hb169 : hasBody Try.prog 169 := ⟨_, Try.func169, by kernel_rfl, by kernel_rfl⟩
theorem hb170 : hasBody Try.prog 170 := ⟨_, Try.func170, by kernel_rfl, by kernel_rfl⟩
theorem hb171 : hasBody Try.prog 171 := ⟨_, Try.func171, by kernel_rfl, by kernel_rfl⟩
theorem hb172 : hasBody Try.prog 172 := ⟨_, Try.func172, by kernel_rfl, by kernel_rfl⟩
theorem hb145 : hasBody Try.prog 145 := ⟨_, Try.func145, by kernel_rfl, by kernel_rfl⟩
theorem hb100 : hasBody Try.prog 100 := ⟨_, Try.func100, by kernel_rfl, by kernel_rfl⟩
theorem hb150 : hasBody Try.prog 150 := ⟨_, Try.func150, by kernel_rfl, by kernel_rfl⟩
theorem hb114 : hasBody Try.prog 114 := ⟨_, Try.func114, by kernel_rfl, by kernel_rfl⟩
theorem hb62 : hasBody Try.prog 62 := ⟨_, Try.func62, by kernel_rfl, by kernel_rfl⟩
theorem hb69 : hasBody Try.prog 69 := ⟨_, Try.func69, by kernel_rfl, by kernel_rfl⟩
theorem tk22 : TK Try.prog 22 (ksl k_api_Node) := ⟨by kernel_rfl, by kernel_rfl⟩
theorem hb113 : hasBody Try.prog 113 := ⟨_, Try.func113, by kernel_rfl, by kernel_rfl⟩
theorem hb149 : hasBody Try.prog 149 := ⟨_, Try.func149, by kernel_rfl, by kernel_rfl⟩
theorem hb112 : hasBody Try.prog 112 := ⟨_, Try.func112, by kernel_rfl, by kernel_rfl⟩
theorem hb111 : hasBody Try.prog 111 := ⟨_, Try.func111, by kernel_rfl, by kernel_rfl⟩
theorem hb61 : hasBody Try.prog 61 := ⟨_, Try.func61, by kernel_rfl, by kernel_rfl⟩
theorem hb59 : hasBody Try.prog 59 := ⟨_, Try.func59, by kernel_rfl, by kernel_rfl⟩
theorem hb51 : hasBody Try.prog 51 := ⟨_, Try.func51, by kernel_rfl, by kernel_rfl⟩
theorem hb60 : hasBody Try.prog 60 := ⟨_, Try.func60, by kernel_rfl, by kernel_rfl⟩
theorem hb129 : hasBody Try.prog 129 := ⟨_, Try.func129, by kernel_rfl, by kernel_rfl⟩
theorem hb108 : hasBody Try.prog 108 := ⟨_, Try.func108, by kernel_rfl, by kernel_rfl⟩
theorem zz78 : ((Try.prog.info? 78).bind (·.zero)) = some (mkv true ([.int .i64 0] ++ (((List.replicate 32 [.int .u8 0]).flatten ++ ([.int .u32 0] ++ ([.int .u32 0] ++ []))) ++ ([.string ⟨#[]⟩] ++ [])))) := by kernel_rfl
theorem hb130 : hasBody Try.prog 130 := ⟨_, Try.func130, by kernel_rfl, by kernel_rfl⟩
theorem hb85 : hasBody Try.prog 85 := ⟨_, Try.func85, by kernel_rfl, by kernel_rfl⟩
theorem hb73 : hasBody Try.prog 73 := ⟨_, Try.func73, by kernel_rfl, by kernel_rfl⟩
theorem hb63 : hasBody Try.prog 63 := ⟨_, Try.func63, by kernel_rfl, by kernel_rfl⟩
theorem hb67 : hasBody Try.prog 67 := ⟨_, Try.func67, by kernel_rfl, by kernel_rfl⟩
theorem hb70 : hasBody Try.prog 70 := ⟨_, Try.func70, by kernel_rfl, by kernel_rfl⟩
theorem hb122 : hasBody Try.prog 122 := ⟨_, Try.func122, by kernel_rfl, by kernel_rfl⟩
theorem zz130 : ((Try.prog.info? 130).bind (·.zero)) = some (mkv true ([.int .i64 0] ++ ([.int .i64 0] ++ (([.int .i64 0] ++ ([.int .u32 0] ++ ([.slice none 0 0] ++ ([.int .i64 0] ++ ([.slice none 0 0] ++ ((List.replicate 32 [.int .u8 0]).flatten ++ ((List.replicate 32 [.int .u8 0]).flatten ++ ([.string ⟨#[]⟩] ++ ([.slice none 0 0] ++ []))))))))) ++ ([.slice none 0 0] ++ []))))) := by kernel_rfl
theorem pl130 : (match Try.prog.underlying 130 with | some (.struct fs) => fs.toList.mapM (fun f => (Try.prog.info? f.type).map fun i => (f.offset, i.size)) | _ => none) = some [(0, 1), (1, 1), (2, 71), (73, 1)] := by kernel_rfl
theorem eq9 : EqK Try.prog 9 kstr 1 := eq_str Try.underlying9
theorem tk76 : TK Try.prog 76 k_api_Head := ⟨by kernel_rfl, by kernel_rfl⟩
theorem eq25 : EqK Try.prog 25 (kint .u32) 1 := eq_int Try.underlying25
theorem eq76 : EqK Try.prog 76 k_api_Head 3 := eq_struct Try.underlying76 (by kernel_rfl) rfl t_api_Head_inj (eqfs_cons (by decide) rfl tk39 (eq_up eq39 (by decide)) (eqfs_cons (by decide) rfl tk25 (eq_up eq25 (by decide)) (eqfs_cons (by decide) rfl tk25 (eq_up eq25 (by decide)) eqfs_nil)))
theorem eq3 : EqK Try.prog 3 (kint .i64) 1 := eq_int Try.underlying3
theorem eq78 : EqK Try.prog 78 k_api_Box 4 := eq_struct Try.underlying78 (by kernel_rfl) rfl t_api_Box_inj (eqfs_cons (by decide) rfl tk3 (eq_up eq3 (by decide)) (eqfs_cons (by decide) rfl tk76 (eq_up eq76 (by decide)) (eqfs_cons (by decide) rfl tk9 (eq_up eq9 (by decide)) eqfs_nil)))
theorem hb175 : hasBody Try.prog 175 := ⟨_, Try.func175, by kernel_rfl, by kernel_rfl⟩
theorem hb148 : hasBody Try.prog 148 := ⟨_, Try.func148, by kernel_rfl, by kernel_rfl⟩
theorem hb107 : hasBody Try.prog 107 := ⟨_, Try.func107, by kernel_rfl, by kernel_rfl⟩
theorem hb121 : hasBody Try.prog 121 := ⟨_, Try.func121, by kernel_rfl, by kernel_rfl⟩
theorem hb120 : hasBody Try.prog 120 := ⟨_, Try.func120, by kernel_rfl, by kernel_rfl⟩
theorem hb74 : hasBody Try.prog 74 := ⟨_, Try.func74, by kernel_rfl, by kernel_rfl⟩
theorem hb103 : hasBody Try.prog 103 := ⟨_, Try.func103, by kernel_rfl, by kernel_rfl⟩
theorem hb49 : hasBody Try.prog 49 := ⟨_, Try.func49, by kernel_rfl, by kernel_rfl⟩
theorem hb68 : hasBody Try.prog 68 := ⟨_, Try.func68, by kernel_rfl, by kernel_rfl⟩
end Go.Proofs.Ytdlnfgpcnfbjiaa
end
