/- Several parts of this proof in one file. No condition. -/
import Derived.Test.YtjbjladhgmknnaaDoorKyB
import Derived.Test.YtjbjladhgmknnaaDoorProg
section
namespace Go.Proofs.Pure
open Go Go.RowKit Go.Proofs.Kit
theorem wu8 (n : Int) : IntKind.wrap .u8 n = n % 256 := by unfold IntKind.wrap; simp [IntKind.signed, IntKind.bits]
theorem wu32 (n : Int) : IntKind.wrap .u32 n = n % 4294967296 := by unfold IntKind.wrap; simp [IntKind.signed, IntKind.bits]
theorem wu64 (n : Int) : IntKind.wrap .u64 n = n % 18446744073709551616 := by unfold IntKind.wrap; simp [IntKind.signed, IntKind.bits]
theorem wi64 {n : Int} (h : -9223372036854775808 ≤ n ∧ n < 9223372036854775808) : IntKind.wrap .i64 n = n := by
  unfold IntKind.wrap; simp [IntKind.signed, IntKind.bits]; split <;> omega
theorem wu32s {n : Int} (h : 0 ≤ n ∧ n < 4294967296) : IntKind.wrap .u32 n = n := by rw [wu32]; omega
theorem wu64s {n : Int} (h : 0 ≤ n ∧ n < 18446744073709551616) : IntKind.wrap .u64 n = n := by rw [wu64]; omega
theorem wu8s {n : Int} (h : 0 ≤ n ∧ n < 256) : IntKind.wrap .u8 n = n := by rw [wu8]; omega
theorem add64 {x y : Int} (h : -9223372036854775808 ≤ x + y ∧ x + y < 9223372036854775808) : iadd .i64 x y = x + y := wi64 h
theorem sub64 {x y : Int} (h : -9223372036854775808 ≤ x - y ∧ x - y < 9223372036854775808) : isub .i64 x y = x - y := wi64 h
theorem mul64 {x y : Int} (h : -9223372036854775808 ≤ x * y ∧ x * y < 9223372036854775808) : imul .i64 x y = x * y := wi64 h
theorem add32 {x y : Int} (h : 0 ≤ x + y ∧ x + y < 4294967296) : iadd .u32 x y = x + y := wu32s h
theorem addu64 {x y : Int} (h : 0 ≤ x + y ∧ x + y < 18446744073709551616) : iadd .u64 x y = x + y := wu64s h
theorem mulu64 {x y : Int} (h : 0 ≤ x * y ∧ x * y < 18446744073709551616) : imul .u64 x y = x * y := wu64s h
theorem rem_pos {x y : Int} (h : 0 ≤ x) : irem x y = x % y := by unfold irem; exact Int.tmod_eq_emod_of_nonneg h
theorem tdiv_pos {x y : Int} (h : 0 ≤ x) : x.tdiv y = x / y := Int.tdiv_eq_ediv_of_nonneg h
theorem quo32 {x y : Int} (h : 0 ≤ x ∧ x < 4294967296) (hy : 0 < y) : iquo .u32 x y = x / y := by
  unfold iquo; rw [tdiv_pos h.1]
  have h1 : 0 ≤ x / y := Int.ediv_nonneg h.1 (by omega)
  have h2 : x / y ≤ x := Int.ediv_le_self y h.1
  exact wu32s ⟨h1, by omega⟩
theorem quo64 {x y : Int} (h : 0 ≤ x ∧ x < 9223372036854775808) (hy : 0 < y) : iquo .i64 x y = x / y := by
  unfold iquo; rw [tdiv_pos h.1]
  have h1 : 0 ≤ x / y := Int.ediv_nonneg h.1 (by omega)
  have h2 : x / y ≤ x := Int.ediv_le_self y h.1
  exact wi64 ⟨by omega, by omega⟩
theorem shr_def {k : IntKind} {x y : Int} (hy : y.toNat ≤ k.bits) : ishr k x y = x / 2 ^ y.toNat := by
  unfold ishr
  rw [Nat.min_eq_left hy]
  exact Int.fdiv_eq_ediv_of_nonneg _ (Int.le_of_lt (Int.pow_pos (by decide)))
theorem byte_cases {p : Int → Prop} (h : ∀ n : Fin 256, p (n.val : Int)) {x : Int} (hx : 0 ≤ x ∧ x < 256) : p x := by
  have := h ⟨x.toNat, by omega⟩
  simpa [Int.toNat_of_nonneg hx.1] using this
theorem or128 {x : Int} (hx : 0 ≤ x ∧ x < 256) : ior .u8 x 128 = x % 128 + 128 := byte_cases (p := fun x => ior .u8 x 128 = x % 128 + 128) (by decide +kernel) hx
theorem andn128 {x : Int} (hx : 0 ≤ x ∧ x < 256) : iandn .u8 x 128 = x % 128 := byte_cases (p := fun x => iandn .u8 x 128 = x % 128) (by decide +kernel) hx
theorem shl_or7 {x y : Int} (hx : 0 ≤ x ∧ x < 72057594037927936) (hy : 0 ≤ y ∧ y < 128) : ior .u64 (ishl .u64 x 7) y = x * 128 + y := by
  have h1 : ishl .u64 x 7 = x * 128 := by
    unfold ishl; exact wu64s ⟨by show 0 ≤ x * 128; omega, by show x * 128 < _; omega⟩
  rw [h1]
  unfold ior
  obtain ⟨m, rfl⟩ : ∃ m : Nat, x = m := ⟨x.toNat, by omega⟩
  obtain ⟨n, rfl⟩ : ∃ n : Nat, y = n := ⟨y.toNat, by omega⟩
  have h2 : (BitVec.ofInt IntKind.u64.bits ((m : Int) * 128) ||| BitVec.ofInt IntKind.u64.bits (n : Int)).toNat = m * 128 + n := by
    show (BitVec.ofInt 64 ((m : Int) * 128) ||| BitVec.ofInt 64 (n : Int)).toNat = _
    have e1 : (BitVec.ofInt 64 ((m : Int) * 128)) = BitVec.ofNat 64 (m * 128) := by
      rw [show ((m : Int) * 128) = ((m * 128 : Nat) : Int) by omega, BitVec.ofInt_natCast]
    have e2 : (BitVec.ofInt 64 (n : Int)) = BitVec.ofNat 64 n := BitVec.ofInt_natCast ..
    rw [e1, e2, BitVec.toNat_or, BitVec.toNat_ofNat, BitVec.toNat_ofNat, Nat.mod_eq_of_lt (by omega), Nat.mod_eq_of_lt (by omega)]
    have := Nat.two_pow_add_eq_or_of_lt (i := 7) (b := n) (by omega) m
    rw [show m * 128 = 2 ^ 7 * m by omega, this]
  rw [h2]
  exact wu64s ⟨by omega, by omega⟩
theorem at_get {α : Type} {l : List α} {i : Nat} (h : i < l.length) : at? l (i : Int) = some l[i] := by
  unfold at?; simp [h]
theorem cut_ok {α : Type} {l : List α} {a b : Int} (h : 0 ≤ a ∧ a ≤ b ∧ b ≤ l.length) : cut? l a b = some ((l.take b.toNat).drop a.toNat) := by
  unfold cut?; rw [if_pos h]
theorem cut_pre {α : Type} {l : List α} {n : Nat} (h : n ≤ l.length) : cut? l 0 (n : Int) = some (l.take n) := by
  rw [cut_ok ⟨by omega, by omega, by omega⟩]; simp
theorem cut_suf {α : Type} {l : List α} {n : Nat} (h : n ≤ l.length) : cut? l (n : Int) (l.length : Int) = some (l.drop n) := by
  rw [cut_ok ⟨by omega, by omega, by omega⟩]; simp
end Go.Proofs.Pure
end
section
namespace Go.Proofs.Pure
open Go Go.RowKit Go.Proofs.Kit
set_option linter.unusedVariables false
structure caballaw13_Act where
  Kind : Int
  N : Int
  L : (List (List Int))
  Keep : (List Int)
  deriving DecidableEq
def t_caballaw13_Act (x : caballaw13_Act) : Int × Int × (List (List Int)) × (List Int) × Unit := (x.Kind, x.N, x.L, x.Keep, ())
theorem t_caballaw13_Act_inj (x y : caballaw13_Act) (h : t_caballaw13_Act x = t_caballaw13_Act y) : x = y := by cases x; cases y; simpa [t_caballaw13_Act] using h
def k_caballaw13_Act : Kd caballaw13_Act := kiso (kpair (kint .i64) (kpair (kint .i64) (kpair (ksl kstr) (kpair (ksl (kint .u8)) knil)))) t_caballaw13_Act
theorem lg_caballaw13_Act_Kind (x : caballaw13_Act) : LG k_caballaw13_Act (kint .i64) 0 x x.Kind := LG.iso (LG.fst _ _ _)
theorem ls_caballaw13_Act_Kind (x : caballaw13_Act) (y : Int) : LS k_caballaw13_Act (kint .i64) 0 x y { x with Kind := y } := LS.iso (LS.fst _ _ _ _)
theorem lg_caballaw13_Act_N (x : caballaw13_Act) : LG k_caballaw13_Act (kint .i64) 1 x x.N := LG.iso (LG.snd _ (LG.fst _ _ _))
theorem ls_caballaw13_Act_N (x : caballaw13_Act) (y : Int) : LS k_caballaw13_Act (kint .i64) 1 x y { x with N := y } := LS.iso (LS.snd _ (LS.fst _ _ _ _))
theorem lg_caballaw13_Act_L (x : caballaw13_Act) : LG k_caballaw13_Act (ksl kstr) 2 x x.L := LG.iso (LG.snd _ (LG.snd _ (LG.fst _ _ _)))
theorem ls_caballaw13_Act_L (x : caballaw13_Act) (y : (List (List Int))) : LS k_caballaw13_Act (ksl kstr) 2 x y { x with L := y } := LS.iso (LS.snd _ (LS.snd _ (LS.fst _ _ _ _)))
theorem lg_caballaw13_Act_Keep (x : caballaw13_Act) : LG k_caballaw13_Act (ksl (kint .u8)) 3 x x.Keep := LG.iso (LG.snd _ (LG.snd _ (LG.snd _ (LG.fst _ _ _))))
theorem ls_caballaw13_Act_Keep (x : caballaw13_Act) (y : (List Int)) : LS k_caballaw13_Act (ksl (kint .u8)) 3 x y { x with Keep := y } := LS.iso (LS.snd _ (LS.snd _ (LS.snd _ (LS.fst _ _ _ _))))
structure cabalref12_Disk where
  Firm : (List (List Int))
  At : (List Int)
  Data : (List (List Int))
  Fuse : Int
  Dead : Bool
  deriving DecidableEq
def t_cabalref12_Disk (x : cabalref12_Disk) : (List (List Int)) × (List Int) × (List (List Int)) × Int × Bool × Unit := (x.Firm, x.At, x.Data, x.Fuse, x.Dead, ())
theorem t_cabalref12_Disk_inj (x y : cabalref12_Disk) (h : t_cabalref12_Disk x = t_cabalref12_Disk y) : x = y := by cases x; cases y; simpa [t_cabalref12_Disk] using h
def k_cabalref12_Disk : Kd cabalref12_Disk := kiso (kpair (ksl kstr) (kpair (ksl (kint .i64)) (kpair (ksl kstr) (kpair (kint .i64) (kpair kbool knil))))) t_cabalref12_Disk
theorem lg_cabalref12_Disk_Firm (x : cabalref12_Disk) : LG k_cabalref12_Disk (ksl kstr) 0 x x.Firm := LG.iso (LG.fst _ _ _)
theorem ls_cabalref12_Disk_Firm (x : cabalref12_Disk) (y : (List (List Int))) : LS k_cabalref12_Disk (ksl kstr) 0 x y { x with Firm := y } := LS.iso (LS.fst _ _ _ _)
theorem lg_cabalref12_Disk_At (x : cabalref12_Disk) : LG k_cabalref12_Disk (ksl (kint .i64)) 1 x x.At := LG.iso (LG.snd _ (LG.fst _ _ _))
theorem ls_cabalref12_Disk_At (x : cabalref12_Disk) (y : (List Int)) : LS k_cabalref12_Disk (ksl (kint .i64)) 1 x y { x with At := y } := LS.iso (LS.snd _ (LS.fst _ _ _ _))
theorem lg_cabalref12_Disk_Data (x : cabalref12_Disk) : LG k_cabalref12_Disk (ksl kstr) 2 x x.Data := LG.iso (LG.snd _ (LG.snd _ (LG.fst _ _ _)))
theorem ls_cabalref12_Disk_Data (x : cabalref12_Disk) (y : (List (List Int))) : LS k_cabalref12_Disk (ksl kstr) 2 x y { x with Data := y } := LS.iso (LS.snd _ (LS.snd _ (LS.fst _ _ _ _)))
theorem lg_cabalref12_Disk_Fuse (x : cabalref12_Disk) : LG k_cabalref12_Disk (kint .i64) 3 x x.Fuse := LG.iso (LG.snd _ (LG.snd _ (LG.snd _ (LG.fst _ _ _))))
theorem ls_cabalref12_Disk_Fuse (x : cabalref12_Disk) (y : Int) : LS k_cabalref12_Disk (kint .i64) 3 x y { x with Fuse := y } := LS.iso (LS.snd _ (LS.snd _ (LS.snd _ (LS.fst _ _ _ _))))
theorem lg_cabalref12_Disk_Dead (x : cabalref12_Disk) : LG k_cabalref12_Disk kbool 4 x x.Dead := LG.iso (LG.snd _ (LG.snd _ (LG.snd _ (LG.snd _ (LG.fst _ _ _)))))
theorem ls_cabalref12_Disk_Dead (x : cabalref12_Disk) (y : Bool) : LS k_cabalref12_Disk kbool 4 x y { x with Dead := y } := LS.iso (LS.snd _ (LS.snd _ (LS.snd _ (LS.snd _ (LS.fst _ _ _ _)))))
structure cabalref13_Journal where
  D : Unit
  Area : Int
  L : (List (List Int))
  deriving DecidableEq
def t_cabalref13_Journal (x : cabalref13_Journal) : Unit × Int × (List (List Int)) × Unit := (x.D, x.Area, x.L, ())
theorem t_cabalref13_Journal_inj (x y : cabalref13_Journal) (h : t_cabalref13_Journal x = t_cabalref13_Journal y) : x = y := by cases x; cases y; simpa [t_cabalref13_Journal] using h
def k_cabalref13_Journal : Kd cabalref13_Journal := kiso (kpair (kis (.pointer none)) (kpair (kint .i64) (kpair (ksl kstr) knil))) t_cabalref13_Journal
theorem lg_cabalref13_Journal_D (x : cabalref13_Journal) : LG k_cabalref13_Journal (kis (.pointer none)) 0 x x.D := LG.iso (LG.fst _ _ _)
theorem ls_cabalref13_Journal_D (x : cabalref13_Journal) (y : Unit) : LS k_cabalref13_Journal (kis (.pointer none)) 0 x y { x with D := y } := LS.iso (LS.fst _ _ _ _)
theorem lg_cabalref13_Journal_Area (x : cabalref13_Journal) : LG k_cabalref13_Journal (kint .i64) 1 x x.Area := LG.iso (LG.snd _ (LG.fst _ _ _))
theorem ls_cabalref13_Journal_Area (x : cabalref13_Journal) (y : Int) : LS k_cabalref13_Journal (kint .i64) 1 x y { x with Area := y } := LS.iso (LS.snd _ (LS.fst _ _ _ _))
theorem lg_cabalref13_Journal_L (x : cabalref13_Journal) : LG k_cabalref13_Journal (ksl kstr) 2 x x.L := LG.iso (LG.snd _ (LG.snd _ (LG.fst _ _ _)))
theorem ls_cabalref13_Journal_L (x : cabalref13_Journal) (y : (List (List Int))) : LS k_cabalref13_Journal (ksl kstr) 2 x y { x with L := y } := LS.iso (LS.snd _ (LS.snd _ (LS.fst _ _ _ _)))
structure disk_write where
  at_ : Int
  data : (List Int)
  deriving DecidableEq
def t_disk_write (x : disk_write) : Int × (List Int) × Unit := (x.at_, x.data, ())
theorem t_disk_write_inj (x y : disk_write) (h : t_disk_write x = t_disk_write y) : x = y := by cases x; cases y; simpa [t_disk_write] using h
def k_disk_write : Kd disk_write := kiso (kpair (kint .i64) (kpair (karr 256 (kint .u8)) knil)) t_disk_write
theorem lg_disk_write_at_ (x : disk_write) : LG k_disk_write (kint .i64) 0 x x.at_ := LG.iso (LG.fst _ _ _)
theorem ls_disk_write_at_ (x : disk_write) (y : Int) : LS k_disk_write (kint .i64) 0 x y { x with at_ := y } := LS.iso (LS.fst _ _ _ _)
theorem lg_disk_write_data (x : disk_write) : LG k_disk_write (karr 256 (kint .u8)) 1 x x.data := LG.iso (LG.snd _ (LG.fst _ _ _))
theorem ls_disk_write_data (x : disk_write) (y : (List Int)) : LS k_disk_write (karr 256 (kint .u8)) 1 x y { x with data := y } := LS.iso (LS.snd _ (LS.fst _ _ _ _))
structure disk_Disk where
  firm : (List (List Int))
  loose : (List disk_write)
  fuse : Int
  dead : Bool
  deriving DecidableEq
def t_disk_Disk (x : disk_Disk) : (List (List Int)) × (List disk_write) × Int × Bool × Unit := (x.firm, x.loose, x.fuse, x.dead, ())
theorem t_disk_Disk_inj (x y : disk_Disk) (h : t_disk_Disk x = t_disk_Disk y) : x = y := by cases x; cases y; simpa [t_disk_Disk] using h
def k_disk_Disk : Kd disk_Disk := kiso (kpair (ksl (karr 256 (kint .u8))) (kpair (ksl k_disk_write) (kpair (kint .i64) (kpair kbool knil)))) t_disk_Disk
theorem lg_disk_Disk_firm (x : disk_Disk) : LG k_disk_Disk (ksl (karr 256 (kint .u8))) 0 x x.firm := LG.iso (LG.fst _ _ _)
theorem ls_disk_Disk_firm (x : disk_Disk) (y : (List (List Int))) : LS k_disk_Disk (ksl (karr 256 (kint .u8))) 0 x y { x with firm := y } := LS.iso (LS.fst _ _ _ _)
theorem lg_disk_Disk_loose (x : disk_Disk) : LG k_disk_Disk (ksl k_disk_write) 1 x x.loose := LG.iso (LG.snd _ (LG.fst _ _ _))
theorem ls_disk_Disk_loose (x : disk_Disk) (y : (List disk_write)) : LS k_disk_Disk (ksl k_disk_write) 1 x y { x with loose := y } := LS.iso (LS.snd _ (LS.fst _ _ _ _))
theorem lg_disk_Disk_fuse (x : disk_Disk) : LG k_disk_Disk (kint .i64) 2 x x.fuse := LG.iso (LG.snd _ (LG.snd _ (LG.fst _ _ _)))
theorem ls_disk_Disk_fuse (x : disk_Disk) (y : Int) : LS k_disk_Disk (kint .i64) 2 x y { x with fuse := y } := LS.iso (LS.snd _ (LS.snd _ (LS.fst _ _ _ _)))
theorem lg_disk_Disk_dead (x : disk_Disk) : LG k_disk_Disk kbool 3 x x.dead := LG.iso (LG.snd _ (LG.snd _ (LG.snd _ (LG.fst _ _ _))))
theorem ls_disk_Disk_dead (x : disk_Disk) (y : Bool) : LS k_disk_Disk kbool 3 x y { x with dead := y } := LS.iso (LS.snd _ (LS.snd _ (LS.snd _ (LS.fst _ _ _ _))))
structure journal_Journal where
  d : Unit
  area : Int
  bytes : (List Int)
  l : (List (List Int))
  deriving DecidableEq
def t_journal_Journal (x : journal_Journal) : Unit × Int × (List Int) × (List (List Int)) × Unit := (x.d, x.area, x.bytes, x.l, ())
theorem t_journal_Journal_inj (x y : journal_Journal) (h : t_journal_Journal x = t_journal_Journal y) : x = y := by cases x; cases y; simpa [t_journal_Journal] using h
def k_journal_Journal : Kd journal_Journal := kiso (kpair (kis (.pointer none)) (kpair (kint .i64) (kpair kstr (kpair (ksl kstr) knil)))) t_journal_Journal
theorem lg_journal_Journal_d (x : journal_Journal) : LG k_journal_Journal (kis (.pointer none)) 0 x x.d := LG.iso (LG.fst _ _ _)
theorem ls_journal_Journal_d (x : journal_Journal) (y : Unit) : LS k_journal_Journal (kis (.pointer none)) 0 x y { x with d := y } := LS.iso (LS.fst _ _ _ _)
theorem lg_journal_Journal_area (x : journal_Journal) : LG k_journal_Journal (kint .i64) 1 x x.area := LG.iso (LG.snd _ (LG.fst _ _ _))
theorem ls_journal_Journal_area (x : journal_Journal) (y : Int) : LS k_journal_Journal (kint .i64) 1 x y { x with area := y } := LS.iso (LS.snd _ (LS.fst _ _ _ _))
theorem lg_journal_Journal_bytes (x : journal_Journal) : LG k_journal_Journal kstr 2 x x.bytes := LG.iso (LG.snd _ (LG.snd _ (LG.fst _ _ _)))
theorem ls_journal_Journal_bytes (x : journal_Journal) (y : (List Int)) : LS k_journal_Journal kstr 2 x y { x with bytes := y } := LS.iso (LS.snd _ (LS.snd _ (LS.fst _ _ _ _)))
theorem lg_journal_Journal_l (x : journal_Journal) : LG k_journal_Journal (ksl kstr) 3 x x.l := LG.iso (LG.snd _ (LG.snd _ (LG.snd _ (LG.fst _ _ _))))
theorem ls_journal_Journal_l (x : journal_Journal) (y : (List (List Int))) : LS k_journal_Journal (ksl kstr) 3 x y { x with l := y } := LS.iso (LS.snd _ (LS.snd _ (LS.snd _ (LS.fst _ _ _ _))))
structure wire_Writer where
  out : (List Int)
  deriving DecidableEq
def t_wire_Writer (x : wire_Writer) : (List Int) × Unit := (x.out, ())
theorem t_wire_Writer_inj (x y : wire_Writer) (h : t_wire_Writer x = t_wire_Writer y) : x = y := by cases x; cases y; simpa [t_wire_Writer] using h
def k_wire_Writer : Kd wire_Writer := kiso (kpair (ksl (kint .u8)) knil) t_wire_Writer
theorem lg_wire_Writer_out (x : wire_Writer) : LG k_wire_Writer (ksl (kint .u8)) 0 x x.out := LG.iso (LG.fst _ _ _)
theorem ls_wire_Writer_out (x : wire_Writer) (y : (List Int)) : LS k_wire_Writer (ksl (kint .u8)) 0 x y { x with out := y } := LS.iso (LS.fst _ _ _ _)
structure cabalref10_Reader where
  S : (List Int)
  Err : Int
  deriving DecidableEq
def t_cabalref10_Reader (x : cabalref10_Reader) : (List Int) × Int × Unit := (x.S, x.Err, ())
theorem t_cabalref10_Reader_inj (x y : cabalref10_Reader) (h : t_cabalref10_Reader x = t_cabalref10_Reader y) : x = y := by cases x; cases y; simpa [t_cabalref10_Reader] using h
def k_cabalref10_Reader : Kd cabalref10_Reader := kiso (kpair kstr (kpair (kint .i64) knil)) t_cabalref10_Reader
theorem lg_cabalref10_Reader_S (x : cabalref10_Reader) : LG k_cabalref10_Reader kstr 0 x x.S := LG.iso (LG.fst _ _ _)
theorem ls_cabalref10_Reader_S (x : cabalref10_Reader) (y : (List Int)) : LS k_cabalref10_Reader kstr 0 x y { x with S := y } := LS.iso (LS.fst _ _ _ _)
theorem lg_cabalref10_Reader_Err (x : cabalref10_Reader) : LG k_cabalref10_Reader (kint .i64) 1 x x.Err := LG.iso (LG.snd _ (LG.fst _ _ _))
theorem ls_cabalref10_Reader_Err (x : cabalref10_Reader) (y : Int) : LS k_cabalref10_Reader (kint .i64) 1 x y { x with Err := y } := LS.iso (LS.snd _ (LS.fst _ _ _ _))
structure strings_Builder where
  addr : Bool
  buf : (List Int)
  deriving DecidableEq
def t_strings_Builder (x : strings_Builder) : Bool × (List Int) × Unit := (x.addr, x.buf, ())
theorem t_strings_Builder_inj (x y : strings_Builder) (h : t_strings_Builder x = t_strings_Builder y) : x = y := by cases x; cases y; simpa [t_strings_Builder] using h
def k_strings_Builder : Kd strings_Builder := kiso (kpair (kbad 0) (kpair (ksl (kint .u8)) knil)) t_strings_Builder
theorem lg_strings_Builder_addr (x : strings_Builder) : LG k_strings_Builder (kbad 0) 0 x x.addr := LG.iso (LG.fst _ _ _)
theorem ls_strings_Builder_addr (x : strings_Builder) (y : Bool) : LS k_strings_Builder (kbad 0) 0 x y { x with addr := y } := LS.iso (LS.fst _ _ _ _)
theorem lg_strings_Builder_buf (x : strings_Builder) : LG k_strings_Builder (ksl (kint .u8)) 1 x x.buf := LG.iso (LG.snd _ (LG.fst _ _ _))
theorem ls_strings_Builder_buf (x : strings_Builder) (y : (List Int)) : LS k_strings_Builder (ksl (kint .u8)) 1 x y { x with buf := y } := LS.iso (LS.snd _ (LS.fst _ _ _ _))
structure digest_Hash where
  begun : Bool
  state : (List Int)
  rest : (List Int)
  many : Int
  taken : Int
  deriving DecidableEq
def t_digest_Hash (x : digest_Hash) : Bool × (List Int) × (List Int) × Int × Int × Unit := (x.begun, x.state, x.rest, x.many, x.taken, ())
theorem t_digest_Hash_inj (x y : digest_Hash) (h : t_digest_Hash x = t_digest_Hash y) : x = y := by cases x; cases y; simpa [t_digest_Hash] using h
def k_digest_Hash : Kd digest_Hash := kiso (kpair kbool (kpair (karr 8 (kint .u32)) (kpair (karr 64 (kint .u8)) (kpair (kint .i64) (kpair (kint .u64) knil))))) t_digest_Hash
theorem lg_digest_Hash_begun (x : digest_Hash) : LG k_digest_Hash kbool 0 x x.begun := LG.iso (LG.fst _ _ _)
theorem ls_digest_Hash_begun (x : digest_Hash) (y : Bool) : LS k_digest_Hash kbool 0 x y { x with begun := y } := LS.iso (LS.fst _ _ _ _)
theorem lg_digest_Hash_state (x : digest_Hash) : LG k_digest_Hash (karr 8 (kint .u32)) 1 x x.state := LG.iso (LG.snd _ (LG.fst _ _ _))
theorem ls_digest_Hash_state (x : digest_Hash) (y : (List Int)) : LS k_digest_Hash (karr 8 (kint .u32)) 1 x y { x with state := y } := LS.iso (LS.snd _ (LS.fst _ _ _ _))
theorem lg_digest_Hash_rest (x : digest_Hash) : LG k_digest_Hash (karr 64 (kint .u8)) 9 x x.rest := LG.iso (LG.snd _ (LG.snd _ (LG.fst _ _ _)))
theorem ls_digest_Hash_rest (x : digest_Hash) (y : (List Int)) : LS k_digest_Hash (karr 64 (kint .u8)) 9 x y { x with rest := y } := LS.iso (LS.snd _ (LS.snd _ (LS.fst _ _ _ _)))
theorem lg_digest_Hash_many (x : digest_Hash) : LG k_digest_Hash (kint .i64) 73 x x.many := LG.iso (LG.snd _ (LG.snd _ (LG.snd _ (LG.fst _ _ _))))
theorem ls_digest_Hash_many (x : digest_Hash) (y : Int) : LS k_digest_Hash (kint .i64) 73 x y { x with many := y } := LS.iso (LS.snd _ (LS.snd _ (LS.snd _ (LS.fst _ _ _ _))))
theorem lg_digest_Hash_taken (x : digest_Hash) : LG k_digest_Hash (kint .u64) 74 x x.taken := LG.iso (LG.snd _ (LG.snd _ (LG.snd _ (LG.snd _ (LG.fst _ _ _)))))
theorem ls_digest_Hash_taken (x : digest_Hash) (y : Int) : LS k_digest_Hash (kint .u64) 74 x y { x with taken := y } := LS.iso (LS.snd _ (LS.snd _ (LS.snd _ (LS.snd _ (LS.fst _ _ _ _)))))
structure wire_Reader where
  s : (List Int)
  err : Int
  deriving DecidableEq
def t_wire_Reader (x : wire_Reader) : (List Int) × Int × Unit := (x.s, x.err, ())
theorem t_wire_Reader_inj (x y : wire_Reader) (h : t_wire_Reader x = t_wire_Reader y) : x = y := by cases x; cases y; simpa [t_wire_Reader] using h
def k_wire_Reader : Kd wire_Reader := kiso (kpair kstr (kpair (kint .i64) knil)) t_wire_Reader
theorem lg_wire_Reader_s (x : wire_Reader) : LG k_wire_Reader kstr 0 x x.s := LG.iso (LG.fst _ _ _)
theorem ls_wire_Reader_s (x : wire_Reader) (y : (List Int)) : LS k_wire_Reader kstr 0 x y { x with s := y } := LS.iso (LS.fst _ _ _ _)
theorem lg_wire_Reader_err (x : wire_Reader) : LG k_wire_Reader (kint .i64) 1 x x.err := LG.iso (LG.snd _ (LG.fst _ _ _))
theorem ls_wire_Reader_err (x : wire_Reader) (y : Int) : LS k_wire_Reader (kint .i64) 1 x y { x with err := y } := LS.iso (LS.snd _ (LS.fst _ _ _ _))
def to_disk_Disk_0_1 (x : disk_Disk) : Unit × Unit × Int × Bool × Unit := ((), (), x.fuse, x.dead, ())
def ko_disk_Disk_0_1 (v0 v1 : Value) : Kd disk_Disk := kiso (kpair (kis v0) (kpair (kis v1) (kpair (kint .i64) (kpair kbool knil)))) to_disk_Disk_0_1
theorem lgo_disk_Disk_0_1_firm {v0 v1 : Value} (x : disk_Disk) : LG (ko_disk_Disk_0_1 v0 v1) (kis v0) 0 x () := LG.iso (LG.fst _ _ _)
theorem lgo_disk_Disk_0_1_loose {v0 v1 : Value} (x : disk_Disk) : LG (ko_disk_Disk_0_1 v0 v1) (kis v1) 1 x () := LG.iso (LG.snd _ (LG.fst _ _ _))
theorem lgo_disk_Disk_0_1_fuse {v0 v1 : Value} (x : disk_Disk) : LG (ko_disk_Disk_0_1 v0 v1) (kint .i64) 2 x x.fuse := LG.iso (LG.snd _ (LG.snd _ (LG.fst _ _ _)))
theorem lso_disk_Disk_0_1_fuse {v0 v1 : Value} (x : disk_Disk) (y : Int) : LS (ko_disk_Disk_0_1 v0 v1) (kint .i64) 2 x y { x with fuse := y } := LS.iso (LS.snd _ (LS.snd _ (LS.fst _ _ _ _)))
theorem lgo_disk_Disk_0_1_dead {v0 v1 : Value} (x : disk_Disk) : LG (ko_disk_Disk_0_1 v0 v1) kbool 3 x x.dead := LG.iso (LG.snd _ (LG.snd _ (LG.snd _ (LG.fst _ _ _))))
theorem lso_disk_Disk_0_1_dead {v0 v1 : Value} (x : disk_Disk) (y : Bool) : LS (ko_disk_Disk_0_1 v0 v1) kbool 3 x y { x with dead := y } := LS.iso (LS.snd _ (LS.snd _ (LS.snd _ (LS.fst _ _ _ _))))
theorem upo_disk_Disk_0_1 {H : Ok → World → Prop} {v0 v1 : Value} {x x' : disk_Disk} (hx : to_disk_Disk_0_1 x = to_disk_Disk_0_1 x') (u0 : Up H (kis v0) (ksl (karr 256 (kint .u8))) () x'.firm) (u1 : Up H (kis v1) (ksl k_disk_write) () x'.loose) : Up H (ko_disk_Disk_0_1 v0 v1) k_disk_Disk x x' := fun ok w cs hH hr => by
  have hr' : Kd.rel (kpair (kis v0) (kpair (kis v1) (kpair (kint .i64) (kpair kbool knil)))) ok w (to_disk_Disk_0_1 x) cs := hr
  rw [hx] at hr'
  exact (Up.pair u0 (Up.pair u1 (Up.pair (Up.refl _ _) (Up.pair (Up.refl _ _) (Up.refl _ _)))) : Up H (kpair (kis v0) (kpair (kis v1) (kpair (kint .i64) (kpair kbool knil)))) (kpair (ksl (karr 256 (kint .u8))) (kpair (ksl k_disk_write) (kpair (kint .i64) (kpair kbool knil)))) (to_disk_Disk_0_1 x') (t_disk_Disk x')) ok w cs hH hr'
def to_journal_Journal_0 (x : journal_Journal) : Unit × Int × (List Int) × (List (List Int)) × Unit := ((), x.area, x.bytes, x.l, ())
def ko_journal_Journal_0 (v0 : Value) : Kd journal_Journal := kiso (kpair (kis v0) (kpair (kint .i64) (kpair kstr (kpair (ksl kstr) knil)))) to_journal_Journal_0
theorem lgo_journal_Journal_0_d {v0 : Value} (x : journal_Journal) : LG (ko_journal_Journal_0 v0) (kis v0) 0 x () := LG.iso (LG.fst _ _ _)
theorem lgo_journal_Journal_0_area {v0 : Value} (x : journal_Journal) : LG (ko_journal_Journal_0 v0) (kint .i64) 1 x x.area := LG.iso (LG.snd _ (LG.fst _ _ _))
theorem lso_journal_Journal_0_area {v0 : Value} (x : journal_Journal) (y : Int) : LS (ko_journal_Journal_0 v0) (kint .i64) 1 x y { x with area := y } := LS.iso (LS.snd _ (LS.fst _ _ _ _))
theorem lgo_journal_Journal_0_bytes {v0 : Value} (x : journal_Journal) : LG (ko_journal_Journal_0 v0) kstr 2 x x.bytes := LG.iso (LG.snd _ (LG.snd _ (LG.fst _ _ _)))
theorem lso_journal_Journal_0_bytes {v0 : Value} (x : journal_Journal) (y : (List Int)) : LS (ko_journal_Journal_0 v0) kstr 2 x y { x with bytes := y } := LS.iso (LS.snd _ (LS.snd _ (LS.fst _ _ _ _)))
theorem lgo_journal_Journal_0_l {v0 : Value} (x : journal_Journal) : LG (ko_journal_Journal_0 v0) (ksl kstr) 3 x x.l := LG.iso (LG.snd _ (LG.snd _ (LG.snd _ (LG.fst _ _ _))))
theorem lso_journal_Journal_0_l {v0 : Value} (x : journal_Journal) (y : (List (List Int))) : LS (ko_journal_Journal_0 v0) (ksl kstr) 3 x y { x with l := y } := LS.iso (LS.snd _ (LS.snd _ (LS.snd _ (LS.fst _ _ _ _))))
theorem upo_journal_Journal_0 {H : Ok → World → Prop} {v0 : Value} {x x' : journal_Journal} (hx : to_journal_Journal_0 x = to_journal_Journal_0 x') (u0 : Up H (kis v0) (kis (.pointer none)) () x'.d) : Up H (ko_journal_Journal_0 v0) k_journal_Journal x x' := fun ok w cs hH hr => by
  have hr' : Kd.rel (kpair (kis v0) (kpair (kint .i64) (kpair kstr (kpair (ksl kstr) knil)))) ok w (to_journal_Journal_0 x) cs := hr
  rw [hx] at hr'
  exact (Up.pair u0 (Up.pair (Up.refl _ _) (Up.pair (Up.refl _ _) (Up.pair (Up.refl _ _) (Up.refl _ _)))) : Up H (kpair (kis v0) (kpair (kint .i64) (kpair kstr (kpair (ksl kstr) knil)))) (kpair (kis (.pointer none)) (kpair (kint .i64) (kpair kstr (kpair (ksl kstr) knil)))) (to_journal_Journal_0 x') (t_journal_Journal x')) ok w cs hH hr'
def to_strings_Builder_1 (x : strings_Builder) : Bool × Unit × Unit := (x.addr, (), ())
def ko_strings_Builder_1 (b0 : Nat) (v1 : Value) : Kd strings_Builder := kiso (kpair (kbad b0) (kpair (kis v1) knil)) to_strings_Builder_1
theorem lgo_strings_Builder_1_addr {b0 : Nat} {v1 : Value} (x : strings_Builder) : LG (ko_strings_Builder_1 b0 v1) (kbad b0) 0 x x.addr := LG.iso (LG.fst _ _ _)
theorem lso_strings_Builder_1_addr {b0 : Nat} {v1 : Value} (x : strings_Builder) (y : Bool) : LS (ko_strings_Builder_1 b0 v1) (kbad b0) 0 x y { x with addr := y } := LS.iso (LS.fst _ _ _ _)
theorem lgo_strings_Builder_1_buf {b0 : Nat} {v1 : Value} (x : strings_Builder) : LG (ko_strings_Builder_1 b0 v1) (kis v1) 1 x () := LG.iso (LG.snd _ (LG.fst _ _ _))
def to_wire_Writer_0 (x : wire_Writer) : Unit × Unit := ((), ())
def ko_wire_Writer_0 (v0 : Value) : Kd wire_Writer := kiso (kpair (kis v0) knil) to_wire_Writer_0
theorem lgo_wire_Writer_0_out {v0 : Value} (x : wire_Writer) : LG (ko_wire_Writer_0 v0) (kis v0) 0 x () := LG.iso (LG.fst _ _ _)
theorem upo_wire_Writer_0 {H : Ok → World → Prop} {v0 : Value} {x x' : wire_Writer} (hx : to_wire_Writer_0 x = to_wire_Writer_0 x') (u0 : Up H (kis v0) (ksl (kint .u8)) () x'.out) : Up H (ko_wire_Writer_0 v0) k_wire_Writer x x' := fun ok w cs hH hr => by
  have hr' : Kd.rel (kpair (kis v0) knil) ok w (to_wire_Writer_0 x) cs := hr
  rw [hx] at hr'
  exact (Up.pair u0 (Up.refl _ _) : Up H (kpair (kis v0) knil) (kpair (ksl (kint .u8)) knil) (to_wire_Writer_0 x') (t_wire_Writer x')) ok w cs hH hr'
def to_cabalref12_Disk_0_1_2 (x : cabalref12_Disk) : Unit × Unit × Unit × Int × Bool × Unit := ((), (), (), x.Fuse, x.Dead, ())
def ko_cabalref12_Disk_0_1_2 (v0 v1 v2 : Value) : Kd cabalref12_Disk := kiso (kpair (kis v0) (kpair (kis v1) (kpair (kis v2) (kpair (kint .i64) (kpair kbool knil))))) to_cabalref12_Disk_0_1_2
theorem lgo_cabalref12_Disk_0_1_2_Firm {v0 v1 v2 : Value} (x : cabalref12_Disk) : LG (ko_cabalref12_Disk_0_1_2 v0 v1 v2) (kis v0) 0 x () := LG.iso (LG.fst _ _ _)
theorem lgo_cabalref12_Disk_0_1_2_At {v0 v1 v2 : Value} (x : cabalref12_Disk) : LG (ko_cabalref12_Disk_0_1_2 v0 v1 v2) (kis v1) 1 x () := LG.iso (LG.snd _ (LG.fst _ _ _))
theorem lgo_cabalref12_Disk_0_1_2_Data {v0 v1 v2 : Value} (x : cabalref12_Disk) : LG (ko_cabalref12_Disk_0_1_2 v0 v1 v2) (kis v2) 2 x () := LG.iso (LG.snd _ (LG.snd _ (LG.fst _ _ _)))
theorem lgo_cabalref12_Disk_0_1_2_Fuse {v0 v1 v2 : Value} (x : cabalref12_Disk) : LG (ko_cabalref12_Disk_0_1_2 v0 v1 v2) (kint .i64) 3 x x.Fuse := LG.iso (LG.snd _ (LG.snd _ (LG.snd _ (LG.fst _ _ _))))
theorem lso_cabalref12_Disk_0_1_2_Fuse {v0 v1 v2 : Value} (x : cabalref12_Disk) (y : Int) : LS (ko_cabalref12_Disk_0_1_2 v0 v1 v2) (kint .i64) 3 x y { x with Fuse := y } := LS.iso (LS.snd _ (LS.snd _ (LS.snd _ (LS.fst _ _ _ _))))
theorem lgo_cabalref12_Disk_0_1_2_Dead {v0 v1 v2 : Value} (x : cabalref12_Disk) : LG (ko_cabalref12_Disk_0_1_2 v0 v1 v2) kbool 4 x x.Dead := LG.iso (LG.snd _ (LG.snd _ (LG.snd _ (LG.snd _ (LG.fst _ _ _)))))
theorem lso_cabalref12_Disk_0_1_2_Dead {v0 v1 v2 : Value} (x : cabalref12_Disk) (y : Bool) : LS (ko_cabalref12_Disk_0_1_2 v0 v1 v2) kbool 4 x y { x with Dead := y } := LS.iso (LS.snd _ (LS.snd _ (LS.snd _ (LS.snd _ (LS.fst _ _ _ _)))))
theorem upo_cabalref12_Disk_0_1_2 {H : Ok → World → Prop} {v0 v1 v2 : Value} {x x' : cabalref12_Disk} (hx : to_cabalref12_Disk_0_1_2 x = to_cabalref12_Disk_0_1_2 x') (u0 : Up H (kis v0) (ksl kstr) () x'.Firm) (u1 : Up H (kis v1) (ksl (kint .i64)) () x'.At) (u2 : Up H (kis v2) (ksl kstr) () x'.Data) : Up H (ko_cabalref12_Disk_0_1_2 v0 v1 v2) k_cabalref12_Disk x x' := fun ok w cs hH hr => by
  have hr' : Kd.rel (kpair (kis v0) (kpair (kis v1) (kpair (kis v2) (kpair (kint .i64) (kpair kbool knil))))) ok w (to_cabalref12_Disk_0_1_2 x) cs := hr
  rw [hx] at hr'
  exact (Up.pair u0 (Up.pair u1 (Up.pair u2 (Up.pair (Up.refl _ _) (Up.pair (Up.refl _ _) (Up.refl _ _))))) : Up H (kpair (kis v0) (kpair (kis v1) (kpair (kis v2) (kpair (kint .i64) (kpair kbool knil))))) (kpair (ksl kstr) (kpair (ksl (kint .i64)) (kpair (ksl kstr) (kpair (kint .i64) (kpair kbool knil))))) (to_cabalref12_Disk_0_1_2 x') (t_cabalref12_Disk x')) ok w cs hH hr'
def to_cabalref13_Journal_0 (x : cabalref13_Journal) : Unit × Int × (List (List Int)) × Unit := ((), x.Area, x.L, ())
def ko_cabalref13_Journal_0 (v0 : Value) : Kd cabalref13_Journal := kiso (kpair (kis v0) (kpair (kint .i64) (kpair (ksl kstr) knil))) to_cabalref13_Journal_0
theorem lgo_cabalref13_Journal_0_D {v0 : Value} (x : cabalref13_Journal) : LG (ko_cabalref13_Journal_0 v0) (kis v0) 0 x () := LG.iso (LG.fst _ _ _)
theorem lgo_cabalref13_Journal_0_Area {v0 : Value} (x : cabalref13_Journal) : LG (ko_cabalref13_Journal_0 v0) (kint .i64) 1 x x.Area := LG.iso (LG.snd _ (LG.fst _ _ _))
theorem lso_cabalref13_Journal_0_Area {v0 : Value} (x : cabalref13_Journal) (y : Int) : LS (ko_cabalref13_Journal_0 v0) (kint .i64) 1 x y { x with Area := y } := LS.iso (LS.snd _ (LS.fst _ _ _ _))
theorem lgo_cabalref13_Journal_0_L {v0 : Value} (x : cabalref13_Journal) : LG (ko_cabalref13_Journal_0 v0) (ksl kstr) 2 x x.L := LG.iso (LG.snd _ (LG.snd _ (LG.fst _ _ _)))
theorem lso_cabalref13_Journal_0_L {v0 : Value} (x : cabalref13_Journal) (y : (List (List Int))) : LS (ko_cabalref13_Journal_0 v0) (ksl kstr) 2 x y { x with L := y } := LS.iso (LS.snd _ (LS.snd _ (LS.fst _ _ _ _)))
theorem upo_cabalref13_Journal_0 {H : Ok → World → Prop} {v0 : Value} {x x' : cabalref13_Journal} (hx : to_cabalref13_Journal_0 x = to_cabalref13_Journal_0 x') (u0 : Up H (kis v0) (kis (.pointer none)) () x'.D) : Up H (ko_cabalref13_Journal_0 v0) k_cabalref13_Journal x x' := fun ok w cs hH hr => by
  have hr' : Kd.rel (kpair (kis v0) (kpair (kint .i64) (kpair (ksl kstr) knil))) ok w (to_cabalref13_Journal_0 x) cs := hr
  rw [hx] at hr'
  exact (Up.pair u0 (Up.pair (Up.refl _ _) (Up.pair (Up.refl _ _) (Up.refl _ _))) : Up H (kpair (kis v0) (kpair (kint .i64) (kpair (ksl kstr) knil))) (kpair (kis (.pointer none)) (kpair (kint .i64) (kpair (ksl kstr) knil))) (to_cabalref13_Journal_0 x') (t_cabalref13_Journal x')) ok w cs hH hr'
theorem lsk_disk_Disk_0_1_to_0_1_at0 {u0 v0 v1 : Value} (x : disk_Disk) : LSK (ko_disk_Disk_0_1 v0 v1) (kis u0) (ko_disk_Disk_0_1 u0 v1) 0 x () x := LSK.iso (LSK.fst (k := kis v0) (k' := kis u0) _ rfl _ _)
theorem lsk_journal_Journal_0_to_0_at0 {u0 v0 : Value} (x : journal_Journal) : LSK (ko_journal_Journal_0 v0) (kis u0) (ko_journal_Journal_0 u0) 0 x () x := LSK.iso (LSK.fst (k := kis v0) (k' := kis u0) _ rfl _ _)
theorem lsk_strings_Builder_1_to_1_at1 {b0 : Nat} {u1 v1 : Value} (x : strings_Builder) : LSK (ko_strings_Builder_1 b0 v1) (kis u1) (ko_strings_Builder_1 b0 u1) 1 x () x := LSK.iso (LSK.snd _ (LSK.fst (k := kis v1) (k' := kis u1) _ rfl _ _))
theorem lsk_wire_Writer_0_to_0_at0 {u0 v0 : Value} (x : wire_Writer) : LSK (ko_wire_Writer_0 v0) (kis u0) (ko_wire_Writer_0 u0) 0 x () x := LSK.iso (LSK.fst (k := kis v0) (k' := kis u0) _ rfl _ _)
theorem lsk_disk_Disk_0_1_to_0_1_at1 {u1 v0 v1 : Value} (x : disk_Disk) : LSK (ko_disk_Disk_0_1 v0 v1) (kis u1) (ko_disk_Disk_0_1 v0 u1) 1 x () x := LSK.iso (LSK.snd _ (LSK.fst (k := kis v1) (k' := kis u1) _ rfl _ _))
theorem lsk_cabalref12_Disk_0_1_2_to_0_1_2_at0 {u0 v0 v1 v2 : Value} (x : cabalref12_Disk) : LSK (ko_cabalref12_Disk_0_1_2 v0 v1 v2) (kis u0) (ko_cabalref12_Disk_0_1_2 u0 v1 v2) 0 x () x := LSK.iso (LSK.fst (k := kis v0) (k' := kis u0) _ rfl _ _)
theorem lsk_cabalref12_Disk_0_1_2_to_0_1_2_at1 {u1 v0 v1 v2 : Value} (x : cabalref12_Disk) : LSK (ko_cabalref12_Disk_0_1_2 v0 v1 v2) (kis u1) (ko_cabalref12_Disk_0_1_2 v0 u1 v2) 1 x () x := LSK.iso (LSK.snd _ (LSK.fst (k := kis v1) (k' := kis u1) _ rfl _ _))
theorem lsk_cabalref12_Disk_0_1_2_to_0_1_2_at2 {u2 v0 v1 v2 : Value} (x : cabalref12_Disk) : LSK (ko_cabalref12_Disk_0_1_2 v0 v1 v2) (kis u2) (ko_cabalref12_Disk_0_1_2 v0 v1 u2) 2 x () x := LSK.iso (LSK.snd _ (LSK.snd _ (LSK.fst (k := kis v2) (k' := kis u2) _ rfl _ _)))
theorem lsk_cabalref13_Journal_0_to_0_at0 {u0 v0 : Value} (x : cabalref13_Journal) : LSK (ko_cabalref13_Journal_0 v0) (kis u0) (ko_cabalref13_Journal_0 u0) 0 x () x := LSK.iso (LSK.fst (k := kis v0) (k' := kis u0) _ rfl _ _)
def G_digest_first : (List Int) := [1779033703, 3144134277, 1013904242, 2773480762, 1359893119, 2600822924, 528734635, 1541459225]
def G_digest_rounds : (List Int) := [1116352408, 1899447441, 3049323471, 3921009573, 961987163, 1508970993, 2453635748, 2870763221, 3624381080, 310598401, 607225278, 1426881987, 1925078388, 2162078206, 2614888103, 3248222580, 3835390401, 4022224774, 264347078, 604807628, 770255983, 1249150122, 1555081692, 1996064986, 2554220882, 2821834349, 2952996808, 3210313671, 3336571891, 3584528711, 113926993, 338241895, 666307205, 773529912, 1294757372, 1396182291, 1695183700, 1986661051, 2177026350, 2456956037, 2730485921, 2820302411, 3259730800, 3345764771, 3516065817, 3600352804, 4094571909, 275423344, 430227734, 506948616, 659060556, 883997877, 958139571, 1322822218, 1537002063, 1747873779, 1955562222, 2024104815, 2227730452, 2361852424, 2428436474, 2756734187, 3204031479, 3329325298]
def disk_New (k : Nat) (p1 : Int) : Option disk_Disk :=
  (some ((if (1024 : Int) < (if (1 : Int) > p1 then (1 : Int) else p1) then (1024 : Int) else (if (1 : Int) > p1 then (1 : Int) else p1)))).bind fun x1 => if (0 ≤ x1 ∧ x1.toNat ≤ lim) then (some (⟨(List.replicate x1.toNat (List.replicate 256 (0 : Int))), ([] : (List disk_write)), (-1 : Int), false⟩ : disk_Disk)) else none
def disk_Disk_Blocks (k : Nat) (p1 : disk_Disk) : Option Int :=
  some (p1.firm.length : Int)
def disk_Disk_has (k : Nat) (p1 : disk_Disk) (p2 : Int) : Option Bool :=
  (if ((decide (p2 ≥ (0 : Int))) == true) = true then disk_Disk_Blocks k p1 else some (0 : Int)).bind fun x1 => some (if (decide (p2 ≥ (0 : Int))) then (decide (p2 < x1)) else false)
def disk_Disk_Read.j1 (k : Nat) (y1 : (List Int)) : Option ((List Int) × Int) :=
  (cut? y1 (0 : Int) (256 : Int)).bind fun x3 => some (x3, (0 : Int))
def disk_Disk_Read.j2 (k : Nat) (y2 : Int) (L_l1 : Int → (List Int) → Option ((List Int) × Int)) (y4 : (List Int)) : Option ((List Int) × Int) :=
  L_l1 (iadd .i64 y2 (1 : Int)) y4
def disk_Disk_Read.l1 (k : Nat) (p1 : disk_Disk) (p2 : Int) : Nat → Int → (List Int) → Option ((List Int) × Int)
  | 0, _, _ => none
  | n + 1, y2, y3 =>
    if (decide (y2 < (p1.loose.length : Int))) = true then ((at? p1.loose y2).bind fun x4 => if (x4.at_ == p2) = true then ((disk_Disk_Read.j2 k y2 (disk_Disk_Read.l1 k p1 p2 n)) x4.data) else ((disk_Disk_Read.j2 k y2 (disk_Disk_Read.l1 k p1 p2 n)) y3)) else ((disk_Disk_Read.j1 k) y3)
def disk_Disk_Read (k : Nat) (p1 : disk_Disk) (p2 : Int) : Option ((List Int) × Int) :=
  (disk_Disk_has k p1 p2).bind fun x1 => if (!x1) = true then (some (([] : List Int), (1 : Int))) else ((at? p1.firm p2).bind fun x2 => disk_Disk_Read.l1 k p1 p2 k (0 : Int) x2)
def journal_filled (k : Nat) (p1 : (List Int)) (p2 : Int) : Option (List Int) :=
  (some ((if (0 : Int) > (isub .i64 p2 (p1.length : Int)) then (0 : Int) else (isub .i64 p2 (p1.length : Int))))).bind fun x1 => if (0 ≤ x1 ∧ x1.toNat ≤ lim) then (if p1.length + (List.replicate x1.toNat (0 : Int)).length ≤ lim then (some (p1 ++ (List.replicate x1.toNat (0 : Int)))) else none) else none
def digest_Hash_begin (k : Nat) (p1 : digest_Hash) : Option digest_Hash :=
  if (!p1.begun) = true then (some ({ { p1 with begun := true } with state := G_digest_first })) else (some p1)
def math_bits_RotateLeft32 (k : Nat) (p1 : Int) (p2 : Int) : Option Int :=
  if 0 ≤ (iand .u64 (IntKind.wrap .u64 p2) (31 : Int)) then (if 0 ≤ (isub .u64 (32 : Int) (iand .u64 (IntKind.wrap .u64 p2) (31 : Int))) then ((some ((ishr .u32 p1 (isub .u64 (32 : Int) (iand .u64 (IntKind.wrap .u64 p2) (31 : Int)))))).bind fun x1 => (some ((ior .u32 (ishl .u32 p1 (iand .u64 (IntKind.wrap .u64 p2) (31 : Int))) x1))).bind fun x2 => some x2) else none) else none
def digest_turn (k : Nat) (p1 : Int) (p2 : Int) (p3 : Int) (p4 : Int) : Option Int :=
  (math_bits_RotateLeft32 k p1 (isub .i64 0 p2)).bind fun x1 => (math_bits_RotateLeft32 k p1 (isub .i64 0 p3)).bind fun x2 => if 0 ≤ p4 then (some (ixor .u32 (ixor .u32 x1 x2) (ishr .u32 p1 p4))) else none
def digest_spin (k : Nat) (p1 : Int) (p2 : Int) (p3 : Int) (p4 : Int) : Option Int :=
  (math_bits_RotateLeft32 k p1 (isub .i64 0 p2)).bind fun x1 => (math_bits_RotateLeft32 k p1 (isub .i64 0 p3)).bind fun x2 => (math_bits_RotateLeft32 k p1 (isub .i64 0 p4)).bind fun x3 => some (ixor .u32 (ixor .u32 x1 x2) x3)
def digest_Hash_take.j4 (k : Nat) (y4 : digest_Hash) : Option digest_Hash :=
  some ({ y4 with many := (0 : Int) })
def digest_Hash_take.l1 (k : Nat) (y3 : (List Int)) : Nat → Int → digest_Hash → Option digest_Hash
  | 0, _, _ => none
  | n + 1, y5, y6 =>
    if (decide (y5 < (8 : Int))) = true then (if (0 ≤ y5 ∧ y5 < 8) then ((at? y6.state y5).bind fun x1 => if (0 ≤ y5 ∧ y5 < 8) then ((at? y3 y5).bind fun x2 => if (0 ≤ y5 ∧ y5 < 8) then ((set? y6.state y5 (iadd .u32 x1 x2)).bind fun x3 => (digest_Hash_take.l1 k y3 n) (iadd .i64 y5 (1 : Int)) ({ y6 with state := x3 })) else none) else none) else none) else ((digest_Hash_take.j4 k) y6)
def digest_Hash_take.j3 (k : Nat) (p1 : digest_Hash) (y3 : (List Int)) : Option digest_Hash :=
  digest_Hash_take.l1 k y3 k (0 : Int) p1
def digest_Hash_take.l2 (k : Nat) (y2 : (List Int)) (p1 : digest_Hash) : Nat → Int → (List Int) → Option digest_Hash
  | 0, _, _ => none
  | n + 1, y7, y8 =>
    if (decide (y7 < (64 : Int))) = true then ((at? G_digest_rounds y7).bind fun x4 => if y7 < 64 then ((at? y8 (7 : Int)).bind fun x5 => (at? y8 (4 : Int)).bind fun x6 => (digest_spin k x6 (6 : Int) (11 : Int) (25 : Int)).bind fun x7 => (at? y8 (4 : Int)).bind fun x8 => (at? y8 (5 : Int)).bind fun x9 => (at? y8 (4 : Int)).bind fun x10 => (at? y8 (6 : Int)).bind fun x11 => (some ((iadd .u32 (iadd .u32 x5 x7) (ixor .u32 (iand .u32 x8 x9) (iand .u32 (inot .u32 x10) x11))))).bind fun x12 => if (0 ≤ y7 ∧ y7 < 64) then ((at? y2 y7).bind fun x13 => (at? y8 (0 : Int)).bind fun x14 => (digest_spin k x14 (2 : Int) (13 : Int) (22 : Int)).bind fun x15 => (at? y8 (0 : Int)).bind fun x16 => (at? y8 (1 : Int)).bind fun x17 => (at? y8 (0 : Int)).bind fun x18 => (at? y8 (2 : Int)).bind fun x19 => (at? y8 (1 : Int)).bind fun x20 => (at? y8 (2 : Int)).bind fun x21 => (some ((ixor .u32 (ixor .u32 (iand .u32 x16 x17) (iand .u32 x18 x19)) (iand .u32 x20 x21)))).bind fun x22 => (at? y8 (0 : Int)).bind fun x23 => (at? y8 (1 : Int)).bind fun x24 => (at? y8 (2 : Int)).bind fun x25 => (at? y8 (3 : Int)).bind fun x26 => (at? y8 (4 : Int)).bind fun x27 => (at? y8 (5 : Int)).bind fun x28 => (at? y8 (6 : Int)).bind fun x29 => (some (([(iadd .u32 (iadd .u32 (iadd .u32 x12 x4) x13) (iadd .u32 x15 x22)), x23, x24, x25, (iadd .u32 x26 (iadd .u32 (iadd .u32 x12 x4) x13)), x27, x28, x29] : (List Int)))).bind fun x30 => (digest_Hash_take.l2 k y2 p1 n) (iadd .i64 y7 (1 : Int)) x30) else none) else none) else ((digest_Hash_take.j3 k p1) y8)
def digest_Hash_take.j2 (k : Nat) (p1 : digest_Hash) (y2 : (List Int)) : Option digest_Hash :=
  digest_Hash_take.l2 k y2 p1 k (0 : Int) p1.state
def digest_Hash_take.l3 (k : Nat) (p1 : digest_Hash) : Nat → Int → (List Int) → Option digest_Hash
  | 0, _, _ => none
  | n + 1, y9, y10 =>
    if (decide (y9 < (64 : Int))) = true then (if (0 ≤ (isub .i64 y9 (2 : Int)) ∧ (isub .i64 y9 (2 : Int)) < 64) then ((at? y10 (isub .i64 y9 (2 : Int))).bind fun x31 => (digest_turn k x31 (17 : Int) (19 : Int) (10 : Int)).bind fun x32 => if (0 ≤ (isub .i64 y9 (7 : Int)) ∧ (isub .i64 y9 (7 : Int)) < 64) then ((at? y10 (isub .i64 y9 (7 : Int))).bind fun x33 => if (0 ≤ (isub .i64 y9 (15 : Int)) ∧ (isub .i64 y9 (15 : Int)) < 64) then ((at? y10 (isub .i64 y9 (15 : Int))).bind fun x34 => (digest_turn k x34 (7 : Int) (18 : Int) (3 : Int)).bind fun x35 => if (0 ≤ (isub .i64 y9 (16 : Int)) ∧ (isub .i64 y9 (16 : Int)) < 64) then ((at? y10 (isub .i64 y9 (16 : Int))).bind fun x36 => if (0 ≤ y9 ∧ y9 < 64) then ((set? y10 y9 (iadd .u32 (iadd .u32 (iadd .u32 x32 x33) x35) x36)).bind fun x37 => (digest_Hash_take.l3 k p1 n) (iadd .i64 y9 (1 : Int)) x37) else none) else none) else none) else none) else none) else ((digest_Hash_take.j2 k p1) y10)
def digest_Hash_take.j1 (k : Nat) (p1 : digest_Hash) (y1 : (List Int)) : Option digest_Hash :=
  digest_Hash_take.l3 k p1 k (16 : Int) y1
def digest_Hash_take.j5 (k : Nat) (y11 : Int) (L_l4 : Int → (List Int) → Option digest_Hash) (y13 : (List Int)) : Option digest_Hash :=
  L_l4 (iadd .i64 y11 (1 : Int)) y13
def digest_Hash_take.l5 (k : Nat) (x38 : Int) (y11 : Int) (p1 : digest_Hash) (L_l4 : Int → (List Int) → Option digest_Hash) : Nat → Int → (List Int) → Option digest_Hash
  | 0, _, _ => none
  | n + 1, y14, y15 =>
    if (decide (y14 < x38)) = true then (if (0 ≤ y14 ∧ y14 < (((iadd .i64 (imul .i64 (4 : Int) y11) (4 : Int)).toNat - (imul .i64 (4 : Int) y11).toNat : Nat) : Int)) then ((at? p1.rest ((imul .i64 (4 : Int) y11) + y14)).bind fun x39 => if (0 ≤ y11 ∧ y11 < 64) then ((at? y15 y11).bind fun x40 => if (0 ≤ y11 ∧ y11 < 64) then ((set? y15 y11 (ior .u32 (ishl .u32 x40 (8 : Int)) (IntKind.wrap .u32 x39))).bind fun x41 => (digest_Hash_take.l5 k x38 y11 p1 L_l4 n) (iadd .i64 y14 (1 : Int)) x41) else none) else none) else none) else ((digest_Hash_take.j5 k y11 L_l4) y15)
def digest_Hash_take.l4 (k : Nat) (p1 : digest_Hash) : Nat → Int → (List Int) → Option digest_Hash
  | 0, _, _ => none
  | n + 1, y11, y12 =>
    if (decide (y11 < (16 : Int))) = true then (if (0 ≤ (imul .i64 (4 : Int) y11) ∧ (imul .i64 (4 : Int) y11) ≤ (iadd .i64 (imul .i64 (4 : Int) y11) (4 : Int)) ∧ (iadd .i64 (imul .i64 (4 : Int) y11) (4 : Int)) ≤ ((64 : Nat) : Int)) then ((some ((((iadd .i64 (imul .i64 (4 : Int) y11) (4 : Int)).toNat - (imul .i64 (4 : Int) y11).toNat : Nat) : Int))).bind fun x38 => digest_Hash_take.l5 k x38 y11 p1 (digest_Hash_take.l4 k p1 n) k (0 : Int) y12) else none) else ((digest_Hash_take.j1 k p1) y12)
def digest_Hash_take (k : Nat) (p1 : digest_Hash) : Option digest_Hash :=
  digest_Hash_take.l4 k p1 k (0 : Int) (List.replicate 64 (0 : Int))
def digest_Hash_put (k : Nat) (p1 : digest_Hash) (p2 : Int) : Option digest_Hash :=
  if (0 ≤ p1.many ∧ p1.many < 64) then ((set? p1.rest p1.many p2).bind fun x1 => (some ({ { p1 with rest := x1 } with many := (iadd .i64 (({ p1 with rest := x1 }).many) (1 : Int)) })).bind fun x2 => if (x2.many == (64 : Int)) = true then ((digest_Hash_take k x2).bind fun x3 => some x3) else (some x2)) else none
def digest_Hash_Write.j1 (k : Nat) (y1 : Int) (L_l1 : Int → digest_Hash → Option digest_Hash) (y3 : digest_Hash) : Option digest_Hash :=
  L_l1 (iadd .i64 y1 (1 : Int)) y3
def digest_Hash_Write.j2 (k : Nat) (x2 : (List Int)) (y1 : Int) (L_l1 : Int → digest_Hash → Option digest_Hash) (y4 : digest_Hash) : Option digest_Hash :=
  (some ({ y4 with taken := (iadd .u64 y4.taken (IntKind.wrap .u64 (x2.length : Int))) })).bind fun x3 => (digest_Hash_Write.j1 k y1 L_l1) x3
def digest_Hash_Write.l2 (k : Nat) (x2 : (List Int)) (y1 : Int) (L_l1 : Int → digest_Hash → Option digest_Hash) : Nat → Int → digest_Hash → Option digest_Hash
  | 0, _, _ => none
  | n + 1, y5, y6 =>
    if (decide (y5 < (x2.length : Int))) = true then ((at? x2 y5).bind fun x4 => (digest_Hash_put k y6 x4).bind fun x5 => (digest_Hash_Write.l2 k x2 y1 L_l1 n) (iadd .i64 y5 (1 : Int)) x5) else ((digest_Hash_Write.j2 k x2 y1 L_l1) y6)
def digest_Hash_Write.l1 (k : Nat) (p2 : (List (List Int))) : Nat → Int → digest_Hash → Option digest_Hash
  | 0, _, _ => none
  | n + 1, y1, y2 =>
    if (decide (y1 < (p2.length : Int))) = true then ((at? p2 y1).bind fun x2 => digest_Hash_Write.l2 k x2 y1 (digest_Hash_Write.l1 k p2 n) k (0 : Int) y2) else (some y2)
def digest_Hash_Write (k : Nat) (p1 : digest_Hash) (p2 : (List (List Int))) : Option digest_Hash :=
  (digest_Hash_begin k p1).bind fun x1 => digest_Hash_Write.l1 k p2 k (0 : Int) x1
def digest_Hash_Sum.j3 (k : Nat) (y3 : (List Int)) : Option (List Int) :=
  some y3
def digest_Hash_Sum.l1 (k : Nat) (y2 : digest_Hash) : Nat → Int → (List Int) → Option (List Int)
  | 0, _, _ => none
  | n + 1, y4, y5 =>
    if (decide (y4 < (8 : Int))) = true then ((at? y2.state y4).bind fun x3 => if y4 < 8 then (if (0 ≤ (imul .i64 (4 : Int) y4) ∧ (imul .i64 (4 : Int) y4) < 32) then ((set? y5 (imul .i64 (4 : Int) y4) (IntKind.wrap .u8 (ishr .u32 x3 (24 : Int)))).bind fun x4 => if (0 ≤ (iadd .i64 (imul .i64 (4 : Int) y4) (1 : Int)) ∧ (iadd .i64 (imul .i64 (4 : Int) y4) (1 : Int)) < 32) then ((set? x4 (iadd .i64 (imul .i64 (4 : Int) y4) (1 : Int)) (IntKind.wrap .u8 (ishr .u32 x3 (16 : Int)))).bind fun x5 => if (0 ≤ (iadd .i64 (imul .i64 (4 : Int) y4) (2 : Int)) ∧ (iadd .i64 (imul .i64 (4 : Int) y4) (2 : Int)) < 32) then ((set? x5 (iadd .i64 (imul .i64 (4 : Int) y4) (2 : Int)) (IntKind.wrap .u8 (ishr .u32 x3 (8 : Int)))).bind fun x6 => if (0 ≤ (iadd .i64 (imul .i64 (4 : Int) y4) (3 : Int)) ∧ (iadd .i64 (imul .i64 (4 : Int) y4) (3 : Int)) < 32) then ((set? x6 (iadd .i64 (imul .i64 (4 : Int) y4) (3 : Int)) (IntKind.wrap .u8 x3)).bind fun x7 => (digest_Hash_Sum.l1 k y2 n) (iadd .i64 y4 (1 : Int)) x7) else none) else none) else none) else none) else none) else ((digest_Hash_Sum.j3 k) y5)
def digest_Hash_Sum.j2 (k : Nat) (y2 : digest_Hash) : Option (List Int) :=
  digest_Hash_Sum.l1 k y2 k (0 : Int) (List.replicate 32 (0 : Int))
def digest_Hash_Sum.l2 (k : Nat) : Nat → Int → digest_Hash → Option (List Int)
  | 0, _, _ => none
  | n + 1, y6, y7 =>
    if (decide (y6 ≥ (0 : Int))) = true then (if 0 ≤ y6 then ((digest_Hash_put k y7 (IntKind.wrap .u8 (ishr .u64 (imul .u64 (8 : Int) y7.taken) y6))).bind fun x8 => (digest_Hash_Sum.l2 k n) (isub .i64 y6 (8 : Int)) x8) else none) else ((digest_Hash_Sum.j2 k) y7)
def digest_Hash_Sum.j1 (k : Nat) (y1 : digest_Hash) : Option (List Int) :=
  digest_Hash_Sum.l2 k k (56 : Int) y1
def digest_Hash_Sum.l3 (k : Nat) : Nat → digest_Hash → Option (List Int)
  | 0, _ => none
  | n + 1, y8 =>
    if (y8.many != (56 : Int)) = true then ((digest_Hash_put k y8 (0 : Int)).bind fun x9 => (digest_Hash_Sum.l3 k n) x9) else ((digest_Hash_Sum.j1 k) y8)
def digest_Hash_Sum (k : Nat) (p1 : digest_Hash) : Option (List Int) :=
  (digest_Hash_begin k p1).bind fun x1 => (digest_Hash_put k x1 (128 : Int)).bind fun x2 => digest_Hash_Sum.l3 k k x2
def digest_Sum (k : Nat) (p1 : (List (List Int))) : Option (List Int) :=
  (digest_Hash_Write k (⟨false, (List.replicate 8 (0 : Int)), (List.replicate 64 (0 : Int)), (0 : Int), (0 : Int)⟩ : digest_Hash) p1).bind fun x1 => (digest_Hash_Sum k x1).bind fun x2 => some x2
def journal_mark (k : Nat) (p1 : Int) (p2 : Int) : Option (List Int) :=
  (some (([(IntKind.wrap .u8 p1), (IntKind.wrap .u8 (ishr .i64 p2 (24 : Int))), (IntKind.wrap .u8 (ishr .i64 p2 (16 : Int))), (IntKind.wrap .u8 (ishr .i64 p2 (8 : Int))), (IntKind.wrap .u8 p2)] : (List Int)))).bind fun x1 => if ([109, 97, 114, 107] : List Int).length + x1.length ≤ lim then ((digest_Sum k ([(([109, 97, 114, 107] : List Int) ++ x1)] : (List (List Int)))).bind fun x2 => (cut? x2 (0 : Int) (8 : Int)).bind fun x3 => if (([109, 97, 114, 107] : List Int) ++ x1).length + x3.length ≤ lim then ((journal_filled k ((([109, 97, 114, 107] : List Int) ++ x1) ++ x3) (64 : Int)).bind fun x4 => some x4) else none) else none
def journal_blocks (k : Nat) (p1 : disk_Disk) : Option Int :=
  (disk_Disk_Blocks k p1).bind fun x1 => some (iquo .i64 (isub .i64 x1 (1 : Int)) (2 : Int))
def strings_Builder_Len (k : Nat) (p1 : strings_Builder) : Option (Int × strings_Builder) :=
  some ((p1.buf.length : Int), p1)
def journal_Journal_place (k : Nat) (p1 : journal_Journal) (p2 : Int) (p3 : Int) (p4 : disk_Disk) : Option Int :=
  (journal_blocks k p4).bind fun x1 => some (iadd .i64 (iadd .i64 (1 : Int) (imul .i64 p2 x1)) p3)
def strings_Builder_copyCheck (k : Nat) (p1 : strings_Builder) : Option strings_Builder :=
  if (!p1.addr) = true then (some (⟨true, p1.buf⟩ : strings_Builder)) else (if (!p1.addr) = true then (none) else (some p1))
def strings_Builder_WriteString (k : Nat) (p1 : strings_Builder) (p2 : (List Int)) : Option (Int × Unit × strings_Builder) :=
  (strings_Builder_copyCheck k p1).bind fun x1 => if x1.buf.length + p2.length ≤ lim then (some ((p2.length : Int), (), (⟨x1.addr, (x1.buf ++ p2)⟩ : strings_Builder))) else none
def strings_Builder_String (k : Nat) (p1 : strings_Builder) : Option (List Int) :=
  some p1.buf
def journal_Journal_read.j1 (k : Nat) (p2 : Int) (y1 : Bool) (y2 : (List Int)) : Option (List Int) :=
  (strings_Builder_String k (⟨y1, y2⟩ : strings_Builder)).bind fun x1 => (cut? x1 (0 : Int) p2).bind fun x2 => some x2
def journal_Journal_read.l1 (k : Nat) (p2 : Int) (p1 : journal_Journal) (p3 : disk_Disk) : Nat → Int → Bool → (List Int) → Option (List Int)
  | 0, _, _, _ => none
  | n + 1, y3, y4, y5 =>
    (strings_Builder_Len k (⟨y4, y5⟩ : strings_Builder)).bind fun x3 => if (decide (x3.1 < p2)) = true then ((journal_Journal_place k (⟨(), p1.area, p1.bytes, p1.l⟩ : journal_Journal) p1.area y3 p3).bind fun x4 => (disk_Disk_Read k p3 x4).bind fun x5 => (strings_Builder_WriteString k x3.2 x5.1).bind fun x6 => (journal_Journal_read.l1 k p2 p1 p3 n) (iadd .i64 y3 (1 : Int)) x6.2.2.addr x6.2.2.buf) else ((journal_Journal_read.j1 k p2) x3.2.addr x3.2.buf)
def journal_Journal_read (k : Nat) (p1 : journal_Journal) (p2 : Int) (p3 : disk_Disk) : Option (List Int) :=
  journal_Journal_read.l1 k p2 p1 p3 k (0 : Int) false ([] : (List Int))
def wire_NewReader (k : Nat) (p1 : (List Int)) : Option wire_Reader :=
  some (⟨p1, (0 : Int)⟩ : wire_Reader)
def wire_Reader_Left (k : Nat) (p1 : wire_Reader) : Option Int :=
  some (p1.s.length : Int)
def wire_Reader_End (k : Nat) (p1 : wire_Reader) : Option Int :=
  (some ((if (p1.err == (0 : Int)) then (decide ((p1.s.length : Int) > (0 : Int))) else false))).bind fun x1 => if x1 = true then (some (6 : Int)) else (some p1.err)
def wire_Reader_number.j1 (k : Nat) (y1 : Int) : Option (Int × Int × Int) :=
  some ((0 : Int), (0 : Int), y1)
def wire_Reader_number.j2 (k : Nat) (x1 : Int) (x2 : Int) (y3 : Int) (L_l1 : Int → Int → Option (Int × Int × Int)) (y4 : Bool) : Option (Int × Int × Int) :=
  if y4 = true then ((wire_Reader_number.j1 k) (4 : Int)) else (if (decide (x1 < (128 : Int))) = true then (some ((IntKind.wrap .u32 x2), (iadd .i64 y3 (1 : Int)), (0 : Int))) else (L_l1 x2 (iadd .i64 y3 (1 : Int))))
def wire_Reader_number.l1 (k : Nat) (p1 : wire_Reader) : Nat → Int → Int → Option (Int × Int × Int)
  | 0, _, _ => none
  | n + 1, y2, y3 =>
    if (decide (y3 < (p1.s.length : Int))) = true then ((at? p1.s y3).bind fun x1 => (some ((ior .u64 (ishl .u64 y2 (7 : Int)) (IntKind.wrap .u64 (iandn .u8 x1 (128 : Int)))))).bind fun x2 => if (if (x1 == (128 : Int)) then (y3 == (0 : Int)) else false) = true then ((wire_Reader_number.j2 k x1 x2 y3 (wire_Reader_number.l1 k p1 n)) (if (x1 == (128 : Int)) then (y3 == (0 : Int)) else false)) else (if (decide (x2 ≥ (4294967296 : Int))) = true then ((wire_Reader_number.j2 k x1 x2 y3 (wire_Reader_number.l1 k p1 n)) (decide (x2 ≥ (4294967296 : Int)))) else ((wire_Reader_number.j2 k x1 x2 y3 (wire_Reader_number.l1 k p1 n)) (if (y3 == (4 : Int)) then (decide (x1 ≥ (128 : Int))) else false)))) else ((wire_Reader_number.j1 k) (3 : Int))
def wire_Reader_number (k : Nat) (p1 : wire_Reader) : Option (Int × Int × Int) :=
  wire_Reader_number.l1 k p1 k (0 : Int) (0 : Int)
def wire_Reader_Number (k : Nat) (p1 : wire_Reader) : Option (Int × wire_Reader) :=
  if (p1.err != (0 : Int)) = true then (some ((0 : Int), p1)) else ((wire_Reader_number k p1).bind fun x1 => (cut? p1.s x1.2.1 (p1.s.length : Int)).bind fun x2 => some (x1.1, { { p1 with s := x2 } with err := x1.2.2 }))
def wire_Reader_count (k : Nat) (p1 : wire_Reader) (p2 : Int) : Option (Int × wire_Reader) :=
  (wire_Reader_Number k p1).bind fun x1 => (some ((decide ((IntKind.wrap .i64 x1.1) > (if (0 : Int) > p2 then (0 : Int) else p2))))).bind fun x2 => if (if (x1.2.err == (0 : Int)) then x2 else false) = true then (some ((0 : Int), { { x1.2 with s := p1.s } with err := (5 : Int) })) else (some ((IntKind.wrap .i64 x1.1), x1.2))
def wire_Reader_take.j1 (k : Nat) (p2 : Int) (y1 : wire_Reader) : Option ((List Int) × wire_Reader) :=
  if (y1.err != (0 : Int)) = true then (some (([] : List Int), y1)) else ((cut? y1.s (0 : Int) p2).bind fun x2 => (cut? y1.s p2 (y1.s.length : Int)).bind fun x3 => some (x2, { y1 with s := x3 }))
def wire_Reader_take (k : Nat) (p1 : wire_Reader) (p2 : Int) : Option ((List Int) × wire_Reader) :=
  (some ((if (p1.err == (0 : Int)) then (decide (p2 > (p1.s.length : Int))) else false))).bind fun x1 => if x1 = true then ((wire_Reader_take.j1 k p2) ({ p1 with err := (3 : Int) })) else ((wire_Reader_take.j1 k p2) p1)
def wire_Reader_Text.j1 (k : Nat) (x2 : ((List Int) × wire_Reader)) (y1 : wire_Reader) : Option ((List Int) × wire_Reader) :=
  some (x2.1, y1)
def wire_Reader_Text (k : Nat) (p1 : wire_Reader) (p2 : Int) : Option ((List Int) × wire_Reader) :=
  (wire_Reader_count k p1 p2).bind fun x1 => (wire_Reader_take k x1.2 x1.1).bind fun x2 => if (x2.2.err != (0 : Int)) = true then ((wire_Reader_Text.j1 k x2) ({ x2.2 with s := p1.s })) else ((wire_Reader_Text.j1 k x2) x2.2)
def journal_records.j1 (k : Nat) (y1 : wire_Reader) (y2 : (List (List Int))) : Option ((List (List Int)) × Bool) :=
  (wire_Reader_End k y1).bind fun x2 => some (y2, (x2 == (0 : Int)))
def journal_records.l1 (k : Nat) : Nat → wire_Reader → (List (List Int)) → Option ((List (List Int)) × Bool)
  | 0, _, _ => none
  | n + 1, y3, y4 =>
    (wire_Reader_Left k y3).bind fun x3 => (if ((decide (x3 > (0 : Int))) == true) = true then wire_Reader_End k y3 else some (0 : Int)).bind fun x4 => if (if (decide (x3 > (0 : Int))) then (x4 == (6 : Int)) else false) = true then ((wire_Reader_Text k y3 (60000 : Int)).bind fun x5 => if y4.length + ([x5.1] : (List (List Int))).length ≤ lim then ((journal_records.l1 k n) x5.2 (y4 ++ ([x5.1] : (List (List Int))))) else none) else ((journal_records.j1 k) y3 y4)
def journal_records (k : Nat) (p1 : (List Int)) : Option ((List (List Int)) × Bool) :=
  (wire_NewReader k p1).bind fun x1 => journal_records.l1 k k x1 ([] : (List (List Int)))
def journal_Open (k : Nat) (p1 : disk_Disk) : Option (Bool × journal_Journal × Int × disk_Disk) :=
  (disk_Disk_Blocks k p1).bind fun x1 => if (decide (x1 < (3 : Int))) = true then (some (false, (⟨(), (0 : Int), [], []⟩ : journal_Journal), (1 : Int), p1)) else ((disk_Disk_Read k p1 (0 : Int)).bind fun x2 => (cut? x2.1 (0 : Int) (64 : Int)).bind fun x3 => (journal_filled k ([] : List Int) (64 : Int)).bind fun x4 => if (decide (x3 = x4)) = true then (some (true, (⟨(), (0 : Int), [], []⟩ : journal_Journal), (0 : Int), p1)) else ((at? x3 (iadd .i64 (4 : Int) (1 : Int))).bind fun x5 => (at? x3 (iadd .i64 (4 : Int) (2 : Int))).bind fun x6 => (some ((ior .i64 (ishl .i64 (IntKind.wrap .i64 x5) (24 : Int)) (ishl .i64 (IntKind.wrap .i64 x6) (16 : Int))))).bind fun x7 => (at? x3 (iadd .i64 (4 : Int) (3 : Int))).bind fun x8 => (at? x3 (iadd .i64 (4 : Int) (4 : Int))).bind fun x9 => (some ((ior .i64 (ior .i64 x7 (ishl .i64 (IntKind.wrap .i64 x8) (8 : Int))) (IntKind.wrap .i64 x9)))).bind fun x10 => (at? x3 (4 : Int)).bind fun x11 => (journal_mark k (IntKind.wrap .i64 (iand .u8 x11 (1 : Int))) x10).bind fun x12 => (if ((!decide (x12 = x3)) == false) = true then journal_blocks k p1 else some (0 : Int)).bind fun x13 => (some ((if (!decide (x12 = x3)) then true else (decide (x10 > (imul .i64 x13 (256 : Int))))))).bind fun x14 => if x14 = true then (some (false, (⟨(), (0 : Int), [], []⟩ : journal_Journal), (9 : Int), p1)) else ((journal_Journal_read k (⟨(), (IntKind.wrap .i64 (iand .u8 x11 (1 : Int))), [], []⟩ : journal_Journal) x10 p1).bind fun x15 => (journal_records k x15).bind fun x16 => if (!x16.2) = true then (some (false, (⟨(), (0 : Int), [], []⟩ : journal_Journal), (9 : Int), p1)) else (some (true, (⟨(), (IntKind.wrap .i64 (iand .u8 x11 (1 : Int))), x15, x16.1⟩ : journal_Journal), (0 : Int), p1)))))
def wire_Writer_Numbers.j1 (k : Nat) (y1 : Int) (L_l1 : Int → (List Int) → Option wire_Writer) (y3 : (List Int)) : Option wire_Writer :=
  L_l1 (iadd .i64 y1 (1 : Int)) y3
def wire_Writer_Numbers.j2 (k : Nat) (x1 : Int) (y1 : Int) (L_l1 : Int → (List Int) → Option wire_Writer) (y4 : (List Int)) : Option wire_Writer :=
  if y4.length + ([(iandn .u8 (IntKind.wrap .u8 x1) (128 : Int))] : (List Int)).length ≤ lim then ((wire_Writer_Numbers.j1 k y1 L_l1) (y4 ++ ([(iandn .u8 (IntKind.wrap .u8 x1) (128 : Int))] : (List Int)))) else none
def wire_Writer_Numbers.j3 (k : Nat) (y5 : Int) (L_l2 : Int → (List Int) → Option wire_Writer) (y7 : (List Int)) : Option wire_Writer :=
  L_l2 (isub .i64 y5 (7 : Int)) y7
def wire_Writer_Numbers.l2 (k : Nat) (x1 : Int) (y1 : Int) (L_l1 : Int → (List Int) → Option wire_Writer) : Nat → Int → (List Int) → Option wire_Writer
  | 0, _, _ => none
  | n + 1, y5, y6 =>
    if (decide (y5 > (0 : Int))) = true then (if 0 ≤ y5 then (if (decide ((ishr .u32 x1 y5) > (0 : Int))) = true then (if 0 ≤ y5 then ((some (([(ior .u8 (IntKind.wrap .u8 (ishr .u32 x1 y5)) (128 : Int))] : (List Int)))).bind fun x2 => if y6.length + x2.length ≤ lim then ((wire_Writer_Numbers.j3 k y5 (wire_Writer_Numbers.l2 k x1 y1 L_l1 n)) (y6 ++ x2)) else none) else none) else ((wire_Writer_Numbers.j3 k y5 (wire_Writer_Numbers.l2 k x1 y1 L_l1 n)) y6)) else none) else ((wire_Writer_Numbers.j2 k x1 y1 L_l1) y6)
def wire_Writer_Numbers.l1 (k : Nat) (p2 : (List Int)) : Nat → Int → (List Int) → Option wire_Writer
  | 0, _, _ => none
  | n + 1, y1, y2 =>
    if (decide (y1 < (p2.length : Int))) = true then ((at? p2 y1).bind fun x1 => wire_Writer_Numbers.l2 k x1 y1 (wire_Writer_Numbers.l1 k p2 n) k (28 : Int) y2) else (some (⟨y2⟩ : wire_Writer))
def wire_Writer_Numbers (k : Nat) (p1 : wire_Writer) (p2 : (List Int)) : Option wire_Writer :=
  wire_Writer_Numbers.l1 k p2 k (0 : Int) p1.out
def wire_Writer_Texts.l1 (k : Nat) (p2 : (List (List Int))) : Nat → Int → (List Int) → Option wire_Writer
  | 0, _, _ => none
  | n + 1, y1, y2 =>
    if (decide (y1 < (p2.length : Int))) = true then ((at? p2 y1).bind fun x1 => (wire_Writer_Numbers k (⟨y2⟩ : wire_Writer) ([(IntKind.wrap .u32 (x1.length : Int))] : (List Int))).bind fun x2 => if x2.out.length + x1.length ≤ lim then ((wire_Writer_Texts.l1 k p2 n) (iadd .i64 y1 (1 : Int)) (x2.out ++ x1)) else none) else (some (⟨y2⟩ : wire_Writer))
def wire_Writer_Texts (k : Nat) (p1 : wire_Writer) (p2 : (List (List Int))) : Option wire_Writer :=
  wire_Writer_Texts.l1 k p2 k (0 : Int) p1.out
def wire_Writer_String (k : Nat) (p1 : wire_Writer) : Option (List Int) :=
  some p1.out
def journal_Journal_Append_1 (k : Nat) (p1 : (List Int)) : Option Bool :=
  some (decide ((p1.length : Int) > (60000 : Int)))
def slices_IndexFunc_string_string_journal_Journal_Append_1.j1 (k : Nat) : Option Int :=
  some (-1 : Int)
def slices_IndexFunc_string_string_journal_Journal_Append_1.l1 (k : Nat) (p1 : (List (List Int))) : Nat → Int → Option Int
  | 0, _ => none
  | n + 1, y1 =>
    if (decide (y1 < (p1.length : Int))) = true then ((at? p1 y1).bind fun x1 => (journal_Journal_Append_1 k x1).bind fun x2 => if x2 = true then (some y1) else ((slices_IndexFunc_string_string_journal_Journal_Append_1.l1 k p1 n) (iadd .i64 y1 (1 : Int)))) else ((slices_IndexFunc_string_string_journal_Journal_Append_1.j1 k))
def slices_IndexFunc_string_string_journal_Journal_Append_1 (k : Nat) (p1 : (List (List Int))) : Option Int :=
  slices_IndexFunc_string_string_journal_Journal_Append_1.l1 k p1 k (0 : Int)
def slices_ContainsFunc_string_string_journal_Journal_Append_1 (k : Nat) (p1 : (List (List Int))) : Option Bool :=
  (slices_IndexFunc_string_string_journal_Journal_Append_1 k p1).bind fun x1 => some (decide (x1 ≥ (0 : Int)))
def journal_Journal_size (k : Nat) (p1 : journal_Journal) (p2 : disk_Disk) : Option Int :=
  (journal_blocks k p2).bind fun x1 => some (imul .i64 x1 (256 : Int))
def journal_Journal_Room (k : Nat) (p1 : journal_Journal) (p2 : disk_Disk) : Option Int :=
  (journal_Journal_size k p1 p2).bind fun x1 => some (isub .i64 x1 (p1.bytes.length : Int))
def journal_Journal_commit_1 (k : Nat) (p1 : Int) (p2 : (List Int)) : Option (List Int) :=
  (some ((if (p2.length : Int) < (imul .i64 (iadd .i64 p1 (1 : Int)) (256 : Int)) then (p2.length : Int) else (imul .i64 (iadd .i64 p1 (1 : Int)) (256 : Int))))).bind fun x1 => (cut? p2 (imul .i64 p1 (256 : Int)) x1).bind fun x2 => (journal_filled k x2 (256 : Int)).bind fun x3 => some x3
def disk_Disk_burn.j1 (k : Nat) (p1 : disk_Disk) (y1 : Int) (y2 : Bool) : Option (Bool × disk_Disk) :=
  some ((!y2), (⟨p1.firm, p1.loose, y1, y2⟩ : disk_Disk))
def disk_Disk_burn (k : Nat) (p1 : disk_Disk) : Option (Bool × disk_Disk) :=
  if (p1.fuse == (0 : Int)) = true then ((disk_Disk_burn.j1 k p1) p1.fuse true) else (if (decide (p1.fuse > (0 : Int))) = true then ((disk_Disk_burn.j1 k p1) (isub .i64 p1.fuse (1 : Int)) p1.dead) else ((disk_Disk_burn.j1 k p1) p1.fuse p1.dead))
def disk_Disk_Write (k : Nat) (p1 : disk_Disk) (p2 : Int) (p3 : (List Int)) : Option (Int × disk_Disk) :=
  (disk_Disk_has k p1 p2).bind fun x1 => if (if (!x1) then true else ((p3.length : Int) != (256 : Int))) = true then (some ((1 : Int), p1)) else (if p1.dead = true then (some ((7 : Int), p1)) else (if p3.length ≤ ((256 : Int).toNat - (0 : Int).toNat) then ((some ({ (⟨p2, (List.replicate 256 (0 : Int))⟩ : disk_write) with data := (((⟨p2, (List.replicate 256 (0 : Int))⟩ : disk_write).data).take (0 : Int).toNat ++ p3 ++ ((⟨p2, (List.replicate 256 (0 : Int))⟩ : disk_write).data).drop ((0 : Int).toNat + p3.length)) })).bind fun x2 => if p1.loose.length + ([x2] : (List disk_write)).length ≤ lim then ((disk_Disk_burn k (⟨p1.firm, (p1.loose ++ ([x2] : (List disk_write))), p1.fuse, p1.dead⟩ : disk_Disk)).bind fun x3 => if (!x3.1) = true then (some ((7 : Int), x3.2)) else (some ((0 : Int), x3.2))) else none) else none))
def disk_Disk_Sync_1 (k : Nat) (p1 : Int) : Option Int :=
  some (4 : Int)
def disk_Disk_settle_disk_Disk_Sync_1.j1 (k : Nat) (p1 : disk_Disk) (y1 : (List (List Int))) : Option disk_Disk :=
  some (⟨y1, ([] : (List disk_write)), p1.fuse, p1.dead⟩ : disk_Disk)
def disk_Disk_settle_disk_Disk_Sync_1.l1 (k : Nat) (p1 : disk_Disk) : Nat → Int → (List (List Int)) → Option disk_Disk
  | 0, _, _ => none
  | n + 1, y2, y3 =>
    if (decide (y2 < (p1.loose.length : Int))) = true then (if (0 ≤ y2 ∧ y2 < p1.loose.length) then ((at? p1.loose y2).bind fun x1 => (disk_Disk_Sync_1 k y2).bind fun x2 => if (0 ≤ x1.at_ ∧ x1.at_ < y3.length) then (if (0 ≤ (0 : Int) ∧ (0 : Int) ≤ (imul .i64 x2 (64 : Int)) ∧ (imul .i64 x2 (64 : Int)) ≤ ((256 : Nat) : Int)) then (if (0 ≤ (0 : Int) ∧ (0 : Int) ≤ (imul .i64 x2 (64 : Int)) ∧ (imul .i64 x2 (64 : Int)) ≤ ((256 : Nat) : Int)) then ((cut? x1.data (0 : Int) (imul .i64 x2 (64 : Int))).bind fun x3 => if x3.length ≤ ((imul .i64 x2 (64 : Int)).toNat - (0 : Int).toNat) then ((at? y3 x1.at_).bind fun x4 => (set? y3 x1.at_ (x4.take (0 : Int).toNat ++ x3 ++ x4.drop ((0 : Int).toNat + x3.length))).bind fun x5 => (disk_Disk_settle_disk_Disk_Sync_1.l1 k p1 n) (iadd .i64 y2 (1 : Int)) x5) else none) else none) else none) else none) else none) else ((disk_Disk_settle_disk_Disk_Sync_1.j1 k p1) y3)
def disk_Disk_settle_disk_Disk_Sync_1 (k : Nat) (p1 : disk_Disk) : Option disk_Disk :=
  disk_Disk_settle_disk_Disk_Sync_1.l1 k p1 k (0 : Int) p1.firm
def disk_Disk_Sync (k : Nat) (p1 : disk_Disk) : Option (Int × disk_Disk) :=
  (if ((if false then true else p1.dead) == false) = true then disk_Disk_burn k p1 else some (false, p1)).bind fun x1 => if (if (if false then true else p1.dead) then true else (!x1.1)) = true then (some ((7 : Int), x1.2)) else ((disk_Disk_settle_disk_Disk_Sync_1 k x1.2).bind fun x2 => some ((0 : Int), x2))
def journal_Journal_commit.j1 (k : Nat) (p1 : journal_Journal) (y1 : Int) (y2 : Int) (y3 : Bool) (y4 : (List (List Int))) (y5 : (List disk_write)) : Option (Int × journal_Journal × disk_Disk) :=
  some (y1, (⟨(), p1.area, p1.bytes, p1.l⟩ : journal_Journal), (⟨y4, y5, y2, y3⟩ : disk_Disk))
def journal_Journal_commit.j2 (k : Nat) (y7 : Int) (L_l1 : Int → Int → Int → Bool → (List (List Int)) → (List disk_write) → Option (Int × journal_Journal × disk_Disk)) (y12 : Int) (y13 : Bool) (y14 : (List (List Int))) (y15 : (List disk_write)) : Option (Int × journal_Journal × disk_Disk) :=
  L_l1 (0 : Int) (iadd .i64 y7 (1 : Int)) y12 y13 y14 y15
def journal_Journal_commit.j3 (k : Nat) (p2 : Int) (p4 : (List Int)) (p1 : journal_Journal) (y6 : Int) (y7 : Int) (L_l1 : Int → Int → Int → Bool → (List (List Int)) → (List disk_write) → Option (Int × journal_Journal × disk_Disk)) (y16 : Int) (y17 : Bool) (y18 : (List (List Int))) (y19 : (List disk_write)) : Option (Int × journal_Journal × disk_Disk) :=
  (disk_Disk_Sync k (⟨y18, y19, y16, y17⟩ : disk_Disk)).bind fun x1 => (if ((x1.1 != (0 : Int)) == false) = true then journal_mark k p2 (p4.length : Int) else some []).bind fun x2 => (if ((x1.1 != (0 : Int)) == false) = true then journal_filled k x2 (256 : Int) else some []).bind fun x3 => (if ((x1.1 != (0 : Int)) == false) = true then disk_Disk_Write k x1.2 (0 : Int) x3 else some ((0 : Int), x1.2)).bind fun x4 => (if ((if (x1.1 != (0 : Int)) then true else (x4.1 != (0 : Int))) == false) = true then disk_Disk_Sync k x4.2 else some ((0 : Int), x4.2)).bind fun x5 => (some ((if (if (x1.1 != (0 : Int)) then true else (x4.1 != (0 : Int))) then true else (x5.1 != (0 : Int))))).bind fun x6 => if x6 = true then ((journal_Journal_commit.j1 k p1) y6 x5.2.fuse x5.2.dead x5.2.firm x5.2.loose) else ((journal_Journal_commit.j2 k y7 L_l1) x5.2.fuse x5.2.dead x5.2.firm x5.2.loose)
def journal_Journal_commit.l2 (k : Nat) (p4 : (List Int)) (p1 : journal_Journal) (p2 : Int) (y6 : Int) (y7 : Int) (L_l1 : Int → Int → Int → Bool → (List (List Int)) → (List disk_write) → Option (Int × journal_Journal × disk_Disk)) : Nat → Int → Int → Bool → (List (List Int)) → (List disk_write) → Option (Int × journal_Journal × disk_Disk)
  | 0, _, _, _, _, _ => none
  | n + 1, y20, y21, y22, y23, y24 =>
    if (decide ((imul .i64 y20 (256 : Int)) < (p4.length : Int))) = true then ((journal_Journal_place k (⟨(), p1.area, p1.bytes, p1.l⟩ : journal_Journal) p2 y20 (⟨y23, y24, y21, y22⟩ : disk_Disk)).bind fun x7 => (journal_Journal_commit_1 k y20 p4).bind fun x8 => (disk_Disk_Write k (⟨y23, y24, y21, y22⟩ : disk_Disk) x7 x8).bind fun x9 => if (x9.1 != (0 : Int)) = true then ((journal_Journal_commit.j1 k p1) y6 x9.2.fuse x9.2.dead x9.2.firm x9.2.loose) else ((journal_Journal_commit.l2 k p4 p1 p2 y6 y7 L_l1 n) (iadd .i64 y20 (1 : Int)) x9.2.fuse x9.2.dead x9.2.firm x9.2.loose)) else ((journal_Journal_commit.j3 k p2 p4 p1 y6 y7 L_l1) y21 y22 y23 y24)
def journal_Journal_commit.l1 (k : Nat) (p4 : (List Int)) (p1 : journal_Journal) (p2 : Int) (p3 : Int) : Nat → Int → Int → Int → Bool → (List (List Int)) → (List disk_write) → Option (Int × journal_Journal × disk_Disk)
  | 0, _, _, _, _, _, _ => none
  | n + 1, y6, y7, y8, y9, y10, y11 =>
    if (decide (y7 < (1 : Int))) = true then (journal_Journal_commit.l2 k p4 p1 p2 y6 y7 (journal_Journal_commit.l1 k p4 p1 p2 p3 n) k (iquo .i64 p3 (256 : Int)) y8 y9 y10 y11) else ((journal_Journal_commit.j1 k p1) y6 y8 y9 y10 y11)
def journal_Journal_commit (k : Nat) (p1 : journal_Journal) (p2 : Int) (p3 : Int) (p4 : (List Int)) (p5 : disk_Disk) : Option (Int × journal_Journal × disk_Disk) :=
  journal_Journal_commit.l1 k p4 p1 p2 p3 k (7 : Int) (0 : Int) p5.fuse p5.dead p5.firm p5.loose
def journal_Journal_Append (k : Nat) (p1 : journal_Journal) (p2 : (List (List Int))) (p3 : disk_Disk) : Option (Int × journal_Journal × disk_Disk) :=
  (wire_Writer_Texts k (⟨([] : (List Int))⟩ : wire_Writer) p2).bind fun x1 => (wire_Writer_String k x1).bind fun x2 => (slices_ContainsFunc_string_string_journal_Journal_Append_1 k p2).bind fun x3 => if x3 = true then (some ((1 : Int), p1, p3)) else ((journal_Journal_Room k p1 p3).bind fun x4 => if (decide ((x2.length : Int) > x4)) = true then (some ((8 : Int), p1, p3)) else (if ((p2.length : Int) == (0 : Int)) = true then (some ((0 : Int), p1, p3)) else (if p1.bytes.length + x2.length ≤ lim then ((journal_Journal_commit k p1 p1.area (p1.bytes.length : Int) (p1.bytes ++ x2) p3).bind fun x5 => if (x5.1 != (0 : Int)) = true then (some (x5.1, (⟨(), x5.2.1.area, x5.2.1.bytes, x5.2.1.l⟩ : journal_Journal), x5.2.2)) else (if x5.2.1.l.length + p2.length ≤ lim then (some ((0 : Int), (⟨(), x5.2.1.area, (p1.bytes ++ x2), (x5.2.1.l ++ p2)⟩ : journal_Journal), x5.2.2)) else none)) else none)))
def slices_Clone_string_string (k : Nat) (p1 : (List (List Int))) : Option (List (List Int)) :=
  if ([] : List (List Int)).length + p1.length ≤ lim then (some (([] : List (List Int)) ++ p1)) else none
def journal_Journal_Records (k : Nat) (p1 : journal_Journal) (p2 : disk_Disk) : Option (List (List Int)) :=
  (slices_Clone_string_string k p1.l).bind fun x1 => some x1
def cabalref13_Same.j1 (k : Nat) : Option Bool :=
  some true
def cabalref13_Same.l1 (k : Nat) (p1 : (List (List Int))) (p2 : (List (List Int))) : Nat → Int → Option Bool
  | 0, _ => none
  | n + 1, y1 =>
    if (decide (y1 < (p1.length : Int))) = true then ((at? p1 y1).bind fun x1 => (at? p2 y1).bind fun x2 => if (!decide (x1 = x2)) = true then (some false) else ((cabalref13_Same.l1 k p1 p2 n) (iadd .i64 y1 (1 : Int)))) else ((cabalref13_Same.j1 k))
def cabalref13_Same (k : Nat) (p1 : (List (List Int))) (p2 : (List (List Int))) : Option Bool :=
  if ((p1.length : Int) != (p2.length : Int)) = true then (some false) else (cabalref13_Same.l1 k p1 p2 k (0 : Int))
def caballaw13_alive (k : Nat) : Option Bool :=
  (disk_New k (5 : Int)).bind fun x1 => (journal_Open k x1).bind fun x2 => if x2.1 = true then ((if ((if (x2.2.2.1 != (0 : Int)) then true else false) == false) = true then journal_Journal_Append k (⟨(), x2.2.1.area, x2.2.1.bytes, x2.2.1.l⟩ : journal_Journal) ([([97] : List Int), ([98, 99] : List Int)] : (List (List Int))) x2.2.2.2 else some ((0 : Int), (⟨(), x2.2.1.area, x2.2.1.bytes, x2.2.1.l⟩ : journal_Journal), x2.2.2.2)).bind fun x3 => (some ((if (if (x2.2.2.1 != (0 : Int)) then true else false) then true else (x3.1 != (0 : Int))))).bind fun x4 => if x4 = true then (some false) else ((journal_Open k x3.2.2).bind fun x5 => if x5.1 = true then ((if ((if (x5.2.2.1 == (0 : Int)) then true else false) == true) = true then journal_Journal_Records k (⟨(), x5.2.1.area, x5.2.1.bytes, x5.2.1.l⟩ : journal_Journal) x5.2.2.2 else some []).bind fun x6 => (if ((if (x5.2.2.1 == (0 : Int)) then true else false) == true) = true then cabalref13_Same k x6 ([([97] : List Int), ([98, 99] : List Int)] : (List (List Int))) else some false).bind fun x7 => (some ((if (if (x5.2.2.1 == (0 : Int)) then true else false) then x7 else false))).bind fun x8 => (if (x8 == true) = true then journal_Journal_Room k (⟨(), x3.2.1.area, x3.2.1.bytes, x3.2.1.l⟩ : journal_Journal) x5.2.2.2 else some (0 : Int)).bind fun x9 => some (if x8 then (x9 == (507 : Int)) else false)) else (some false))) else (some false)
def caballaw13_great.j1 (k : Nat) (y1 : Int) : Option Bool :=
  some (decide (y1 > (4000 : Int)))
def caballaw13_great.l1 (k : Nat) (p1 : (List (List Int))) : Nat → Int → Int → Option Bool
  | 0, _, _ => none
  | n + 1, y2, y3 =>
    if (decide (y3 < (p1.length : Int))) = true then ((at? p1 y3).bind fun x1 => (some ((if (decide ((x1.length : Int) > (2000 : Int))) then true else (decide (y3 > (20 : Int)))))).bind fun x2 => if x2 = true then (some true) else ((at? p1 y3).bind fun x3 => (caballaw13_great.l1 k p1 n) (iadd .i64 y2 (x3.length : Int)) (iadd .i64 y3 (1 : Int)))) else ((caballaw13_great.j1 k) y2)
def caballaw13_great (k : Nat) (p1 : (List (List Int))) : Option Bool :=
  caballaw13_great.l1 k p1 k (0 : Int) (0 : Int)
def cabalref12_New.j3 (k : Nat) (y3 : (List (List Int))) : Option cabalref12_Disk :=
  some (⟨y3, ([] : (List Int)), ([] : (List (List Int))), (-1 : Int), false⟩ : cabalref12_Disk)
def cabalref12_New.l1 (k : Nat) (y2 : Int) : Nat → Int → (List (List Int)) → Option cabalref12_Disk
  | 0, _, _ => none
  | n + 1, y4, y5 =>
    if (decide (y4 < y2)) = true then (if (0 ≤ (256 : Int) ∧ (256 : Int).toNat ≤ lim) then (if y5.length + ([(List.replicate (256 : Int).toNat (0 : Int))] : (List (List Int))).length ≤ lim then ((cabalref12_New.l1 k y2 n) (iadd .i64 y4 (1 : Int)) (y5 ++ ([(List.replicate (256 : Int).toNat (0 : Int))] : (List (List Int))))) else none) else none) else ((cabalref12_New.j3 k) y5)
def cabalref12_New.j2 (k : Nat) (y2 : Int) : Option cabalref12_Disk :=
  cabalref12_New.l1 k y2 k (0 : Int) ([] : (List (List Int)))
def cabalref12_New.j1 (k : Nat) (y1 : Int) : Option cabalref12_Disk :=
  if (decide (y1 > (1024 : Int))) = true then ((cabalref12_New.j2 k) (1024 : Int)) else ((cabalref12_New.j2 k) y1)
def cabalref12_New (k : Nat) (p1 : Int) : Option cabalref12_Disk :=
  if (decide (p1 < (1 : Int))) = true then ((cabalref12_New.j1 k) (1 : Int)) else ((cabalref12_New.j1 k) p1)
def cabalref10_Number.j1 (k : Nat) (y1 : (List Int)) : Option (List Int) :=
  some y1
def cabalref10_Number.l1 (k : Nat) : Nat → Int → (List Int) → Option (List Int)
  | 0, _, _ => none
  | n + 1, y2, y3 =>
    if (decide (y2 > (0 : Int))) = true then ((some (([(IntKind.wrap .u8 (iadd .u32 (irem y2 (128 : Int)) (128 : Int)))] : (List Int)))).bind fun x1 => if x1.length + y3.length ≤ lim then ((cabalref10_Number.l1 k n) (iquo .u32 y2 (128 : Int)) (x1 ++ y3)) else none) else ((cabalref10_Number.j1 k) y3)
def cabalref10_Number (k : Nat) (p1 : Int) : Option (List Int) :=
  cabalref10_Number.l1 k k (iquo .u32 p1 (128 : Int)) ([(IntKind.wrap .u8 (irem p1 (128 : Int)))] : (List Int))
def cabalref10_Text (k : Nat) (p1 : (List Int)) : Option (List Int) :=
  (cabalref10_Number k (IntKind.wrap .u32 (p1.length : Int))).bind fun x1 => if x1.length + p1.length ≤ lim then (some (x1 ++ p1)) else none
def cabalref13_Bytes.j1 (k : Nat) (y1 : (List Int)) : Option (List Int) :=
  some y1
def cabalref13_Bytes.l1 (k : Nat) (p1 : (List (List Int))) : Nat → (List Int) → Int → Option (List Int)
  | 0, _, _ => none
  | n + 1, y2, y3 =>
    if (decide (y3 < (p1.length : Int))) = true then ((at? p1 y3).bind fun x1 => (cabalref10_Text k x1).bind fun x2 => if y2.length + x2.length ≤ lim then ((cabalref13_Bytes.l1 k p1 n) (y2 ++ x2) (iadd .i64 y3 (1 : Int))) else none) else ((cabalref13_Bytes.j1 k) y2)
def cabalref13_Bytes (k : Nat) (p1 : (List (List Int))) : Option (List Int) :=
  cabalref13_Bytes.l1 k p1 k ([] : List Int) (0 : Int)
def cabalref01_Lengthened.j2 (k : Nat) (y1 : (List Int)) (y2 : (List Int)) : Option (List Int) :=
  (cut? y2 (0 : Int) (8 : Int)).bind fun x1 => if y1.length + x1.length ≤ lim then (some (y1 ++ x1)) else none
def cabalref01_Lengthened.l1 (k : Nat) (y1 : (List Int)) : Nat → Int → Int → (List Int) → Option (List Int)
  | 0, _, _, _ => none
  | n + 1, y3, y4, y5 =>
    if (decide (y4 < (8 : Int))) = true then (if (0 ≤ (isub .i64 (7 : Int) y4) ∧ (isub .i64 (7 : Int) y4) < 8) then ((set? y5 (isub .i64 (7 : Int) y4) (IntKind.wrap .u8 (irem y3 (256 : Int)))).bind fun x2 => (cabalref01_Lengthened.l1 k y1 n) (iquo .u64 y3 (256 : Int)) (iadd .i64 y4 (1 : Int)) x2) else none) else ((cabalref01_Lengthened.j2 k y1) y5)
def cabalref01_Lengthened.j1 (k : Nat) (p1 : (List Int)) (y1 : (List Int)) : Option (List Int) :=
  cabalref01_Lengthened.l1 k y1 k (imul .u64 (IntKind.wrap .u64 (p1.length : Int)) (8 : Int)) (0 : Int) (List.replicate 8 (0 : Int))
def cabalref01_Lengthened.l2 (k : Nat) (p1 : (List Int)) : Nat → (List Int) → Option (List Int)
  | 0, _ => none
  | n + 1, y6 =>
    if ((irem (y6.length : Int) (64 : Int)) != (56 : Int)) = true then (if y6.length + ([0] : List Int).length ≤ lim then ((cabalref01_Lengthened.l2 k p1 n) (y6 ++ ([0] : List Int))) else none) else ((cabalref01_Lengthened.j1 k p1) y6)
def cabalref01_Lengthened (k : Nat) (p1 : (List Int)) : Option (List Int) :=
  if p1.length + ([128] : List Int).length ≤ lim then (cabalref01_Lengthened.l2 k p1 k (p1 ++ ([128] : List Int))) else none
def cabalref01_Right (k : Nat) (p1 : Int) (p2 : Int) : Option Int :=
  if 0 ≤ p2 then (if 0 ≤ (isub .u64 (32 : Int) p2) then (some (ior .u32 (ishr .u32 p1 p2) (ishl .u32 p1 (isub .u64 (32 : Int) p2)))) else none) else none
def cabalref01_Rounds (k : Nat) : Option (List Int) :=
  (some (([(1116352408 : Int), (1899447441 : Int), (3049323471 : Int), (3921009573 : Int), (961987163 : Int), (1508970993 : Int), (2453635748 : Int), (2870763221 : Int), (3624381080 : Int), (310598401 : Int), (607225278 : Int), (1426881987 : Int), (1925078388 : Int), (2162078206 : Int), (2614888103 : Int), (3248222580 : Int), (3835390401 : Int), (4022224774 : Int), (264347078 : Int), (604807628 : Int), (770255983 : Int), (1249150122 : Int), (1555081692 : Int), (1996064986 : Int), (2554220882 : Int), (2821834349 : Int), (2952996808 : Int), (3210313671 : Int), (3336571891 : Int), (3584528711 : Int), (113926993 : Int), (338241895 : Int), (666307205 : Int), (773529912 : Int), (1294757372 : Int), (1396182291 : Int), (1695183700 : Int), (1986661051 : Int), (2177026350 : Int), (2456956037 : Int), (2730485921 : Int), (2820302411 : Int), (3259730800 : Int), (3345764771 : Int), (3516065817 : Int), (3600352804 : Int), (4094571909 : Int), (275423344 : Int), (430227734 : Int), (506948616 : Int), (659060556 : Int), (883997877 : Int), (958139571 : Int), (1322822218 : Int), (1537002063 : Int), (1747873779 : Int), (1955562222 : Int), (2024104815 : Int), (2227730452 : Int), (2361852424 : Int), (2428436474 : Int), (2756734187 : Int), (3204031479 : Int), (3329325298 : Int)] : (List Int)))).bind fun x1 => some x1
def cabalref01_Block.j3 (k : Nat) (p1 : (List Int)) (y3 : Int) (y4 : Int) (y5 : Int) (y6 : Int) (y7 : Int) (y8 : Int) (y9 : Int) (y10 : Int) : Option (List Int) :=
  (at? p1 (0 : Int)).bind fun x10 => (at? p1 (1 : Int)).bind fun x11 => (at? p1 (2 : Int)).bind fun x12 => (at? p1 (3 : Int)).bind fun x13 => (at? p1 (4 : Int)).bind fun x14 => (at? p1 (5 : Int)).bind fun x15 => (at? p1 (6 : Int)).bind fun x16 => (at? p1 (7 : Int)).bind fun x17 => (some (([(iadd .u32 x10 y3), (iadd .u32 x11 y4), (iadd .u32 x12 y5), (iadd .u32 x13 y6), (iadd .u32 x14 y7), (iadd .u32 x15 y8), (iadd .u32 x16 y9), (iadd .u32 x17 y10)] : (List Int)))).bind fun x18 => some x18
def cabalref01_Block.l1 (k : Nat) (x1 : (List Int)) (y2 : (List Int)) (p1 : (List Int)) : Nat → Int → Int → Int → Int → Int → Int → Int → Int → Int → Option (List Int)
  | 0, _, _, _, _, _, _, _, _, _ => none
  | n + 1, y11, y12, y13, y14, y15, y16, y17, y18, y19 =>
    if (decide (y19 < (64 : Int))) = true then ((cabalref01_Right k y15 (6 : Int)).bind fun x19 => (cabalref01_Right k y15 (11 : Int)).bind fun x20 => (cabalref01_Right k y15 (25 : Int)).bind fun x21 => (some ((iadd .u32 (iadd .u32 y18 (ixor .u32 (ixor .u32 x19 x20) x21)) (ior .u32 (iand .u32 y15 y16) (iand .u32 (inot .u32 y15) y17))))).bind fun x22 => if (0 ≤ y19 ∧ y19 < 64) then ((at? x1 y19).bind fun x23 => if (0 ≤ y19 ∧ y19 < 64) then ((at? y2 y19).bind fun x24 => (cabalref01_Right k y11 (2 : Int)).bind fun x25 => (cabalref01_Right k y11 (13 : Int)).bind fun x26 => (cabalref01_Right k y11 (22 : Int)).bind fun x27 => (some ((ior .u32 (ior .u32 (iand .u32 y11 y12) (iand .u32 y11 y13)) (iand .u32 y12 y13)))).bind fun x28 => (some ((iadd .u32 (iadd .u32 (iadd .u32 x22 x23) x24) (iadd .u32 (ixor .u32 (ixor .u32 x25 x26) x27) x28)))).bind fun x29 => (cabalref01_Block.l1 k x1 y2 p1 n) x29 y11 y12 y13 (iadd .u32 y14 (iadd .u32 (iadd .u32 x22 x23) x24)) y15 y16 y17 (iadd .i64 y19 (1 : Int))) else none) else none) else ((cabalref01_Block.j3 k p1) y11 y12 y13 y14 y15 y16 y17 y18)
def cabalref01_Block.j2 (k : Nat) (p1 : (List Int)) (y2 : (List Int)) : Option (List Int) :=
  (cabalref01_Rounds k).bind fun x1 => (at? p1 (0 : Int)).bind fun x2 => (at? p1 (1 : Int)).bind fun x3 => (at? p1 (2 : Int)).bind fun x4 => (at? p1 (3 : Int)).bind fun x5 => (at? p1 (4 : Int)).bind fun x6 => (at? p1 (5 : Int)).bind fun x7 => (at? p1 (6 : Int)).bind fun x8 => (at? p1 (7 : Int)).bind fun x9 => cabalref01_Block.l1 k x1 y2 p1 k x2 x3 x4 x5 x6 x7 x8 x9 (0 : Int)
def cabalref01_Block.l2 (k : Nat) (p1 : (List Int)) : Nat → Int → (List Int) → Option (List Int)
  | 0, _, _ => none
  | n + 1, y20, y21 =>
    if (decide (y20 < (64 : Int))) = true then (if (0 ≤ (isub .i64 y20 (15 : Int)) ∧ (isub .i64 y20 (15 : Int)) < 64) then ((at? y21 (isub .i64 y20 (15 : Int))).bind fun x30 => if (0 ≤ (isub .i64 y20 (2 : Int)) ∧ (isub .i64 y20 (2 : Int)) < 64) then ((at? y21 (isub .i64 y20 (2 : Int))).bind fun x31 => (cabalref01_Right k x31 (17 : Int)).bind fun x32 => (cabalref01_Right k x31 (19 : Int)).bind fun x33 => if (0 ≤ (isub .i64 y20 (7 : Int)) ∧ (isub .i64 y20 (7 : Int)) < 64) then ((at? y21 (isub .i64 y20 (7 : Int))).bind fun x34 => (some ((iadd .u32 (ixor .u32 (ixor .u32 x32 x33) (ishr .u32 x31 (10 : Int))) x34))).bind fun x35 => (cabalref01_Right k x30 (7 : Int)).bind fun x36 => (cabalref01_Right k x30 (18 : Int)).bind fun x37 => (some ((iadd .u32 x35 (ixor .u32 (ixor .u32 x36 x37) (ishr .u32 x30 (3 : Int)))))).bind fun x38 => if (0 ≤ (isub .i64 y20 (16 : Int)) ∧ (isub .i64 y20 (16 : Int)) < 64) then ((at? y21 (isub .i64 y20 (16 : Int))).bind fun x39 => if (0 ≤ y20 ∧ y20 < 64) then ((set? y21 y20 (iadd .u32 x38 x39)).bind fun x40 => (cabalref01_Block.l2 k p1 n) (iadd .i64 y20 (1 : Int)) x40) else none) else none) else none) else none) else none) else ((cabalref01_Block.j2 k p1) y21)
def cabalref01_Block.j1 (k : Nat) (p1 : (List Int)) (y1 : (List Int)) : Option (List Int) :=
  cabalref01_Block.l2 k p1 k (16 : Int) y1
def cabalref01_Block.l3 (k : Nat) (p2 : (List Int)) (p1 : (List Int)) : Nat → Int → (List Int) → Option (List Int)
  | 0, _, _ => none
  | n + 1, y22, y23 =>
    if (decide (y22 < (16 : Int))) = true then ((at? p2 (imul .i64 (4 : Int) y22)).bind fun x41 => (at? p2 (iadd .i64 (imul .i64 (4 : Int) y22) (1 : Int))).bind fun x42 => (some ((iadd .u32 (imul .u32 (IntKind.wrap .u32 x41) (16777216 : Int)) (imul .u32 (IntKind.wrap .u32 x42) (65536 : Int))))).bind fun x43 => (at? p2 (iadd .i64 (imul .i64 (4 : Int) y22) (2 : Int))).bind fun x44 => (at? p2 (iadd .i64 (imul .i64 (4 : Int) y22) (3 : Int))).bind fun x45 => (some ((iadd .u32 (iadd .u32 x43 (imul .u32 (IntKind.wrap .u32 x44) (256 : Int))) (IntKind.wrap .u32 x45)))).bind fun x46 => if (0 ≤ y22 ∧ y22 < 64) then ((set? y23 y22 x46).bind fun x47 => (cabalref01_Block.l3 k p2 p1 n) (iadd .i64 y22 (1 : Int)) x47) else none) else ((cabalref01_Block.j1 k p1) y23)
def cabalref01_Block (k : Nat) (p1 : (List Int)) (p2 : (List Int)) : Option (List Int) :=
  cabalref01_Block.l3 k p2 p1 k (0 : Int) (List.replicate 64 (0 : Int))
def cabalref01_Sum.j2 (k : Nat) (y2 : (List Int)) : Option (List Int) :=
  some y2
def cabalref01_Sum.l1 (k : Nat) (y1 : (List Int)) : Nat → Int → (List Int) → Option (List Int)
  | 0, _, _ => none
  | n + 1, y3, y4 =>
    if (decide (y3 < (32 : Int))) = true then (if (0 ≤ (iquo .i64 y3 (4 : Int)) ∧ (iquo .i64 y3 (4 : Int)) < 8) then ((at? y1 (iquo .i64 y3 (4 : Int))).bind fun x3 => (some ((IntKind.wrap .u64 (isub .i64 (24 : Int) (imul .i64 (8 : Int) (irem y3 (4 : Int))))))).bind fun x4 => if 0 ≤ x4 then (if (0 ≤ y3 ∧ y3 < 32) then ((set? y4 y3 (IntKind.wrap .u8 (ishr .u32 x3 x4))).bind fun x5 => (cabalref01_Sum.l1 k y1 n) (iadd .i64 y3 (1 : Int)) x5) else none) else none) else none) else ((cabalref01_Sum.j2 k) y4)
def cabalref01_Sum.j1 (k : Nat) (y1 : (List Int)) : Option (List Int) :=
  cabalref01_Sum.l1 k y1 k (0 : Int) (List.replicate 32 (0 : Int))
def cabalref01_Sum.l2 (k : Nat) (x1 : (List Int)) : Nat → Int → (List Int) → Option (List Int)
  | 0, _, _ => none
  | n + 1, y5, y6 =>
    if (decide (y5 < (x1.length : Int))) = true then ((cut? x1 y5 (iadd .i64 y5 (64 : Int))).bind fun x6 => (cabalref01_Block k y6 x6).bind fun x7 => (cabalref01_Sum.l2 k x1 n) (iadd .i64 y5 (64 : Int)) x7) else ((cabalref01_Sum.j1 k) y6)
def cabalref01_Sum (k : Nat) (p1 : (List Int)) : Option (List Int) :=
  (cabalref01_Lengthened k p1).bind fun x1 => (some (([(1779033703 : Int), (3144134277 : Int), (1013904242 : Int), (2773480762 : Int), (1359893119 : Int), (2600822924 : Int), (528734635 : Int), (1541459225 : Int)] : (List Int)))).bind fun x2 => cabalref01_Sum.l2 k x1 k (0 : Int) x2
def cabalref13_filled (k : Nat) (p1 : (List Int)) (p2 : Int) : Option (List Int) :=
  if (decide ((p1.length : Int) ≥ p2)) = true then (some p1) else (if (0 ≤ (isub .i64 p2 (p1.length : Int)) ∧ (isub .i64 p2 (p1.length : Int)).toNat ≤ lim) then (if p1.length + (List.replicate (isub .i64 p2 (p1.length : Int)).toNat (0 : Int)).length ≤ lim then ((some ((p1 ++ (List.replicate (isub .i64 p2 (p1.length : Int)).toNat (0 : Int))))).bind fun x1 => some x1) else none) else none)
def cabalref13_Mark (k : Nat) (p1 : Int) (p2 : Int) : Option (List Int) :=
  (some (([(IntKind.wrap .u8 p1), (IntKind.wrap .u8 (iquo .i64 p2 (16777216 : Int))), (IntKind.wrap .u8 (irem (iquo .i64 p2 (65536 : Int)) (256 : Int))), (IntKind.wrap .u8 (irem (iquo .i64 p2 (256 : Int)) (256 : Int))), (IntKind.wrap .u8 (irem p2 (256 : Int)))] : (List Int)))).bind fun x1 => if ([109, 97, 114, 107] : List Int).length + x1.length ≤ lim then ((cabalref01_Sum k (([109, 97, 114, 107] : List Int) ++ x1)).bind fun x2 => (cut? x2 (0 : Int) (8 : Int)).bind fun x3 => if (([109, 97, 114, 107] : List Int) ++ x1).length + x3.length ≤ lim then ((cabalref13_filled k ((([109, 97, 114, 107] : List Int) ++ x1) ++ x3) (64 : Int)).bind fun x4 => some x4) else none) else none
def cabalref12_Disk_Has (k : Nat) (p1 : cabalref12_Disk) (p2 : Int) : Option Bool :=
  (some ((if (decide (p2 ≥ (0 : Int))) then (decide (p2 < (p1.Firm.length : Int))) else false))).bind fun x1 => some x1
def cabalref12_Disk_burn.j1 (k : Nat) (p1 : cabalref12_Disk) (y1 : Int) : Option (Bool × cabalref12_Disk) :=
  some (true, (⟨p1.Firm, p1.At, p1.Data, y1, p1.Dead⟩ : cabalref12_Disk))
def cabalref12_Disk_burn (k : Nat) (p1 : cabalref12_Disk) : Option (Bool × cabalref12_Disk) :=
  if (p1.Fuse == (0 : Int)) = true then (some (false, (⟨p1.Firm, p1.At, p1.Data, p1.Fuse, true⟩ : cabalref12_Disk))) else (if (decide (p1.Fuse > (0 : Int))) = true then ((cabalref12_Disk_burn.j1 k p1) (isub .i64 p1.Fuse (1 : Int))) else ((cabalref12_Disk_burn.j1 k p1) p1.Fuse))
def cabalref12_Disk_Write (k : Nat) (p1 : cabalref12_Disk) (p2 : Int) (p3 : (List Int)) : Option (Int × cabalref12_Disk) :=
  (cabalref12_Disk_Has k p1 p2).bind fun x1 => if (if (!x1) then true else ((p3.length : Int) != (256 : Int))) = true then (some ((1 : Int), p1)) else (if p1.Dead = true then (some ((7 : Int), p1)) else (if p1.At.length + ([p2] : (List Int)).length ≤ lim then (if p1.Data.length + ([p3] : (List (List Int))).length ≤ lim then ((cabalref12_Disk_burn k (⟨p1.Firm, (p1.At ++ ([p2] : (List Int))), (p1.Data ++ ([p3] : (List (List Int)))), p1.Fuse, p1.Dead⟩ : cabalref12_Disk)).bind fun x2 => if (!x2.1) = true then (some ((7 : Int), x2.2)) else (some ((0 : Int), x2.2))) else none) else none))
def cabalref12_Disk_settle (k : Nat) (p1 : cabalref12_Disk) (p2 : Int) (p3 : Int) : Option cabalref12_Disk :=
  if (0 ≤ p2 ∧ p2 < p1.At.length) then ((at? p1.At p2).bind fun x1 => if (0 ≤ p2 ∧ p2 < p1.Data.length) then ((at? p1.Data p2).bind fun x2 => (cut? x2 (0 : Int) p3).bind fun x3 => if (0 ≤ x1 ∧ x1 < p1.Firm.length) then ((at? p1.Firm x1).bind fun x4 => (cut? x4 p3 (x4.length : Int)).bind fun x5 => if x3.length + x5.length ≤ lim then (if (0 ≤ x1 ∧ x1 < p1.Firm.length) then ((set? p1.Firm x1 (x3 ++ x5)).bind fun x6 => some (⟨x6, p1.At, p1.Data, p1.Fuse, p1.Dead⟩ : cabalref12_Disk)) else none) else none) else none) else none) else none
def cabalref12_Disk_clear (k : Nat) (p1 : cabalref12_Disk) : Option cabalref12_Disk :=
  some (⟨p1.Firm, ([] : (List Int)), ([] : (List (List Int))), p1.Fuse, p1.Dead⟩ : cabalref12_Disk)
def cabalref12_Disk_Sync.j1 (k : Nat) (y1 : Int) (y2 : Bool) (y3 : (List (List Int))) (y4 : (List Int)) (y5 : (List (List Int))) : Option (Int × cabalref12_Disk) :=
  (cabalref12_Disk_clear k (⟨y3, y4, y5, y1, y2⟩ : cabalref12_Disk)).bind fun x2 => some ((0 : Int), x2)
def cabalref12_Disk_Sync.l1 (k : Nat) : Nat → Int → Int → Bool → (List (List Int)) → (List Int) → (List (List Int)) → Option (Int × cabalref12_Disk)
  | 0, _, _, _, _, _, _ => none
  | n + 1, y6, y7, y8, y9, y10, y11 =>
    if (decide (y6 < (y10.length : Int))) = true then ((cabalref12_Disk_settle k (⟨y9, y10, y11, y7, y8⟩ : cabalref12_Disk) y6 (256 : Int)).bind fun x3 => (cabalref12_Disk_Sync.l1 k n) (iadd .i64 y6 (1 : Int)) x3.Fuse x3.Dead x3.Firm x3.At x3.Data) else ((cabalref12_Disk_Sync.j1 k) y7 y8 y9 y10 y11)
def cabalref12_Disk_Sync (k : Nat) (p1 : cabalref12_Disk) : Option (Int × cabalref12_Disk) :=
  (if (p1.Dead == false) = true then cabalref12_Disk_burn k p1 else some (false, p1)).bind fun x1 => if (if p1.Dead then true else (!x1.1)) = true then (some ((7 : Int), x1.2)) else (cabalref12_Disk_Sync.l1 k k (0 : Int) x1.2.Fuse x1.2.Dead x1.2.Firm x1.2.At x1.2.Data)
def caballaw13_lay.j1 (k : Nat) (p2 : cabalref12_Disk) (p3 : Int) (p1 : disk_Disk) (y1 : (List Int)) : Option (disk_Disk × cabalref12_Disk) :=
  (cabalref12_Disk_Has k p2 p3).bind fun x1 => if (!x1) = true then (some (p1, p2)) else ((disk_Disk_Write k p1 p3 y1).bind fun x2 => (disk_Disk_Sync k x2.2).bind fun x3 => (cabalref12_Disk_Write k p2 p3 y1).bind fun x4 => (cabalref12_Disk_Sync k x4.2).bind fun x5 => some (x3.2, x5.2))
def caballaw13_lay.l1 (k : Nat) (p2 : cabalref12_Disk) (p3 : Int) (p1 : disk_Disk) : Nat → (List Int) → Option (disk_Disk × cabalref12_Disk)
  | 0, _ => none
  | n + 1, y2 =>
    if (decide ((y2.length : Int) < (256 : Int))) = true then (if y2.length + ([0] : List Int).length ≤ lim then ((caballaw13_lay.l1 k p2 p3 p1 n) (y2 ++ ([0] : List Int))) else none) else ((caballaw13_lay.j1 k p2 p3 p1) y2)
def caballaw13_lay (k : Nat) (p1 : disk_Disk) (p2 : cabalref12_Disk) (p3 : Int) (p4 : (List Int)) : Option (disk_Disk × cabalref12_Disk) :=
  caballaw13_lay.l1 k p2 p3 p1 k p4
def cabalref13_Half (k : Nat) (p1 : cabalref12_Disk) : Option Int :=
  some (iquo .i64 (isub .i64 (p1.Firm.length : Int) (1 : Int)) (2 : Int))
def cabalref12_Disk_Read.j1 (k : Nat) (p1 : cabalref12_Disk) (p2 : Int) : Option (List Int) :=
  (at? p1.Firm p2).bind fun x1 => some x1
def cabalref12_Disk_Read.l1 (k : Nat) (p1 : cabalref12_Disk) (p2 : Int) : Nat → Int → Option (List Int)
  | 0, _ => none
  | n + 1, y1 =>
    if (decide (y1 ≥ (0 : Int))) = true then ((at? p1.At y1).bind fun x2 => if (x2 == p2) = true then ((at? p1.Data y1).bind fun x3 => some x3) else ((cabalref12_Disk_Read.l1 k p1 p2 n) (isub .i64 y1 (1 : Int)))) else ((cabalref12_Disk_Read.j1 k p1 p2))
def cabalref12_Disk_Read (k : Nat) (p1 : cabalref12_Disk) (p2 : Int) : Option (List Int) :=
  cabalref12_Disk_Read.l1 k p1 p2 k (isub .i64 (p1.At.length : Int) (1 : Int))
def cabalref10_Reader_Number.j1 (k : Nat) (p1 : cabalref10_Reader) : Option (Int × cabalref10_Reader) :=
  some ((0 : Int), { p1 with Err := (3 : Int) })
def cabalref10_Reader_Number.l1 (k : Nat) (p1 : cabalref10_Reader) : Nat → Int → Int → Option (Int × cabalref10_Reader)
  | 0, _, _ => none
  | n + 1, y1, y2 =>
    if (decide (y2 < (p1.S.length : Int))) = true then ((at? p1.S y2).bind fun x1 => (some ((iadd .u64 (imul .u64 y1 (128 : Int)) (IntKind.wrap .u64 (irem x1 (128 : Int)))))).bind fun x2 => (some ((if (if (y2 == (0 : Int)) then (x1 == (128 : Int)) else false) then true else (decide (x2 > (4294967295 : Int)))))).bind fun x3 => (some ((if x3 then true else (if (y2 == (4 : Int)) then (decide (x1 > (127 : Int))) else false)))).bind fun x4 => if x4 = true then (some ((0 : Int), { p1 with Err := (4 : Int) })) else (if (decide (x1 < (128 : Int))) = true then ((cut? p1.S (iadd .i64 y2 (1 : Int)) (p1.S.length : Int)).bind fun x5 => some ((IntKind.wrap .u32 x2), { p1 with S := x5 })) else ((cabalref10_Reader_Number.l1 k p1 n) x2 (iadd .i64 y2 (1 : Int))))) else ((cabalref10_Reader_Number.j1 k p1))
def cabalref10_Reader_Number (k : Nat) (p1 : cabalref10_Reader) : Option (Int × cabalref10_Reader) :=
  if (p1.Err != (0 : Int)) = true then (some ((0 : Int), p1)) else (cabalref10_Reader_Number.l1 k p1 k (0 : Int) (0 : Int))
def cabalref10_Reader_count.j2 (k : Nat) (x1 : (Int × cabalref10_Reader)) (y2 : cabalref10_Reader) : Option (Int × cabalref10_Reader) :=
  if (y2.Err != (0 : Int)) = true then (some ((0 : Int), y2)) else (some ((IntKind.wrap .i64 x1.1), y2))
def cabalref10_Reader_count.j1 (k : Nat) (x1 : (Int × cabalref10_Reader)) (y1 : Int) : Option (Int × cabalref10_Reader) :=
  (some ((if (x1.2.Err == (0 : Int)) then (decide ((IntKind.wrap .u64 x1.1) > (IntKind.wrap .u64 y1))) else false))).bind fun x2 => if x2 = true then ((cabalref10_Reader_count.j2 k x1) ({ x1.2 with Err := (5 : Int) })) else ((cabalref10_Reader_count.j2 k x1) x1.2)
def cabalref10_Reader_count (k : Nat) (p1 : cabalref10_Reader) (p2 : Int) : Option (Int × cabalref10_Reader) :=
  (cabalref10_Reader_Number k p1).bind fun x1 => if (decide (p2 < (0 : Int))) = true then ((cabalref10_Reader_count.j1 k x1) (0 : Int)) else ((cabalref10_Reader_count.j1 k x1) p2)
def cabalref10_Reader_stay (k : Nat) (p1 : cabalref10_Reader) (p2 : (List Int)) : Option cabalref10_Reader :=
  if (p1.Err != (0 : Int)) = true then (some ({ p1 with S := p2 })) else (some p1)
def cabalref10_Reader_Text.j1 (k : Nat) (p1 : cabalref10_Reader) (x1 : (Int × cabalref10_Reader)) (y1 : cabalref10_Reader) : Option ((List Int) × cabalref10_Reader) :=
  if (y1.Err != (0 : Int)) = true then ((cabalref10_Reader_stay k y1 p1.S).bind fun x3 => some (([] : List Int), x3)) else ((cut? y1.S (0 : Int) x1.1).bind fun x4 => (cut? y1.S x1.1 (y1.S.length : Int)).bind fun x5 => some (x4, { y1 with S := x5 }))
def cabalref10_Reader_Text (k : Nat) (p1 : cabalref10_Reader) (p2 : Int) : Option ((List Int) × cabalref10_Reader) :=
  (cabalref10_Reader_count k p1 p2).bind fun x1 => (some ((if (x1.2.Err == (0 : Int)) then (decide (x1.1 > (x1.2.S.length : Int))) else false))).bind fun x2 => if x2 = true then ((cabalref10_Reader_Text.j1 k p1 x1) ({ x1.2 with Err := (3 : Int) })) else ((cabalref10_Reader_Text.j1 k p1 x1) x1.2)
def cabalref13_Open.j2 (k : Nat) (p1 : cabalref12_Disk) (x4 : Int) (y2 : cabalref10_Reader) (y3 : (List (List Int))) : Option (Bool × cabalref13_Journal × Int × cabalref12_Disk) :=
  if (y2.Err != (0 : Int)) = true then (some (false, (⟨(), (0 : Int), []⟩ : cabalref13_Journal), (9 : Int), p1)) else (some (true, (⟨(), (IntKind.wrap .i64 x4), y3⟩ : cabalref13_Journal), (0 : Int), p1))
def cabalref13_Open.l1 (k : Nat) (p1 : cabalref12_Disk) (x4 : Int) : Nat → cabalref10_Reader → (List (List Int)) → Option (Bool × cabalref13_Journal × Int × cabalref12_Disk)
  | 0, _, _ => none
  | n + 1, y4, y5 =>
    (some ((if (decide ((y4.S.length : Int) > (0 : Int))) then (y4.Err == (0 : Int)) else false))).bind fun x15 => if x15 = true then ((cabalref10_Reader_Text k y4 (60000 : Int)).bind fun x16 => if y5.length + ([x16.1] : (List (List Int))).length ≤ lim then ((cabalref13_Open.l1 k p1 x4 n) x16.2 (y5 ++ ([x16.1] : (List (List Int))))) else none) else ((cabalref13_Open.j2 k p1 x4) y4 y5)
def cabalref13_Open.j1 (k : Nat) (x10 : Int) (p1 : cabalref12_Disk) (x4 : Int) (y1 : (List Int)) : Option (Bool × cabalref13_Journal × Int × cabalref12_Disk) :=
  (cut? y1 (0 : Int) x10).bind fun x14 => cabalref13_Open.l1 k p1 x4 k (⟨x14, (0 : Int)⟩ : cabalref10_Reader) ([] : (List (List Int)))
def cabalref13_Open.l2 (k : Nat) (p1 : cabalref12_Disk) (x10 : Int) (x4 : Int) : Nat → (List Int) → Int → Option (Bool × cabalref13_Journal × Int × cabalref12_Disk)
  | 0, _, _ => none
  | n + 1, y6, y7 =>
    (cabalref13_Half k p1).bind fun x17 => (some ((if (decide (y7 < x17)) then (decide ((y6.length : Int) < x10)) else false))).bind fun x18 => if x18 = true then ((cabalref13_Half k p1).bind fun x19 => (some ((iadd .i64 (iadd .i64 (1 : Int) (imul .i64 (IntKind.wrap .i64 x4) x19)) y7))).bind fun x20 => (cabalref12_Disk_Read k p1 x20).bind fun x21 => if y6.length + x21.length ≤ lim then ((cabalref13_Open.l2 k p1 x10 x4 n) (y6 ++ x21) (iadd .i64 y7 (1 : Int))) else none) else ((cabalref13_Open.j1 k x10 p1 x4) y6)
def cabalref13_Open (k : Nat) (p1 : cabalref12_Disk) : Option (Bool × cabalref13_Journal × Int × cabalref12_Disk) :=
  if (decide ((p1.Firm.length : Int) < (3 : Int))) = true then (some (false, (⟨(), (0 : Int), []⟩ : cabalref13_Journal), (1 : Int), p1)) else ((cabalref12_Disk_Read k p1 (0 : Int)).bind fun x1 => (cut? x1 (0 : Int) (64 : Int)).bind fun x2 => (cabalref13_filled k ([] : List Int) (64 : Int)).bind fun x3 => if (decide (x2 = x3)) = true then (some (true, (⟨(), (0 : Int), []⟩ : cabalref13_Journal), (0 : Int), p1)) else ((at? x2 (4 : Int)).bind fun x4 => (at? x2 (5 : Int)).bind fun x5 => (at? x2 (6 : Int)).bind fun x6 => (some ((iadd .i64 (imul .i64 (IntKind.wrap .i64 x5) (16777216 : Int)) (imul .i64 (IntKind.wrap .i64 x6) (65536 : Int))))).bind fun x7 => (at? x2 (7 : Int)).bind fun x8 => (at? x2 (8 : Int)).bind fun x9 => (some ((iadd .i64 (iadd .i64 x7 (imul .i64 (IntKind.wrap .i64 x8) (256 : Int))) (IntKind.wrap .i64 x9)))).bind fun x10 => (if ((decide ((IntKind.wrap .i64 x4) > (1 : Int))) == false) = true then cabalref13_Mark k (IntKind.wrap .i64 x4) x10 else some []).bind fun x11 => (some ((if (decide ((IntKind.wrap .i64 x4) > (1 : Int))) then true else (!decide (x2 = x11))))).bind fun x12 => (if (x12 == false) = true then cabalref13_Half k p1 else some (0 : Int)).bind fun x13 => if (if x12 then true else (decide (x10 > (imul .i64 x13 (256 : Int))))) = true then (some (false, (⟨(), (0 : Int), []⟩ : cabalref13_Journal), (9 : Int), p1)) else (cabalref13_Open.l2 k p1 x10 x4 k ([] : List Int) (0 : Int))))
def cabalref13_Journal_Room (k : Nat) (p1 : cabalref13_Journal) (p2 : cabalref12_Disk) : Option Int :=
  (cabalref13_Half k p2).bind fun x1 => (cabalref13_Bytes k p1.L).bind fun x2 => some (isub .i64 (imul .i64 x1 (256 : Int)) (x2.length : Int))
def journal_Journal_Records_nil (k : Nat) : Option (List (List Int)) :=
  some ([] : (List (List Int)))
def journal_Journal_Room_nil (k : Nat) : Option Int :=
  some (0 : Int)
def journal_Journal_Append_nil (k : Nat) (p1 : (List (List Int))) : Option Int :=
  (wire_Writer_Texts k (⟨([] : (List Int))⟩ : wire_Writer) p1).bind fun x1 => (wire_Writer_String k x1).bind fun x2 => some (7 : Int)
def journal_Journal_Snap_nil (k : Nat) (p1 : (List Int)) : Option Int :=
  (wire_Writer_Texts k (⟨([] : (List Int))⟩ : wire_Writer) ([p1] : (List (List Int)))).bind fun x1 => some (7 : Int)
def caballaw13_JournalOpens.j5 (k : Nat) (y13 : Int) (y14 : Bool) (y15 : Int) (y16 : Bool) (y17 : (List (List Int))) (y18 : (List disk_write)) (y19 : (List (List Int))) (y20 : (List Int)) (y21 : (List (List Int))) : Option Bool :=
  (journal_Open k (⟨y17, y18, y13, y14⟩ : disk_Disk)).bind fun x9 => if x9.1 = true then ((cabalref13_Open k (⟨y19, y20, y21, y15, y16⟩ : cabalref12_Disk)).bind fun x10 => if x10.1 = true then (if (if (x9.2.2.1 != x10.2.2.1) then true else false) = true then (some false) else ((caballaw13_alive k).bind fun x11 => (if (x11 == true) = true then journal_Journal_Records k (⟨(), x9.2.1.area, x9.2.1.bytes, x9.2.1.l⟩ : journal_Journal) x9.2.2.2 else some []).bind fun x12 => (if (x11 == true) = true then cabalref13_Same k x12 x10.2.1.L else some false).bind fun x13 => (if ((if x11 then x13 else false) == true) = true then journal_Journal_Room k (⟨(), x9.2.1.area, x9.2.1.bytes, x9.2.1.l⟩ : journal_Journal) x9.2.2.2 else some (0 : Int)).bind fun x14 => (if ((if x11 then x13 else false) == true) = true then cabalref13_Journal_Room k (⟨(), x10.2.1.Area, x10.2.1.L⟩ : cabalref13_Journal) x10.2.2.2 else some (0 : Int)).bind fun x15 => some (if (if x11 then x13 else false) then (x14 == x15) else false))) else (some false)) else ((cabalref13_Open k (⟨y19, y20, y21, y15, y16⟩ : cabalref12_Disk)).bind fun x16 => if x16.1 = true then (some false) else (if (if (x9.2.2.1 != x16.2.2.1) then true else false) = true then (some false) else ((caballaw13_alive k).bind fun x17 => (if (x17 == true) = true then journal_Journal_Records_nil k else some []).bind fun x18 => (if ((if x17 then ((x18.length : Int) == (0 : Int)) else false) == true) = true then journal_Journal_Room_nil k else some (0 : Int)).bind fun x19 => (some ((if (if x17 then ((x18.length : Int) == (0 : Int)) else false) then (x19 == (0 : Int)) else false))).bind fun x20 => (if (x20 == true) = true then journal_Journal_Append_nil k ([([97] : List Int)] : (List (List Int))) else some (0 : Int)).bind fun x21 => (if ((if x20 then (x21 == (7 : Int)) else false) == true) = true then journal_Journal_Snap_nil k ([97] : List Int) else some (0 : Int)).bind fun x22 => (some ((if (if x20 then (x21 == (7 : Int)) else false) then (x22 == (7 : Int)) else false))).bind fun x23 => some x23)))
def caballaw13_JournalOpens.j4 (k : Nat) (p7 : Int) (p6 : Int) (y4 : Int) (y5 : Bool) (y6 : Int) (y7 : Bool) (y8 : (List (List Int))) (y9 : (List disk_write)) (y10 : (List (List Int))) (y11 : (List Int)) (y12 : (List (List Int))) : Option Bool :=
  if (p7 != (0 : Int)) = true then (if (IntKind.wrap .u64 (imul .i64 (y10.length : Int) (256 : Int))) ≠ 0 then ((some ((irem (IntKind.wrap .u64 p6) (IntKind.wrap .u64 (imul .i64 (y10.length : Int) (256 : Int)))))).bind fun x24 => if (0 ≤ (iquo .i64 (IntKind.wrap .i64 x24) (256 : Int)) ∧ (iquo .i64 (IntKind.wrap .i64 x24) (256 : Int)) < y10.length) then ((at? y10 (iquo .i64 (IntKind.wrap .i64 x24) (256 : Int))).bind fun x25 => if (0 ≤ (irem (IntKind.wrap .i64 x24) (256 : Int)) ∧ (irem (IntKind.wrap .i64 x24) (256 : Int)) < x25.length) then ((at? x25 (irem (IntKind.wrap .i64 x24) (256 : Int))).bind fun x26 => if (0 ≤ (irem (IntKind.wrap .i64 x24) (256 : Int)) ∧ (irem (IntKind.wrap .i64 x24) (256 : Int)) < x25.length) then ((set? x25 (irem (IntKind.wrap .i64 x24) (256 : Int)) (ixor .u8 x26 p7)).bind fun x27 => (caballaw13_lay k (⟨y8, y9, y4, y5⟩ : disk_Disk) (⟨y10, y11, y12, y6, y7⟩ : cabalref12_Disk) (iquo .i64 (IntKind.wrap .i64 x24) (256 : Int)) x27).bind fun x28 => (caballaw13_JournalOpens.j5 k) x28.1.fuse x28.1.dead x28.2.Fuse x28.2.Dead x28.1.firm x28.1.loose x28.2.Firm x28.2.At x28.2.Data) else none) else none) else none) else none) else ((caballaw13_JournalOpens.j5 k) y4 y5 y6 y7 y8 y9 y10 y11 y12)
def caballaw13_JournalOpens.j6 (k : Nat) (y29 : (List (List Int))) (y30 : (List Int)) (y31 : (List (List Int))) (y25 : Int) (y26 : Bool) (x6 : (List Int)) (y22 : Int) (y27 : (List (List Int))) (y28 : (List disk_write)) (y23 : Int) (y24 : Bool) (y1 : Int) (L_l1 : Int → Int → Bool → Int → Bool → (List (List Int)) → (List disk_write) → (List (List Int)) → (List Int) → (List (List Int)) → Option Bool) (y32 : Int) : Option Bool :=
  (cabalref13_Half k (⟨y29, y30, y31, y25, y26⟩ : cabalref12_Disk)).bind fun x30 => (cut? x6 (imul .i64 y22 (256 : Int)) y32).bind fun x31 => (caballaw13_lay k (⟨y27, y28, y23, y24⟩ : disk_Disk) (⟨y29, y30, y31, y25, y26⟩ : cabalref12_Disk) (iadd .i64 (iadd .i64 (1 : Int) (imul .i64 y1 x30)) y22) x31).bind fun x32 => L_l1 (iadd .i64 y22 (1 : Int)) x32.1.fuse x32.1.dead x32.2.Fuse x32.2.Dead x32.1.firm x32.1.loose x32.2.Firm x32.2.At x32.2.Data
def caballaw13_JournalOpens.l1 (k : Nat) (x6 : (List Int)) (y1 : Int) (p7 : Int) (p6 : Int) : Nat → Int → Int → Bool → Int → Bool → (List (List Int)) → (List disk_write) → (List (List Int)) → (List Int) → (List (List Int)) → Option Bool
  | 0, _, _, _, _, _, _, _, _, _, _ => none
  | n + 1, y22, y23, y24, y25, y26, y27, y28, y29, y30, y31 =>
    if (decide ((imul .i64 y22 (256 : Int)) < (x6.length : Int))) = true then ((some ((decide ((iadd .i64 (imul .i64 y22 (256 : Int)) (256 : Int)) > (x6.length : Int))))).bind fun x29 => if x29 = true then ((caballaw13_JournalOpens.j6 k y29 y30 y31 y25 y26 x6 y22 y27 y28 y23 y24 y1 (caballaw13_JournalOpens.l1 k x6 y1 p7 p6 n)) (x6.length : Int)) else ((caballaw13_JournalOpens.j6 k y29 y30 y31 y25 y26 x6 y22 y27 y28 y23 y24 y1 (caballaw13_JournalOpens.l1 k x6 y1 p7 p6 n)) (iadd .i64 (imul .i64 y22 (256 : Int)) (256 : Int)))) else ((caballaw13_JournalOpens.j4 k p7 p6) y23 y24 y25 y26 y27 y28 y29 y30 y31)
def caballaw13_JournalOpens.j3 (k : Nat) (x4 : disk_Disk) (x5 : cabalref12_Disk) (x6 : (List Int)) (y1 : Int) (p7 : Int) (p6 : Int) (y3 : (List Int)) : Option Bool :=
  (caballaw13_lay k x4 x5 (0 : Int) y3).bind fun x8 => caballaw13_JournalOpens.l1 k x6 y1 p7 p6 k (0 : Int) x8.1.fuse x8.1.dead x8.2.Fuse x8.2.Dead x8.1.firm x8.1.loose x8.2.Firm x8.2.At x8.2.Data
def caballaw13_JournalOpens.j2 (k : Nat) (p5 : Int) (y1 : Int) (x4 : disk_Disk) (x5 : cabalref12_Disk) (x6 : (List Int)) (p7 : Int) (p6 : Int) (y2 : (List Int)) : Option Bool :=
  (some ((if (decide (p5 ≥ (0 : Int))) then (decide (p5 < (5000 : Int))) else false))).bind fun x7 => if x7 = true then ((cabalref13_Mark k y1 p5).bind fun x33 => (caballaw13_JournalOpens.j3 k x4 x5 x6 y1 p7 p6) x33) else ((caballaw13_JournalOpens.j3 k x4 x5 x6 y1 p7 p6) y2)
def caballaw13_JournalOpens.j1 (k : Nat) (p3 : (List Int)) (x6 : (List Int)) (p5 : Int) (x4 : disk_Disk) (x5 : cabalref12_Disk) (p7 : Int) (p6 : Int) (y1 : Int) : Option Bool :=
  if ((p3.length : Int) == (0 : Int)) = true then ((cabalref13_Mark k y1 (x6.length : Int)).bind fun x34 => (caballaw13_JournalOpens.j2 k p5 y1 x4 x5 x6 p7 p6) x34) else ((caballaw13_JournalOpens.j2 k p5 y1 x4 x5 x6 p7 p6) p3)
def caballaw13_JournalOpens (k : Nat) (p1 : Int) (p2 : (List (List Int))) (p3 : (List Int)) (p4 : Bool) (p5 : Int) (p6 : Int) (p7 : Int) : Option Bool :=
  (caballaw13_alive k).bind fun x1 => if (!x1) = true then (some false) else ((caballaw13_great k p2).bind fun x2 => if (if x2 then true else (decide ((p3.length : Int) > (64 : Int)))) = true then ((caballaw13_alive k).bind fun x3 => some x3) else ((disk_New k (IntKind.wrap .i64 (irem (IntKind.wrap .u64 p1) (9 : Int)))).bind fun x4 => (cabalref12_New k (IntKind.wrap .i64 (irem (IntKind.wrap .u64 p1) (9 : Int)))).bind fun x5 => (cabalref13_Bytes k p2).bind fun x6 => if p4 = true then ((caballaw13_JournalOpens.j1 k p3 x6 p5 x4 x5 p7 p6) (1 : Int)) else ((caballaw13_JournalOpens.j1 k p3 x6 p5 x4 x5 p7 p6) (0 : Int))))
def caballaw13_small (k : Nat) (p1 : Int) : Option Int :=
  (some ((iadd .i64 (3 : Int) (IntKind.wrap .i64 (irem (IntKind.wrap .u64 p1) (12 : Int)))))).bind fun x1 => some x1
def cabalref13_long.j1 (k : Nat) : Option Bool :=
  some false
def cabalref13_long.l1 (k : Nat) (p1 : (List (List Int))) : Nat → Int → Option Bool
  | 0, _ => none
  | n + 1, y1 =>
    if (decide (y1 < (p1.length : Int))) = true then ((at? p1 y1).bind fun x1 => if (decide ((x1.length : Int) > (60000 : Int))) = true then (some true) else ((cabalref13_long.l1 k p1 n) (iadd .i64 y1 (1 : Int)))) else ((cabalref13_long.j1 k))
def cabalref13_long (k : Nat) (p1 : (List (List Int))) : Option Bool :=
  cabalref13_long.l1 k p1 k (0 : Int)
def cabalref13_Journal_commit.j1 (k : Nat) (p1 : cabalref13_Journal) (p2 : Int) (p4 : (List Int)) (y1 : Int) (y2 : Bool) (y3 : (List (List Int))) (y4 : (List Int)) (y5 : (List (List Int))) : Option (Int × cabalref13_Journal × cabalref12_Disk) :=
  (cabalref12_Disk_Sync k (⟨y3, y4, y5, y1, y2⟩ : cabalref12_Disk)).bind fun x1 => if (x1.1 != (0 : Int)) = true then (some ((7 : Int), (⟨(), p1.Area, p1.L⟩ : cabalref13_Journal), x1.2)) else ((cabalref13_Mark k p2 (p4.length : Int)).bind fun x2 => (cabalref13_filled k x2 (256 : Int)).bind fun x3 => (cabalref12_Disk_Write k x1.2 (0 : Int) x3).bind fun x4 => if (x4.1 != (0 : Int)) = true then (some ((7 : Int), (⟨(), p1.Area, p1.L⟩ : cabalref13_Journal), x4.2)) else ((cabalref12_Disk_Sync k x4.2).bind fun x5 => some (x5.1, (⟨(), p1.Area, p1.L⟩ : cabalref13_Journal), x5.2)))
def cabalref13_Journal_commit.j2 (k : Nat) (y9 : (List (List Int))) (y10 : (List Int)) (y11 : (List (List Int))) (y7 : Int) (y8 : Bool) (p2 : Int) (y6 : Int) (p4 : (List Int)) (p1 : cabalref13_Journal) (L_l1 : Int → Int → Bool → (List (List Int)) → (List Int) → (List (List Int)) → Option (Int × cabalref13_Journal × cabalref12_Disk)) (y12 : Int) : Option (Int × cabalref13_Journal × cabalref12_Disk) :=
  (cabalref13_Half k (⟨y9, y10, y11, y7, y8⟩ : cabalref12_Disk)).bind fun x6 => (some ((iadd .i64 (iadd .i64 (1 : Int) (imul .i64 p2 x6)) (iquo .i64 y6 (256 : Int))))).bind fun x7 => (cut? p4 y6 y12).bind fun x8 => (cabalref13_filled k x8 (256 : Int)).bind fun x9 => (cabalref12_Disk_Write k (⟨y9, y10, y11, y7, y8⟩ : cabalref12_Disk) x7 x9).bind fun x10 => if (x10.1 != (0 : Int)) = true then (some ((7 : Int), (⟨(), p1.Area, p1.L⟩ : cabalref13_Journal), x10.2)) else (L_l1 (iadd .i64 y6 (256 : Int)) x10.2.Fuse x10.2.Dead x10.2.Firm x10.2.At x10.2.Data)
def cabalref13_Journal_commit.l1 (k : Nat) (p4 : (List Int)) (p2 : Int) (p1 : cabalref13_Journal) : Nat → Int → Int → Bool → (List (List Int)) → (List Int) → (List (List Int)) → Option (Int × cabalref13_Journal × cabalref12_Disk)
  | 0, _, _, _, _, _, _ => none
  | n + 1, y6, y7, y8, y9, y10, y11 =>
    if (decide (y6 < (p4.length : Int))) = true then (if (decide ((iadd .i64 y6 (256 : Int)) > (p4.length : Int))) = true then ((cabalref13_Journal_commit.j2 k y9 y10 y11 y7 y8 p2 y6 p4 p1 (cabalref13_Journal_commit.l1 k p4 p2 p1 n)) (p4.length : Int)) else ((cabalref13_Journal_commit.j2 k y9 y10 y11 y7 y8 p2 y6 p4 p1 (cabalref13_Journal_commit.l1 k p4 p2 p1 n)) (iadd .i64 y6 (256 : Int)))) else ((cabalref13_Journal_commit.j1 k p1 p2 p4) y7 y8 y9 y10 y11)
def cabalref13_Journal_commit (k : Nat) (p1 : cabalref13_Journal) (p2 : Int) (p3 : Int) (p4 : (List Int)) (p5 : cabalref12_Disk) : Option (Int × cabalref13_Journal × cabalref12_Disk) :=
  cabalref13_Journal_commit.l1 k p4 p2 p1 k (imul .i64 (iquo .i64 p3 (256 : Int)) (256 : Int)) p5.Fuse p5.Dead p5.Firm p5.At p5.Data
def cabalref13_Journal_Append.j1 (k : Nat) (x6 : (Int × cabalref13_Journal × cabalref12_Disk)) (y1 : (List (List Int))) : Option (Int × cabalref13_Journal × cabalref12_Disk) :=
  some (x6.1, (⟨(), x6.2.1.Area, y1⟩ : cabalref13_Journal), x6.2.2)
def cabalref13_Journal_Append (k : Nat) (p1 : cabalref13_Journal) (p2 : (List (List Int))) (p3 : cabalref12_Disk) : Option (Int × cabalref13_Journal × cabalref12_Disk) :=
  (cabalref13_long k p2).bind fun x1 => if x1 = true then (some ((1 : Int), p1, p3)) else ((cabalref13_Bytes k p2).bind fun x2 => (cabalref13_Journal_Room k p1 p3).bind fun x3 => if (decide ((x2.length : Int) > x3)) = true then (some ((8 : Int), p1, p3)) else (if ((p2.length : Int) == (0 : Int)) = true then (some ((0 : Int), p1, p3)) else ((cabalref13_Bytes k p1.L).bind fun x4 => (cabalref13_Bytes k p2).bind fun x5 => if x4.length + x5.length ≤ lim then ((cabalref13_Journal_commit k p1 p1.Area (x4.length : Int) (x4 ++ x5) p3).bind fun x6 => if (x6.1 == (0 : Int)) = true then (if ([] : (List (List Int))).length + x6.2.1.L.length ≤ lim then (if (([] : (List (List Int))) ++ x6.2.1.L).length + p2.length ≤ lim then ((cabalref13_Journal_Append.j1 k x6) ((([] : (List (List Int))) ++ x6.2.1.L) ++ p2)) else none) else none) else ((cabalref13_Journal_Append.j1 k x6) x6.2.1.L)) else none)))
def journal_Journal_Snap (k : Nat) (p1 : journal_Journal) (p2 : (List Int)) (p3 : disk_Disk) : Option (Int × journal_Journal × disk_Disk) :=
  (wire_Writer_Texts k (⟨([] : (List Int))⟩ : wire_Writer) ([p2] : (List (List Int)))).bind fun x1 => if (decide ((p2.length : Int) > (60000 : Int))) = true then (some ((1 : Int), p1, p3)) else ((wire_Writer_String k x1).bind fun x2 => (journal_Journal_size k p1 p3).bind fun x3 => if (decide ((x2.length : Int) > x3)) = true then (some ((8 : Int), p1, p3)) else ((wire_Writer_String k x1).bind fun x4 => (journal_Journal_commit k p1 (isub .i64 (1 : Int) p1.area) (0 : Int) x4 p3).bind fun x5 => if (x5.1 != (0 : Int)) = true then (some (x5.1, (⟨(), x5.2.1.area, x5.2.1.bytes, x5.2.1.l⟩ : journal_Journal), x5.2.2)) else ((wire_Writer_String k x1).bind fun x6 => some ((0 : Int), (⟨(), (isub .i64 (1 : Int) x5.2.1.area), x6, ([p2] : (List (List Int)))⟩ : journal_Journal), x5.2.2))))
def cabalref13_Journal_Snap.j1 (k : Nat) (x3 : (Int × cabalref13_Journal × cabalref12_Disk)) (y1 : Int) (y2 : (List (List Int))) : Option (Int × cabalref13_Journal × cabalref12_Disk) :=
  some (x3.1, (⟨(), y1, y2⟩ : cabalref13_Journal), x3.2.2)
def cabalref13_Journal_Snap (k : Nat) (p1 : cabalref13_Journal) (p2 : (List Int)) (p3 : cabalref12_Disk) : Option (Int × cabalref13_Journal × cabalref12_Disk) :=
  if (decide ((p2.length : Int) > (60000 : Int))) = true then (some ((1 : Int), p1, p3)) else ((cabalref10_Text k p2).bind fun x1 => (cabalref13_Half k p3).bind fun x2 => if (decide ((x1.length : Int) > (imul .i64 x2 (256 : Int)))) = true then (some ((8 : Int), p1, p3)) else ((cabalref13_Journal_commit k p1 (isub .i64 (1 : Int) p1.Area) (0 : Int) x1 p3).bind fun x3 => if (x3.1 == (0 : Int)) = true then ((cabalref13_Journal_Snap.j1 k x3) (isub .i64 (1 : Int) x3.2.1.Area) ([p2] : (List (List Int)))) else ((cabalref13_Journal_Snap.j1 k x3) x3.2.1.Area x3.2.1.L)))
def disk_Disk_Fuse (k : Nat) (p1 : disk_Disk) (p2 : Int) : Option disk_Disk :=
  some (⟨p1.firm, p1.loose, (if (-1 : Int) > p2 then (-1 : Int) else p2), p1.dead⟩ : disk_Disk)
def cabalref12_Disk_Light (k : Nat) (p1 : cabalref12_Disk) (p2 : Int) : Option cabalref12_Disk :=
  if (decide (p2 < (0 : Int))) = true then (some (⟨p1.Firm, p1.At, p1.Data, (-1 : Int), p1.Dead⟩ : cabalref12_Disk)) else (some (⟨p1.Firm, p1.At, p1.Data, p2, p1.Dead⟩ : cabalref12_Disk))
def disk_Disk_Crash_1 (k : Nat) (p1 : Int) (p2 : (List Int)) : Option Int :=
  if (decide (p1 < (p2.length : Int))) = true then ((at? p2 p1).bind fun x1 => some (IntKind.wrap .i64 (irem x1 (5 : Int)))) else (some (0 : Int))
def disk_Disk_settle_disk_Disk_Crash_1.j1 (k : Nat) (p1 : disk_Disk) (y1 : (List (List Int))) : Option disk_Disk :=
  some (⟨y1, ([] : (List disk_write)), p1.fuse, p1.dead⟩ : disk_Disk)
def disk_Disk_settle_disk_Disk_Crash_1.l1 (k : Nat) (p1 : disk_Disk) (p2 : (List Int)) : Nat → Int → (List (List Int)) → Option disk_Disk
  | 0, _, _ => none
  | n + 1, y2, y3 =>
    if (decide (y2 < (p1.loose.length : Int))) = true then (if (0 ≤ y2 ∧ y2 < p1.loose.length) then ((at? p1.loose y2).bind fun x1 => (disk_Disk_Crash_1 k y2 p2).bind fun x2 => if (0 ≤ x1.at_ ∧ x1.at_ < y3.length) then (if (0 ≤ (0 : Int) ∧ (0 : Int) ≤ (imul .i64 x2 (64 : Int)) ∧ (imul .i64 x2 (64 : Int)) ≤ ((256 : Nat) : Int)) then (if (0 ≤ (0 : Int) ∧ (0 : Int) ≤ (imul .i64 x2 (64 : Int)) ∧ (imul .i64 x2 (64 : Int)) ≤ ((256 : Nat) : Int)) then ((cut? x1.data (0 : Int) (imul .i64 x2 (64 : Int))).bind fun x3 => if x3.length ≤ ((imul .i64 x2 (64 : Int)).toNat - (0 : Int).toNat) then ((at? y3 x1.at_).bind fun x4 => (set? y3 x1.at_ (x4.take (0 : Int).toNat ++ x3 ++ x4.drop ((0 : Int).toNat + x3.length))).bind fun x5 => (disk_Disk_settle_disk_Disk_Crash_1.l1 k p1 p2 n) (iadd .i64 y2 (1 : Int)) x5) else none) else none) else none) else none) else none) else ((disk_Disk_settle_disk_Disk_Crash_1.j1 k p1) y3)
def disk_Disk_settle_disk_Disk_Crash_1 (k : Nat) (p1 : disk_Disk) (p2 : (List Int)) : Option disk_Disk :=
  disk_Disk_settle_disk_Disk_Crash_1.l1 k p1 p2 k (0 : Int) p1.firm
def disk_Disk_Crash (k : Nat) (p1 : disk_Disk) (p2 : (List Int)) : Option disk_Disk :=
  (disk_Disk_settle_disk_Disk_Crash_1 k p1 p2).bind fun x1 => some (⟨x1.firm, x1.loose, (-1 : Int), false⟩ : disk_Disk)
def cabalref12_Disk_Crash.j1 (k : Nat) (y1 : Int) (y2 : Bool) (y3 : (List (List Int))) (y4 : (List Int)) (y5 : (List (List Int))) : Option cabalref12_Disk :=
  (cabalref12_Disk_clear k (⟨y3, y4, y5, y1, y2⟩ : cabalref12_Disk)).bind fun x1 => some (⟨x1.Firm, x1.At, x1.Data, (-1 : Int), false⟩ : cabalref12_Disk)
def cabalref12_Disk_Crash.j2 (k : Nat) (y6 : Int) (L_l1 : Int → Int → Bool → (List (List Int)) → (List Int) → (List (List Int)) → Option cabalref12_Disk) (y12 : Int) (y13 : Bool) (y14 : (List (List Int))) (y15 : (List Int)) (y16 : (List (List Int))) : Option cabalref12_Disk :=
  L_l1 (iadd .i64 y6 (1 : Int)) y12 y13 y14 y15 y16
def cabalref12_Disk_Crash.l1 (k : Nat) (p2 : (List Int)) : Nat → Int → Int → Bool → (List (List Int)) → (List Int) → (List (List Int)) → Option cabalref12_Disk
  | 0, _, _, _, _, _, _ => none
  | n + 1, y6, y7, y8, y9, y10, y11 =>
    if (decide (y6 < (y10.length : Int))) = true then (if (decide (y6 < (p2.length : Int))) = true then ((at? p2 y6).bind fun x2 => (cabalref12_Disk_settle k (⟨y9, y10, y11, y7, y8⟩ : cabalref12_Disk) y6 (imul .i64 (64 : Int) (IntKind.wrap .i64 (irem x2 (5 : Int))))).bind fun x3 => (cabalref12_Disk_Crash.j2 k y6 (cabalref12_Disk_Crash.l1 k p2 n)) x3.Fuse x3.Dead x3.Firm x3.At x3.Data) else ((cabalref12_Disk_Crash.j2 k y6 (cabalref12_Disk_Crash.l1 k p2 n)) y7 y8 y9 y10 y11)) else ((cabalref12_Disk_Crash.j1 k) y7 y8 y9 y10 y11)
def cabalref12_Disk_Crash (k : Nat) (p1 : cabalref12_Disk) (p2 : (List Int)) : Option cabalref12_Disk :=
  cabalref12_Disk_Crash.l1 k p2 k (0 : Int) p1.Fuse p1.Dead p1.Firm p1.At p1.Data
def disk_Disk_Settled (k : Nat) (p1 : disk_Disk) (p2 : Int) : Option (List Int) :=
  (disk_Disk_has k p1 p2).bind fun x1 => if (!x1) = true then (some ([] : List Int)) else ((at? p1.firm p2).bind fun x2 => (cut? x2 (0 : Int) (256 : Int)).bind fun x3 => some x3)
def caballaw13_JournalPlays.j1 (k : Nat) : Option Bool :=
  (caballaw13_alive k).bind fun x9 => some x9
def caballaw13_JournalPlays.j2 (k : Nat) (y1 : Int) (L_l1 : Int → Int → Bool → Int → Bool → Int → (List Int) → (List (List Int)) → Int → (List (List Int)) → (List (List Int)) → (List disk_write) → (List (List Int)) → (List Int) → (List (List Int)) → Option Bool) (y16 : Int) (y17 : Bool) (y18 : Int) (y19 : Bool) (y20 : Int) (y21 : (List Int)) (y22 : (List (List Int))) (y23 : Int) (y24 : (List (List Int))) (y25 : (List (List Int))) (y26 : (List disk_write)) (y27 : (List (List Int))) (y28 : (List Int)) (y29 : (List (List Int))) : Option Bool :=
  L_l1 (iadd .i64 y1 (1 : Int)) y16 y17 y18 y19 y20 y21 y22 y23 y24 y25 y26 y27 y28 y29
def caballaw13_JournalPlays.l2 (k : Nat) (y43 : (List (List Int))) (y41 : (List (List Int))) (y42 : (List disk_write)) (y32 : Int) (y33 : Bool) (y1 : Int) (y34 : Int) (y35 : Bool) (y36 : Int) (y37 : (List Int)) (y38 : (List (List Int))) (y39 : Int) (y40 : (List (List Int))) (y44 : (List Int)) (y45 : (List (List Int))) (L_l1 : Int → Int → Bool → Int → Bool → Int → (List Int) → (List (List Int)) → Int → (List (List Int)) → (List (List Int)) → (List disk_write) → (List (List Int)) → (List Int) → (List (List Int)) → Option Bool) : Nat → Int → Option Bool
  | 0, _ => none
  | n + 1, y46 =>
    if (decide (y46 < (y43.length : Int))) = true then ((disk_Disk_Settled k (⟨y41, y42, y32, y33⟩ : disk_Disk) y46).bind fun x17 => if (0 ≤ y46 ∧ y46 < y43.length) then ((at? y43 y46).bind fun x18 => if (!decide (x17 = x18)) = true then (some false) else ((caballaw13_JournalPlays.l2 k y43 y41 y42 y32 y33 y1 y34 y35 y36 y37 y38 y39 y40 y44 y45 L_l1 n) (iadd .i64 y46 (1 : Int)))) else none) else ((caballaw13_JournalPlays.j2 k y1 L_l1) y32 y33 y34 y35 y36 y37 y38 y39 y40 y41 y42 y43 y44 y45)
def caballaw13_JournalPlays.j4 (k : Nat) (y1 : Int) (L_l1 : Int → Int → Bool → Int → Bool → Int → (List Int) → (List (List Int)) → Int → (List (List Int)) → (List (List Int)) → (List disk_write) → (List (List Int)) → (List Int) → (List (List Int)) → Option Bool) (y31 : Bool) (y32 : Int) (y33 : Bool) (y34 : Int) (y35 : Bool) (y36 : Int) (y37 : (List Int)) (y38 : (List (List Int))) (y39 : Int) (y40 : (List (List Int))) (y41 : (List (List Int))) (y42 : (List disk_write)) (y43 : (List (List Int))) (y44 : (List Int)) (y45 : (List (List Int))) : Option Bool :=
  (if ((!y31) == false) = true then journal_Journal_Records k (⟨(), y36, y37, y38⟩ : journal_Journal) (⟨y41, y42, y32, y33⟩ : disk_Disk) else some []).bind fun x13 => (if ((!y31) == false) = true then cabalref13_Same k x13 y40 else some false).bind fun x14 => (if ((if (!y31) then true else (!x14)) == false) = true then journal_Journal_Room k (⟨(), y36, y37, y38⟩ : journal_Journal) (⟨y41, y42, y32, y33⟩ : disk_Disk) else some (0 : Int)).bind fun x15 => (if ((if (!y31) then true else (!x14)) == false) = true then cabalref13_Journal_Room k (⟨(), y39, y40⟩ : cabalref13_Journal) (⟨y43, y44, y45, y34, y35⟩ : cabalref12_Disk) else some (0 : Int)).bind fun x16 => if (if (if (!y31) then true else (!x14)) then true else (x15 != x16)) = true then (some false) else (caballaw13_JournalPlays.l2 k y43 y41 y42 y32 y33 y1 y34 y35 y36 y37 y38 y39 y40 y44 y45 L_l1 k (0 : Int))
def caballaw13_JournalPlays.j3 (k : Nat) (x11 : caballaw13_Act) (y6 : Int) (y7 : (List Int)) (y8 : (List (List Int))) (y11 : (List (List Int))) (y12 : (List disk_write)) (y2 : Int) (y3 : Bool) (y9 : Int) (y10 : (List (List Int))) (y13 : (List (List Int))) (y14 : (List Int)) (y15 : (List (List Int))) (y4 : Int) (y5 : Bool) (y1 : Int) (L_l1 : Int → Int → Bool → Int → Bool → Int → (List Int) → (List (List Int)) → Int → (List (List Int)) → (List (List Int)) → (List disk_write) → (List (List Int)) → (List Int) → (List (List Int)) → Option Bool) (y30 : (List Int)) : Option Bool :=
  if ((irem x11.Kind (4 : Int)) == (0 : Int)) = true then ((journal_Journal_Append k (⟨(), y6, y7, y8⟩ : journal_Journal) x11.L (⟨y11, y12, y2, y3⟩ : disk_Disk)).bind fun x19 => (cabalref13_Journal_Append k (⟨(), y9, y10⟩ : cabalref13_Journal) x11.L (⟨y13, y14, y15, y4, y5⟩ : cabalref12_Disk)).bind fun x20 => (caballaw13_JournalPlays.j4 k y1 L_l1) (x19.1 == x20.1) x19.2.2.fuse x19.2.2.dead x20.2.2.Fuse x20.2.2.Dead x19.2.1.area x19.2.1.bytes x19.2.1.l x20.2.1.Area x20.2.1.L x19.2.2.firm x19.2.2.loose x20.2.2.Firm x20.2.2.At x20.2.2.Data) else (if ((irem x11.Kind (4 : Int)) == (1 : Int)) = true then ((journal_Journal_Snap k (⟨(), y6, y7, y8⟩ : journal_Journal) y30 (⟨y11, y12, y2, y3⟩ : disk_Disk)).bind fun x21 => (cabalref13_Journal_Snap k (⟨(), y9, y10⟩ : cabalref13_Journal) y30 (⟨y13, y14, y15, y4, y5⟩ : cabalref12_Disk)).bind fun x22 => (caballaw13_JournalPlays.j4 k y1 L_l1) (x21.1 == x22.1) x21.2.2.fuse x21.2.2.dead x22.2.2.Fuse x22.2.2.Dead x21.2.1.area x21.2.1.bytes x21.2.1.l x22.2.1.Area x22.2.1.L x21.2.2.firm x21.2.2.loose x22.2.2.Firm x22.2.2.At x22.2.2.Data) else (if ((irem x11.Kind (4 : Int)) == (2 : Int)) = true then ((disk_Disk_Fuse k (⟨y11, y12, y2, y3⟩ : disk_Disk) x11.N).bind fun x23 => (cabalref12_Disk_Light k (⟨y13, y14, y15, y4, y5⟩ : cabalref12_Disk) x11.N).bind fun x24 => (caballaw13_JournalPlays.j4 k y1 L_l1) true x23.fuse x23.dead x24.Fuse x24.Dead y6 y7 y8 y9 y10 x23.firm x23.loose x24.Firm x24.At x24.Data) else (if ((irem x11.Kind (4 : Int)) == (3 : Int)) = true then ((disk_Disk_Crash k (⟨y11, y12, y2, y3⟩ : disk_Disk) x11.Keep).bind fun x25 => (cabalref12_Disk_Crash k (⟨y13, y14, y15, y4, y5⟩ : cabalref12_Disk) x11.Keep).bind fun x26 => (journal_Open k x25).bind fun x27 => if x27.1 = true then ((cabalref13_Open k x26).bind fun x28 => if x28.1 = true then ((some ((if (if (x27.2.2.1 != x28.2.2.1) then true else false) then true else false))).bind fun x29 => if x29 = true then (some false) else ((caballaw13_JournalPlays.j4 k y1 L_l1) true x27.2.2.2.fuse x27.2.2.2.dead x28.2.2.2.Fuse x28.2.2.2.Dead x27.2.1.area x27.2.1.bytes x27.2.1.l x28.2.1.Area x28.2.1.L x27.2.2.2.firm x27.2.2.2.loose x28.2.2.2.Firm x28.2.2.2.At x28.2.2.2.Data)) else (some false)) else ((cabalref13_Open k x26).bind fun x30 => if x30.1 = true then (some false) else (some false))) else ((caballaw13_JournalPlays.j4 k y1 L_l1) true y2 y3 y4 y5 y6 y7 y8 y9 y10 y11 y12 y13 y14 y15))))
def caballaw13_JournalPlays.l1 (k : Nat) (p2 : (List caballaw13_Act)) : Nat → Int → Int → Bool → Int → Bool → Int → (List Int) → (List (List Int)) → Int → (List (List Int)) → (List (List Int)) → (List disk_write) → (List (List Int)) → (List Int) → (List (List Int)) → Option Bool
  | 0, _, _, _, _, _, _, _, _, _, _, _, _, _, _, _ => none
  | n + 1, y1, y2, y3, y4, y5, y6, y7, y8, y9, y10, y11, y12, y13, y14, y15 =>
    (some ((if (decide (y1 < (p2.length : Int))) then (decide (y1 < (40 : Int))) else false))).bind fun x10 => if x10 = true then ((at? p2 y1).bind fun x11 => (caballaw13_great k x11.L).bind fun x12 => if x12 = true then ((caballaw13_JournalPlays.j2 k y1 (caballaw13_JournalPlays.l1 k p2 n)) y2 y3 y4 y5 y6 y7 y8 y9 y10 y11 y12 y13 y14 y15) else (if (decide ((x11.L.length : Int) > (0 : Int))) = true then ((at? x11.L (0 : Int)).bind fun x31 => (caballaw13_JournalPlays.j3 k x11 y6 y7 y8 y11 y12 y2 y3 y9 y10 y13 y14 y15 y4 y5 y1 (caballaw13_JournalPlays.l1 k p2 n)) x31) else ((caballaw13_JournalPlays.j3 k x11 y6 y7 y8 y11 y12 y2 y3 y9 y10 y13 y14 y15 y4 y5 y1 (caballaw13_JournalPlays.l1 k p2 n)) ([] : List Int)))) else ((caballaw13_JournalPlays.j1 k))
def caballaw13_JournalPlays (k : Nat) (p1 : Int) (p2 : (List caballaw13_Act)) : Option Bool :=
  (caballaw13_alive k).bind fun x1 => if (!x1) = true then (some false) else ((caballaw13_small k p1).bind fun x2 => (disk_New k x2).bind fun x3 => (caballaw13_small k p1).bind fun x4 => (cabalref12_New k x4).bind fun x5 => (journal_Open k x3).bind fun x6 => if x6.1 = true then ((cabalref13_Open k x5).bind fun x7 => if x7.1 = true then ((some ((if (if (x6.2.2.1 != x7.2.2.1) then true else false) then true else false))).bind fun x8 => if x8 = true then (some false) else (caballaw13_JournalPlays.l1 k p2 k (0 : Int) x6.2.2.2.fuse x6.2.2.2.dead x7.2.2.2.Fuse x7.2.2.2.Dead x6.2.1.area x6.2.1.bytes x6.2.1.l x7.2.1.Area x7.2.1.L x6.2.2.2.firm x6.2.2.2.loose x7.2.2.2.Firm x7.2.2.2.At x7.2.2.2.Data)) else (some false)) else ((cabalref13_Open k x5).bind fun x32 => if x32.1 = true then (some false) else (some false)))
end Go.Proofs.Pure
end
section
namespace Go.Proofs.YtjbjladhgmknnaaDoor
open Go Go.RowKit Go.Proofs.Kit Go.Proofs.Pure
set_option linter.unusedVariables false
set_option linter.unusedSimpArgs false
set_option maxRecDepth 100000
set_option maxHeartbeats 2000000
theorem mx : Tryd.prog.follows .mixedOrders = true := by kernel_rfl
theorem ap100 : ApOk Tryd.prog 100 (karr 256 (kint .u8)) (List.replicate 256 [.int .u8 0]).flatten := ⟨by kernel_rfl, by kernel_rfl, by kernel_rfl⟩
theorem zz68 : ((Tryd.prog.info? 68).bind (·.zero)) = some (mkv true ([.slice none 0 0] ++ ([.slice none 0 0] ++ ([.int .i64 0] ++ ([.bool false] ++ []))))) := by kernel_rfl
theorem pl68 : (match Tryd.prog.underlying 68 with | some (.struct fs) => fs.toList.mapM (fun f => (Tryd.prog.info? f.type).map fun i => (f.offset, i.size)) | _ => none) = some [(0, 1), (1, 1), (2, 1), (3, 1)] := by kernel_rfl
theorem hb7 : hasBody Tryd.prog 7 := ⟨_, Tryd.func7, by kernel_rfl, by kernel_rfl⟩
theorem pt24 : Tryd.prog.underlying 24 = some (.pointer (Tryd.prog.pointee 24)) := by kernel_rfl
theorem sz65 : (Tryd.prog.info? 65).map (·.size) = some 1 := by kernel_rfl
theorem tk65 : TK Tryd.prog 65 (ksl (karr 256 (kint .u8))) := ⟨by kernel_rfl, by kernel_rfl⟩
theorem hb30 : hasBody Tryd.prog 30 := ⟨_, Tryd.func30, by kernel_rfl, by kernel_rfl⟩
theorem zz70 : ((Tryd.prog.info? 70).bind (·.zero)) = some (mkv true ([.pointer none] ++ ([.int .i64 0] ++ ([.string ⟨#[]⟩] ++ ([.slice none 0 0] ++ []))))) := by kernel_rfl
theorem pl70 : (match Tryd.prog.underlying 70 with | some (.struct fs) => fs.toList.mapM (fun f => (Tryd.prog.info? f.type).map fun i => (f.offset, i.size)) | _ => none) = some [(0, 1), (1, 1), (2, 1), (3, 1)] := by kernel_rfl
theorem hb60 : hasBody Tryd.prog 60 := ⟨_, Tryd.func60, by kernel_rfl, by kernel_rfl⟩
theorem sz100 : (Tryd.prog.info? 100).map (·.size) = some 256 := by kernel_rfl
theorem tk100 : TK Tryd.prog 100 (karr 256 (kint .u8)) := ⟨by kernel_rfl, by kernel_rfl⟩
theorem zz100 : ((Tryd.prog.info? 100).bind (·.zero)) = some (mkv true (List.replicate 256 [.int .u8 0]).flatten) := by kernel_rfl
theorem sz66 : (Tryd.prog.info? 66).map (·.size) = some 1 := by kernel_rfl
theorem tk66 : TK Tryd.prog 66 (ksl k_disk_write) := ⟨by kernel_rfl, by kernel_rfl⟩
theorem sz102 : (Tryd.prog.info? 102).map (·.size) = some 257 := by kernel_rfl
theorem tk102 : TK Tryd.prog 102 k_disk_write := ⟨by kernel_rfl, by kernel_rfl⟩
theorem zz102 : ((Tryd.prog.info? 102).bind (·.zero)) = some (mkv true ([.int .i64 0] ++ ((List.replicate 256 [.int .u8 0]).flatten ++ []))) := by kernel_rfl
theorem sz3 : (Tryd.prog.info? 3).map (·.size) = some 1 := by kernel_rfl
theorem tk3 : TK Tryd.prog 3 (kint .i64) := ⟨by kernel_rfl, by kernel_rfl⟩
theorem sz5 : (Tryd.prog.info? 5).map (·.size) = some 1 := by kernel_rfl
theorem hb31 : hasBody Tryd.prog 31 := ⟨_, Tryd.func31, by kernel_rfl, by kernel_rfl⟩
theorem ap5 : ApOk Tryd.prog 5 (kint .u8) [.int .u8 0] := ⟨by kernel_rfl, by kernel_rfl, by kernel_rfl⟩
theorem hb32 : hasBody Tryd.prog 32 := ⟨_, Tryd.func32, by kernel_rfl, by kernel_rfl⟩
theorem zz5 : ((Tryd.prog.info? 5).bind (·.zero)) = some (mkv false [.int .u8 0]) := by kernel_rfl
theorem zz9 : ((Tryd.prog.info? 9).bind (·.zero)) = some (mkv false [.string ⟨#[]⟩]) := by kernel_rfl
theorem sz9 : (Tryd.prog.info? 9).map (·.size) = some 1 := by kernel_rfl
theorem zz88 : ((Tryd.prog.info? 88).bind (·.zero)) = some (mkv true (List.replicate 32 [.int .u8 0]).flatten) := by kernel_rfl
theorem zz125 : ((Tryd.prog.info? 125).bind (·.zero)) = some (mkv true ([.bool false] ++ ((List.replicate 8 [.int .u32 0]).flatten ++ ((List.replicate 64 [.int .u8 0]).flatten ++ ([.int .i64 0] ++ ([.int .u64 0] ++ [])))))) := by kernel_rfl
theorem pt136 : Tryd.prog.underlying 136 = some (.pointer (Tryd.prog.pointee 136)) := by kernel_rfl
theorem sz4 : (Tryd.prog.info? 4).map (·.size) = some 1 := by kernel_rfl
theorem tk4 : TK Tryd.prog 4 kbool := ⟨by kernel_rfl, by kernel_rfl⟩
theorem tk119 : TK Tryd.prog 119 (karr 8 (kint .u32)) := ⟨by kernel_rfl, by kernel_rfl⟩
theorem sz119 : (Tryd.prog.info? 119).map (·.size) = some 8 := by kernel_rfl
theorem hb89 : hasBody Tryd.prog 89 := ⟨_, Tryd.func89, by kernel_rfl, by kernel_rfl⟩
theorem tk9 : TK Tryd.prog 9 kstr := ⟨by kernel_rfl, by kernel_rfl⟩
theorem sz122 : (Tryd.prog.info? 122).map (·.size) = some 64 := by kernel_rfl
theorem tk5 : TK Tryd.prog 5 (kint .u8) := ⟨by kernel_rfl, by kernel_rfl⟩
theorem zz132 : ((Tryd.prog.info? 132).bind (·.zero)) = some (mkv true (List.replicate 64 [.int .u32 0]).flatten) := by kernel_rfl
theorem sz116 : (Tryd.prog.info? 116).map (·.size) = some 1 := by kernel_rfl
theorem tk116 : TK Tryd.prog 116 (kint .u32) := ⟨by kernel_rfl, by kernel_rfl⟩
theorem hb97 : hasBody Tryd.prog 97 := ⟨_, Tryd.func97, by kernel_rfl, by kernel_rfl⟩
theorem hb95 : hasBody Tryd.prog 95 := ⟨_, Tryd.func95, by kernel_rfl, by kernel_rfl⟩
theorem zz119 : ((Tryd.prog.info? 119).bind (·.zero)) = some (mkv true (List.replicate 8 [.int .u32 0]).flatten) := by kernel_rfl
theorem tk132 : TK Tryd.prog 132 (karr 64 (kint .u32)) := ⟨by kernel_rfl, by kernel_rfl⟩
theorem hb96 : hasBody Tryd.prog 96 := ⟨_, Tryd.func96, by kernel_rfl, by kernel_rfl⟩
theorem hb93 : hasBody Tryd.prog 93 := ⟨_, Tryd.func93, by kernel_rfl, by kernel_rfl⟩
theorem hb90 : hasBody Tryd.prog 90 := ⟨_, Tryd.func90, by kernel_rfl, by kernel_rfl⟩
theorem sz123 : (Tryd.prog.info? 123).map (·.size) = some 1 := by kernel_rfl
theorem tk123 : TK Tryd.prog 123 (kint .u64) := ⟨by kernel_rfl, by kernel_rfl⟩
theorem hb81 : hasBody Tryd.prog 81 := ⟨_, Tryd.func81, by kernel_rfl, by kernel_rfl⟩
theorem tk125 : TK Tryd.prog 125 k_digest_Hash := ⟨by kernel_rfl, by kernel_rfl⟩
theorem tk88 : TK Tryd.prog 88 (karr 32 (kint .u8)) := ⟨by kernel_rfl, by kernel_rfl⟩
theorem hb82 : hasBody Tryd.prog 82 := ⟨_, Tryd.func82, by kernel_rfl, by kernel_rfl⟩
theorem hb61 : hasBody Tryd.prog 61 := ⟨_, Tryd.func61, by kernel_rfl, by kernel_rfl⟩
theorem hb33 : hasBody Tryd.prog 33 := ⟨_, Tryd.func33, by kernel_rfl, by kernel_rfl⟩
theorem hb34 : hasBody Tryd.prog 34 := ⟨_, Tryd.func34, by kernel_rfl, by kernel_rfl⟩
theorem zz106 : ((Tryd.prog.info? 106).bind (·.zero)) = some (mkv true ([.pointer none] ++ ([.slice none 0 0] ++ []))) := by kernel_rfl
theorem sz31 : (Tryd.prog.info? 31).map (·.size) = some 1 := by kernel_rfl
theorem tkr31 (v : Value) : TK Tryd.prog 31 (kis v) := ⟨by kernel_rfl, by kernel_rfl⟩
theorem hb62 : hasBody Tryd.prog 62 := ⟨_, Tryd.func62, by kernel_rfl, by kernel_rfl⟩
theorem sz24 : (Tryd.prog.info? 24).map (·.size) = some 1 := by kernel_rfl
theorem tkr24 (v : Value) : TK Tryd.prog 24 (kis v) := ⟨by kernel_rfl, by kernel_rfl⟩
theorem hb63 : hasBody Tryd.prog 63 := ⟨_, Tryd.func63, by kernel_rfl, by kernel_rfl⟩
theorem sz104 : (Tryd.prog.info? 104).map (·.size) = some 1 := by kernel_rfl
theorem tkb104 (b : Nat) : TK Tryd.prog 104 (kbad b) := ⟨by kernel_rfl, by kernel_rfl⟩
theorem pt104 : Tryd.prog.underlying 104 = some (.pointer (Tryd.prog.pointee 104)) := by kernel_rfl
theorem ne91 : isNoEscape Tryd.prog 91 := ⟨_, Tryd.func91, by kernel_rfl, by kernel_rfl, by kernel_rfl, by kernel_rfl⟩
theorem hb83 : hasBody Tryd.prog 83 := ⟨_, Tryd.func83, by kernel_rfl, by kernel_rfl⟩
theorem by5 : ((Tryd.prog.info? 5).map (·.bytes)) = some 1 := by kernel_rfl
theorem hb64 : hasBody Tryd.prog 64 := ⟨_, Tryd.func64, by kernel_rfl, by kernel_rfl⟩
theorem co5 : Tryd.prog.cellsOf 5 = 1 := by kernel_rfl
theorem hb65 : hasBody Tryd.prog 65 := ⟨_, Tryd.func65, by kernel_rfl, by kernel_rfl⟩
theorem hb35 : hasBody Tryd.prog 35 := ⟨_, Tryd.func35, by kernel_rfl, by kernel_rfl⟩
theorem zz129 : ((Tryd.prog.info? 129).bind (·.zero)) = some (mkv true ([.string ⟨#[]⟩] ++ ([.int .i64 0] ++ []))) := by kernel_rfl
theorem pl129 : (match Tryd.prog.underlying 129 with | some (.struct fs) => fs.toList.mapM (fun f => (Tryd.prog.info? f.type).map fun i => (f.offset, i.size)) | _ => none) = some [(0, 1), (1, 1)] := by kernel_rfl
theorem hb66 : hasBody Tryd.prog 66 := ⟨_, Tryd.func66, by kernel_rfl, by kernel_rfl⟩
theorem hb67 : hasBody Tryd.prog 67 := ⟨_, Tryd.func67, by kernel_rfl, by kernel_rfl⟩
theorem sz27 : (Tryd.prog.info? 27).map (·.size) = some 1 := by kernel_rfl
theorem tk27 : TK Tryd.prog 27 (kint .i64) := ⟨by kernel_rfl, by kernel_rfl⟩
theorem hb68 : hasBody Tryd.prog 68 := ⟨_, Tryd.func68, by kernel_rfl, by kernel_rfl⟩
theorem hb94 : hasBody Tryd.prog 94 := ⟨_, Tryd.func94, by kernel_rfl, by kernel_rfl⟩
theorem hb92 : hasBody Tryd.prog 92 := ⟨_, Tryd.func92, by kernel_rfl, by kernel_rfl⟩
theorem hb85 : hasBody Tryd.prog 85 := ⟨_, Tryd.func85, by kernel_rfl, by kernel_rfl⟩
theorem hb84 : hasBody Tryd.prog 84 := ⟨_, Tryd.func84, by kernel_rfl, by kernel_rfl⟩
theorem hb69 : hasBody Tryd.prog 69 := ⟨_, Tryd.func69, by kernel_rfl, by kernel_rfl⟩
theorem ap9 : ApOk Tryd.prog 9 kstr [.string ⟨#[]⟩] := ⟨by kernel_rfl, by kernel_rfl, by kernel_rfl⟩
theorem hb36 : hasBody Tryd.prog 36 := ⟨_, Tryd.func36, by kernel_rfl, by kernel_rfl⟩
theorem sz30 : (Tryd.prog.info? 30).map (·.size) = some 1 := by kernel_rfl
theorem tk30 : TK Tryd.prog 30 (ksl kstr) := ⟨by kernel_rfl, by kernel_rfl⟩
theorem hb8 : hasBody Tryd.prog 8 := ⟨_, Tryd.func8, by kernel_rfl, by kernel_rfl⟩
theorem pt26 : Tryd.prog.underlying 26 = some (.pointer (Tryd.prog.pointee 26)) := by kernel_rfl
theorem zz79 : ((Tryd.prog.info? 79).bind (·.zero)) = some (mkv true ([.slice none 0 0] ++ [])) := by kernel_rfl
theorem zz116 : ((Tryd.prog.info? 116).bind (·.zero)) = some (mkv false [.int .u32 0]) := by kernel_rfl
theorem hb70 : hasBody Tryd.prog 70 := ⟨_, Tryd.func70, by kernel_rfl, by kernel_rfl⟩
theorem hb39 : hasBody Tryd.prog 39 := ⟨_, Tryd.func39, by kernel_rfl, by kernel_rfl⟩
theorem tk31 : TK Tryd.prog 31 (ksl (kint .u8)) := ⟨by kernel_rfl, by kernel_rfl⟩
theorem hb40 : hasBody Tryd.prog 40 := ⟨_, Tryd.func40, by kernel_rfl, by kernel_rfl⟩
theorem hb42 : hasBody Tryd.prog 42 := ⟨_, Tryd.func42, by kernel_rfl, by kernel_rfl⟩
theorem hb71 : hasBody Tryd.prog 71 := ⟨_, Tryd.func71, by kernel_rfl, by kernel_rfl⟩
theorem hb41 : hasBody Tryd.prog 41 := ⟨_, Tryd.func41, by kernel_rfl, by kernel_rfl⟩
theorem hb55 : hasBody Tryd.prog 55 := ⟨_, Tryd.func55, by kernel_rfl, by kernel_rfl⟩
theorem hb20 : hasBody Tryd.prog 20 := ⟨_, Tryd.func20, by kernel_rfl, by kernel_rfl⟩
theorem hb72 : hasBody Tryd.prog 72 := ⟨_, Tryd.func72, by kernel_rfl, by kernel_rfl⟩
theorem pl102 : (match Tryd.prog.underlying 102 with | some (.struct fs) => fs.toList.mapM (fun f => (Tryd.prog.info? f.type).map fun i => (f.offset, i.size)) | _ => none) = some [(0, 1), (1, 256)] := by kernel_rfl
theorem tkr66 (v : Value) : TK Tryd.prog 66 (kis v) := ⟨by kernel_rfl, by kernel_rfl⟩
theorem ap102 : ApOk Tryd.prog 102 k_disk_write ([.int .i64 0] ++ ((List.replicate 256 [.int .u8 0]).flatten ++ [])) := ⟨by kernel_rfl, by kernel_rfl, by kernel_rfl⟩
theorem hb76 : hasBody Tryd.prog 76 := ⟨_, Tryd.func76, by kernel_rfl, by kernel_rfl⟩
theorem hb49 : hasBody Tryd.prog 49 := ⟨_, Tryd.func49, by kernel_rfl, by kernel_rfl⟩
theorem hb77 : hasBody Tryd.prog 77 := ⟨_, Tryd.func77, by kernel_rfl, by kernel_rfl⟩
theorem tkr65 (v : Value) : TK Tryd.prog 65 (kis v) := ⟨by kernel_rfl, by kernel_rfl⟩
theorem hb37 : hasBody Tryd.prog 37 := ⟨_, Tryd.func37, by kernel_rfl, by kernel_rfl⟩
theorem hb50 : hasBody Tryd.prog 50 := ⟨_, Tryd.func50, by kernel_rfl, by kernel_rfl⟩
theorem hb43 : hasBody Tryd.prog 43 := ⟨_, Tryd.func43, by kernel_rfl, by kernel_rfl⟩
theorem hb11 : hasBody Tryd.prog 11 := ⟨_, Tryd.func11, by kernel_rfl, by kernel_rfl⟩
theorem hb44 : hasBody Tryd.prog 44 := ⟨_, Tryd.func44, by kernel_rfl, by kernel_rfl⟩
theorem hb13 : hasBody Tryd.prog 13 := ⟨_, Tryd.func13, by kernel_rfl, by kernel_rfl⟩
theorem hb12 : hasBody Tryd.prog 12 := ⟨_, Tryd.func12, by kernel_rfl, by kernel_rfl⟩
theorem hb6 : hasBody Tryd.prog 6 := ⟨_, Tryd.func6, by kernel_rfl, by kernel_rfl⟩
theorem hb9 : hasBody Tryd.prog 9 := ⟨_, Tryd.func9, by kernel_rfl, by kernel_rfl⟩
theorem zz49 : ((Tryd.prog.info? 49).bind (·.zero)) = some (mkv true ([.slice none 0 0] ++ ([.slice none 0 0] ++ ([.slice none 0 0] ++ ([.int .i64 0] ++ ([.bool false] ++ [])))))) := by kernel_rfl
theorem pl49 : (match Tryd.prog.underlying 49 with | some (.struct fs) => fs.toList.mapM (fun f => (Tryd.prog.info? f.type).map fun i => (f.offset, i.size)) | _ => none) = some [(0, 1), (1, 1), (2, 1), (3, 1), (4, 1)] := by kernel_rfl
theorem tkr30 (v : Value) : TK Tryd.prog 30 (kis v) := ⟨by kernel_rfl, by kernel_rfl⟩
theorem hb14 : hasBody Tryd.prog 14 := ⟨_, Tryd.func14, by kernel_rfl, by kernel_rfl⟩
theorem hb73 : hasBody Tryd.prog 73 := ⟨_, Tryd.func73, by kernel_rfl, by kernel_rfl⟩
theorem hb45 : hasBody Tryd.prog 45 := ⟨_, Tryd.func45, by kernel_rfl, by kernel_rfl⟩
theorem hb15 : hasBody Tryd.prog 15 := ⟨_, Tryd.func15, by kernel_rfl, by kernel_rfl⟩
theorem zz131 : ((Tryd.prog.info? 131).bind (·.zero)) = some (mkv true (List.replicate 8 [.int .u8 0]).flatten) := by kernel_rfl
theorem hb74 : hasBody Tryd.prog 74 := ⟨_, Tryd.func74, by kernel_rfl, by kernel_rfl⟩
theorem hb86 : hasBody Tryd.prog 86 := ⟨_, Tryd.func86, by kernel_rfl, by kernel_rfl⟩
theorem hb87 : hasBody Tryd.prog 87 := ⟨_, Tryd.func87, by kernel_rfl, by kernel_rfl⟩
theorem hb75 : hasBody Tryd.prog 75 := ⟨_, Tryd.func75, by kernel_rfl, by kernel_rfl⟩
theorem hb46 : hasBody Tryd.prog 46 := ⟨_, Tryd.func46, by kernel_rfl, by kernel_rfl⟩
theorem hb47 : hasBody Tryd.prog 47 := ⟨_, Tryd.func47, by kernel_rfl, by kernel_rfl⟩
theorem hb16 : hasBody Tryd.prog 16 := ⟨_, Tryd.func16, by kernel_rfl, by kernel_rfl⟩
theorem hb48 : hasBody Tryd.prog 48 := ⟨_, Tryd.func48, by kernel_rfl, by kernel_rfl⟩
theorem sz47 : (Tryd.prog.info? 47).map (·.size) = some 1 := by kernel_rfl
theorem tkr47 (v : Value) : TK Tryd.prog 47 (kis v) := ⟨by kernel_rfl, by kernel_rfl⟩
theorem zz3 : ((Tryd.prog.info? 3).bind (·.zero)) = some (mkv false [.int .i64 0]) := by kernel_rfl
theorem ap3 : ApOk Tryd.prog 3 (kint .i64) [.int .i64 0] := ⟨by kernel_rfl, by kernel_rfl, by kernel_rfl⟩
theorem hb78 : hasBody Tryd.prog 78 := ⟨_, Tryd.func78, by kernel_rfl, by kernel_rfl⟩
theorem hb51 : hasBody Tryd.prog 51 := ⟨_, Tryd.func51, by kernel_rfl, by kernel_rfl⟩
theorem hb58 : hasBody Tryd.prog 58 := ⟨_, Tryd.func58, by kernel_rfl, by kernel_rfl⟩
theorem hb59 : hasBody Tryd.prog 59 := ⟨_, Tryd.func59, by kernel_rfl, by kernel_rfl⟩
theorem hb52 : hasBody Tryd.prog 52 := ⟨_, Tryd.func52, by kernel_rfl, by kernel_rfl⟩
theorem hb17 : hasBody Tryd.prog 17 := ⟨_, Tryd.func17, by kernel_rfl, by kernel_rfl⟩
theorem hb18 : hasBody Tryd.prog 18 := ⟨_, Tryd.func18, by kernel_rfl, by kernel_rfl⟩
theorem tk47 : TK Tryd.prog 47 (ksl (kint .i64)) := ⟨by kernel_rfl, by kernel_rfl⟩
theorem hb53 : hasBody Tryd.prog 53 := ⟨_, Tryd.func53, by kernel_rfl, by kernel_rfl⟩
theorem zz56 : ((Tryd.prog.info? 56).bind (·.zero)) = some (mkv true ([.pointer none] ++ ([.int .i64 0] ++ ([.slice none 0 0] ++ [])))) := by kernel_rfl
theorem pl56 : (match Tryd.prog.underlying 56 with | some (.struct fs) => fs.toList.mapM (fun f => (Tryd.prog.info? f.type).map fun i => (f.offset, i.size)) | _ => none) = some [(0, 1), (1, 1), (2, 1)] := by kernel_rfl
theorem zz96 : ((Tryd.prog.info? 96).bind (·.zero)) = some (mkv true ([.string ⟨#[]⟩] ++ ([.int .i64 0] ++ []))) := by kernel_rfl
theorem pl96 : (match Tryd.prog.underlying 96 with | some (.struct fs) => fs.toList.mapM (fun f => (Tryd.prog.info? f.type).map fun i => (f.offset, i.size)) | _ => none) = some [(0, 1), (1, 1)] := by kernel_rfl
theorem hb88 : hasBody Tryd.prog 88 := ⟨_, Tryd.func88, by kernel_rfl, by kernel_rfl⟩
theorem hb79 : hasBody Tryd.prog 79 := ⟨_, Tryd.func79, by kernel_rfl, by kernel_rfl⟩
theorem hb80 : hasBody Tryd.prog 80 := ⟨_, Tryd.func80, by kernel_rfl, by kernel_rfl⟩
theorem hb54 : hasBody Tryd.prog 54 := ⟨_, Tryd.func54, by kernel_rfl, by kernel_rfl⟩
theorem hb19 : hasBody Tryd.prog 19 := ⟨_, Tryd.func19, by kernel_rfl, by kernel_rfl⟩
theorem pt50 : Tryd.prog.underlying 50 = some (.pointer (Tryd.prog.pointee 50)) := by kernel_rfl
theorem sz41 : (Tryd.prog.info? 41).map (·.size) = some 1 := by kernel_rfl
theorem tkr41 (v : Value) : TK Tryd.prog 41 (kis v) := ⟨by kernel_rfl, by kernel_rfl⟩
theorem hb22 : hasBody Tryd.prog 22 := ⟨_, Tryd.func22, by kernel_rfl, by kernel_rfl⟩
theorem hb21 : hasBody Tryd.prog 21 := ⟨_, Tryd.func21, by kernel_rfl, by kernel_rfl⟩
theorem hb23 : hasBody Tryd.prog 23 := ⟨_, Tryd.func23, by kernel_rfl, by kernel_rfl⟩
theorem sz33 : (Tryd.prog.info? 33).map (·.size) = some 4 := by kernel_rfl
theorem tk33 : TK Tryd.prog 33 k_caballaw13_Act := ⟨by kernel_rfl, by kernel_rfl⟩
theorem zz33 : ((Tryd.prog.info? 33).bind (·.zero)) = some (mkv true ([.int .i64 0] ++ ([.int .i64 0] ++ ([.slice none 0 0] ++ ([.slice none 0 0] ++ []))))) := by kernel_rfl
theorem hb56 : hasBody Tryd.prog 56 := ⟨_, Tryd.func56, by kernel_rfl, by kernel_rfl⟩
theorem hb57 : hasBody Tryd.prog 57 := ⟨_, Tryd.func57, by kernel_rfl, by kernel_rfl⟩
theorem hb24 : hasBody Tryd.prog 24 := ⟨_, Tryd.func24, by kernel_rfl, by kernel_rfl⟩
theorem hb25 : hasBody Tryd.prog 25 := ⟨_, Tryd.func25, by kernel_rfl, by kernel_rfl⟩
theorem hb26 : hasBody Tryd.prog 26 := ⟨_, Tryd.func26, by kernel_rfl, by kernel_rfl⟩
theorem hb27 : hasBody Tryd.prog 27 := ⟨_, Tryd.func27, by kernel_rfl, by kernel_rfl⟩
theorem hb38 : hasBody Tryd.prog 38 := ⟨_, Tryd.func38, by kernel_rfl, by kernel_rfl⟩
theorem kf_disk_write : KFlat k_disk_write := KFlat.iso (KFlat.pair (KFlat.int _) (KFlat.pair (KFlat.arr (KFlat.int _)) KFlat.nil))
theorem hb10 : hasBody Tryd.prog 10 := ⟨_, Tryd.func10, by kernel_rfl, by kernel_rfl⟩
theorem hb28 : hasBody Tryd.prog 28 := ⟨_, Tryd.func28, by kernel_rfl, by kernel_rfl⟩
theorem hb29 : hasBody Tryd.prog 29 := ⟨_, Tryd.func29, by kernel_rfl, by kernel_rfl⟩
end Go.Proofs.YtjbjladhgmknnaaDoor
end
