/- Plain functions: what the program's functions answer, printed out of their code; kinds of their data. No condition. -/
import Derived.Test.YtlcddcamnkgeeaaKit24
namespace Go.Proofs.Pure
open Go Go.RowKit Go.Proofs.Kit
set_option linter.unusedVariables false

structure cabalref12_Disk where
  Firm : (List (List Int))
  At : (List Int)
  Data : (List (List Int))
  Fuse : Int
  Dead : Bool
  deriving DecidableEq
def t_cabalref12_Disk (x : cabalref12_Disk) : (List (List Int)) × (List Int) × (List (List Int)) × Int × Bool × Unit := (x.Firm, x.At, x.Data, x.Fuse, x.Dead, ())
theorem t_cabalref12_Disk_inj (x y : cabalref12_Disk) (h : t_cabalref12_Disk x = t_cabalref12_Disk y) : x = y := by cases x; cases y; simpa [t_cabalref12_Disk] using h
def k_cabalref12_Disk : Kd cabalref12_Disk := kiso (kpair (ksl kstr) (kpair (ksl (kint .i64)) (kpair (ksl kstr) (kpair (kint .i64) (kpair kbool knil))))) t_cabalref12_Disk
theorem lg_cabalref12_Disk_Firm (x : cabalref12_Disk) : LG k_cabalref12_Disk (ksl kstr) 0 x x.Firm := LG.iso (LG.fst _ _ _)
theorem ls_cabalref12_Disk_Firm (x : cabalref12_Disk) (y : (List (List Int))) : LS k_cabalref12_Disk (ksl kstr) 0 x y { x with Firm := y } := LS.iso (LS.fst _ _ _ _)
theorem lg_cabalref12_Disk_At (x : cabalref12_Disk) : LG k_cabalref12_Disk (ksl (kint .i64)) 1 x x.At := LG.iso (LG.snd _ (LG.fst _ _ _))
theorem ls_cabalref12_Disk_At (x : cabalref12_Disk) (y : (List Int)) : LS k_cabalref12_Disk (ksl (kint .i64)) 1 x y { x with At := y } := LS.iso (LS.snd _ (LS.fst _ _ _ _))
theorem lg_cabalref12_Disk_Data (x : cabalref12_Disk) : LG k_cabalref12_Disk (ksl kstr) 2 x x.Data := LG.iso (LG.snd _ (LG.snd _ (LG.fst _ _ _)))
theorem ls_cabalref12_Disk_Data (x : cabalref12_Disk) (y : (List (List Int))) : LS k_cabalref12_Disk (ksl kstr) 2 x y { x with Data := y } := LS.iso (LS.snd _ (LS.snd _ (LS.fst _ _ _ _)))
theorem lg_cabalref12_Disk_Fuse (x : cabalref12_Disk) : LG k_cabalref12_Disk (kint .i64) 3 x x.Fuse := LG.iso (LG.snd _ (LG.snd _ (LG.snd _ (LG.fst _ _ _))))
theorem ls_cabalref12_Disk_Fuse (x : cabalref12_Disk) (y : Int) : LS k_cabalref12_Disk (kint .i64) 3 x y { x with Fuse := y } := LS.iso (LS.snd _ (LS.snd _ (LS.snd _ (LS.fst _ _ _ _))))
theorem lg_cabalref12_Disk_Dead (x : cabalref12_Disk) : LG k_cabalref12_Disk kbool 4 x x.Dead := LG.iso (LG.snd _ (LG.snd _ (LG.snd _ (LG.snd _ (LG.fst _ _ _)))))
theorem ls_cabalref12_Disk_Dead (x : cabalref12_Disk) (y : Bool) : LS k_cabalref12_Disk kbool 4 x y { x with Dead := y } := LS.iso (LS.snd _ (LS.snd _ (LS.snd _ (LS.snd _ (LS.fst _ _ _ _)))))
structure disk_write where
  at_ : Int
  data : (List Int)
  deriving DecidableEq
def t_disk_write (x : disk_write) : Int × (List Int) × Unit := (x.at_, x.data, ())
theorem t_disk_write_inj (x y : disk_write) (h : t_disk_write x = t_disk_write y) : x = y := by cases x; cases y; simpa [t_disk_write] using h
def k_disk_write : Kd disk_write := kiso (kpair (kint .i64) (kpair (karr 256 (kint .u8)) knil)) t_disk_write
theorem lg_disk_write_at_ (x : disk_write) : LG k_disk_write (kint .i64) 0 x x.at_ := LG.iso (LG.fst _ _ _)
theorem ls_disk_write_at_ (x : disk_write) (y : Int) : LS k_disk_write (kint .i64) 0 x y { x with at_ := y } := LS.iso (LS.fst _ _ _ _)
theorem lg_disk_write_data (x : disk_write) : LG k_disk_write (karr 256 (kint .u8)) 1 x x.data := LG.iso (LG.snd _ (LG.fst _ _ _))
theorem ls_disk_write_data (x : disk_write) (y : (List Int)) : LS k_disk_write (karr 256 (kint .u8)) 1 x y { x with data := y } := LS.iso (LS.snd _ (LS.fst _ _ _ _))
structure disk_Disk where
  firm : (List (List Int))
  loose : (List disk_write)
  fuse : Int
  dead : Bool
  deriving DecidableEq
def t_disk_Disk (x : disk_Disk) : (List (List Int)) × (List disk_write) × Int × Bool × Unit := (x.firm, x.loose, x.fuse, x.dead, ())
theorem t_disk_Disk_inj (x y : disk_Disk) (h : t_disk_Disk x = t_disk_Disk y) : x = y := by cases x; cases y; simpa [t_disk_Disk] using h
def k_disk_Disk : Kd disk_Disk := kiso (kpair (ksl (karr 256 (kint .u8))) (kpair (ksl k_disk_write) (kpair (kint .i64) (kpair kbool knil)))) t_disk_Disk
theorem lg_disk_Disk_firm (x : disk_Disk) : LG k_disk_Disk (ksl (karr 256 (kint .u8))) 0 x x.firm := LG.iso (LG.fst _ _ _)
theorem ls_disk_Disk_firm (x : disk_Disk) (y : (List (List Int))) : LS k_disk_Disk (ksl (karr 256 (kint .u8))) 0 x y { x with firm := y } := LS.iso (LS.fst _ _ _ _)
theorem lg_disk_Disk_loose (x : disk_Disk) : LG k_disk_Disk (ksl k_disk_write) 1 x x.loose := LG.iso (LG.snd _ (LG.fst _ _ _))
theorem ls_disk_Disk_loose (x : disk_Disk) (y : (List disk_write)) : LS k_disk_Disk (ksl k_disk_write) 1 x y { x with loose := y } := LS.iso (LS.snd _ (LS.fst _ _ _ _))
theorem lg_disk_Disk_fuse (x : disk_Disk) : LG k_disk_Disk (kint .i64) 2 x x.fuse := LG.iso (LG.snd _ (LG.snd _ (LG.fst _ _ _)))
theorem ls_disk_Disk_fuse (x : disk_Disk) (y : Int) : LS k_disk_Disk (kint .i64) 2 x y { x with fuse := y } := LS.iso (LS.snd _ (LS.snd _ (LS.fst _ _ _ _)))
theorem lg_disk_Disk_dead (x : disk_Disk) : LG k_disk_Disk kbool 3 x x.dead := LG.iso (LG.snd _ (LG.snd _ (LG.snd _ (LG.fst _ _ _))))
theorem ls_disk_Disk_dead (x : disk_Disk) (y : Bool) : LS k_disk_Disk kbool 3 x y { x with dead := y } := LS.iso (LS.snd _ (LS.snd _ (LS.snd _ (LS.fst _ _ _ _))))
def to_disk_Disk_0_1 (x : disk_Disk) : Unit × Unit × Int × Bool × Unit := ((), (), x.fuse, x.dead, ())
def ko_disk_Disk_0_1 (v0 v1 : Value) : Kd disk_Disk := kiso (kpair (kis v0) (kpair (kis v1) (kpair (kint .i64) (kpair kbool knil)))) to_disk_Disk_0_1
theorem lgo_disk_Disk_0_1_firm {v0 v1 : Value} (x : disk_Disk) : LG (ko_disk_Disk_0_1 v0 v1) (kis v0) 0 x () := LG.iso (LG.fst _ _ _)
theorem lgo_disk_Disk_0_1_loose {v0 v1 : Value} (x : disk_Disk) : LG (ko_disk_Disk_0_1 v0 v1) (kis v1) 1 x () := LG.iso (LG.snd _ (LG.fst _ _ _))
theorem lgo_disk_Disk_0_1_fuse {v0 v1 : Value} (x : disk_Disk) : LG (ko_disk_Disk_0_1 v0 v1) (kint .i64) 2 x x.fuse := LG.iso (LG.snd _ (LG.snd _ (LG.fst _ _ _)))
theorem lso_disk_Disk_0_1_fuse {v0 v1 : Value} (x : disk_Disk) (y : Int) : LS (ko_disk_Disk_0_1 v0 v1) (kint .i64) 2 x y { x with fuse := y } := LS.iso (LS.snd _ (LS.snd _ (LS.fst _ _ _ _)))
theorem lgo_disk_Disk_0_1_dead {v0 v1 : Value} (x : disk_Disk) : LG (ko_disk_Disk_0_1 v0 v1) kbool 3 x x.dead := LG.iso (LG.snd _ (LG.snd _ (LG.snd _ (LG.fst _ _ _))))
theorem lso_disk_Disk_0_1_dead {v0 v1 : Value} (x : disk_Disk) (y : Bool) : LS (ko_disk_Disk_0_1 v0 v1) kbool 3 x y { x with dead := y } := LS.iso (LS.snd _ (LS.snd _ (LS.snd _ (LS.fst _ _ _ _))))
theorem upo_disk_Disk_0_1 {H : Ok → World → Prop} {v0 v1 : Value} {x x' : disk_Disk} (hx : to_disk_Disk_0_1 x = to_disk_Disk_0_1 x') (u0 : Up H (kis v0) (ksl (karr 256 (kint .u8))) () x'.firm) (u1 : Up H (kis v1) (ksl k_disk_write) () x'.loose) : Up H (ko_disk_Disk_0_1 v0 v1) k_disk_Disk x x' := fun ok w cs hH hr => by
  have hr' : Kd.rel (kpair (kis v0) (kpair (kis v1) (kpair (kint .i64) (kpair kbool knil)))) ok w (to_disk_Disk_0_1 x) cs := hr
  rw [hx] at hr'
  exact (Up.pair u0 (Up.pair u1 (Up.pair (Up.refl _ _) (Up.pair (Up.refl _ _) (Up.refl _ _)))) : Up H (kpair (kis v0) (kpair (kis v1) (kpair (kint .i64) (kpair kbool knil)))) (kpair (ksl (karr 256 (kint .u8))) (kpair (ksl k_disk_write) (kpair (kint .i64) (kpair kbool knil)))) (to_disk_Disk_0_1 x') (t_disk_Disk x')) ok w cs hH hr'
def to_cabalref12_Disk_0 (x : cabalref12_Disk) : Unit × (List Int) × (List (List Int)) × Int × Bool × Unit := ((), x.At, x.Data, x.Fuse, x.Dead, ())
def ko_cabalref12_Disk_0 (v0 : Value) : Kd cabalref12_Disk := kiso (kpair (kis v0) (kpair (ksl (kint .i64)) (kpair (ksl kstr) (kpair (kint .i64) (kpair kbool knil))))) to_cabalref12_Disk_0
theorem lgo_cabalref12_Disk_0_Firm {v0 : Value} (x : cabalref12_Disk) : LG (ko_cabalref12_Disk_0 v0) (kis v0) 0 x () := LG.iso (LG.fst _ _ _)
theorem lgo_cabalref12_Disk_0_At {v0 : Value} (x : cabalref12_Disk) : LG (ko_cabalref12_Disk_0 v0) (ksl (kint .i64)) 1 x x.At := LG.iso (LG.snd _ (LG.fst _ _ _))
theorem lso_cabalref12_Disk_0_At {v0 : Value} (x : cabalref12_Disk) (y : (List Int)) : LS (ko_cabalref12_Disk_0 v0) (ksl (kint .i64)) 1 x y { x with At := y } := LS.iso (LS.snd _ (LS.fst _ _ _ _))
theorem lgo_cabalref12_Disk_0_Data {v0 : Value} (x : cabalref12_Disk) : LG (ko_cabalref12_Disk_0 v0) (ksl kstr) 2 x x.Data := LG.iso (LG.snd _ (LG.snd _ (LG.fst _ _ _)))
theorem lso_cabalref12_Disk_0_Data {v0 : Value} (x : cabalref12_Disk) (y : (List (List Int))) : LS (ko_cabalref12_Disk_0 v0) (ksl kstr) 2 x y { x with Data := y } := LS.iso (LS.snd _ (LS.snd _ (LS.fst _ _ _ _)))
theorem lgo_cabalref12_Disk_0_Fuse {v0 : Value} (x : cabalref12_Disk) : LG (ko_cabalref12_Disk_0 v0) (kint .i64) 3 x x.Fuse := LG.iso (LG.snd _ (LG.snd _ (LG.snd _ (LG.fst _ _ _))))
theorem lso_cabalref12_Disk_0_Fuse {v0 : Value} (x : cabalref12_Disk) (y : Int) : LS (ko_cabalref12_Disk_0 v0) (kint .i64) 3 x y { x with Fuse := y } := LS.iso (LS.snd _ (LS.snd _ (LS.snd _ (LS.fst _ _ _ _))))
theorem lgo_cabalref12_Disk_0_Dead {v0 : Value} (x : cabalref12_Disk) : LG (ko_cabalref12_Disk_0 v0) kbool 4 x x.Dead := LG.iso (LG.snd _ (LG.snd _ (LG.snd _ (LG.snd _ (LG.fst _ _ _)))))
theorem lso_cabalref12_Disk_0_Dead {v0 : Value} (x : cabalref12_Disk) (y : Bool) : LS (ko_cabalref12_Disk_0 v0) kbool 4 x y { x with Dead := y } := LS.iso (LS.snd _ (LS.snd _ (LS.snd _ (LS.snd _ (LS.fst _ _ _ _)))))
theorem upo_cabalref12_Disk_0 {H : Ok → World → Prop} {v0 : Value} {x x' : cabalref12_Disk} (hx : to_cabalref12_Disk_0 x = to_cabalref12_Disk_0 x') (u0 : Up H (kis v0) (ksl kstr) () x'.Firm) : Up H (ko_cabalref12_Disk_0 v0) k_cabalref12_Disk x x' := fun ok w cs hH hr => by
  have hr' : Kd.rel (kpair (kis v0) (kpair (ksl (kint .i64)) (kpair (ksl kstr) (kpair (kint .i64) (kpair kbool knil))))) ok w (to_cabalref12_Disk_0 x) cs := hr
  rw [hx] at hr'
  exact (Up.pair u0 (Up.pair (Up.refl _ _) (Up.pair (Up.refl _ _) (Up.pair (Up.refl _ _) (Up.pair (Up.refl _ _) (Up.refl _ _))))) : Up H (kpair (kis v0) (kpair (ksl (kint .i64)) (kpair (ksl kstr) (kpair (kint .i64) (kpair kbool knil))))) (kpair (ksl kstr) (kpair (ksl (kint .i64)) (kpair (ksl kstr) (kpair (kint .i64) (kpair kbool knil))))) (to_cabalref12_Disk_0 x') (t_cabalref12_Disk x')) ok w cs hH hr'
theorem lsk_disk_Disk_0_1_to_0_1_at0 {u0 v0 v1 : Value} (x : disk_Disk) : LSK (ko_disk_Disk_0_1 v0 v1) (kis u0) (ko_disk_Disk_0_1 u0 v1) 0 x () x := LSK.iso (LSK.fst (k := kis v0) (k' := kis u0) _ rfl _ _)
theorem lsk_disk_Disk_0_1_to_0_1_at1 {u1 v0 v1 : Value} (x : disk_Disk) : LSK (ko_disk_Disk_0_1 v0 v1) (kis u1) (ko_disk_Disk_0_1 v0 u1) 1 x () x := LSK.iso (LSK.snd _ (LSK.fst (k := kis v1) (k' := kis u1) _ rfl _ _))
theorem lsk_cabalref12_Disk_0_to_0_at0 {u0 v0 : Value} (x : cabalref12_Disk) : LSK (ko_cabalref12_Disk_0 v0) (kis u0) (ko_cabalref12_Disk_0 u0) 0 x () x := LSK.iso (LSK.fst (k := kis v0) (k' := kis u0) _ rfl _ _)



/- cabal/disk.New -/
def disk_New (k : Nat) (p1 : Int) : Option disk_Disk :=
  (some ((if (1024 : Int) < (if (1 : Int) > p1 then (1 : Int) else p1) then (1024 : Int) else (if (1 : Int) > p1 then (1 : Int) else p1)))).bind fun x1 => if (0 ≤ x1 ∧ x1.toNat ≤ lim) then (some (⟨(List.replicate x1.toNat (List.replicate 256 (0 : Int))), ([] : (List disk_write)), (-1 : Int), false⟩ : disk_Disk)) else none

/- cabal/caballaw12.data -/
def caballaw12_data.j1 (k : Nat) (y1 : (List Int)) : Option (List Int) :=
  some y1

def caballaw12_data.l1 (k : Nat) (p2 : Int) (p1 : Int) : Nat → Int → (List Int) → Option (List Int)
  | 0, _, _ => none
  | n + 1, y2, y3 =>
    if (decide (y2 < (iadd .i64 (256 : Int) (IntKind.wrap .i64 p2)))) = true then (if (0 ≤ y2 ∧ y2 < y3.length) then ((set? y3 y2 (iadd .u8 p1 (IntKind.wrap .u8 (iquo .i64 y2 (64 : Int))))).bind fun x1 => (caballaw12_data.l1 k p2 p1 n) (iadd .i64 y2 (1 : Int)) x1) else none) else ((caballaw12_data.j1 k) y3)

def caballaw12_data (k : Nat) (p1 : Int) (p2 : Int) : Option (List Int) :=
  if (0 ≤ (iadd .i64 (256 : Int) (IntKind.wrap .i64 p2)) ∧ (iadd .i64 (256 : Int) (IntKind.wrap .i64 p2)).toNat ≤ lim) then (caballaw12_data.l1 k p2 p1 k (0 : Int) (List.replicate (iadd .i64 (256 : Int) (IntKind.wrap .i64 p2)).toNat (0 : Int))) else none

/- (*cabal/disk.Disk).Blocks -/
def disk_Disk_Blocks (k : Nat) (p1 : disk_Disk) : Option Int :=
  some (p1.firm.length : Int)

/- (*cabal/disk.Disk).has -/
def disk_Disk_has (k : Nat) (p1 : disk_Disk) (p2 : Int) : Option Bool :=
  (if ((decide (p2 ≥ (0 : Int))) == true) = true then disk_Disk_Blocks k p1 else some (0 : Int)).bind fun x1 => some (if (decide (p2 ≥ (0 : Int))) then (decide (p2 < x1)) else false)

/- (*cabal/disk.Disk).burn -/
def disk_Disk_burn.j1 (k : Nat) (p1 : disk_Disk) (y1 : Int) (y2 : Bool) : Option (Bool × disk_Disk) :=
  some ((!y2), (⟨p1.firm, p1.loose, y1, y2⟩ : disk_Disk))

def disk_Disk_burn (k : Nat) (p1 : disk_Disk) : Option (Bool × disk_Disk) :=
  if (p1.fuse == (0 : Int)) = true then ((disk_Disk_burn.j1 k p1) p1.fuse true) else (if (decide (p1.fuse > (0 : Int))) = true then ((disk_Disk_burn.j1 k p1) (isub .i64 p1.fuse (1 : Int)) p1.dead) else ((disk_Disk_burn.j1 k p1) p1.fuse p1.dead))

/- (*cabal/disk.Disk).Write -/
def disk_Disk_Write (k : Nat) (p1 : disk_Disk) (p2 : Int) (p3 : (List Int)) : Option (Int × disk_Disk) :=
  (disk_Disk_has k p1 p2).bind fun x1 => if (if (!x1) then true else ((p3.length : Int) != (256 : Int))) = true then (some ((1 : Int), p1)) else (if p1.dead = true then (some ((7 : Int), p1)) else (if p3.length ≤ ((256 : Int).toNat - (0 : Int).toNat) then ((some ({ (⟨p2, (List.replicate 256 (0 : Int))⟩ : disk_write) with data := (((⟨p2, (List.replicate 256 (0 : Int))⟩ : disk_write).data).take (0 : Int).toNat ++ p3 ++ ((⟨p2, (List.replicate 256 (0 : Int))⟩ : disk_write).data).drop ((0 : Int).toNat + p3.length)) })).bind fun x2 => if p1.loose.length + ([x2] : (List disk_write)).length ≤ lim then ((disk_Disk_burn k (⟨p1.firm, (p1.loose ++ ([x2] : (List disk_write))), p1.fuse, p1.dead⟩ : disk_Disk)).bind fun x3 => if (!x3.1) = true then (some ((7 : Int), x3.2)) else (some ((0 : Int), x3.2))) else none) else none))

/- (*cabal/disk.Disk).Crash$1 -/
def disk_Disk_Crash_1 (k : Nat) (p1 : Int) (p2 : (List Int)) : Option Int :=
  if (decide (p1 < (p2.length : Int))) = true then ((at? p2 p1).bind fun x1 => some (IntKind.wrap .i64 (irem x1 (5 : Int)))) else (some (0 : Int))

/- (*cabal/disk.Disk).settle -/
def disk_Disk_settle_disk_Disk_Crash_1.j1 (k : Nat) (p1 : disk_Disk) (y1 : (List (List Int))) : Option disk_Disk :=
  some (⟨y1, ([] : (List disk_write)), p1.fuse, p1.dead⟩ : disk_Disk)

def disk_Disk_settle_disk_Disk_Crash_1.l1 (k : Nat) (p1 : disk_Disk) (p2 : (List Int)) : Nat → Int → (List (List Int)) → Option disk_Disk
  | 0, _, _ => none
  | n + 1, y2, y3 =>
    if (decide (y2 < (p1.loose.length : Int))) = true then (if (0 ≤ y2 ∧ y2 < p1.loose.length) then ((at? p1.loose y2).bind fun x1 => (disk_Disk_Crash_1 k y2 p2).bind fun x2 => if (0 ≤ x1.at_ ∧ x1.at_ < y3.length) then (if (0 ≤ (0 : Int) ∧ (0 : Int) ≤ (imul .i64 x2 (64 : Int)) ∧ (imul .i64 x2 (64 : Int)) ≤ ((256 : Nat) : Int)) then (if (0 ≤ (0 : Int) ∧ (0 : Int) ≤ (imul .i64 x2 (64 : Int)) ∧ (imul .i64 x2 (64 : Int)) ≤ ((256 : Nat) : Int)) then ((cut? x1.data (0 : Int) (imul .i64 x2 (64 : Int))).bind fun x3 => if x3.length ≤ ((imul .i64 x2 (64 : Int)).toNat - (0 : Int).toNat) then ((at? y3 x1.at_).bind fun x4 => (set? y3 x1.at_ (x4.take (0 : Int).toNat ++ x3 ++ x4.drop ((0 : Int).toNat + x3.length))).bind fun x5 => (disk_Disk_settle_disk_Disk_Crash_1.l1 k p1 p2 n) (iadd .i64 y2 (1 : Int)) x5) else none) else none) else none) else none) else none) else ((disk_Disk_settle_disk_Disk_Crash_1.j1 k p1) y3)

def disk_Disk_settle_disk_Disk_Crash_1 (k : Nat) (p1 : disk_Disk) (p2 : (List Int)) : Option disk_Disk :=
  disk_Disk_settle_disk_Disk_Crash_1.l1 k p1 p2 k (0 : Int) p1.firm

/- (*cabal/disk.Disk).Crash -/
def disk_Disk_Crash (k : Nat) (p1 : disk_Disk) (p2 : (List Int)) : Option disk_Disk :=
  (disk_Disk_settle_disk_Disk_Crash_1 k p1 p2).bind fun x1 => some (⟨x1.firm, x1.loose, (-1 : Int), false⟩ : disk_Disk)

/- (*cabal/disk.Disk).Settled -/
def disk_Disk_Settled (k : Nat) (p1 : disk_Disk) (p2 : Int) : Option (List Int) :=
  (disk_Disk_has k p1 p2).bind fun x1 => if (!x1) = true then (some ([] : List Int)) else ((at? p1.firm p2).bind fun x2 => (cut? x2 (0 : Int) (256 : Int)).bind fun x3 => some x3)

/- (*cabal/disk.Disk).Dead -/
def disk_Disk_Dead (k : Nat) (p1 : disk_Disk) : Option Bool :=
  some (if false then true else p1.dead)

/- cabal/caballaw12.alive -/
def caballaw12_alive (k : Nat) : Option Bool :=
  (disk_New k (2 : Int)).bind fun x1 => (caballaw12_data k (9 : Int) (0 : Int)).bind fun x2 => (disk_Disk_Write k x1 (1 : Int) x2).bind fun x3 => (disk_Disk_Crash k x3.2 ([(2 : Int)] : (List Int))).bind fun x4 => (disk_Disk_Settled k x4 (1 : Int)).bind fun x5 => (if ((x3.1 == (0 : Int)) == true) = true then disk_Disk_Blocks k x4 else some (0 : Int)).bind fun x6 => (some ((if (if (x3.1 == (0 : Int)) then (x6 == (2 : Int)) else false) then ((x5.length : Int) == (256 : Int)) else false))).bind fun x7 => (if (x7 == true) = true then at? x5 (0 : Int) else some (0 : Int)).bind fun x8 => (if ((if x7 then (x8 == (9 : Int)) else false) == true) = true then at? x5 (127 : Int) else some (0 : Int)).bind fun x9 => (some ((if (if x7 then (x8 == (9 : Int)) else false) then (x9 == (10 : Int)) else false))).bind fun x10 => (if (x10 == true) = true then at? x5 (128 : Int) else some (0 : Int)).bind fun x11 => (if ((if x10 then (x11 == (0 : Int)) else false) == true) = true then disk_Disk_Dead k x4 else some false).bind fun x12 => (some ((if (if x10 then (x11 == (0 : Int)) else false) then (!x12) else false))).bind fun x13 => some x13

/- (*cabal/disk.Disk).Fuse -/
def disk_Disk_Fuse_nil (k : Nat) (p1 : Int) : Option Unit :=
  some ()

/- (*cabal/disk.Disk).Crash -/
def disk_Disk_Crash_nil (k : Nat) (p1 : (List Int)) : Option Unit :=
  some ()

/- (*cabal/disk.Disk).Blocks -/
def disk_Disk_Blocks_nil (k : Nat) : Option Int :=
  some (0 : Int)

/- (*cabal/disk.Disk).has -/
def disk_Disk_has_nil (k : Nat) (p1 : Int) : Option Bool :=
  (if ((decide (p1 ≥ (0 : Int))) == true) = true then disk_Disk_Blocks_nil k else some (0 : Int)).bind fun x1 => some (if (decide (p1 ≥ (0 : Int))) then (decide (p1 < x1)) else false)

/- (*cabal/disk.Disk).Read -/
def disk_Disk_Read_nil (k : Nat) (p1 : Int) : Option ((List Int) × Int) :=
  (disk_Disk_has_nil k p1).bind fun x1 => if (!x1) = true then (some (([] : List Int), (1 : Int))) else (none)

/- cabal/cabalref12.New -/
def cabalref12_New.j3 (k : Nat) (y3 : (List (List Int))) : Option cabalref12_Disk :=
  some (⟨y3, [], [], (-1 : Int), false⟩ : cabalref12_Disk)

def cabalref12_New.l1 (k : Nat) (y2 : Int) : Nat → Int → (List (List Int)) → Option cabalref12_Disk
  | 0, _, _ => none
  | n + 1, y4, y5 =>
    if (decide (y4 < y2)) = true then (if (0 ≤ (256 : Int) ∧ (256 : Int).toNat ≤ lim) then (if y5.length + ([(List.replicate (256 : Int).toNat (0 : Int))] : (List (List Int))).length ≤ lim then ((cabalref12_New.l1 k y2 n) (iadd .i64 y4 (1 : Int)) (y5 ++ ([(List.replicate (256 : Int).toNat (0 : Int))] : (List (List Int))))) else none) else none) else ((cabalref12_New.j3 k) y5)

def cabalref12_New.j2 (k : Nat) (y2 : Int) : Option cabalref12_Disk :=
  cabalref12_New.l1 k y2 k (0 : Int) ([] : (List (List Int)))

def cabalref12_New.j1 (k : Nat) (y1 : Int) : Option cabalref12_Disk :=
  if (decide (y1 > (1024 : Int))) = true then ((cabalref12_New.j2 k) (1024 : Int)) else ((cabalref12_New.j2 k) y1)

def cabalref12_New (k : Nat) (p1 : Int) : Option cabalref12_Disk :=
  if (decide (p1 < (1 : Int))) = true then ((cabalref12_New.j1 k) (1 : Int)) else ((cabalref12_New.j1 k) p1)

/- (*cabal/disk.Disk).Dead -/
def disk_Disk_Dead_nil (k : Nat) : Option Bool :=
  some (if true then true else false)

/- (*cabal/disk.Disk).Settled -/
def disk_Disk_Settled_nil (k : Nat) (p1 : Int) : Option (List Int) :=
  (disk_Disk_has_nil k p1).bind fun x1 => if (!x1) = true then (some ([] : List Int)) else (none)

/- (*cabal/disk.Disk).Write -/
def disk_Disk_Write_nil (k : Nat) (p1 : Int) (p2 : (List Int)) : Option Int :=
  (disk_Disk_has_nil k p1).bind fun x1 => if (if (!x1) then true else ((p2.length : Int) != (256 : Int))) = true then (some (1 : Int)) else (none)

/- (*cabal/disk.Disk).burn -/
def disk_Disk_burn_nil (k : Nat) : Option Bool :=
  none

/- (*cabal/disk.Disk).settle -/
def disk_Disk_settle_disk_Disk_Sync_1_nil (k : Nat) : Option Unit :=
  none

/- (*cabal/disk.Disk).Sync -/
def disk_Disk_Sync_nil (k : Nat) : Option Int :=
  (if ((if true then true else false) == false) = true then disk_Disk_burn_nil k else some false).bind fun x1 => if (if (if true then true else false) then true else (!x1)) = true then (some (7 : Int)) else ((disk_Disk_settle_disk_Disk_Sync_1_nil k).bind fun x2 => some (0 : Int))

/- cabal/caballaw12.DiskNone -/
def caballaw12_DiskNone (k : Nat) (p1 : Int) (p2 : Int) : Option Bool :=
  (caballaw12_alive k).bind fun x1 => if (!x1) = true then (some false) else ((disk_Disk_Fuse_nil k p2).bind fun x2 => (disk_Disk_Crash_nil k ([(1 : Int)] : (List Int))).bind fun x3 => (disk_Disk_Read_nil k p2).bind fun x4 => (cabalref12_New k p1).bind fun x5 => (caballaw12_alive k).bind fun x6 => (if (x6 == true) = true then disk_Disk_Blocks_nil k else some (0 : Int)).bind fun x7 => (if ((if x6 then (x7 == (0 : Int)) else false) == true) = true then disk_Disk_Dead_nil k else some false).bind fun x8 => (some ((if (if (if x6 then (x7 == (0 : Int)) else false) then x8 else false) then (decide (x4.1 = ([] : List Int))) else false))).bind fun x9 => (if ((if x9 then (x4.2 == (1 : Int)) else false) == true) = true then disk_Disk_Settled_nil k p2 else some []).bind fun x10 => (some ((if (if x9 then (x4.2 == (1 : Int)) else false) then (decide (x10 = ([] : List Int))) else false))).bind fun x11 => (if (x11 == true) = true then caballaw12_data k (1 : Int) (0 : Int) else some []).bind fun x12 => (if (x11 == true) = true then disk_Disk_Write_nil k p2 x12 else some (0 : Int)).bind fun x13 => (if ((if x11 then (x13 == (1 : Int)) else false) == true) = true then disk_Disk_Sync_nil k else some (0 : Int)).bind fun x14 => (some ((if (if x11 then (x13 == (1 : Int)) else false) then (x14 == (7 : Int)) else false))).bind fun x15 => if (x15 == true) = true then ((disk_New k p1).bind fun x16 => (if (x15 == true) = true then disk_Disk_Blocks k x16 else some (0 : Int)).bind fun x17 => some (if x15 then (x17 == (x5.Firm.length : Int)) else false)) else none)

end Go.Proofs.Pure
