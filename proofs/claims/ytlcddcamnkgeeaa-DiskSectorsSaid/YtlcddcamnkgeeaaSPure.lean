/- Plain functions: what the program's functions answer, printed out of their code; kinds of their data. No condition. -/
import Derived.Test.YtlcddcamnkgeeaaKit25
namespace Go.Proofs.Pure
open Go Go.RowKit Go.Proofs.Kit
set_option linter.unusedVariables false

structure caballaw12_Act where
  Kind : Int
  At : Int
  N : Int
  B : Int
  Long : Int
  Keep : (List Int)
  deriving DecidableEq
def t_caballaw12_Act (x : caballaw12_Act) : Int × Int × Int × Int × Int × (List Int) × Unit := (x.Kind, x.At, x.N, x.B, x.Long, x.Keep, ())
theorem t_caballaw12_Act_inj (x y : caballaw12_Act) (h : t_caballaw12_Act x = t_caballaw12_Act y) : x = y := by cases x; cases y; simpa [t_caballaw12_Act] using h
def k_caballaw12_Act : Kd caballaw12_Act := kiso (kpair (kint .i64) (kpair (kint .i64) (kpair (kint .i64) (kpair (kint .u8) (kpair (kint .i8) (kpair (ksl (kint .u8)) knil)))))) t_caballaw12_Act
theorem lg_caballaw12_Act_Kind (x : caballaw12_Act) : LG k_caballaw12_Act (kint .i64) 0 x x.Kind := LG.iso (LG.fst _ _ _)
theorem ls_caballaw12_Act_Kind (x : caballaw12_Act) (y : Int) : LS k_caballaw12_Act (kint .i64) 0 x y { x with Kind := y } := LS.iso (LS.fst _ _ _ _)
theorem lg_caballaw12_Act_At (x : caballaw12_Act) : LG k_caballaw12_Act (kint .i64) 1 x x.At := LG.iso (LG.snd _ (LG.fst _ _ _))
theorem ls_caballaw12_Act_At (x : caballaw12_Act) (y : Int) : LS k_caballaw12_Act (kint .i64) 1 x y { x with At := y } := LS.iso (LS.snd _ (LS.fst _ _ _ _))
theorem lg_caballaw12_Act_N (x : caballaw12_Act) : LG k_caballaw12_Act (kint .i64) 2 x x.N := LG.iso (LG.snd _ (LG.snd _ (LG.fst _ _ _)))
theorem ls_caballaw12_Act_N (x : caballaw12_Act) (y : Int) : LS k_caballaw12_Act (kint .i64) 2 x y { x with N := y } := LS.iso (LS.snd _ (LS.snd _ (LS.fst _ _ _ _)))
theorem lg_caballaw12_Act_B (x : caballaw12_Act) : LG k_caballaw12_Act (kint .u8) 3 x x.B := LG.iso (LG.snd _ (LG.snd _ (LG.snd _ (LG.fst _ _ _))))
theorem ls_caballaw12_Act_B (x : caballaw12_Act) (y : Int) : LS k_caballaw12_Act (kint .u8) 3 x y { x with B := y } := LS.iso (LS.snd _ (LS.snd _ (LS.snd _ (LS.fst _ _ _ _))))
theorem lg_caballaw12_Act_Long (x : caballaw12_Act) : LG k_caballaw12_Act (kint .i8) 4 x x.Long := LG.iso (LG.snd _ (LG.snd _ (LG.snd _ (LG.snd _ (LG.fst _ _ _)))))
theorem ls_caballaw12_Act_Long (x : caballaw12_Act) (y : Int) : LS k_caballaw12_Act (kint .i8) 4 x y { x with Long := y } := LS.iso (LS.snd _ (LS.snd _ (LS.snd _ (LS.snd _ (LS.fst _ _ _ _)))))
theorem lg_caballaw12_Act_Keep (x : caballaw12_Act) : LG k_caballaw12_Act (ksl (kint .u8)) 5 x x.Keep := LG.iso (LG.snd _ (LG.snd _ (LG.snd _ (LG.snd _ (LG.snd _ (LG.fst _ _ _))))))
theorem ls_caballaw12_Act_Keep (x : caballaw12_Act) (y : (List Int)) : LS k_caballaw12_Act (ksl (kint .u8)) 5 x y { x with Keep := y } := LS.iso (LS.snd _ (LS.snd _ (LS.snd _ (LS.snd _ (LS.snd _ (LS.fst _ _ _ _))))))
structure cabalref12_Disk where
  Firm : (List (List Int))
  At : (List Int)
  Data : (List (List Int))
  Fuse : Int
  Dead : Bool
  deriving DecidableEq
def t_cabalref12_Disk (x : cabalref12_Disk) : (List (List Int)) × (List Int) × (List (List Int)) × Int × Bool × Unit := (x.Firm, x.At, x.Data, x.Fuse, x.Dead, ())
theorem t_cabalref12_Disk_inj (x y : cabalref12_Disk) (h : t_cabalref12_Disk x = t_cabalref12_Disk y) : x = y := by cases x; cases y; simpa [t_cabalref12_Disk] using h
def k_cabalref12_Disk : Kd cabalref12_Disk := kiso (kpair (ksl kstr) (kpair (ksl (kint .i64)) (kpair (ksl kstr) (kpair (kint .i64) (kpair kbool knil))))) t_cabalref12_Disk
theorem lg_cabalref12_Disk_Firm (x : cabalref12_Disk) : LG k_cabalref12_Disk (ksl kstr) 0 x x.Firm := LG.iso (LG.fst _ _ _)
theorem ls_cabalref12_Disk_Firm (x : cabalref12_Disk) (y : (List (List Int))) : LS k_cabalref12_Disk (ksl kstr) 0 x y { x with Firm := y } := LS.iso (LS.fst _ _ _ _)
theorem lg_cabalref12_Disk_At (x : cabalref12_Disk) : LG k_cabalref12_Disk (ksl (kint .i64)) 1 x x.At := LG.iso (LG.snd _ (LG.fst _ _ _))
theorem ls_cabalref12_Disk_At (x : cabalref12_Disk) (y : (List Int)) : LS k_cabalref12_Disk (ksl (kint .i64)) 1 x y { x with At := y } := LS.iso (LS.snd _ (LS.fst _ _ _ _))
theorem lg_cabalref12_Disk_Data (x : cabalref12_Disk) : LG k_cabalref12_Disk (ksl kstr) 2 x x.Data := LG.iso (LG.snd _ (LG.snd _ (LG.fst _ _ _)))
theorem ls_cabalref12_Disk_Data (x : cabalref12_Disk) (y : (List (List Int))) : LS k_cabalref12_Disk (ksl kstr) 2 x y { x with Data := y } := LS.iso (LS.snd _ (LS.snd _ (LS.fst _ _ _ _)))
theorem lg_cabalref12_Disk_Fuse (x : cabalref12_Disk) : LG k_cabalref12_Disk (kint .i64) 3 x x.Fuse := LG.iso (LG.snd _ (LG.snd _ (LG.snd _ (LG.fst _ _ _))))
theorem ls_cabalref12_Disk_Fuse (x : cabalref12_Disk) (y : Int) : LS k_cabalref12_Disk (kint .i64) 3 x y { x with Fuse := y } := LS.iso (LS.snd _ (LS.snd _ (LS.snd _ (LS.fst _ _ _ _))))
theorem lg_cabalref12_Disk_Dead (x : cabalref12_Disk) : LG k_cabalref12_Disk kbool 4 x x.Dead := LG.iso (LG.snd _ (LG.snd _ (LG.snd _ (LG.snd _ (LG.fst _ _ _)))))
theorem ls_cabalref12_Disk_Dead (x : cabalref12_Disk) (y : Bool) : LS k_cabalref12_Disk kbool 4 x y { x with Dead := y } := LS.iso (LS.snd _ (LS.snd _ (LS.snd _ (LS.snd _ (LS.fst _ _ _ _)))))
structure disk_write where
  at_ : Int
  data : (List Int)
  deriving DecidableEq
def t_disk_write (x : disk_write) : Int × (List Int) × Unit := (x.at_, x.data, ())
theorem t_disk_write_inj (x y : disk_write) (h : t_disk_write x = t_disk_write y) : x = y := by cases x; cases y; simpa [t_disk_write] using h
def k_disk_write : Kd disk_write := kiso (kpair (kint .i64) (kpair (karr 256 (kint .u8)) knil)) t_disk_write
theorem lg_disk_write_at_ (x : disk_write) : LG k_disk_write (kint .i64) 0 x x.at_ := LG.iso (LG.fst _ _ _)
theorem ls_disk_write_at_ (x : disk_write) (y : Int) : LS k_disk_write (kint .i64) 0 x y { x with at_ := y } := LS.iso (LS.fst _ _ _ _)
theorem lg_disk_write_data (x : disk_write) : LG k_disk_write (karr 256 (kint .u8)) 1 x x.data := LG.iso (LG.snd _ (LG.fst _ _ _))
theorem ls_disk_write_data (x : disk_write) (y : (List Int)) : LS k_disk_write (karr 256 (kint .u8)) 1 x y { x with data := y } := LS.iso (LS.snd _ (LS.fst _ _ _ _))
structure disk_Disk where
  firm : (List (List Int))
  loose : (List disk_write)
  fuse : Int
  dead : Bool
  deriving DecidableEq
def t_disk_Disk (x : disk_Disk) : (List (List Int)) × (List disk_write) × Int × Bool × Unit := (x.firm, x.loose, x.fuse, x.dead, ())
theorem t_disk_Disk_inj (x y : disk_Disk) (h : t_disk_Disk x = t_disk_Disk y) : x = y := by cases x; cases y; simpa [t_disk_Disk] using h
def k_disk_Disk : Kd disk_Disk := kiso (kpair (ksl (karr 256 (kint .u8))) (kpair (ksl k_disk_write) (kpair (kint .i64) (kpair kbool knil)))) t_disk_Disk
theorem lg_disk_Disk_firm (x : disk_Disk) : LG k_disk_Disk (ksl (karr 256 (kint .u8))) 0 x x.firm := LG.iso (LG.fst _ _ _)
theorem ls_disk_Disk_firm (x : disk_Disk) (y : (List (List Int))) : LS k_disk_Disk (ksl (karr 256 (kint .u8))) 0 x y { x with firm := y } := LS.iso (LS.fst _ _ _ _)
theorem lg_disk_Disk_loose (x : disk_Disk) : LG k_disk_Disk (ksl k_disk_write) 1 x x.loose := LG.iso (LG.snd _ (LG.fst _ _ _))
theorem ls_disk_Disk_loose (x : disk_Disk) (y : (List disk_write)) : LS k_disk_Disk (ksl k_disk_write) 1 x y { x with loose := y } := LS.iso (LS.snd _ (LS.fst _ _ _ _))
theorem lg_disk_Disk_fuse (x : disk_Disk) : LG k_disk_Disk (kint .i64) 2 x x.fuse := LG.iso (LG.snd _ (LG.snd _ (LG.fst _ _ _)))
theorem ls_disk_Disk_fuse (x : disk_Disk) (y : Int) : LS k_disk_Disk (kint .i64) 2 x y { x with fuse := y } := LS.iso (LS.snd _ (LS.snd _ (LS.fst _ _ _ _)))
theorem lg_disk_Disk_dead (x : disk_Disk) : LG k_disk_Disk kbool 3 x x.dead := LG.iso (LG.snd _ (LG.snd _ (LG.snd _ (LG.fst _ _ _))))
theorem ls_disk_Disk_dead (x : disk_Disk) (y : Bool) : LS k_disk_Disk kbool 3 x y { x with dead := y } := LS.iso (LS.snd _ (LS.snd _ (LS.snd _ (LS.fst _ _ _ _))))
def to_disk_Disk_0_1 (x : disk_Disk) : Unit × Unit × Int × Bool × Unit := ((), (), x.fuse, x.dead, ())
def ko_disk_Disk_0_1 (v0 v1 : Value) : Kd disk_Disk := kiso (kpair (kis v0) (kpair (kis v1) (kpair (kint .i64) (kpair kbool knil)))) to_disk_Disk_0_1
theorem lgo_disk_Disk_0_1_firm {v0 v1 : Value} (x : disk_Disk) : LG (ko_disk_Disk_0_1 v0 v1) (kis v0) 0 x () := LG.iso (LG.fst _ _ _)
theorem lgo_disk_Disk_0_1_loose {v0 v1 : Value} (x : disk_Disk) : LG (ko_disk_Disk_0_1 v0 v1) (kis v1) 1 x () := LG.iso (LG.snd _ (LG.fst _ _ _))
theorem lgo_disk_Disk_0_1_fuse {v0 v1 : Value} (x : disk_Disk) : LG (ko_disk_Disk_0_1 v0 v1) (kint .i64) 2 x x.fuse := LG.iso (LG.snd _ (LG.snd _ (LG.fst _ _ _)))
theorem lso_disk_Disk_0_1_fuse {v0 v1 : Value} (x : disk_Disk) (y : Int) : LS (ko_disk_Disk_0_1 v0 v1) (kint .i64) 2 x y { x with fuse := y } := LS.iso (LS.snd _ (LS.snd _ (LS.fst _ _ _ _)))
theorem lgo_disk_Disk_0_1_dead {v0 v1 : Value} (x : disk_Disk) : LG (ko_disk_Disk_0_1 v0 v1) kbool 3 x x.dead := LG.iso (LG.snd _ (LG.snd _ (LG.snd _ (LG.fst _ _ _))))
theorem lso_disk_Disk_0_1_dead {v0 v1 : Value} (x : disk_Disk) (y : Bool) : LS (ko_disk_Disk_0_1 v0 v1) kbool 3 x y { x with dead := y } := LS.iso (LS.snd _ (LS.snd _ (LS.snd _ (LS.fst _ _ _ _))))
theorem upo_disk_Disk_0_1 {H : Ok → World → Prop} {v0 v1 : Value} {x x' : disk_Disk} (hx : to_disk_Disk_0_1 x = to_disk_Disk_0_1 x') (u0 : Up H (kis v0) (ksl (karr 256 (kint .u8))) () x'.firm) (u1 : Up H (kis v1) (ksl k_disk_write) () x'.loose) : Up H (ko_disk_Disk_0_1 v0 v1) k_disk_Disk x x' := fun ok w cs hH hr => by
  have hr' : Kd.rel (kpair (kis v0) (kpair (kis v1) (kpair (kint .i64) (kpair kbool knil)))) ok w (to_disk_Disk_0_1 x) cs := hr
  rw [hx] at hr'
  exact (Up.pair u0 (Up.pair u1 (Up.pair (Up.refl _ _) (Up.pair (Up.refl _ _) (Up.refl _ _)))) : Up H (kpair (kis v0) (kpair (kis v1) (kpair (kint .i64) (kpair kbool knil)))) (kpair (ksl (karr 256 (kint .u8))) (kpair (ksl k_disk_write) (kpair (kint .i64) (kpair kbool knil)))) (to_disk_Disk_0_1 x') (t_disk_Disk x')) ok w cs hH hr'
def to_cabalref12_Disk_0_1_2 (x : cabalref12_Disk) : Unit × Unit × Unit × Int × Bool × Unit := ((), (), (), x.Fuse, x.Dead, ())
def ko_cabalref12_Disk_0_1_2 (v0 v1 v2 : Value) : Kd cabalref12_Disk := kiso (kpair (kis v0) (kpair (kis v1) (kpair (kis v2) (kpair (kint .i64) (kpair kbool knil))))) to_cabalref12_Disk_0_1_2
theorem lgo_cabalref12_Disk_0_1_2_Firm {v0 v1 v2 : Value} (x : cabalref12_Disk) : LG (ko_cabalref12_Disk_0_1_2 v0 v1 v2) (kis v0) 0 x () := LG.iso (LG.fst _ _ _)
theorem lgo_cabalref12_Disk_0_1_2_At {v0 v1 v2 : Value} (x : cabalref12_Disk) : LG (ko_cabalref12_Disk_0_1_2 v0 v1 v2) (kis v1) 1 x () := LG.iso (LG.snd _ (LG.fst _ _ _))
theorem lgo_cabalref12_Disk_0_1_2_Data {v0 v1 v2 : Value} (x : cabalref12_Disk) : LG (ko_cabalref12_Disk_0_1_2 v0 v1 v2) (kis v2) 2 x () := LG.iso (LG.snd _ (LG.snd _ (LG.fst _ _ _)))
theorem lgo_cabalref12_Disk_0_1_2_Fuse {v0 v1 v2 : Value} (x : cabalref12_Disk) : LG (ko_cabalref12_Disk_0_1_2 v0 v1 v2) (kint .i64) 3 x x.Fuse := LG.iso (LG.snd _ (LG.snd _ (LG.snd _ (LG.fst _ _ _))))
theorem lso_cabalref12_Disk_0_1_2_Fuse {v0 v1 v2 : Value} (x : cabalref12_Disk) (y : Int) : LS (ko_cabalref12_Disk_0_1_2 v0 v1 v2) (kint .i64) 3 x y { x with Fuse := y } := LS.iso (LS.snd _ (LS.snd _ (LS.snd _ (LS.fst _ _ _ _))))
theorem lgo_cabalref12_Disk_0_1_2_Dead {v0 v1 v2 : Value} (x : cabalref12_Disk) : LG (ko_cabalref12_Disk_0_1_2 v0 v1 v2) kbool 4 x x.Dead := LG.iso (LG.snd _ (LG.snd _ (LG.snd _ (LG.snd _ (LG.fst _ _ _)))))
theorem lso_cabalref12_Disk_0_1_2_Dead {v0 v1 v2 : Value} (x : cabalref12_Disk) (y : Bool) : LS (ko_cabalref12_Disk_0_1_2 v0 v1 v2) kbool 4 x y { x with Dead := y } := LS.iso (LS.snd _ (LS.snd _ (LS.snd _ (LS.snd _ (LS.fst _ _ _ _)))))
theorem upo_cabalref12_Disk_0_1_2 {H : Ok → World → Prop} {v0 v1 v2 : Value} {x x' : cabalref12_Disk} (hx : to_cabalref12_Disk_0_1_2 x = to_cabalref12_Disk_0_1_2 x') (u0 : Up H (kis v0) (ksl kstr) () x'.Firm) (u1 : Up H (kis v1) (ksl (kint .i64)) () x'.At) (u2 : Up H (kis v2) (ksl kstr) () x'.Data) : Up H (ko_cabalref12_Disk_0_1_2 v0 v1 v2) k_cabalref12_Disk x x' := fun ok w cs hH hr => by
  have hr' : Kd.rel (kpair (kis v0) (kpair (kis v1) (kpair (kis v2) (kpair (kint .i64) (kpair kbool knil))))) ok w (to_cabalref12_Disk_0_1_2 x) cs := hr
  rw [hx] at hr'
  exact (Up.pair u0 (Up.pair u1 (Up.pair u2 (Up.pair (Up.refl _ _) (Up.pair (Up.refl _ _) (Up.refl _ _))))) : Up H (kpair (kis v0) (kpair (kis v1) (kpair (kis v2) (kpair (kint .i64) (kpair kbool knil))))) (kpair (ksl kstr) (kpair (ksl (kint .i64)) (kpair (ksl kstr) (kpair (kint .i64) (kpair kbool knil))))) (to_cabalref12_Disk_0_1_2 x') (t_cabalref12_Disk x')) ok w cs hH hr'
theorem lsk_disk_Disk_0_1_to_0_1_at0 {u0 v0 v1 : Value} (x : disk_Disk) : LSK (ko_disk_Disk_0_1 v0 v1) (kis u0) (ko_disk_Disk_0_1 u0 v1) 0 x () x := LSK.iso (LSK.fst (k := kis v0) (k' := kis u0) _ rfl _ _)
theorem lsk_disk_Disk_0_1_to_0_1_at1 {u1 v0 v1 : Value} (x : disk_Disk) : LSK (ko_disk_Disk_0_1 v0 v1) (kis u1) (ko_disk_Disk_0_1 v0 u1) 1 x () x := LSK.iso (LSK.snd _ (LSK.fst (k := kis v1) (k' := kis u1) _ rfl _ _))
theorem lsk_cabalref12_Disk_0_1_2_to_0_1_2_at0 {u0 v0 v1 v2 : Value} (x : cabalref12_Disk) : LSK (ko_cabalref12_Disk_0_1_2 v0 v1 v2) (kis u0) (ko_cabalref12_Disk_0_1_2 u0 v1 v2) 0 x () x := LSK.iso (LSK.fst (k := kis v0) (k' := kis u0) _ rfl _ _)
theorem lsk_cabalref12_Disk_0_1_2_to_0_1_2_at1 {u1 v0 v1 v2 : Value} (x : cabalref12_Disk) : LSK (ko_cabalref12_Disk_0_1_2 v0 v1 v2) (kis u1) (ko_cabalref12_Disk_0_1_2 v0 u1 v2) 1 x () x := LSK.iso (LSK.snd _ (LSK.fst (k := kis v1) (k' := kis u1) _ rfl _ _))
theorem lsk_cabalref12_Disk_0_1_2_to_0_1_2_at2 {u2 v0 v1 v2 : Value} (x : cabalref12_Disk) : LSK (ko_cabalref12_Disk_0_1_2 v0 v1 v2) (kis u2) (ko_cabalref12_Disk_0_1_2 v0 v1 u2) 2 x () x := LSK.iso (LSK.snd _ (LSK.snd _ (LSK.fst (k := kis v2) (k' := kis u2) _ rfl _ _)))



/- cabal/disk.New -/
def disk_New (k : Nat) (p1 : Int) : Option disk_Disk :=
  (some ((if (1024 : Int) < (if (1 : Int) > p1 then (1 : Int) else p1) then (1024 : Int) else (if (1 : Int) > p1 then (1 : Int) else p1)))).bind fun x1 => if (0 ≤ x1 ∧ x1.toNat ≤ lim) then (some (⟨(List.replicate x1.toNat (List.replicate 256 (0 : Int))), ([] : (List disk_write)), (-1 : Int), false⟩ : disk_Disk)) else none

/- cabal/caballaw12.data -/
def caballaw12_data.j1 (k : Nat) (y1 : (List Int)) : Option (List Int) :=
  some y1

def caballaw12_data.l1 (k : Nat) (p2 : Int) (p1 : Int) : Nat → Int → (List Int) → Option (List Int)
  | 0, _, _ => none
  | n + 1, y2, y3 =>
    if (decide (y2 < (iadd .i64 (256 : Int) (IntKind.wrap .i64 p2)))) = true then (if (0 ≤ y2 ∧ y2 < y3.length) then ((set? y3 y2 (iadd .u8 p1 (IntKind.wrap .u8 (iquo .i64 y2 (64 : Int))))).bind fun x1 => (caballaw12_data.l1 k p2 p1 n) (iadd .i64 y2 (1 : Int)) x1) else none) else ((caballaw12_data.j1 k) y3)

def caballaw12_data (k : Nat) (p1 : Int) (p2 : Int) : Option (List Int) :=
  if (0 ≤ (iadd .i64 (256 : Int) (IntKind.wrap .i64 p2)) ∧ (iadd .i64 (256 : Int) (IntKind.wrap .i64 p2)).toNat ≤ lim) then (caballaw12_data.l1 k p2 p1 k (0 : Int) (List.replicate (iadd .i64 (256 : Int) (IntKind.wrap .i64 p2)).toNat (0 : Int))) else none

/- (*cabal/disk.Disk).Blocks -/
def disk_Disk_Blocks (k : Nat) (p1 : disk_Disk) : Option Int :=
  some (p1.firm.length : Int)

/- (*cabal/disk.Disk).has -/
def disk_Disk_has (k : Nat) (p1 : disk_Disk) (p2 : Int) : Option Bool :=
  (if ((decide (p2 ≥ (0 : Int))) == true) = true then disk_Disk_Blocks k p1 else some (0 : Int)).bind fun x1 => some (if (decide (p2 ≥ (0 : Int))) then (decide (p2 < x1)) else false)

/- (*cabal/disk.Disk).burn -/
def disk_Disk_burn.j1 (k : Nat) (p1 : disk_Disk) (y1 : Int) (y2 : Bool) : Option (Bool × disk_Disk) :=
  some ((!y2), (⟨p1.firm, p1.loose, y1, y2⟩ : disk_Disk))

def disk_Disk_burn (k : Nat) (p1 : disk_Disk) : Option (Bool × disk_Disk) :=
  if (p1.fuse == (0 : Int)) = true then ((disk_Disk_burn.j1 k p1) p1.fuse true) else (if (decide (p1.fuse > (0 : Int))) = true then ((disk_Disk_burn.j1 k p1) (isub .i64 p1.fuse (1 : Int)) p1.dead) else ((disk_Disk_burn.j1 k p1) p1.fuse p1.dead))

/- (*cabal/disk.Disk).Write -/
def disk_Disk_Write (k : Nat) (p1 : disk_Disk) (p2 : Int) (p3 : (List Int)) : Option (Int × disk_Disk) :=
  (disk_Disk_has k p1 p2).bind fun x1 => if (if (!x1) then true else ((p3.length : Int) != (256 : Int))) = true then (some ((1 : Int), p1)) else (if p1.dead = true then (some ((7 : Int), p1)) else (if p3.length ≤ ((256 : Int).toNat - (0 : Int).toNat) then ((some ({ (⟨p2, (List.replicate 256 (0 : Int))⟩ : disk_write) with data := (((⟨p2, (List.replicate 256 (0 : Int))⟩ : disk_write).data).take (0 : Int).toNat ++ p3 ++ ((⟨p2, (List.replicate 256 (0 : Int))⟩ : disk_write).data).drop ((0 : Int).toNat + p3.length)) })).bind fun x2 => if p1.loose.length + ([x2] : (List disk_write)).length ≤ lim then ((disk_Disk_burn k (⟨p1.firm, (p1.loose ++ ([x2] : (List disk_write))), p1.fuse, p1.dead⟩ : disk_Disk)).bind fun x3 => if (!x3.1) = true then (some ((7 : Int), x3.2)) else (some ((0 : Int), x3.2))) else none) else none))

/- (*cabal/disk.Disk).Crash$1 -/
def disk_Disk_Crash_1 (k : Nat) (p1 : Int) (p2 : (List Int)) : Option Int :=
  if (decide (p1 < (p2.length : Int))) = true then ((at? p2 p1).bind fun x1 => some (IntKind.wrap .i64 (irem x1 (5 : Int)))) else (some (0 : Int))

/- (*cabal/disk.Disk).settle -/
def disk_Disk_settle_disk_Disk_Crash_1.j1 (k : Nat) (p1 : disk_Disk) (y1 : (List (List Int))) : Option disk_Disk :=
  some (⟨y1, ([] : (List disk_write)), p1.fuse, p1.dead⟩ : disk_Disk)

def disk_Disk_settle_disk_Disk_Crash_1.l1 (k : Nat) (p1 : disk_Disk) (p2 : (List Int)) : Nat → Int → (List (List Int)) → Option disk_Disk
  | 0, _, _ => none
  | n + 1, y2, y3 =>
    if (decide (y2 < (p1.loose.length : Int))) = true then (if (0 ≤ y2 ∧ y2 < p1.loose.length) then ((at? p1.loose y2).bind fun x1 => (disk_Disk_Crash_1 k y2 p2).bind fun x2 => if (0 ≤ x1.at_ ∧ x1.at_ < y3.length) then (if (0 ≤ (0 : Int) ∧ (0 : Int) ≤ (imul .i64 x2 (64 : Int)) ∧ (imul .i64 x2 (64 : Int)) ≤ ((256 : Nat) : Int)) then (if (0 ≤ (0 : Int) ∧ (0 : Int) ≤ (imul .i64 x2 (64 : Int)) ∧ (imul .i64 x2 (64 : Int)) ≤ ((256 : Nat) : Int)) then ((cut? x1.data (0 : Int) (imul .i64 x2 (64 : Int))).bind fun x3 => if x3.length ≤ ((imul .i64 x2 (64 : Int)).toNat - (0 : Int).toNat) then ((at? y3 x1.at_).bind fun x4 => (set? y3 x1.at_ (x4.take (0 : Int).toNat ++ x3 ++ x4.drop ((0 : Int).toNat + x3.length))).bind fun x5 => (disk_Disk_settle_disk_Disk_Crash_1.l1 k p1 p2 n) (iadd .i64 y2 (1 : Int)) x5) else none) else none) else none) else none) else none) else ((disk_Disk_settle_disk_Disk_Crash_1.j1 k p1) y3)

def disk_Disk_settle_disk_Disk_Crash_1 (k : Nat) (p1 : disk_Disk) (p2 : (List Int)) : Option disk_Disk :=
  disk_Disk_settle_disk_Disk_Crash_1.l1 k p1 p2 k (0 : Int) p1.firm

/- (*cabal/disk.Disk).Crash -/
def disk_Disk_Crash (k : Nat) (p1 : disk_Disk) (p2 : (List Int)) : Option disk_Disk :=
  (disk_Disk_settle_disk_Disk_Crash_1 k p1 p2).bind fun x1 => some (⟨x1.firm, x1.loose, (-1 : Int), false⟩ : disk_Disk)

/- (*cabal/disk.Disk).Settled -/
def disk_Disk_Settled (k : Nat) (p1 : disk_Disk) (p2 : Int) : Option (List Int) :=
  (disk_Disk_has k p1 p2).bind fun x1 => if (!x1) = true then (some ([] : List Int)) else ((at? p1.firm p2).bind fun x2 => (cut? x2 (0 : Int) (256 : Int)).bind fun x3 => some x3)

/- (*cabal/disk.Disk).Dead -/
def disk_Disk_Dead (k : Nat) (p1 : disk_Disk) : Option Bool :=
  some (if false then true else p1.dead)

/- cabal/caballaw12.alive -/
def caballaw12_alive (k : Nat) : Option Bool :=
  (disk_New k (2 : Int)).bind fun x1 => (caballaw12_data k (9 : Int) (0 : Int)).bind fun x2 => (disk_Disk_Write k x1 (1 : Int) x2).bind fun x3 => (disk_Disk_Crash k x3.2 ([(2 : Int)] : (List Int))).bind fun x4 => (disk_Disk_Settled k x4 (1 : Int)).bind fun x5 => (if ((x3.1 == (0 : Int)) == true) = true then disk_Disk_Blocks k x4 else some (0 : Int)).bind fun x6 => (some ((if (if (x3.1 == (0 : Int)) then (x6 == (2 : Int)) else false) then ((x5.length : Int) == (256 : Int)) else false))).bind fun x7 => (if (x7 == true) = true then at? x5 (0 : Int) else some (0 : Int)).bind fun x8 => (if ((if x7 then (x8 == (9 : Int)) else false) == true) = true then at? x5 (127 : Int) else some (0 : Int)).bind fun x9 => (some ((if (if x7 then (x8 == (9 : Int)) else false) then (x9 == (10 : Int)) else false))).bind fun x10 => (if (x10 == true) = true then at? x5 (128 : Int) else some (0 : Int)).bind fun x11 => (if ((if x10 then (x11 == (0 : Int)) else false) == true) = true then disk_Disk_Dead k x4 else some false).bind fun x12 => (some ((if (if x10 then (x11 == (0 : Int)) else false) then (!x12) else false))).bind fun x13 => some x13

/- (*cabal/disk.Disk).Sync$1 -/
def disk_Disk_Sync_1 (k : Nat) (p1 : Int) : Option Int :=
  some (4 : Int)

/- (*cabal/disk.Disk).settle -/
def disk_Disk_settle_disk_Disk_Sync_1.j1 (k : Nat) (p1 : disk_Disk) (y1 : (List (List Int))) : Option disk_Disk :=
  some (⟨y1, ([] : (List disk_write)), p1.fuse, p1.dead⟩ : disk_Disk)

def disk_Disk_settle_disk_Disk_Sync_1.l1 (k : Nat) (p1 : disk_Disk) : Nat → Int → (List (List Int)) → Option disk_Disk
  | 0, _, _ => none
  | n + 1, y2, y3 =>
    if (decide (y2 < (p1.loose.length : Int))) = true then (if (0 ≤ y2 ∧ y2 < p1.loose.length) then ((at? p1.loose y2).bind fun x1 => (disk_Disk_Sync_1 k y2).bind fun x2 => if (0 ≤ x1.at_ ∧ x1.at_ < y3.length) then (if (0 ≤ (0 : Int) ∧ (0 : Int) ≤ (imul .i64 x2 (64 : Int)) ∧ (imul .i64 x2 (64 : Int)) ≤ ((256 : Nat) : Int)) then (if (0 ≤ (0 : Int) ∧ (0 : Int) ≤ (imul .i64 x2 (64 : Int)) ∧ (imul .i64 x2 (64 : Int)) ≤ ((256 : Nat) : Int)) then ((cut? x1.data (0 : Int) (imul .i64 x2 (64 : Int))).bind fun x3 => if x3.length ≤ ((imul .i64 x2 (64 : Int)).toNat - (0 : Int).toNat) then ((at? y3 x1.at_).bind fun x4 => (set? y3 x1.at_ (x4.take (0 : Int).toNat ++ x3 ++ x4.drop ((0 : Int).toNat + x3.length))).bind fun x5 => (disk_Disk_settle_disk_Disk_Sync_1.l1 k p1 n) (iadd .i64 y2 (1 : Int)) x5) else none) else none) else none) else none) else none) else ((disk_Disk_settle_disk_Disk_Sync_1.j1 k p1) y3)

def disk_Disk_settle_disk_Disk_Sync_1 (k : Nat) (p1 : disk_Disk) : Option disk_Disk :=
  disk_Disk_settle_disk_Disk_Sync_1.l1 k p1 k (0 : Int) p1.firm

/- (*cabal/disk.Disk).Sync -/
def disk_Disk_Sync (k : Nat) (p1 : disk_Disk) : Option (Int × disk_Disk) :=
  (if ((if false then true else p1.dead) == false) = true then disk_Disk_burn k p1 else some (false, p1)).bind fun x1 => if (if (if false then true else p1.dead) then true else (!x1.1)) = true then (some ((7 : Int), x1.2)) else ((disk_Disk_settle_disk_Disk_Sync_1 k x1.2).bind fun x2 => some ((0 : Int), x2))

/- (*cabal/disk.Disk).Read -/
def disk_Disk_Read.j1 (k : Nat) (y1 : (List Int)) : Option ((List Int) × Int) :=
  (cut? y1 (0 : Int) (256 : Int)).bind fun x3 => some (x3, (0 : Int))

def disk_Disk_Read.j2 (k : Nat) (y2 : Int) (L_l1 : Int → (List Int) → Option ((List Int) × Int)) (y4 : (List Int)) : Option ((List Int) × Int) :=
  L_l1 (iadd .i64 y2 (1 : Int)) y4

def disk_Disk_Read.l1 (k : Nat) (p1 : disk_Disk) (p2 : Int) : Nat → Int → (List Int) → Option ((List Int) × Int)
  | 0, _, _ => none
  | n + 1, y2, y3 =>
    if (decide (y2 < (p1.loose.length : Int))) = true then ((at? p1.loose y2).bind fun x4 => if (x4.at_ == p2) = true then ((disk_Disk_Read.j2 k y2 (disk_Disk_Read.l1 k p1 p2 n)) x4.data) else ((disk_Disk_Read.j2 k y2 (disk_Disk_Read.l1 k p1 p2 n)) y3)) else ((disk_Disk_Read.j1 k) y3)

def disk_Disk_Read (k : Nat) (p1 : disk_Disk) (p2 : Int) : Option ((List Int) × Int) :=
  (disk_Disk_has k p1 p2).bind fun x1 => if (!x1) = true then (some (([] : List Int), (1 : Int))) else ((at? p1.firm p2).bind fun x2 => disk_Disk_Read.l1 k p1 p2 k (0 : Int) x2)

/- cabal/caballaw12.DiskSectors -/
def caballaw12_DiskSectors.j3 (k : Nat) : Option Bool :=
  (caballaw12_alive k).bind fun x4 => some x4

def caballaw12_DiskSectors.j4 (k : Nat) (y7 : Int) (L_l1 : Int → Option Bool) : Option Bool :=
  L_l1 (iadd .i64 y7 (1 : Int))

def caballaw12_DiskSectors.j6 (k : Nat) (y7 : Int) (L_l1 : Int → Option Bool) (y9 : Bool) : Option Bool :=
  if (!y9) = true then (some false) else ((caballaw12_DiskSectors.j4 k y7 L_l1))

def caballaw12_DiskSectors.l2 (k : Nat) (x5 : (List Int)) (y7 : Int) (L_l1 : Int → Option Bool) : Nat → Bool → Int → Option Bool
  | 0, _, _ => none
  | n + 1, y10, y11 =>
    if (decide (y11 < (64 : Int))) = true then ((if (y10 == true) = true then at? x5 (iadd .i64 (imul .i64 (irem y7 (4 : Int)) (64 : Int)) y11) else some (0 : Int)).bind fun x6 => (if (y10 == true) = true then at? x5 (imul .i64 (irem y7 (4 : Int)) (64 : Int)) else some (0 : Int)).bind fun x7 => (caballaw12_DiskSectors.l2 k x5 y7 L_l1 n) (if y10 then (x6 == x7) else false) (iadd .i64 y11 (1 : Int))) else ((caballaw12_DiskSectors.j6 k y7 L_l1) y10)

def caballaw12_DiskSectors.j5 (k : Nat) (x5 : (List Int)) (y7 : Int) (L_l1 : Int → Option Bool) (y8 : Bool) : Option Bool :=
  caballaw12_DiskSectors.l2 k x5 y7 L_l1 k y8 (0 : Int)

def caballaw12_DiskSectors.l3 (k : Nat) (y7 : Int) (y4 : (List (List Int))) (x5 : (List Int)) (L_l1 : Int → Option Bool) : Nat → Bool → Int → Option Bool
  | 0, _, _ => none
  | n + 1, y12, y13 =>
    if (0 ≤ y7 ∧ y7 < 12) then ((at? y4 y7).bind fun x8 => if (decide (y13 < (x8.length : Int))) = true then (if (y12 == false) = true → (0 ≤ y7 ∧ y7 < 12) then ((if (y12 == false) = true then at? y4 y7 else some []).bind fun x9 => (if (y12 == false) = true then at? x9 y13 else some (0 : Int)).bind fun x10 => (if (y12 == false) = true then at? x5 (imul .i64 (irem y7 (4 : Int)) (64 : Int)) else some (0 : Int)).bind fun x11 => (caballaw12_DiskSectors.l3 k y7 y4 x5 L_l1 n) (if y12 then true else (x10 == x11)) (iadd .i64 y13 (1 : Int))) else none) else ((caballaw12_DiskSectors.j5 k x5 y7 L_l1) y12)) else none

def caballaw12_DiskSectors.l1 (k : Nat) (x3 : disk_Disk) (y4 : (List (List Int))) : Nat → Int → Option Bool
  | 0, _ => none
  | n + 1, y7 =>
    if (decide (y7 < (12 : Int))) = true then ((disk_Disk_Settled k x3 (iquo .i64 y7 (4 : Int))).bind fun x5 => caballaw12_DiskSectors.l3 k y7 y4 x5 (caballaw12_DiskSectors.l1 k x3 y4 n) k false (0 : Int)) else ((caballaw12_DiskSectors.j3 k))

def caballaw12_DiskSectors.j2 (k : Nat) (p2 : (List Int)) (y2 : Int) (y3 : Bool) (y4 : (List (List Int))) (y5 : (List (List Int))) (y6 : (List disk_write)) : Option Bool :=
  (disk_Disk_Crash k (⟨y5, y6, y2, y3⟩ : disk_Disk) p2).bind fun x3 => caballaw12_DiskSectors.l1 k x3 y4 k (0 : Int)

def caballaw12_DiskSectors.j7 (k : Nat) (y14 : Int) (L_l4 : Int → Int → Bool → (List (List Int)) → (List (List Int)) → (List disk_write) → Option Bool) (y20 : Int) (y21 : Bool) (y22 : (List (List Int))) (y23 : (List (List Int))) (y24 : (List disk_write)) : Option Bool :=
  L_l4 (iadd .i64 y14 (1 : Int)) y20 y21 y22 y23 y24

def caballaw12_DiskSectors.j8 (k : Nat) (y14 : Int) (x14 : (Int × disk_Disk)) (L_l4 : Int → Int → Bool → (List (List Int)) → (List (List Int)) → (List disk_write) → Option Bool) (y25 : Bool) (y26 : (List (List Int))) : Option Bool :=
  (caballaw12_DiskSectors.j7 k y14 L_l4) x14.2.fuse x14.2.dead y26 x14.2.firm x14.2.loose

def caballaw12_DiskSectors.l5 (k : Nat) (x14 : (Int × disk_Disk)) (y14 : Int) (L_l4 : Int → Int → Bool → (List (List Int)) → (List (List Int)) → (List disk_write) → Option Bool) : Nat → Int → (List (List Int)) → Option Bool
  | 0, _, _ => none
  | n + 1, y27, y28 =>
    if (decide (y27 < (12 : Int))) = true then ((disk_Disk_Read k x14.2 (iquo .i64 y27 (4 : Int))).bind fun x15 => (at? x15.1 (imul .i64 (irem y27 (4 : Int)) (64 : Int))).bind fun x16 => if (0 ≤ y27 ∧ y27 < 12) then ((set? y28 y27 ([x16] : (List Int))).bind fun x17 => (caballaw12_DiskSectors.l5 k x14 y14 L_l4 n) (iadd .i64 y27 (1 : Int)) x17) else none) else ((caballaw12_DiskSectors.j8 k y14 x14 L_l4) (decide (y27 < (12 : Int))) y28)

def caballaw12_DiskSectors.l6 (k : Nat) (x13 : caballaw12_Act) (y14 : Int) (x19 : (Int × disk_Disk)) (L_l4 : Int → Int → Bool → (List (List Int)) → (List (List Int)) → (List disk_write) → Option Bool) : Nat → Int → (List (List Int)) → Option Bool
  | 0, _, _ => none
  | n + 1, y29, y30 =>
    if (decide (y29 < (4 : Int))) = true then ((some ((imul .i64 (4 : Int) (IntKind.wrap .i64 (irem (IntKind.wrap .u64 x13.At) (3 : Int)))))).bind fun x20 => if (0 ≤ (iadd .i64 x20 y29) ∧ (iadd .i64 x20 y29) < 12) then ((at? y30 (iadd .i64 x20 y29)).bind fun x21 => if x21.length + ([(iadd .u8 x13.B (IntKind.wrap .u8 y29))] : (List Int)).length ≤ lim then ((set? y30 (iadd .i64 x20 y29) (x21 ++ ([(iadd .u8 x13.B (IntKind.wrap .u8 y29))] : (List Int)))).bind fun x22 => if (0 ≤ (iadd .i64 x20 y29) ∧ (iadd .i64 x20 y29) < 12) then ((caballaw12_DiskSectors.l6 k x13 y14 x19 L_l4 n) (iadd .i64 y29 (1 : Int)) x22) else none) else none) else none) else ((caballaw12_DiskSectors.j7 k y14 L_l4) x19.2.fuse x19.2.dead y30 x19.2.firm x19.2.loose)

def caballaw12_DiskSectors.l4 (k : Nat) (p1 : (List caballaw12_Act)) (p2 : (List Int)) : Nat → Int → Int → Bool → (List (List Int)) → (List (List Int)) → (List disk_write) → Option Bool
  | 0, _, _, _, _, _, _ => none
  | n + 1, y14, y15, y16, y17, y18, y19 =>
    (some ((if (decide (y14 < (p1.length : Int))) then (decide (y14 < (60 : Int))) else false))).bind fun x12 => if x12 = true then ((at? p1 y14).bind fun x13 => if ((irem x13.Kind (5 : Int)) == (1 : Int)) = true then ((disk_Disk_Sync k (⟨y18, y19, y15, y16⟩ : disk_Disk)).bind fun x14 => if (x14.1 != (0 : Int)) = true then (some false) else (caballaw12_DiskSectors.l5 k x14 y14 (caballaw12_DiskSectors.l4 k p1 p2 n) k (0 : Int) y17)) else ((caballaw12_data k x13.B (0 : Int)).bind fun x18 => (disk_Disk_Write k (⟨y18, y19, y15, y16⟩ : disk_Disk) (IntKind.wrap .i64 (irem (IntKind.wrap .u64 x13.At) (3 : Int))) x18).bind fun x19 => if (x19.1 != (0 : Int)) = true then (some false) else (caballaw12_DiskSectors.l6 k x13 y14 x19 (caballaw12_DiskSectors.l4 k p1 p2 n) k (0 : Int) y17))) else ((caballaw12_DiskSectors.j2 k p2) y15 y16 y17 y18 y19)

def caballaw12_DiskSectors.j1 (k : Nat) (p1 : (List caballaw12_Act)) (p2 : (List Int)) (x2 : disk_Disk) (y1 : (List (List Int))) : Option Bool :=
  caballaw12_DiskSectors.l4 k p1 p2 k (0 : Int) x2.fuse x2.dead y1 x2.firm x2.loose

def caballaw12_DiskSectors.l7 (k : Nat) (p1 : (List caballaw12_Act)) (p2 : (List Int)) (x2 : disk_Disk) : Nat → Int → (List (List Int)) → Option Bool
  | 0, _, _ => none
  | n + 1, y31, y32 =>
    if (decide (y31 < (12 : Int))) = true then (if (0 ≤ y31 ∧ y31 < 12) then ((set? y32 y31 ([(0 : Int)] : (List Int))).bind fun x23 => (caballaw12_DiskSectors.l7 k p1 p2 x2 n) (iadd .i64 y31 (1 : Int)) x23) else none) else ((caballaw12_DiskSectors.j1 k p1 p2 x2) y32)

def caballaw12_DiskSectors (k : Nat) (p1 : (List caballaw12_Act)) (p2 : (List Int)) : Option Bool :=
  (caballaw12_alive k).bind fun x1 => if (!x1) = true then (some false) else ((disk_New k (3 : Int)).bind fun x2 => caballaw12_DiskSectors.l7 k p1 p2 x2 k (0 : Int) (List.replicate 12 ([] : (List Int))))

/- cabal/cabalref12.New -/
def cabalref12_New.j3 (k : Nat) (y3 : (List (List Int))) : Option cabalref12_Disk :=
  some (⟨y3, ([] : (List Int)), ([] : (List (List Int))), (-1 : Int), false⟩ : cabalref12_Disk)

def cabalref12_New.l1 (k : Nat) (y2 : Int) : Nat → Int → (List (List Int)) → Option cabalref12_Disk
  | 0, _, _ => none
  | n + 1, y4, y5 =>
    if (decide (y4 < y2)) = true then (if (0 ≤ (256 : Int) ∧ (256 : Int).toNat ≤ lim) then (if y5.length + ([(List.replicate (256 : Int).toNat (0 : Int))] : (List (List Int))).length ≤ lim then ((cabalref12_New.l1 k y2 n) (iadd .i64 y4 (1 : Int)) (y5 ++ ([(List.replicate (256 : Int).toNat (0 : Int))] : (List (List Int))))) else none) else none) else ((cabalref12_New.j3 k) y5)

def cabalref12_New.j2 (k : Nat) (y2 : Int) : Option cabalref12_Disk :=
  cabalref12_New.l1 k y2 k (0 : Int) ([] : (List (List Int)))

def cabalref12_New.j1 (k : Nat) (y1 : Int) : Option cabalref12_Disk :=
  if (decide (y1 > (1024 : Int))) = true then ((cabalref12_New.j2 k) (1024 : Int)) else ((cabalref12_New.j2 k) y1)

def cabalref12_New (k : Nat) (p1 : Int) : Option cabalref12_Disk :=
  if (decide (p1 < (1 : Int))) = true then ((cabalref12_New.j1 k) (1 : Int)) else ((cabalref12_New.j1 k) p1)

/- (*cabal/cabalref12.Disk).Has -/
def cabalref12_Disk_Has (k : Nat) (p1 : cabalref12_Disk) (p2 : Int) : Option Bool :=
  (some ((if (decide (p2 ≥ (0 : Int))) then (decide (p2 < (p1.Firm.length : Int))) else false))).bind fun x1 => some x1

/- (*cabal/cabalref12.Disk).burn -/
def cabalref12_Disk_burn.j1 (k : Nat) (p1 : cabalref12_Disk) (y1 : Int) : Option (Bool × cabalref12_Disk) :=
  some (true, (⟨p1.Firm, p1.At, p1.Data, y1, p1.Dead⟩ : cabalref12_Disk))

def cabalref12_Disk_burn (k : Nat) (p1 : cabalref12_Disk) : Option (Bool × cabalref12_Disk) :=
  if (p1.Fuse == (0 : Int)) = true then (some (false, (⟨p1.Firm, p1.At, p1.Data, p1.Fuse, true⟩ : cabalref12_Disk))) else (if (decide (p1.Fuse > (0 : Int))) = true then ((cabalref12_Disk_burn.j1 k p1) (isub .i64 p1.Fuse (1 : Int))) else ((cabalref12_Disk_burn.j1 k p1) p1.Fuse))

/- (*cabal/cabalref12.Disk).Write -/
def cabalref12_Disk_Write (k : Nat) (p1 : cabalref12_Disk) (p2 : Int) (p3 : (List Int)) : Option (Int × cabalref12_Disk) :=
  (cabalref12_Disk_Has k p1 p2).bind fun x1 => if (if (!x1) then true else ((p3.length : Int) != (256 : Int))) = true then (some ((1 : Int), p1)) else (if p1.Dead = true then (some ((7 : Int), p1)) else (if p1.At.length + ([p2] : (List Int)).length ≤ lim then (if p1.Data.length + ([p3] : (List (List Int))).length ≤ lim then ((cabalref12_Disk_burn k (⟨p1.Firm, (p1.At ++ ([p2] : (List Int))), (p1.Data ++ ([p3] : (List (List Int)))), p1.Fuse, p1.Dead⟩ : cabalref12_Disk)).bind fun x2 => if (!x2.1) = true then (some ((7 : Int), x2.2)) else (some ((0 : Int), x2.2))) else none) else none))

/- (*cabal/cabalref12.Disk).settle -/
def cabalref12_Disk_settle (k : Nat) (p1 : cabalref12_Disk) (p2 : Int) (p3 : Int) : Option cabalref12_Disk :=
  if (0 ≤ p2 ∧ p2 < p1.At.length) then ((at? p1.At p2).bind fun x1 => if (0 ≤ p2 ∧ p2 < p1.Data.length) then ((at? p1.Data p2).bind fun x2 => (cut? x2 (0 : Int) p3).bind fun x3 => if (0 ≤ x1 ∧ x1 < p1.Firm.length) then ((at? p1.Firm x1).bind fun x4 => (cut? x4 p3 (x4.length : Int)).bind fun x5 => if x3.length + x5.length ≤ lim then (if (0 ≤ x1 ∧ x1 < p1.Firm.length) then ((set? p1.Firm x1 (x3 ++ x5)).bind fun x6 => some (⟨x6, p1.At, p1.Data, p1.Fuse, p1.Dead⟩ : cabalref12_Disk)) else none) else none) else none) else none) else none

/- (*cabal/cabalref12.Disk).clear -/
def cabalref12_Disk_clear (k : Nat) (p1 : cabalref12_Disk) : Option cabalref12_Disk :=
  some (⟨p1.Firm, ([] : (List Int)), ([] : (List (List Int))), p1.Fuse, p1.Dead⟩ : cabalref12_Disk)

/- (*cabal/cabalref12.Disk).Sync -/
def cabalref12_Disk_Sync.j1 (k : Nat) (y1 : Int) (y2 : Bool) (y3 : (List (List Int))) (y4 : (List Int)) (y5 : (List (List Int))) : Option (Int × cabalref12_Disk) :=
  (cabalref12_Disk_clear k (⟨y3, y4, y5, y1, y2⟩ : cabalref12_Disk)).bind fun x2 => some ((0 : Int), x2)

def cabalref12_Disk_Sync.l1 (k : Nat) : Nat → Int → Int → Bool → (List (List Int)) → (List Int) → (List (List Int)) → Option (Int × cabalref12_Disk)
  | 0, _, _, _, _, _, _ => none
  | n + 1, y6, y7, y8, y9, y10, y11 =>
    if (decide (y6 < (y10.length : Int))) = true then ((cabalref12_Disk_settle k (⟨y9, y10, y11, y7, y8⟩ : cabalref12_Disk) y6 (256 : Int)).bind fun x3 => (cabalref12_Disk_Sync.l1 k n) (iadd .i64 y6 (1 : Int)) x3.Fuse x3.Dead x3.Firm x3.At x3.Data) else ((cabalref12_Disk_Sync.j1 k) y7 y8 y9 y10 y11)

def cabalref12_Disk_Sync (k : Nat) (p1 : cabalref12_Disk) : Option (Int × cabalref12_Disk) :=
  (if (p1.Dead == false) = true then cabalref12_Disk_burn k p1 else some (false, p1)).bind fun x1 => if (if p1.Dead then true else (!x1.1)) = true then (some ((7 : Int), x1.2)) else (cabalref12_Disk_Sync.l1 k k (0 : Int) x1.2.Fuse x1.2.Dead x1.2.Firm x1.2.At x1.2.Data)

/- (*cabal/disk.Disk).Fuse -/
def disk_Disk_Fuse (k : Nat) (p1 : disk_Disk) (p2 : Int) : Option disk_Disk :=
  some (⟨p1.firm, p1.loose, (if (-1 : Int) > p2 then (-1 : Int) else p2), p1.dead⟩ : disk_Disk)

/- (*cabal/cabalref12.Disk).Light -/
def cabalref12_Disk_Light (k : Nat) (p1 : cabalref12_Disk) (p2 : Int) : Option cabalref12_Disk :=
  if (decide (p2 < (0 : Int))) = true then (some (⟨p1.Firm, p1.At, p1.Data, (-1 : Int), p1.Dead⟩ : cabalref12_Disk)) else (some (⟨p1.Firm, p1.At, p1.Data, p2, p1.Dead⟩ : cabalref12_Disk))

/- (*cabal/cabalref12.Disk).Crash -/
def cabalref12_Disk_Crash.j1 (k : Nat) (y1 : Int) (y2 : Bool) (y3 : (List (List Int))) (y4 : (List Int)) (y5 : (List (List Int))) : Option cabalref12_Disk :=
  (cabalref12_Disk_clear k (⟨y3, y4, y5, y1, y2⟩ : cabalref12_Disk)).bind fun x1 => some (⟨x1.Firm, x1.At, x1.Data, (-1 : Int), false⟩ : cabalref12_Disk)

def cabalref12_Disk_Crash.j2 (k : Nat) (y6 : Int) (L_l1 : Int → Int → Bool → (List (List Int)) → (List Int) → (List (List Int)) → Option cabalref12_Disk) (y12 : Int) (y13 : Bool) (y14 : (List (List Int))) (y15 : (List Int)) (y16 : (List (List Int))) : Option cabalref12_Disk :=
  L_l1 (iadd .i64 y6 (1 : Int)) y12 y13 y14 y15 y16

def cabalref12_Disk_Crash.l1 (k : Nat) (p2 : (List Int)) : Nat → Int → Int → Bool → (List (List Int)) → (List Int) → (List (List Int)) → Option cabalref12_Disk
  | 0, _, _, _, _, _, _ => none
  | n + 1, y6, y7, y8, y9, y10, y11 =>
    if (decide (y6 < (y10.length : Int))) = true then (if (decide (y6 < (p2.length : Int))) = true then ((at? p2 y6).bind fun x2 => (cabalref12_Disk_settle k (⟨y9, y10, y11, y7, y8⟩ : cabalref12_Disk) y6 (imul .i64 (64 : Int) (IntKind.wrap .i64 (irem x2 (5 : Int))))).bind fun x3 => (cabalref12_Disk_Crash.j2 k y6 (cabalref12_Disk_Crash.l1 k p2 n)) x3.Fuse x3.Dead x3.Firm x3.At x3.Data) else ((cabalref12_Disk_Crash.j2 k y6 (cabalref12_Disk_Crash.l1 k p2 n)) y7 y8 y9 y10 y11)) else ((cabalref12_Disk_Crash.j1 k) y7 y8 y9 y10 y11)

def cabalref12_Disk_Crash (k : Nat) (p1 : cabalref12_Disk) (p2 : (List Int)) : Option cabalref12_Disk :=
  cabalref12_Disk_Crash.l1 k p2 k (0 : Int) p1.Fuse p1.Dead p1.Firm p1.At p1.Data

/- (*cabal/cabalref12.Disk).Read -/
def cabalref12_Disk_Read.j1 (k : Nat) (p1 : cabalref12_Disk) (p2 : Int) : Option (List Int) :=
  (at? p1.Firm p2).bind fun x1 => some x1

def cabalref12_Disk_Read.l1 (k : Nat) (p1 : cabalref12_Disk) (p2 : Int) : Nat → Int → Option (List Int)
  | 0, _ => none
  | n + 1, y1 =>
    if (decide (y1 ≥ (0 : Int))) = true then ((at? p1.At y1).bind fun x2 => if (x2 == p2) = true then ((at? p1.Data y1).bind fun x3 => some x3) else ((cabalref12_Disk_Read.l1 k p1 p2 n) (isub .i64 y1 (1 : Int)))) else ((cabalref12_Disk_Read.j1 k p1 p2))

def cabalref12_Disk_Read (k : Nat) (p1 : cabalref12_Disk) (p2 : Int) : Option (List Int) :=
  cabalref12_Disk_Read.l1 k p1 p2 k (isub .i64 (p1.At.length : Int) (1 : Int))

/- cabal/caballaw12.DiskPlays -/
def caballaw12_DiskPlays.j2 (k : Nat) : Option Bool :=
  (caballaw12_alive k).bind fun x4 => some x4

def caballaw12_DiskPlays.j3 (k : Nat) (y2 : Int) (L_l1 : Int → Int → Bool → Int → Bool → (List (List Int)) → (List disk_write) → (List (List Int)) → (List Int) → (List (List Int)) → Option Bool) (y12 : Int) (y13 : Bool) (y14 : Int) (y15 : Bool) (y16 : (List (List Int))) (y17 : (List disk_write)) (y18 : (List (List Int))) (y19 : (List Int)) (y20 : (List (List Int))) : Option Bool :=
  L_l1 (iadd .i64 y2 (1 : Int)) y12 y13 y14 y15 y16 y17 y18 y19 y20

def caballaw12_DiskPlays.j5 (k : Nat) (y31 : Int) (L_l2 : Int → Option Bool) : Option Bool :=
  L_l2 (iadd .i64 y31 (1 : Int))

def caballaw12_DiskPlays.l2 (k : Nat) (y28 : (List (List Int))) (y26 : (List (List Int))) (y27 : (List disk_write)) (y22 : Int) (y23 : Bool) (y29 : (List Int)) (y30 : (List (List Int))) (y24 : Int) (y25 : Bool) (y2 : Int) (L_l1 : Int → Int → Bool → Int → Bool → (List (List Int)) → (List disk_write) → (List (List Int)) → (List Int) → (List (List Int)) → Option Bool) : Nat → Int → Option Bool
  | 0, _ => none
  | n + 1, y31 =>
    if (decide (y31 ≤ (y28.length : Int))) = true then ((disk_Disk_Read k (⟨y26, y27, y22, y23⟩ : disk_Disk) y31).bind fun x10 => (cabalref12_Disk_Has k (⟨y28, y29, y30, y24, y25⟩ : cabalref12_Disk) y31).bind fun x11 => if (!x11) = true then ((some ((if (!decide (x10.1 = ([] : List Int))) then true else (x10.2 != (1 : Int))))).bind fun x12 => (if (x12 == false) = true then disk_Disk_Settled k (⟨y26, y27, y22, y23⟩ : disk_Disk) y31 else some []).bind fun x13 => if (if x12 then true else (!decide (x13 = ([] : List Int)))) = true then (some false) else ((caballaw12_DiskPlays.j5 k y31 (caballaw12_DiskPlays.l2 k y28 y26 y27 y22 y23 y29 y30 y24 y25 y2 L_l1 n)))) else ((if ((x10.2 != (0 : Int)) == false) = true then cabalref12_Disk_Read k (⟨y28, y29, y30, y24, y25⟩ : cabalref12_Disk) y31 else some []).bind fun x14 => (if ((if (x10.2 != (0 : Int)) then true else (!decide (x10.1 = x14))) == false) = true then disk_Disk_Settled k (⟨y26, y27, y22, y23⟩ : disk_Disk) y31 else some []).bind fun x15 => if ((if (x10.2 != (0 : Int)) then true else (!decide (x10.1 = x14))) == false) = true → (0 ≤ y31 ∧ y31 < y28.length) then ((if ((if (x10.2 != (0 : Int)) then true else (!decide (x10.1 = x14))) == false) = true then at? y28 y31 else some []).bind fun x16 => (some ((if (if (x10.2 != (0 : Int)) then true else (!decide (x10.1 = x14))) then true else (!decide (x15 = x16))))).bind fun x17 => if x17 = true then (some false) else ((caballaw12_DiskPlays.j5 k y31 (caballaw12_DiskPlays.l2 k y28 y26 y27 y22 y23 y29 y30 y24 y25 y2 L_l1 n)))) else none)) else ((caballaw12_DiskPlays.j3 k y2 L_l1) y22 y23 y24 y25 y26 y27 y28 y29 y30)

def caballaw12_DiskPlays.j4 (k : Nat) (y2 : Int) (L_l1 : Int → Int → Bool → Int → Bool → (List (List Int)) → (List disk_write) → (List (List Int)) → (List Int) → (List (List Int)) → Option Bool) (y21 : Bool) (y22 : Int) (y23 : Bool) (y24 : Int) (y25 : Bool) (y26 : (List (List Int))) (y27 : (List disk_write)) (y28 : (List (List Int))) (y29 : (List Int)) (y30 : (List (List Int))) : Option Bool :=
  (if ((!y21) == false) = true then disk_Disk_Dead k (⟨y26, y27, y22, y23⟩ : disk_Disk) else some false).bind fun x7 => (if ((if (!y21) then true else (!decide (x7 = y25))) == false) = true then disk_Disk_Blocks k (⟨y26, y27, y22, y23⟩ : disk_Disk) else some (0 : Int)).bind fun x8 => (some ((if (if (!y21) then true else (!decide (x7 = y25))) then true else (x8 != (y28.length : Int))))).bind fun x9 => if x9 = true then (some false) else (caballaw12_DiskPlays.l2 k y28 y26 y27 y22 y23 y29 y30 y24 y25 y2 L_l1 k (-1 : Int))

def caballaw12_DiskPlays.l1 (k : Nat) (p2 : (List caballaw12_Act)) : Nat → Int → Int → Bool → Int → Bool → (List (List Int)) → (List disk_write) → (List (List Int)) → (List Int) → (List (List Int)) → Option Bool
  | 0, _, _, _, _, _, _, _, _, _, _ => none
  | n + 1, y2, y3, y4, y5, y6, y7, y8, y9, y10, y11 =>
    (some ((if (decide (y2 < (p2.length : Int))) then (decide (y2 < (80 : Int))) else false))).bind fun x5 => if x5 = true then ((at? p2 y2).bind fun x6 => if ((irem x6.Kind (5 : Int)) == (0 : Int)) = true then ((caballaw12_data k x6.B x6.Long).bind fun x18 => (disk_Disk_Write k (⟨y7, y8, y3, y4⟩ : disk_Disk) x6.At x18).bind fun x19 => (caballaw12_data k x6.B x6.Long).bind fun x20 => (cabalref12_Disk_Write k (⟨y9, y10, y11, y5, y6⟩ : cabalref12_Disk) x6.At x20).bind fun x21 => (caballaw12_DiskPlays.j4 k y2 (caballaw12_DiskPlays.l1 k p2 n)) (x19.1 == x21.1) x19.2.fuse x19.2.dead x21.2.Fuse x21.2.Dead x19.2.firm x19.2.loose x21.2.Firm x21.2.At x21.2.Data) else (if ((irem x6.Kind (5 : Int)) == (1 : Int)) = true then ((disk_Disk_Sync k (⟨y7, y8, y3, y4⟩ : disk_Disk)).bind fun x22 => (cabalref12_Disk_Sync k (⟨y9, y10, y11, y5, y6⟩ : cabalref12_Disk)).bind fun x23 => (caballaw12_DiskPlays.j4 k y2 (caballaw12_DiskPlays.l1 k p2 n)) (x22.1 == x23.1) x22.2.fuse x22.2.dead x23.2.Fuse x23.2.Dead x22.2.firm x22.2.loose x23.2.Firm x23.2.At x23.2.Data) else (if ((irem x6.Kind (5 : Int)) == (2 : Int)) = true then ((disk_Disk_Fuse k (⟨y7, y8, y3, y4⟩ : disk_Disk) x6.N).bind fun x24 => (cabalref12_Disk_Light k (⟨y9, y10, y11, y5, y6⟩ : cabalref12_Disk) x6.N).bind fun x25 => (caballaw12_DiskPlays.j4 k y2 (caballaw12_DiskPlays.l1 k p2 n)) true x24.fuse x24.dead x25.Fuse x25.Dead x24.firm x24.loose x25.Firm x25.At x25.Data) else (if ((irem x6.Kind (5 : Int)) == (3 : Int)) = true then ((disk_Disk_Crash k (⟨y7, y8, y3, y4⟩ : disk_Disk) x6.Keep).bind fun x26 => (cabalref12_Disk_Crash k (⟨y9, y10, y11, y5, y6⟩ : cabalref12_Disk) x6.Keep).bind fun x27 => (caballaw12_DiskPlays.j4 k y2 (caballaw12_DiskPlays.l1 k p2 n)) true x26.fuse x26.dead x27.Fuse x27.Dead x26.firm x26.loose x27.Firm x27.At x27.Data) else ((caballaw12_DiskPlays.j4 k y2 (caballaw12_DiskPlays.l1 k p2 n)) true y3 y4 y5 y6 y7 y8 y9 y10 y11))))) else ((caballaw12_DiskPlays.j2 k))

def caballaw12_DiskPlays.j1 (k : Nat) (p2 : (List caballaw12_Act)) (y1 : Int) : Option Bool :=
  (disk_New k y1).bind fun x2 => (cabalref12_New k y1).bind fun x3 => caballaw12_DiskPlays.l1 k p2 k (0 : Int) x2.fuse x2.dead x3.Fuse x3.Dead x2.firm x2.loose x3.Firm x3.At x3.Data

def caballaw12_DiskPlays (k : Nat) (p1 : Int) (p2 : (List caballaw12_Act)) : Option Bool :=
  (caballaw12_alive k).bind fun x1 => if (!x1) = true then (some false) else (if (decide (p1 > (10 : Int))) = true then ((caballaw12_DiskPlays.j1 k p2) (10 : Int)) else ((caballaw12_DiskPlays.j1 k p2) p1))

end Go.Proofs.Pure
