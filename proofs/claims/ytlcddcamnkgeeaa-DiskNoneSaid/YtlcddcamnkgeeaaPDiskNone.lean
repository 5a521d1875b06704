/- DiskNone over its plain functions: no program in sight. -/
import Derived.Test.YtlcddcamnkgeeaaNEDisk
namespace Go.Proofs.Pure
open Go Go.RowKit Go.Proofs.Kit
set_option linter.unusedVariables false

theorem has_nil (p : Int) : disk_Disk_has_nil 4000 p = some false := by
  unfold disk_Disk_has_nil disk_Disk_Blocks_nil
  by_cases c : p ≥ 0
  · rw [decide_eq_true c, if_pos (by rfl), Option.bind_some, if_pos rfl, decide_eq_false (by omega)]
  · rw [decide_eq_false c]; rfl
theorem DiskNone (x0 : Int) (x1 : Int) (g0 : Fine (kint .i64) x0) (g1 : Fine (kint .i64) x1) : ∃ k, caballaw12_DiskNone k x0 x1 = some true := by
  refine ⟨4000, ?_⟩
  obtain ⟨n, hn, h1, h2, _⟩ := new_ok x0
  obtain ⟨d, hd, _⟩ := data_ok 1 0 (by omega)
  have r1 : disk_Disk_Read_nil 4000 x1 = some ([], 1) := by unfold disk_Disk_Read_nil; rw [has_nil]; rfl
  have r2 : disk_Disk_Settled_nil 4000 x1 = some [] := by unfold disk_Disk_Settled_nil; rw [has_nil]; rfl
  have r3 : ∀ l, disk_Disk_Write_nil 4000 x1 l = some 1 := fun l => by unfold disk_Disk_Write_nil; rw [has_nil]; rfl
  have r4 : disk_Disk_Sync_nil 4000 = some 7 := rfl
  have r5 : disk_Disk_Blocks_nil 4000 = some 0 := rfl
  have r6 : disk_Disk_Dead_nil 4000 = some true := rfl
  have r7 : disk_Disk_Fuse_nil 4000 x1 = some () := rfl
  have r8 : disk_Disk_Crash_nil 4000 [1] = some () := rfl
  have r9 : disk_Disk_Blocks 4000 (newD n) = some (n : Int) := by
    show some (((List.replicate n (List.replicate 256 (0 : Int))).length : Nat) : Int) = _
    rw [List.length_replicate]
  have e : ((twin (newD n)).Firm.length : Int) = (n : Int) := by
    show (((List.replicate n (List.replicate 256 (0 : Int))).length : Nat) : Int) = _
    rw [List.length_replicate]
  unfold caballaw12_DiskNone
  rw [alive12, h2, h1, hd, r1, r2, r4, r5, r6, r7, r8]
  simp [r3, r9, e]


end Go.Proofs.Pure
