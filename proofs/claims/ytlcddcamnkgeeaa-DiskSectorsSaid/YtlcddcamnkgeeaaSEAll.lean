/- Three disks that get the same writes: crashed with all kept, settled twice, crashed with nothing kept. No program in sight. -/
import Derived.Test.YtlcddcamnkgeeaaSEDisk
namespace Go.Proofs.Pure
open Go Go.RowKit Go.Proofs.Kit
set_option linter.unusedVariables false

/-- a disk that was never fused -/
structure Live (n : Nat) (d : disk_Disk) : Prop where
  wf : Wf n d
  three : d.firm.length = 3
  fuse : d.fuse = -1
  dead : d.dead = false
theorem live_write {n : Nat} (hn : n ≤ 1000) (d : disk_Disk) (h : Live n d) (p : Int) (hp : 0 ≤ p ∧ p < 3) (dat : List Int) (hd : dat.length = 256) :
    disk_Disk_Write 4000 d p dat = some (0, ⟨d.firm, d.loose ++ [⟨p, dat⟩], -1, false⟩) ∧ Live (n + 1) ⟨d.firm, d.loose ++ [⟨p, dat⟩], -1, false⟩ := by
  obtain ⟨c, d', w1, _, w3, _, w5⟩ := write_ok hn d h.wf p dat
  obtain ⟨q1, q2⟩ := w5 h.dead h.fuse hp.1 (by rw [h.three]; omega) hd
  subst q1 q2
  exact ⟨w1, ⟨w3, h.three, rfl, rfl⟩⟩
theorem live_sync {n : Nat} (hn : n ≤ 1000) (d : disk_Disk) (h : Live n d) :
    disk_Disk_Sync 4000 d = some (0, ⟨sett (fun _ => 256) 0 d.loose d.firm, [], -1, false⟩) ∧ Live n ⟨sett (fun _ => 256) 0 d.loose d.firm, [], -1, false⟩ := by
  obtain ⟨c, d', w1, _, w3, w4, w5⟩ := sync_ok hn d h.wf
  obtain ⟨q1, q2⟩ := w5 h.dead h.fuse
  subst q1 q2
  exact ⟨w1, ⟨w3, by rw [w4]; exact h.three, rfl, rfl⟩⟩
/-- where a write goes -/
theorem spot_ok (a : Int) : 0 ≤ IntKind.wrap .i64 (irem (IntKind.wrap .u64 a) 3) ∧ IntKind.wrap .i64 (irem (IntKind.wrap .u64 a) 3) < 3 := by
  have h : 0 ≤ IntKind.wrap .u64 a := by rw [wu64]; exact Int.emod_nonneg _ (by decide)
  have h1 := Int.emod_nonneg (IntKind.wrap .u64 a) (b := 3) (by decide)
  have h2 := Int.emod_lt_of_pos (IntKind.wrap .u64 a) (b := 3) (by decide)
  rw [rem_pos h, wi64 (by omega)]
  exact ⟨h1, h2⟩


end Go.Proofs.Pure
