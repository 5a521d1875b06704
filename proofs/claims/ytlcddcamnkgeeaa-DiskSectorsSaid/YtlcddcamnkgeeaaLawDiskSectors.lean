/- DiskSectors: for every input the law returns true, and each argument reads behind the call as it read before. No condition: every input. -/
import Derived.Test.YtlcddcamnkgeeaaRows
import Derived.Test.YtlcddcamnkgeeaaSWalk
import Derived.Test.YtlcddcamnkgeeaaPDiskSectors
import Derived.Test.YtlcddcamnkgeeaaKit10
namespace Go.Proofs.Ytlcddcamnkgeeaa
open Go.ChangeShapes Go.WideShapes Go.ChangeAt Go.RowKit Go.Proofs.Kit Go.Proofs.Pure
set_option linter.unusedVariables false
set_option maxRecDepth 100000

theorem DiskSectors.own : ownKnob Try.prog.godebug = none := by kernel_rfl
theorem DiskSectors.laidOut : laidOutB Try.prog = true := by kernel_rfl
theorem DiskSectors.rd5 : RdK Try.prog 5 (kint .u8) := rd_int Try.underlying5
theorem DiskSectors.rd23 : RdK Try.prog 23 (ksl (kint .u8)) := rd_sl Try.underlying23 (by kernel_rfl) rd5
theorem DiskSectors.rd28 : RdK Try.prog 28 (kint .i8) := rd_int Try.underlying28
theorem DiskSectors.rd3 : RdK Try.prog 3 (kint .i64) := rd_int Try.underlying3
theorem DiskSectors.rd30 : RdK Try.prog 30 k_caballaw12_Act := rd_struct (g := fun ⟨a0, a1, a2, a3, a4, a5, _⟩ => ⟨a0, a1, a2, a3, a4, a5⟩) Try.underlying30 (by kernel_rfl) (fun _ => rfl) (rdfs_cons rfl (by kernel_rfl) rd3 (rdfs_cons rfl (by kernel_rfl) rd3 (rdfs_cons rfl (by kernel_rfl) rd3 (rdfs_cons rfl (by kernel_rfl) rd5 (rdfs_cons rfl (by kernel_rfl) rd28 (rdfs_cons rfl (by kernel_rfl) rd23 rdfs_nil))))))
theorem DiskSectors.rd22 : RdK Try.prog 22 (ksl k_caballaw12_Act) := rd_sl Try.underlying22 (by kernel_rfl) rd30

theorem DiskSectors.lifted (os : Os) (started : os.Started) (H : Type) (enc : TypeId × Value → H) :
    ReturnsInHanded {} Try.checked os 3 .any (Rows.diskSectorsSpec.pre6 enc Try.prog Try.f3 Rows.diskSectorsRow.domain false) (Rows.diskSectorsSpec.post enc Try.prog Try.f3 false true false false) := by
  refine returnsInHanded_of_change (C := Try.checked) DiskSectors.own started (by kernel_rfl) Try.func3
    (ChangeSpec.witness6 (enc := enc) (C := Try.checked) false ⟨#[], #[.slice none 0 0, .slice none 0 0], []⟩ 8 (by kernel_rfl) (by kernel_rfl) (by kernel_rfl) (by kernel_rfl)) ?_
  intro W base args ds gs before hval0 hW hcnd _
  have hval : ∀ (j : Nat) t v, Try.f3.params[j]? = some t → args[j]? = some v → Value.okWide Try.prog W .any base t v := hval0
  have hW' := hW
  obtain ⟨p, q, hA0, hV, rfl, hfz, hnd⟩ := hW
  have hA : DataW.TrodAll enc Try.prog W 0 (fun _ => true) true Try.f3.params.toList args.toList ds p := hA0
  rw [Try.params3] at hA hval
  obtain ⟨v0, vs0, d0, ds0, p0, q0, hargs, rfl, rfl, h0, r0⟩ := trodAll_cons hA
  obtain ⟨v1, vs1, d1, ds1, p1, q1, rfl, rfl, rfl, h1, r1⟩ := trodAll_cons r0
  obtain ⟨rfl, rfl, rfl⟩ := trodAll_nil r1
  obtain rfl : args = #[v0, v1] := by cases args; simp_all
  obtain ⟨rfl, rfl⟩ := trodVars_none hV
  have lt0 : ∀ x ∈ p0, x.block < W.heap.size := by obtain ⟨m, hm⟩ := h0; exact DataW.trod_lt m _ _ _ hm
  obtain ⟨x0, y0⟩ := arg_in DiskSectors.rd22 (by kernel_rfl) (fun _ => one_sl Try.underlying22 (hval 0 22 v0 rfl rfl)) (hval 0 22 v0 rfl rfl) h0
  have lt1 : ∀ x ∈ p1, x.block < W.heap.size := by obtain ⟨m, hm⟩ := h1; exact DataW.trod_lt m _ _ _ hm
  obtain ⟨x1, y1⟩ := arg_in DiskSectors.rd23 (by kernel_rfl) (fun _ => one_sl Try.underlying23 (hval 1 23 v1 rfl rfl)) (hval 1 23 v1 rfl rfl) h1
  clear hA0 hval0
  obtain ⟨k, hk⟩ := DiskSectors x0 x1 (Fine.of y0) (Fine.of y1)
  refine (law_out (c_caballaw12_DiskSectors k x0 x1 true hk _ W v0 v1 y0 y1)).mono fun e W' ⟨he, bel⟩ => ?_
  subst he
  exact ⟨_, rfl, _, _, _, [], _, [], hW', trodAll_mk1 (shut_bool Try.underlying4 _), (trodAll_cons_mk (Below.trod DiskSectors.laidOut (by kernel_rfl) (of_decide_eq_true (by kernel_rfl)) h0 bel lt0) (trodAll_cons_mk (Below.trod DiskSectors.laidOut (by kernel_rfl) (of_decide_eq_true (by kernel_rfl)) h1 bel lt1) trodAll_mk0)), rfl, bel.frame _, fun h => by cases h⟩

theorem DiskSectors.holds : Rows.DiskSectorsSaid :=
  OpenClaim.holds_of_wide 3 Try.f3 rfl rfl rfl rfl rfl rfl rfl ⟨rfl, rfl, rfl, rfl, rfl⟩ rfl rfl rfl rfl rfl (by kernel_rfl) Try.func3 (by kernel_rfl)
    (of_decide_eq_true (by kernel_rfl)) (by unfold Func.isWrapper; first | (rw [if_pos (by decide +kernel)]; kernel_rfl) | (rw [if_neg (by decide +kernel)]; exact ⟨rfl, rfl⟩))
    (fun os started H enc _ => DiskSectors.lifted os started H enc)

end Go.Proofs.Ytlcddcamnkgeeaa
