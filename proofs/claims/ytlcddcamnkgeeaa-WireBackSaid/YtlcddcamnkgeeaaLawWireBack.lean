/- WireBack: for every input the law returns true, and each argument reads behind the call as it read before. No condition: every input. -/
import Derived.Test.YtlcddcamnkgeeaaRows
import Derived.Test.YtlcddcamnkgeeaaWWalk
import Derived.Test.YtlcddcamnkgeeaaPWireBack
import Derived.Test.YtlcddcamnkgeeaaKit10
namespace Go.Proofs.Ytlcddcamnkgeeaa
open Go.ChangeShapes Go.WideShapes Go.ChangeAt Go.RowKit Go.Proofs.Kit Go.Proofs.Pure
set_option linter.unusedVariables false
set_option maxRecDepth 100000

theorem WireBack.own : ownKnob Try.prog.godebug = none := by kernel_rfl
theorem WireBack.laidOut : laidOutB Try.prog = true := by kernel_rfl
theorem WireBack.rd5 : RdK Try.prog 5 (kint .u8) := rd_int Try.underlying5
theorem WireBack.rd72 : RdK Try.prog 72 (karr 32 (kint .u8)) := rd_arr Try.underlying72 (by kernel_rfl) (by kernel_rfl) rd5
theorem WireBack.rd63 : RdK Try.prog 63 (ksl (karr 32 (kint .u8))) := rd_sl Try.underlying63 (by kernel_rfl) rd72
theorem WireBack.rd9 : RdK Try.prog 9 kstr := rd_str Try.underlying9
theorem WireBack.rd69 : RdK Try.prog 69 (kint .u32) := rd_int Try.underlying69
theorem WireBack.rd62 : RdK Try.prog 62 (ksl (kint .u32)) := rd_sl Try.underlying62 (by kernel_rfl) rd69
theorem WireBack.rd3 : RdK Try.prog 3 (kint .i64) := rd_int Try.underlying3
theorem WireBack.rd65 : RdK Try.prog 65 k_caballaw10_Item := rd_struct (g := fun ⟨a0, a1, a2, a3, a4, _⟩ => ⟨a0, a1, a2, a3, a4⟩) Try.underlying65 (by kernel_rfl) (fun _ => rfl) (rdfs_cons rfl (by kernel_rfl) rd3 (rdfs_cons rfl (by kernel_rfl) rd3 (rdfs_cons rfl (by kernel_rfl) rd62 (rdfs_cons rfl (by kernel_rfl) rd9 (rdfs_cons rfl (by kernel_rfl) rd63 rdfs_nil)))))
theorem WireBack.rd56 : RdK Try.prog 56 (ksl k_caballaw10_Item) := rd_sl Try.underlying56 (by kernel_rfl) rd65

theorem WireBack.lifted (os : Os) (started : os.Started) (H : Type) (enc : TypeId × Value → H) :
    ReturnsInHanded {} Try.checked os 9 .any (Rows.wireBackSpec.pre6 enc Try.prog Try.f9 Rows.wireBackRow.domain false) (Rows.wireBackSpec.post enc Try.prog Try.f9 false true false false) := by
  refine returnsInHanded_of_change (C := Try.checked) WireBack.own started (by kernel_rfl) Try.func9
    (ChangeSpec.witness6 (enc := enc) (C := Try.checked) false ⟨#[], #[.slice none 0 0], []⟩ 8 (by kernel_rfl) (by kernel_rfl) (by kernel_rfl) (by kernel_rfl)) ?_
  intro W base args ds gs before hval0 hW hcnd _
  have hval : ∀ (j : Nat) t v, Try.f9.params[j]? = some t → args[j]? = some v → Value.okWide Try.prog W .any base t v := hval0
  have hW' := hW
  obtain ⟨p, q, hA0, hV, rfl, hfz, hnd⟩ := hW
  have hA : DataW.TrodAll enc Try.prog W 0 (fun _ => true) true Try.f9.params.toList args.toList ds p := hA0
  rw [Try.params9] at hA hval
  obtain ⟨v0, vs0, d0, ds0, p0, q0, hargs, rfl, rfl, h0, r0⟩ := trodAll_cons hA
  obtain ⟨rfl, rfl, rfl⟩ := trodAll_nil r0
  obtain rfl : args = #[v0] := by cases args; simp_all
  obtain ⟨rfl, rfl⟩ := trodVars_none hV
  have lt0 : ∀ x ∈ p0, x.block < W.heap.size := by obtain ⟨m, hm⟩ := h0; exact DataW.trod_lt m _ _ _ hm
  obtain ⟨x0, y0⟩ := arg_in WireBack.rd56 (by kernel_rfl) (fun _ => one_sl Try.underlying56 (hval 0 56 v0 rfl rfl)) (hval 0 56 v0 rfl rfl) h0
  clear hA0 hval0
  obtain ⟨k, hk⟩ := WireBack x0 (Fine.of y0)
  refine (law_out (c_caballaw10_WireBack k x0 true hk _ W v0 y0)).mono fun e W' ⟨he, bel⟩ => ?_
  subst he
  exact ⟨_, rfl, _, _, _, [], _, [], hW', trodAll_mk1 (shut_bool Try.underlying4 _), (trodAll_cons_mk (Below.trod WireBack.laidOut (by kernel_rfl) (of_decide_eq_true (by kernel_rfl)) h0 bel lt0) trodAll_mk0), rfl, bel.frame _, fun h => by cases h⟩

theorem WireBack.holds : Rows.WireBackSaid :=
  OpenClaim.holds_of_wide 9 Try.f9 rfl rfl rfl rfl rfl rfl rfl ⟨rfl, rfl, rfl, rfl, rfl⟩ rfl rfl rfl rfl rfl (by kernel_rfl) Try.func9 (by kernel_rfl)
    (of_decide_eq_true (by kernel_rfl)) (by unfold Func.isWrapper; first | (rw [if_pos (by decide +kernel)]; kernel_rfl) | (rw [if_neg (by decide +kernel)]; exact ⟨rfl, rfl⟩))
    (fun os started H enc _ => WireBack.lifted os started H enc)

end Go.Proofs.Ytlcddcamnkgeeaa
