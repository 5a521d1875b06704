/- WireCut: for every input the law returns true, and each argument reads behind the call as it read before. No condition: every input. -/
import Derived.Test.YtlcddcamnkgeeaaRows
import Derived.Test.YtlcddcamnkgeeaaWWalk
import Derived.Test.YtlcddcamnkgeeaaPWireCut
import Derived.Test.YtlcddcamnkgeeaaKit10
namespace Go.Proofs.Ytlcddcamnkgeeaa
open Go.ChangeShapes Go.WideShapes Go.ChangeAt Go.RowKit Go.Proofs.Kit Go.Proofs.Pure
set_option linter.unusedVariables false
set_option maxRecDepth 100000

theorem WireCut.own : ownKnob Try.prog.godebug = none := by kernel_rfl
theorem WireCut.laidOut : laidOutB Try.prog = true := by kernel_rfl
theorem WireCut.rd5 : RdK Try.prog 5 (kint .u8) := rd_int Try.underlying5
theorem WireCut.rd72 : RdK Try.prog 72 (karr 32 (kint .u8)) := rd_arr Try.underlying72 (by kernel_rfl) (by kernel_rfl) rd5
theorem WireCut.rd63 : RdK Try.prog 63 (ksl (karr 32 (kint .u8))) := rd_sl Try.underlying63 (by kernel_rfl) rd72
theorem WireCut.rd9 : RdK Try.prog 9 kstr := rd_str Try.underlying9
theorem WireCut.rd69 : RdK Try.prog 69 (kint .u32) := rd_int Try.underlying69
theorem WireCut.rd62 : RdK Try.prog 62 (ksl (kint .u32)) := rd_sl Try.underlying62 (by kernel_rfl) rd69
theorem WireCut.rd3 : RdK Try.prog 3 (kint .i64) := rd_int Try.underlying3
theorem WireCut.rd65 : RdK Try.prog 65 k_caballaw10_Item := rd_struct (g := fun ⟨a0, a1, a2, a3, a4, _⟩ => ⟨a0, a1, a2, a3, a4⟩) Try.underlying65 (by kernel_rfl) (fun _ => rfl) (rdfs_cons rfl (by kernel_rfl) rd3 (rdfs_cons rfl (by kernel_rfl) rd3 (rdfs_cons rfl (by kernel_rfl) rd62 (rdfs_cons rfl (by kernel_rfl) rd9 (rdfs_cons rfl (by kernel_rfl) rd63 rdfs_nil)))))

theorem WireCut.lifted (os : Os) (started : os.Started) (H : Type) (enc : TypeId × Value → H) :
    ReturnsInHanded {} Try.checked os 8 .any (Rows.wireCutSpec.pre6 enc Try.prog Try.f8 Rows.wireCutRow.domain false) (Rows.wireCutSpec.post enc Try.prog Try.f8 false true false false) := by
  refine returnsInHanded_of_change (C := Try.checked) WireCut.own started (by kernel_rfl) Try.func8
    (ChangeSpec.witness6 (enc := enc) (C := Try.checked) false ⟨#[], #[.agg (([.int .i64 0] ++ ([.int .i64 0] ++ ([.slice none 0 0] ++ ([.string ⟨#[]⟩] ++ ([.slice none 0 0] ++ []))))) : List Value).toArray, .int .i64 0], []⟩ 8 (by kernel_rfl) (by kernel_rfl) (by kernel_rfl) (by kernel_rfl)) ?_
  intro W base args ds gs before hval0 hW hcnd _
  have hval : ∀ (j : Nat) t v, Try.f8.params[j]? = some t → args[j]? = some v → Value.okWide Try.prog W .any base t v := hval0
  have hW' := hW
  obtain ⟨p, q, hA0, hV, rfl, hfz, hnd⟩ := hW
  have hA : DataW.TrodAll enc Try.prog W 0 (fun _ => true) true Try.f8.params.toList args.toList ds p := hA0
  rw [Try.params8] at hA hval
  obtain ⟨v0, vs0, d0, ds0, p0, q0, hargs, rfl, rfl, h0, r0⟩ := trodAll_cons hA
  obtain ⟨v1, vs1, d1, ds1, p1, q1, rfl, rfl, rfl, h1, r1⟩ := trodAll_cons r0
  obtain ⟨rfl, rfl, rfl⟩ := trodAll_nil r1
  obtain rfl : args = #[v0, v1] := by cases args; simp_all
  obtain ⟨rfl, rfl⟩ := trodVars_none hV
  have lt0 : ∀ x ∈ p0, x.block < W.heap.size := by obtain ⟨m, hm⟩ := h0; exact DataW.trod_lt m _ _ _ hm
  obtain ⟨x0, y0⟩ := arg_in WireCut.rd65 (by kernel_rfl) (fun hn => by cases hn) (hval 0 65 v0 rfl rfl) h0
  have lt1 : ∀ x ∈ p1, x.block < W.heap.size := by obtain ⟨m, hm⟩ := h1; exact DataW.trod_lt m _ _ _ hm
  obtain ⟨x1, y1⟩ := arg_in WireCut.rd3 (by kernel_rfl) (fun _ => one_int Try.underlying3 (hval 1 3 v1 rfl rfl)) (hval 1 3 v1 rfl rfl) h1
  clear hA0 hval0
  obtain ⟨k, hk⟩ := WireCut x0 x1 (Fine.of y0) (Fine.of y1)
  refine (law_out (c_caballaw10_WireCut k x0 x1 true hk _ W v0 v1 y0 y1)).mono fun e W' ⟨he, bel⟩ => ?_
  subst he
  exact ⟨_, rfl, _, _, _, [], _, [], hW', trodAll_mk1 (shut_bool Try.underlying4 _), (trodAll_cons_mk (Below.trod WireCut.laidOut (by kernel_rfl) (of_decide_eq_true (by kernel_rfl)) h0 bel lt0) (trodAll_cons_mk (Below.trod WireCut.laidOut (by kernel_rfl) (of_decide_eq_true (by kernel_rfl)) h1 bel lt1) trodAll_mk0)), rfl, bel.frame _, fun h => by cases h⟩

theorem WireCut.holds : Rows.WireCutSaid :=
  OpenClaim.holds_of_wide 8 Try.f8 rfl rfl rfl rfl rfl rfl rfl ⟨rfl, rfl, rfl, rfl, rfl⟩ rfl rfl rfl rfl rfl (by kernel_rfl) Try.func8 (by kernel_rfl)
    (of_decide_eq_true (by kernel_rfl)) (by unfold Func.isWrapper; first | (rw [if_pos (by decide +kernel)]; kernel_rfl) | (rw [if_neg (by decide +kernel)]; exact ⟨rfl, rfl⟩))
    (fun os started H enc _ => WireCut.lifted os started H enc)

end Go.Proofs.Ytlcddcamnkgeeaa
