/- ClockLattice: for every input the law returns true, and each argument reads behind the call as it read before. No condition: every input. -/
import Derived.Test.YtgggcnadlnlmpaaRows
import Derived.Test.YtgggcnadlnlmpaaAWalk
import Derived.Test.YtgggcnadlnlmpaaPClockLattice
import Derived.Test.YtgggcnadlnlmpaaKit10
namespace Go.Proofs.Ytgggcnadlnlmpaa
open Go.ChangeShapes Go.WideShapes Go.ChangeAt Go.RowKit Go.Proofs.Kit Go.Proofs.Pure
set_option linter.unusedVariables false
set_option maxRecDepth 100000

theorem ClockLattice.own : ownKnob Try.prog.godebug = none := by kernel_rfl
theorem ClockLattice.laidOut : laidOutB Try.prog = true := by kernel_rfl
theorem ClockLattice.rd22 : RdK Try.prog 22 (kint .u32) := rd_int Try.underlying22
theorem ClockLattice.rd24 : RdK Try.prog 24 (karr 8 (kint .u32)) := rd_arr Try.underlying24 (by kernel_rfl) (by kernel_rfl) rd22

theorem ClockLattice.lifted (os : Os) (started : os.Started) (H : Type) (enc : TypeId × Value → H) :
    ReturnsInHanded {} Try.checked os 4 .any (Rows.clockLatticeSpec.pre6 enc Try.prog Try.f4 Rows.clockLatticeRow.domain false) (Rows.clockLatticeSpec.post enc Try.prog Try.f4 false true false false) := by
  refine returnsInHanded_of_change (C := Try.checked) ClockLattice.own started (by kernel_rfl) Try.func4
    (ChangeSpec.witness6 (enc := enc) (C := Try.checked) false ⟨#[], #[.agg ((List.replicate 8 [.int .u32 0]).flatten : List Value).toArray, .agg ((List.replicate 8 [.int .u32 0]).flatten : List Value).toArray, .agg ((List.replicate 8 [.int .u32 0]).flatten : List Value).toArray], []⟩ 8 (by kernel_rfl) (by kernel_rfl) (by kernel_rfl) (by kernel_rfl)) ?_
  intro W base args ds gs before hval0 hW hcnd _
  have hval : ∀ (j : Nat) t v, Try.f4.params[j]? = some t → args[j]? = some v → Value.okWide Try.prog W .any base t v := hval0
  have hW' := hW
  obtain ⟨p, q, hA0, hV, rfl, hfz, hnd⟩ := hW
  have hA : DataW.TrodAll enc Try.prog W 0 (fun _ => true) true Try.f4.params.toList args.toList ds p := hA0
  rw [Try.params4] at hA hval
  obtain ⟨v0, vs0, d0, ds0, p0, q0, hargs, rfl, rfl, h0, r0⟩ := trodAll_cons hA
  obtain ⟨v1, vs1, d1, ds1, p1, q1, rfl, rfl, rfl, h1, r1⟩ := trodAll_cons r0
  obtain ⟨v2, vs2, d2, ds2, p2, q2, rfl, rfl, rfl, h2, r2⟩ := trodAll_cons r1
  obtain ⟨rfl, rfl, rfl⟩ := trodAll_nil r2
  obtain rfl : args = #[v0, v1, v2] := by cases args; simp_all
  obtain ⟨rfl, rfl⟩ := trodVars_none hV
  have lt0 : ∀ x ∈ p0, x.block < W.heap.size := by obtain ⟨m, hm⟩ := h0; exact DataW.trod_lt m _ _ _ hm
  obtain ⟨x0, y0⟩ := arg_in ClockLattice.rd24 (by kernel_rfl) (fun hn => by cases hn) (hval 0 24 v0 rfl rfl) h0
  have lt1 : ∀ x ∈ p1, x.block < W.heap.size := by obtain ⟨m, hm⟩ := h1; exact DataW.trod_lt m _ _ _ hm
  obtain ⟨x1, y1⟩ := arg_in ClockLattice.rd24 (by kernel_rfl) (fun hn => by cases hn) (hval 1 24 v1 rfl rfl) h1
  have lt2 : ∀ x ∈ p2, x.block < W.heap.size := by obtain ⟨m, hm⟩ := h2; exact DataW.trod_lt m _ _ _ hm
  obtain ⟨x2, y2⟩ := arg_in ClockLattice.rd24 (by kernel_rfl) (fun hn => by cases hn) (hval 2 24 v2 rfl rfl) h2
  clear hA0 hval0
  obtain ⟨k, hk⟩ := ClockLattice x0 x1 x2 (Fine.of y0) (Fine.of y1) (Fine.of y2)
  refine (law_out (c_caballaw26_ClockLattice k x0 x1 x2 true hk _ W v0 v1 v2 y0 y1 y2)).mono fun e W' ⟨he, bel⟩ => ?_
  subst he
  exact ⟨_, rfl, _, _, _, [], _, [], hW', trodAll_mk1 (shut_bool Try.underlying4 _), (trodAll_cons_mk (Below.trod ClockLattice.laidOut (by kernel_rfl) (of_decide_eq_true (by kernel_rfl)) h0 bel lt0) (trodAll_cons_mk (Below.trod ClockLattice.laidOut (by kernel_rfl) (of_decide_eq_true (by kernel_rfl)) h1 bel lt1) (trodAll_cons_mk (Below.trod ClockLattice.laidOut (by kernel_rfl) (of_decide_eq_true (by kernel_rfl)) h2 bel lt2) trodAll_mk0))), rfl, bel.frame _, fun h => by cases h⟩

theorem ClockLattice.holds : Rows.ClockLatticeSaid :=
  OpenClaim.holds_of_wide 4 Try.f4 rfl rfl rfl rfl rfl rfl rfl ⟨rfl, rfl, rfl, rfl, rfl⟩ rfl rfl rfl rfl rfl (by kernel_rfl) Try.func4 (by kernel_rfl)
    (of_decide_eq_true (by kernel_rfl)) (by unfold Func.isWrapper; first | (rw [if_pos (by decide +kernel)]; kernel_rfl) | (rw [if_neg (by decide +kernel)]; exact ⟨rfl, rfl⟩))
    (fun os started H enc _ => ClockLattice.lifted os started H enc)

end Go.Proofs.Ytgggcnadlnlmpaa
