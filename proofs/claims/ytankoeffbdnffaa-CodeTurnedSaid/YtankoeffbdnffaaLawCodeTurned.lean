/- CodeTurned: for every input the law returns true, and each argument reads behind the call as it read before. No condition: every input. -/
import Derived.Test.YtankoeffbdnffaaRows
import Derived.Test.YtankoeffbdnffaaTWalk
import Derived.Test.YtankoeffbdnffaaPCodeTurned
import Derived.Test.YtankoeffbdnffaaKit10
namespace Go.Proofs.Ytankoeffbdnffaa
open Go.ChangeShapes Go.WideShapes Go.ChangeAt Go.RowKit Go.Proofs.Kit Go.Proofs.Pure
set_option linter.unusedVariables false
set_option maxRecDepth 100000

theorem CodeTurned.own : ownKnob Try.prog.godebug = none := by kernel_rfl
theorem CodeTurned.laidOut : laidOutB Try.prog = true := by kernel_rfl
theorem CodeTurned.rd5 : RdK Try.prog 5 (kint .u8) := rd_int Try.underlying5
theorem CodeTurned.rd24 : RdK Try.prog 24 (karr 32 (kint .u8)) := rd_arr Try.underlying24 (by kernel_rfl) (by kernel_rfl) rd5
theorem CodeTurned.rd4 : RdK Try.prog 4 kbool := rd_bool Try.underlying4

theorem CodeTurned.lifted (os : Os) (started : os.Started) (H : Type) (enc : TypeId × Value → H) :
    ReturnsInHanded {} Try.checked os 5 .any (Rows.codeTurnedSpec.pre6 enc Try.prog Try.f5 Rows.codeTurnedRow.domain false) (Rows.codeTurnedSpec.post enc Try.prog Try.f5 false true false false) := by
  refine returnsInHanded_of_change (C := Try.checked) CodeTurned.own started (by kernel_rfl) Try.func5
    (ChangeSpec.witness6 (enc := enc) (C := Try.checked) false ⟨#[], #[.agg ((List.replicate 32 [.int .u8 0]).flatten : List Value).toArray, .int .u8 0, .int .u8 0, .bool false], []⟩ 8 (by kernel_rfl) (by kernel_rfl) (by kernel_rfl) (by kernel_rfl)) ?_
  intro W base args ds gs before hval0 hW hcnd _
  have hval : ∀ (j : Nat) t v, Try.f5.params[j]? = some t → args[j]? = some v → Value.okWide Try.prog W .any base t v := hval0
  have hW' := hW
  obtain ⟨p, q, hA0, hV, rfl, hfz, hnd⟩ := hW
  have hA : DataW.TrodAll enc Try.prog W 0 (fun _ => true) true Try.f5.params.toList args.toList ds p := hA0
  rw [Try.params5] at hA hval
  obtain ⟨v0, vs0, d0, ds0, p0, q0, hargs, rfl, rfl, h0, r0⟩ := trodAll_cons hA
  obtain ⟨v1, vs1, d1, ds1, p1, q1, rfl, rfl, rfl, h1, r1⟩ := trodAll_cons r0
  obtain ⟨v2, vs2, d2, ds2, p2, q2, rfl, rfl, rfl, h2, r2⟩ := trodAll_cons r1
  obtain ⟨v3, vs3, d3, ds3, p3, q3, rfl, rfl, rfl, h3, r3⟩ := trodAll_cons r2
  obtain ⟨rfl, rfl, rfl⟩ := trodAll_nil r3
  obtain rfl : args = #[v0, v1, v2, v3] := by cases args; simp_all
  obtain ⟨rfl, rfl⟩ := trodVars_none hV
  have lt0 : ∀ x ∈ p0, x.block < W.heap.size := by obtain ⟨m, hm⟩ := h0; exact DataW.trod_lt m _ _ _ hm
  obtain ⟨x0, y0⟩ := arg_in CodeTurned.rd24 (by kernel_rfl) (fun hn => by cases hn) (hval 0 24 v0 rfl rfl) h0
  have lt1 : ∀ x ∈ p1, x.block < W.heap.size := by obtain ⟨m, hm⟩ := h1; exact DataW.trod_lt m _ _ _ hm
  obtain ⟨x1, y1⟩ := arg_in CodeTurned.rd5 (by kernel_rfl) (fun _ => one_int Try.underlying5 (hval 1 5 v1 rfl rfl)) (hval 1 5 v1 rfl rfl) h1
  have lt2 : ∀ x ∈ p2, x.block < W.heap.size := by obtain ⟨m, hm⟩ := h2; exact DataW.trod_lt m _ _ _ hm
  obtain ⟨x2, y2⟩ := arg_in CodeTurned.rd5 (by kernel_rfl) (fun _ => one_int Try.underlying5 (hval 2 5 v2 rfl rfl)) (hval 2 5 v2 rfl rfl) h2
  have lt3 : ∀ x ∈ p3, x.block < W.heap.size := by obtain ⟨m, hm⟩ := h3; exact DataW.trod_lt m _ _ _ hm
  obtain ⟨x3, y3⟩ := arg_in CodeTurned.rd4 (by kernel_rfl) (fun _ => one_bool Try.underlying4 (hval 3 4 v3 rfl rfl)) (hval 3 4 v3 rfl rfl) h3
  clear hA0 hval0
  obtain ⟨k, hk⟩ := CodeTurned x0 x1 x2 x3 (Fine.of y0) (Fine.of y1) (Fine.of y2) (Fine.of y3)
  refine (law_out (c_caballaw27_CodeTurned k x0 x1 x2 x3 true hk _ W v0 v1 v2 v3 y0 y1 y2 y3)).mono fun e W' ⟨he, bel⟩ => ?_
  subst he
  exact ⟨_, rfl, _, _, _, [], _, [], hW', trodAll_mk1 (shut_bool Try.underlying4 _), (trodAll_cons_mk (Below.trod CodeTurned.laidOut (by kernel_rfl) (of_decide_eq_true (by kernel_rfl)) h0 bel lt0) (trodAll_cons_mk (Below.trod CodeTurned.laidOut (by kernel_rfl) (of_decide_eq_true (by kernel_rfl)) h1 bel lt1) (trodAll_cons_mk (Below.trod CodeTurned.laidOut (by kernel_rfl) (of_decide_eq_true (by kernel_rfl)) h2 bel lt2) (trodAll_cons_mk (Below.trod CodeTurned.laidOut (by kernel_rfl) (of_decide_eq_true (by kernel_rfl)) h3 bel lt3) trodAll_mk0)))), rfl, bel.frame _, fun h => by cases h⟩

theorem CodeTurned.holds : Rows.CodeTurnedSaid :=
  OpenClaim.holds_of_wide 5 Try.f5 rfl rfl rfl rfl rfl rfl rfl ⟨rfl, rfl, rfl, rfl, rfl⟩ rfl rfl rfl rfl rfl (by kernel_rfl) Try.func5 (by kernel_rfl)
    (of_decide_eq_true (by kernel_rfl)) (by unfold Func.isWrapper; first | (rw [if_pos (by decide +kernel)]; kernel_rfl) | (rw [if_neg (by decide +kernel)]; exact ⟨rfl, rfl⟩))
    (fun os started H enc _ => CodeTurned.lifted os started H enc)

end Go.Proofs.Ytankoeffbdnffaa
