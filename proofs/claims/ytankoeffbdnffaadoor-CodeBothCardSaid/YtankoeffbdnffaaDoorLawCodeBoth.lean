/- CodeBoth: for every input the law returns true, and each argument reads behind the call as it read before. No condition: every input. -/
import Derived.Test.YtankoeffbdnffaaDoorRows
import Derived.Test.YtankoeffbdnffaaDoorAWalk
import Derived.Test.YtankoeffbdnffaaDoorPCodeBoth
import Derived.Test.YtankoeffbdnffaaDoorKit10
import Derived.Test.YtankoeffbdnffaaDoorCards
import Derived.Test.YtankoeffbdnffaaDoorTie
import Derived.Test.YtankoeffbdnffaaDoorLaid
import Derived.ProofKit
import Derived.LaidMore
import Derived.Stop.Joined
import Derived.SevenTiedAt
namespace Go.Proofs.YtankoeffbdnffaaDoor
open Go.ChangeShapes Go.WideShapes Go.ChangeAt Go.RowKit Go.Proofs.Kit Go.Proofs.Pure
set_option linter.unusedVariables false
set_option maxRecDepth 100000

theorem CodeBoth.own : ownKnob Tryd.prog.godebug = none := by kernel_rfl
theorem CodeBoth.laidOut : laidOutB Tryd.prog = true := by kernel_rfl
theorem CodeBoth.rd5 : RdK Tryd.prog 5 (kint .u8) := rd_int Tryd.underlying5
theorem CodeBoth.rd23 : RdK Tryd.prog 23 (karr 32 (kint .u8)) := rd_arr Tryd.underlying23 (by kernel_rfl) (by kernel_rfl) rd5

theorem CodeBoth.lifted (os : Os) (started : os.Started) (H : Type) (enc : TypeId × Value → H) :
    ReturnsInHanded {} Tryd.checked os 4 .any (fun w args => (Rows.codeBothSpec.pre enc Tryd.prog Tryd.f4 [] false w args ∧ laidMetH Tryd.prog laidOf w) ∧ sizedMet enc Tryd.prog Tryd.f4 (OpenSpec.ofChange Rows.codeBothSpec) false w args)
      (Rows.codeBothSpec.post enc Tryd.prog Tryd.f4 false true false false) := by
  refine returnsInHanded_of_change_and (C := Tryd.checked) (X := fun w _ => laidMetH Tryd.prog laidOf w) (fun _ _ _ hh h => h.of_heap hh) CodeBoth.own started (by kernel_rfl) Tryd.func4
    (ChangeSpec.witness_shaped (enc := enc) (C := Tryd.checked) (os := os) (X := fun w _ => laidMetH Tryd.prog laidOf w) false (World.doorLaid Tryd.prog 400 os) #[.agg ((List.replicate 32 [.int .u8 0]).flatten : List Value).toArray, .agg ((List.replicate 32 [.int .u8 0]).flatten : List Value).toArray] 8 rfl (World.shaped_of_RefB (by kernel_rfl) (by kernel_rfl)) (by kernel_rfl) (by kernel_rfl) (by kernel_rfl) (Laid.met os _)) ?_
  intro W base args ds gs before hval0 hW _ _ hL _
  have hval : ∀ (j : Nat) t v, Tryd.f4.params[j]? = some t → args[j]? = some v → Value.okWide Tryd.prog W .any base t v := hval0
  have hW' := hW
  obtain ⟨p, q, hA0, hV, rfl, hfz, hnd⟩ := hW
  have hA : DataW.TrodAll enc Tryd.prog W 0 (fun _ => true) true Tryd.f4.params.toList args.toList ds p := hA0
  rw [Tryd.params4] at hA hval
  obtain ⟨v0, vs0, d0, ds0, p0, q0, hargs, rfl, rfl, h0, r0⟩ := trodAll_cons hA
  obtain ⟨v1, vs1, d1, ds1, p1, q1, rfl, rfl, rfl, h1, r1⟩ := trodAll_cons r0
  obtain ⟨rfl, rfl, rfl⟩ := trodAll_nil r1
  obtain rfl : args = #[v0, v1] := by cases args; simp_all
  obtain ⟨rfl, rfl⟩ := trodVars_none hV
  have lt0 : ∀ x ∈ p0, x.block < W.heap.size := by obtain ⟨m, hm⟩ := h0; exact DataW.trod_lt m _ _ _ hm
  obtain ⟨x0, y0⟩ := arg_in CodeBoth.rd23 (by kernel_rfl) (fun hn => by cases hn) (hval 0 23 v0 rfl rfl) h0
  have lt1 : ∀ x ∈ p1, x.block < W.heap.size := by obtain ⟨m, hm⟩ := h1; exact DataW.trod_lt m _ _ _ hm
  obtain ⟨x1, y1⟩ := arg_in CodeBoth.rd23 (by kernel_rfl) (fun hn => by cases hn) (hval 1 23 v1 rfl rfl) h1
  clear hA0 hval0
  obtain ⟨k, hk⟩ := CodeBoth x0 x1 (Fine.of y0) (Fine.of y1)
  refine (law_out (c_caballaw27_CodeBoth k x0 x1 true hk _ W (Laid.of hL).1 (Laid.of hL).2 v0 v1 y0 y1)).mono fun e W' ⟨he, bel⟩ => ?_
  subst he
  exact ⟨_, rfl, _, _, _, [], _, [], hW', trodAll_mk1 (shut_bool Tryd.underlying4 _), (trodAll_cons_mk (Below.trod CodeBoth.laidOut (by kernel_rfl) (of_decide_eq_true (by kernel_rfl)) h0 bel lt0) (trodAll_cons_mk (Below.trod CodeBoth.laidOut (by kernel_rfl) (of_decide_eq_true (by kernel_rfl)) h1 bel lt1) trodAll_mk0)), rfl, bel.frame _, fun h => by cases h⟩

theorem CodeBoth.holds : Rows.CodeBothSaid :=
  OpenClaim.holds_of_wide 4 Tryd.f4 rfl rfl rfl rfl rfl rfl rfl ⟨rfl, rfl, rfl, rfl, rfl⟩ rfl rfl rfl rfl rfl (by kernel_rfl) Tryd.func4 (by kernel_rfl)
    (of_decide_eq_true (by kernel_rfl)) (by unfold Func.isWrapper; first | (rw [if_pos (by decide +kernel)]; kernel_rfl) | (rw [if_neg (by decide +kernel)]; exact ⟨rfl, rfl⟩))
    (fun os started H enc _ => CodeBoth.lifted os started H enc)

theorem CodeBoth.card : Rows.CodeBothCardSaid :=
  Claim7.holds_tied_plain_at .later [] [.data, .data] true (true, "1162887bcdc65bfe39b75df03444961c512518de6711cb0b317fcecc80e53d0e") false
    CodeBoth.holds (fun _ h => by cases h) (by kernel_rfl) (fun _ h => by cases h) codeBoth_row_tie rfl ⟨rfl, rfl⟩ (by kernel_rfl) rfl
    (fun f fn hf hfn => by
      obtain rfl : f = 4 := Option.some.inj ((show Tryd.prog.funcNamed "cabal/caballaw27.CodeBoth" = some 4 by kernel_rfl).symm.trans hf) |>.symm
      obtain rfl : fn = Tryd.f4 := (Option.some.inj (Tryd.func4.symm.trans hfn)).symm
      exact ⟨by kernel_rfl, fun j t ht => by
        rw [Tryd.params4] at ht
        have hm : t ∈ [23, 23] := by simpa using Array.mem_of_getElem? ht
        have hall : ([23, 23].all fun u => !Tryd.prog.wantsStandIn u) = true := by kernel_rfl
        exact (show Tryd.prog.wantsStandIn t = false by simpa using List.all_eq_true.1 hall t hm)⟩)
    (by kernel_rfl)

end Go.Proofs.YtankoeffbdnffaaDoor
