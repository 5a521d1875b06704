/- KeyedEqual: for every input the law returns true, and each argument reads behind the call as it read before. No condition: every input. -/
import Derived.Test.YtpihmcfojdkpoaaDoorRows
import Derived.Test.YtpihmcfojdkpoaaDoorMWalk
import Derived.Test.YtpihmcfojdkpoaaDoorPKeyedEqual
import Derived.Test.YtpihmcfojdkpoaaDoorKit10
import Derived.Test.YtpihmcfojdkpoaaDoorCards
import Derived.Test.YtpihmcfojdkpoaaDoorTie
import Derived.Test.YtpihmcfojdkpoaaDoorMLaid
import Derived.ProofKit
import Derived.LaidMore
import Derived.Stop.Joined
import Derived.SevenTiedAt
namespace Go.Proofs.YtpihmcfojdkpoaaDoor
open Go.ChangeShapes Go.WideShapes Go.ChangeAt Go.RowKit Go.Proofs.Kit Go.Proofs.Pure
set_option linter.unusedVariables false
set_option maxRecDepth 100000

theorem KeyedEqual.own : ownKnob Tryd.prog.godebug = none := by kernel_rfl
theorem KeyedEqual.laidOut : laidOutB Tryd.prog = true := by kernel_rfl
theorem KeyedEqual.rd9 : RdK Tryd.prog 9 kstr := rd_str Tryd.underlying9
theorem KeyedEqual.rd3 : RdK Tryd.prog 3 (kint .i64) := rd_int Tryd.underlying3
theorem KeyedEqual.rd5 : RdK Tryd.prog 5 (kint .u8) := rd_int Tryd.underlying5

theorem KeyedEqual.lifted (os : Os) (started : os.Started) (H : Type) (enc : TypeId × Value → H) :
    ReturnsInHanded {} Tryd.checked os 10 .any (fun w args => (Rows.keyedEqualSpec.pre enc Tryd.prog Tryd.f10 [] false w args ∧ laidMetH Tryd.prog laidOf w) ∧ sizedMet enc Tryd.prog Tryd.f10 (OpenSpec.ofChange Rows.keyedEqualSpec) false w args)
      (Rows.keyedEqualSpec.post enc Tryd.prog Tryd.f10 false true false false) := by
  refine returnsInHanded_of_change_and (C := Tryd.checked) (X := fun w _ => laidMetH Tryd.prog laidOf w) (fun _ _ _ hh h => h.of_heap hh) KeyedEqual.own started (by kernel_rfl) Tryd.func10
    (ChangeSpec.witness_shaped (enc := enc) (C := Tryd.checked) (os := os) (X := fun w _ => laidMetH Tryd.prog laidOf w) false (World.doorLaid Tryd.prog 400 os) #[.string ⟨#[]⟩, .string ⟨#[]⟩, .int .i64 0, .int .u8 0] 8 rfl (World.shaped_of_RefB (by kernel_rfl) (by kernel_rfl)) (by kernel_rfl) (by kernel_rfl) (by kernel_rfl) (Laid.met os _)) ?_
  intro W base args ds gs before hval0 hW _ _ hL _
  have hval : ∀ (j : Nat) t v, Tryd.f10.params[j]? = some t → args[j]? = some v → Value.okWide Tryd.prog W .any base t v := hval0
  have hW' := hW
  obtain ⟨p, q, hA0, hV, rfl, hfz, hnd⟩ := hW
  have hA : DataW.TrodAll enc Tryd.prog W 0 (fun _ => true) true Tryd.f10.params.toList args.toList ds p := hA0
  rw [Tryd.params10] at hA hval
  obtain ⟨v0, vs0, d0, ds0, p0, q0, hargs, rfl, rfl, h0, r0⟩ := trodAll_cons hA
  obtain ⟨v1, vs1, d1, ds1, p1, q1, rfl, rfl, rfl, h1, r1⟩ := trodAll_cons r0
  obtain ⟨v2, vs2, d2, ds2, p2, q2, rfl, rfl, rfl, h2, r2⟩ := trodAll_cons r1
  obtain ⟨v3, vs3, d3, ds3, p3, q3, rfl, rfl, rfl, h3, r3⟩ := trodAll_cons r2
  obtain ⟨rfl, rfl, rfl⟩ := trodAll_nil r3
  obtain rfl : args = #[v0, v1, v2, v3] := by cases args; simp_all
  obtain ⟨rfl, rfl⟩ := trodVars_none hV
  have lt0 : ∀ x ∈ p0, x.block < W.heap.size := by obtain ⟨m, hm⟩ := h0; exact DataW.trod_lt m _ _ _ hm
  obtain ⟨x0, y0⟩ := arg_in KeyedEqual.rd9 (by kernel_rfl) (fun _ => one_str Tryd.underlying9 (hval 0 9 v0 rfl rfl)) (hval 0 9 v0 rfl rfl) h0
  have lt1 : ∀ x ∈ p1, x.block < W.heap.size := by obtain ⟨m, hm⟩ := h1; exact DataW.trod_lt m _ _ _ hm
  obtain ⟨x1, y1⟩ := arg_in KeyedEqual.rd9 (by kernel_rfl) (fun _ => one_str Tryd.underlying9 (hval 1 9 v1 rfl rfl)) (hval 1 9 v1 rfl rfl) h1
  have lt2 : ∀ x ∈ p2, x.block < W.heap.size := by obtain ⟨m, hm⟩ := h2; exact DataW.trod_lt m _ _ _ hm
  obtain ⟨x2, y2⟩ := arg_in KeyedEqual.rd3 (by kernel_rfl) (fun _ => one_int Tryd.underlying3 (hval 2 3 v2 rfl rfl)) (hval 2 3 v2 rfl rfl) h2
  have lt3 : ∀ x ∈ p3, x.block < W.heap.size := by obtain ⟨m, hm⟩ := h3; exact DataW.trod_lt m _ _ _ hm
  obtain ⟨x3, y3⟩ := arg_in KeyedEqual.rd5 (by kernel_rfl) (fun _ => one_int Tryd.underlying5 (hval 3 5 v3 rfl rfl)) (hval 3 5 v3 rfl rfl) h3
  clear hA0 hval0
  obtain ⟨k, hk⟩ := KeyedEqual x0 x1 x2 x3 (Fine.of y0) (Fine.of y1) (Fine.of y2) (Fine.of y3)
  refine (law_out (c_caballaw02_KeyedEqual k x0 x1 x2 x3 true hk _ W (Laid.of hL).1 (Laid.of hL).2 v0 v1 v2 v3 y0 y1 y2 y3)).mono fun e W' ⟨he, bel⟩ => ?_
  subst he
  exact ⟨_, rfl, _, _, _, [], _, [], hW', trodAll_mk1 (shut_bool Tryd.underlying4 _), (trodAll_cons_mk (Below.trod KeyedEqual.laidOut (by kernel_rfl) (of_decide_eq_true (by kernel_rfl)) h0 bel lt0) (trodAll_cons_mk (Below.trod KeyedEqual.laidOut (by kernel_rfl) (of_decide_eq_true (by kernel_rfl)) h1 bel lt1) (trodAll_cons_mk (Below.trod KeyedEqual.laidOut (by kernel_rfl) (of_decide_eq_true (by kernel_rfl)) h2 bel lt2) (trodAll_cons_mk (Below.trod KeyedEqual.laidOut (by kernel_rfl) (of_decide_eq_true (by kernel_rfl)) h3 bel lt3) trodAll_mk0)))), rfl, bel.frame _, fun h => by cases h⟩

theorem KeyedEqual.holds : Rows.KeyedEqualSaid :=
  OpenClaim.holds_of_wide 10 Tryd.f10 rfl rfl rfl rfl rfl rfl rfl ⟨rfl, rfl, rfl, rfl, rfl⟩ rfl rfl rfl rfl rfl (by kernel_rfl) Tryd.func10 (by kernel_rfl)
    (of_decide_eq_true (by kernel_rfl)) (by unfold Func.isWrapper; first | (rw [if_pos (by decide +kernel)]; kernel_rfl) | (rw [if_neg (by decide +kernel)]; exact ⟨rfl, rfl⟩))
    (fun os started H enc _ => KeyedEqual.lifted os started H enc)

theorem KeyedEqual.card : Rows.KeyedEqualCardSaid :=
  Claim7.holds_tied_plain_at .later [] [.data, .data] true (true, "26cb2c73487ea200443bd611eeeb1cd6bc72f0970621484e1913c28a09eccbf2") false
    KeyedEqual.holds (fun _ h => by cases h) (by kernel_rfl) (fun _ h => by cases h) keyedEqual_row_tie rfl ⟨rfl, rfl⟩ (by kernel_rfl) rfl
    (fun f fn hf hfn => by
      obtain rfl : f = 10 := Option.some.inj ((show Tryd.prog.funcNamed "cabal/caballaw02.KeyedEqual" = some 10 by kernel_rfl).symm.trans hf) |>.symm
      obtain rfl : fn = Tryd.f10 := (Option.some.inj (Tryd.func10.symm.trans hfn)).symm
      exact ⟨by kernel_rfl, fun j t ht => by
        rw [Tryd.params10] at ht
        have hm : t ∈ [9, 9, 3, 5] := by simpa using Array.mem_of_getElem? ht
        have hall : ([9, 9, 3, 5].all fun u => !Tryd.prog.wantsStandIn u) = true := by kernel_rfl
        exact (show Tryd.prog.wantsStandIn t = false by simpa using List.all_eq_true.1 hall t hm)⟩)
    (by kernel_rfl)

end Go.Proofs.YtpihmcfojdkpoaaDoor
