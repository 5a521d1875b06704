/- JournalOpens: for every input the law returns true, and each argument reads behind the call as it read before. No condition: every input. -/
import Derived.Test.YtjbjladhgmknnaaDoorRows
import Derived.Test.YtjbjladhgmknnaaDoorOPur
import Derived.Test.YtjbjladhgmknnaaDoorKyA
import Derived.ProofKit
import Derived.LaidMore
import Derived.OpenShut
import Derived.Stop.Joined
import Derived.Test.YtjbjladhgmknnaaDoorOWk
import Derived.Test.YtjbjladhgmknnaaDoorOTC
import Derived.Test.YtjbjladhgmknnaaDoorCards
import Derived.Test.YtjbjladhgmknnaaDoorTie
import Derived.SevenTiedAt
section
namespace Go.Proofs.YtjbjladhgmknnaaDoor
open Go Go.ChangeShapes Go.WideShapes Go.ChangeAt Go.RowKit Go.Proofs.Kit Go.Proofs.Pure
set_option linter.unusedVariables false
set_option maxRecDepth 100000
def laidOf : List (String × DataW Unit) := [("cabal/digest.rounds", Rows.laid_cabal_digest_rounds), ("cabal/digest.first", Rows.laid_cabal_digest_first)]
theorem Laid.n0 : Tryd.prog.globalNamed "cabal/digest.first" = some 0 := by kernel_rfl
theorem Laid.n1 : Tryd.prog.globalNamed "cabal/digest.rounds" = some 1 := by kernel_rfl
theorem Laid.t0 : (Tryd.prog.globals[0]?).map (·.type) = some 119 := by kernel_rfl
theorem Laid.t1 : (Tryd.prog.globals[1]?).map (·.type) = some 132 := by kernel_rfl
theorem Laid.d0 : (Rows.laid_cabal_digest_first : DataW Unit) = .agg (litsOf .u32 G_digest_first) := rfl
theorem Laid.d1 : (Rows.laid_cabal_digest_rounds : DataW Unit) = .agg (litsOf .u32 G_digest_rounds) := rfl
theorem Laid.met (os : Os) (args : Array Value) : laidMetH Tryd.prog laidOf ((World.doorLaid Tryd.prog 400 os).forCall (fun _ _ => 0) ⟨#[], args, []⟩).memory :=
  laidMetH_of_parts3 (fuel := 8) (laidMet_of_run' 8 (by kernel_rfl) (by kernel_rfl)) (by kernel_rfl) (by kernel_rfl)
theorem Laid.of {W : World} (h : laidMetH Tryd.prog laidOf W) : (ptrTo (karr 8 (kint .u32)) G_digest_first).holds (fun _ => True) W (.pointer (some ⟨0, 0, none⟩)) ∧ (ptrTo (karr 64 (kint .u32)) G_digest_rounds).holds (fun _ => True) W (.pointer (some ⟨1, 0, none⟩)) := by
  rw [MakeChecks.laidMetH_plain _ _ _ (by kernel_rfl)] at h
  obtain ⟨ps, ⟨g1, t1, cs1, f1, p1, q1, hg1, ht1, hv1, hd1, ⟨g0, t0, cs0, f0, p0, q0, hg0, ht0, hv0, hd0, _, _⟩, _⟩, _, _⟩ := h
  obtain rfl := Option.some.inj (Laid.n1.symm.trans hg1)
  obtain rfl := Option.some.inj (Laid.n0.symm.trans hg0)
  obtain rfl := Option.some.inj (Laid.t1.symm.trans ht1)
  obtain rfl := Option.some.inj (Laid.t0.symm.trans ht0)
  rw [Laid.d1] at hd1
  rw [Laid.d0] at hd0
  exact ⟨laid_table Tryd.underlying119 (by kernel_rfl) (by kernel_rfl) (by kernel_rfl) hg0 hv0 hd0, laid_table Tryd.underlying132 (by kernel_rfl) (by kernel_rfl) (by kernel_rfl) hg1 hv1 hd1⟩
end Go.Proofs.YtjbjladhgmknnaaDoor
end
section
namespace Go.Proofs.YtjbjladhgmknnaaDoor
open Go.ChangeShapes Go.WideShapes Go.ChangeAt Go.RowKit Go.Proofs.Kit Go.Proofs.Pure
set_option linter.unusedVariables false
set_option maxRecDepth 100000
theorem JournalOpens.own : ownKnob Tryd.prog.godebug = none := by kernel_rfl
theorem JournalOpens.laidOut : laidOutB Tryd.prog = true := by kernel_rfl
theorem JournalOpens.rd3 : RdK Tryd.prog 3 (kint .i64) := rd_int Tryd.underlying3
theorem JournalOpens.rd9 : RdK Tryd.prog 9 kstr := rd_str Tryd.underlying9
theorem JournalOpens.rd30 : RdK Tryd.prog 30 (ksl kstr) := rd_sl Tryd.underlying30 (by kernel_rfl) rd9
theorem JournalOpens.rd4 : RdK Tryd.prog 4 kbool := rd_bool Tryd.underlying4
theorem JournalOpens.rd5 : RdK Tryd.prog 5 (kint .u8) := rd_int Tryd.underlying5
theorem JournalOpens.lifted (os : Os) (started : os.Started) (H : Type) (enc : TypeId × Value → H) :
    ReturnsInHanded {} Tryd.checked os 4 .any (fun w args => (Rows.journalOpensSpec.pre enc Tryd.prog Tryd.f4 [] false w args ∧ laidMetH Tryd.prog laidOf w) ∧ sizedMet enc Tryd.prog Tryd.f4 (OpenSpec.ofChange Rows.journalOpensSpec) false w args)
      (Rows.journalOpensSpec.post enc Tryd.prog Tryd.f4 false true false false) := by
  refine returnsInHanded_of_change_and (C := Tryd.checked) (X := fun w _ => laidMetH Tryd.prog laidOf w) (fun _ _ _ hh h => h.of_heap hh) JournalOpens.own started (by kernel_rfl) Tryd.func4
    (ChangeSpec.witness_shaped (enc := enc) (C := Tryd.checked) (os := os) (X := fun w _ => laidMetH Tryd.prog laidOf w) false (World.doorLaid Tryd.prog 400 os) #[.int .i64 0, .slice none 0 0, .string ⟨#[]⟩, .bool false, .int .i64 0, .int .i64 0, .int .u8 0] 8 rfl (World.shaped_of_RefB (by kernel_rfl) (by kernel_rfl)) (by kernel_rfl) (by kernel_rfl) (by kernel_rfl) (Laid.met os _)) ?_
  intro W base args ds gs before hval0 hW _ _ hL _
  have hval : ∀ (j : Nat) t v, Tryd.f4.params[j]? = some t → args[j]? = some v → Value.okWide Tryd.prog W .any base t v := hval0
  have hW' := hW
  obtain ⟨p, q, hA0, hV, rfl, hfz, hnd⟩ := hW
  have hA : DataW.TrodAll enc Tryd.prog W 0 (fun _ => true) true Tryd.f4.params.toList args.toList ds p := hA0
  rw [Tryd.params4] at hA hval
  obtain ⟨v0, vs0, d0, ds0, p0, q0, hargs, rfl, rfl, h0, r0⟩ := trodAll_cons hA
  obtain ⟨v1, vs1, d1, ds1, p1, q1, rfl, rfl, rfl, h1, r1⟩ := trodAll_cons r0
  obtain ⟨v2, vs2, d2, ds2, p2, q2, rfl, rfl, rfl, h2, r2⟩ := trodAll_cons r1
  obtain ⟨v3, vs3, d3, ds3, p3, q3, rfl, rfl, rfl, h3, r3⟩ := trodAll_cons r2
  obtain ⟨v4, vs4, d4, ds4, p4, q4, rfl, rfl, rfl, h4, r4⟩ := trodAll_cons r3
  obtain ⟨v5, vs5, d5, ds5, p5, q5, rfl, rfl, rfl, h5, r5⟩ := trodAll_cons r4
  obtain ⟨v6, vs6, d6, ds6, p6, q6, rfl, rfl, rfl, h6, r6⟩ := trodAll_cons r5
  obtain ⟨rfl, rfl, rfl⟩ := trodAll_nil r6
  obtain rfl : args = #[v0, v1, v2, v3, v4, v5, v6] := by cases args; simp_all
  obtain ⟨rfl, rfl⟩ := trodVars_none hV
  have lt0 : ∀ x ∈ p0, x.block < W.heap.size := by obtain ⟨m, hm⟩ := h0; exact DataW.trod_lt m _ _ _ hm
  obtain ⟨x0, y0⟩ := arg_in JournalOpens.rd3 (by kernel_rfl) (fun _ => one_int Tryd.underlying3 (hval 0 3 v0 rfl rfl)) (hval 0 3 v0 rfl rfl) h0
  have lt1 : ∀ x ∈ p1, x.block < W.heap.size := by obtain ⟨m, hm⟩ := h1; exact DataW.trod_lt m _ _ _ hm
  obtain ⟨x1, y1⟩ := arg_in JournalOpens.rd30 (by kernel_rfl) (fun _ => one_sl Tryd.underlying30 (hval 1 30 v1 rfl rfl)) (hval 1 30 v1 rfl rfl) h1
  have lt2 : ∀ x ∈ p2, x.block < W.heap.size := by obtain ⟨m, hm⟩ := h2; exact DataW.trod_lt m _ _ _ hm
  obtain ⟨x2, y2⟩ := arg_in JournalOpens.rd9 (by kernel_rfl) (fun _ => one_str Tryd.underlying9 (hval 2 9 v2 rfl rfl)) (hval 2 9 v2 rfl rfl) h2
  have lt3 : ∀ x ∈ p3, x.block < W.heap.size := by obtain ⟨m, hm⟩ := h3; exact DataW.trod_lt m _ _ _ hm
  obtain ⟨x3, y3⟩ := arg_in JournalOpens.rd4 (by kernel_rfl) (fun _ => one_bool Tryd.underlying4 (hval 3 4 v3 rfl rfl)) (hval 3 4 v3 rfl rfl) h3
  have lt4 : ∀ x ∈ p4, x.block < W.heap.size := by obtain ⟨m, hm⟩ := h4; exact DataW.trod_lt m _ _ _ hm
  obtain ⟨x4, y4⟩ := arg_in JournalOpens.rd3 (by kernel_rfl) (fun _ => one_int Tryd.underlying3 (hval 4 3 v4 rfl rfl)) (hval 4 3 v4 rfl rfl) h4
  have lt5 : ∀ x ∈ p5, x.block < W.heap.size := by obtain ⟨m, hm⟩ := h5; exact DataW.trod_lt m _ _ _ hm
  obtain ⟨x5, y5⟩ := arg_in JournalOpens.rd3 (by kernel_rfl) (fun _ => one_int Tryd.underlying3 (hval 5 3 v5 rfl rfl)) (hval 5 3 v5 rfl rfl) h5
  have lt6 : ∀ x ∈ p6, x.block < W.heap.size := by obtain ⟨m, hm⟩ := h6; exact DataW.trod_lt m _ _ _ hm
  obtain ⟨x6, y6⟩ := arg_in JournalOpens.rd5 (by kernel_rfl) (fun _ => one_int Tryd.underlying5 (hval 6 5 v6 rfl rfl)) (hval 6 5 v6 rfl rfl) h6
  clear hA0 hval0
  obtain ⟨k, hk⟩ := JournalOpens x0 x1 x2 x3 x4 x5 x6 (Fine.of y0) (Fine.of y1) (Fine.of y2) (Fine.of y3) (Fine.of y4) (Fine.of y5) (Fine.of y6)
  refine (law_out (c_caballaw13_JournalOpens k x0 x1 x2 x3 x4 x5 x6 true hk _ W (Laid.of hL).1 (Laid.of hL).2 v0 v1 v2 v3 v4 v5 v6 y0 y1 y2 y3 y4 y5 y6)).mono fun e W' ⟨he, bel⟩ => ?_
  subst he
  exact ⟨_, rfl, _, _, _, [], _, [], hW', trodAll_mk1 (shut_bool Tryd.underlying4 _), (trodAll_cons_mk (Below.trod JournalOpens.laidOut (by kernel_rfl) (of_decide_eq_true (by kernel_rfl)) h0 bel lt0) (trodAll_cons_mk (Below.trod JournalOpens.laidOut (by kernel_rfl) (of_decide_eq_true (by kernel_rfl)) h1 bel lt1) (trodAll_cons_mk (Below.trod JournalOpens.laidOut (by kernel_rfl) (of_decide_eq_true (by kernel_rfl)) h2 bel lt2) (trodAll_cons_mk (Below.trod JournalOpens.laidOut (by kernel_rfl) (of_decide_eq_true (by kernel_rfl)) h3 bel lt3) (trodAll_cons_mk (Below.trod JournalOpens.laidOut (by kernel_rfl) (of_decide_eq_true (by kernel_rfl)) h4 bel lt4) (trodAll_cons_mk (Below.trod JournalOpens.laidOut (by kernel_rfl) (of_decide_eq_true (by kernel_rfl)) h5 bel lt5) (trodAll_cons_mk (Below.trod JournalOpens.laidOut (by kernel_rfl) (of_decide_eq_true (by kernel_rfl)) h6 bel lt6) trodAll_mk0))))))), rfl, bel.frame _, fun h => by cases h⟩
theorem JournalOpens.holds : Rows.JournalOpensSaid :=
  OpenClaim.holds_of_wide 4 Tryd.f4 rfl rfl rfl rfl rfl rfl rfl ⟨rfl, rfl, rfl, rfl, rfl⟩ rfl rfl rfl rfl rfl (by kernel_rfl) Tryd.func4 (by kernel_rfl)
    (of_decide_eq_true (by kernel_rfl)) (by unfold Func.isWrapper; first | (rw [if_pos (by decide +kernel)]; kernel_rfl) | (rw [if_neg (by decide +kernel)]; exact ⟨rfl, rfl⟩))
    (fun os started H enc _ => JournalOpens.lifted os started H enc)
theorem JournalOpens.card : Rows.JournalOpensCardSaid :=
  Claim7.holds_tied_plain_at .later [] [.data, .data] true (true, "7424af01ebd5ae982913f85de284594bba0d8721365da49558931e38333c4f97") false
    JournalOpens.holds (fun _ h => by cases h) (by kernel_rfl) (fun _ h => by cases h) journalOpens_row_tie rfl ⟨rfl, rfl⟩ (by kernel_rfl) rfl
    (fun f fn hf hfn => by
      obtain rfl : f = 4 := Option.some.inj ((show Tryd.prog.funcNamed "cabal/caballaw13.JournalOpens" = some 4 by kernel_rfl).symm.trans hf) |>.symm
      obtain rfl : fn = Tryd.f4 := (Option.some.inj (Tryd.func4.symm.trans hfn)).symm
      exact ⟨by kernel_rfl, fun j t ht => by
        rw [Tryd.params4] at ht
        have hm : t ∈ [3, 30, 9, 4, 3, 3, 5] := by simpa using Array.mem_of_getElem? ht
        have hall : ([3, 30, 9, 4, 3, 3, 5].all fun u => !Tryd.prog.wantsStandIn u) = true := by kernel_rfl
        exact (show Tryd.prog.wantsStandIn t = false by simpa using List.all_eq_true.1 hall t hm)⟩)
    (by kernel_rfl)
end Go.Proofs.YtjbjladhgmknnaaDoor
end
