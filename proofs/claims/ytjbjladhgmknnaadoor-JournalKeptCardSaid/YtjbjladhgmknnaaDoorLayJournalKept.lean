/- JournalKept: for every input the law returns true, and each argument reads behind the call as it read before. No condition: every input. -/
import Derived.Test.YtjbjladhgmknnaaDoorRows
import Derived.Test.YtjbjladhgmknnaaDoorKPur
import Derived.Test.YtjbjladhgmknnaaDoorKyA
import Derived.ProofKit
import Derived.LaidMore
import Derived.OpenShut
import Derived.Stop.Joined
import Derived.Test.YtjbjladhgmknnaaDoorKWk
import Derived.Test.YtjbjladhgmknnaaDoorKTC
import Derived.Test.YtjbjladhgmknnaaDoorCards
import Derived.Test.YtjbjladhgmknnaaDoorTie
import Derived.SevenTiedAt
section
namespace Go.Proofs.YtjbjladhgmknnaaDoor
open Go Go.ChangeShapes Go.WideShapes Go.ChangeAt Go.RowKit Go.Proofs.Kit Go.Proofs.Pure
set_option linter.unusedVariables false
set_option maxRecDepth 100000
def laidOf : List (String × DataW Unit) := [("cabal/digest.rounds", Rows.laid_cabal_digest_rounds), ("cabal/digest.first", Rows.laid_cabal_digest_first)]
theorem Laid.n0 : Tryd.prog.globalNamed "cabal/digest.first" = some 0 := by kernel_rfl
theorem Laid.n1 : Tryd.prog.globalNamed "cabal/digest.rounds" = some 1 := by kernel_rfl
theorem Laid.t0 : (Tryd.prog.globals[0]?).map (·.type) = some 119 := by kernel_rfl
theorem Laid.t1 : (Tryd.prog.globals[1]?).map (·.type) = some 132 := by kernel_rfl
theorem Laid.d0 : (Rows.laid_cabal_digest_first : DataW Unit) = .agg (litsOf .u32 G_digest_first) := rfl
theorem Laid.d1 : (Rows.laid_cabal_digest_rounds : DataW Unit) = .agg (litsOf .u32 G_digest_rounds) := rfl
theorem Laid.met (os : Os) (args : Array Value) : laidMetH Tryd.prog laidOf ((World.doorLaid Tryd.prog 400 os).forCall (fun _ _ => 0) ⟨#[], args, []⟩).memory :=
  laidMetH_of_parts3 (fuel := 8) (laidMet_of_run' 8 (by kernel_rfl) (by kernel_rfl)) (by kernel_rfl) (by kernel_rfl)
theorem Laid.of {W : World} (h : laidMetH Tryd.prog laidOf W) : (ptrTo (karr 8 (kint .u32)) G_digest_first).holds (fun _ => True) W (.pointer (some ⟨0, 0, none⟩)) ∧ (ptrTo (karr 64 (kint .u32)) G_digest_rounds).holds (fun _ => True) W (.pointer (some ⟨1, 0, none⟩)) := by
  rw [MakeChecks.laidMetH_plain _ _ _ (by kernel_rfl)] at h
  obtain ⟨ps, ⟨g1, t1, cs1, f1, p1, q1, hg1, ht1, hv1, hd1, ⟨g0, t0, cs0, f0, p0, q0, hg0, ht0, hv0, hd0, _, _⟩, _⟩, _, _⟩ := h
  obtain rfl := Option.some.inj (Laid.n1.symm.trans hg1)
  obtain rfl := Option.some.inj (Laid.n0.symm.trans hg0)
  obtain rfl := Option.some.inj (Laid.t1.symm.trans ht1)
  obtain rfl := Option.some.inj (Laid.t0.symm.trans ht0)
  rw [Laid.d1] at hd1
  rw [Laid.d0] at hd0
  exact ⟨laid_table Tryd.underlying119 (by kernel_rfl) (by kernel_rfl) (by kernel_rfl) hg0 hv0 hd0, laid_table Tryd.underlying132 (by kernel_rfl) (by kernel_rfl) (by kernel_rfl) hg1 hv1 hd1⟩
end Go.Proofs.YtjbjladhgmknnaaDoor
end
section
namespace Go.Proofs.YtjbjladhgmknnaaDoor
open Go.ChangeShapes Go.WideShapes Go.ChangeAt Go.RowKit Go.Proofs.Kit Go.Proofs.Pure
set_option linter.unusedVariables false
set_option maxRecDepth 100000
theorem JournalKept.own : ownKnob Tryd.prog.godebug = none := by kernel_rfl
theorem JournalKept.laidOut : laidOutB Tryd.prog = true := by kernel_rfl
theorem JournalKept.rd5 : RdK Tryd.prog 5 (kint .u8) := rd_int Tryd.underlying5
theorem JournalKept.rd31 : RdK Tryd.prog 31 (ksl (kint .u8)) := rd_sl Tryd.underlying31 (by kernel_rfl) rd5
theorem JournalKept.rd9 : RdK Tryd.prog 9 kstr := rd_str Tryd.underlying9
theorem JournalKept.rd30 : RdK Tryd.prog 30 (ksl kstr) := rd_sl Tryd.underlying30 (by kernel_rfl) rd9
theorem JournalKept.rd3 : RdK Tryd.prog 3 (kint .i64) := rd_int Tryd.underlying3
theorem JournalKept.rd33 : RdK Tryd.prog 33 k_caballaw13_Act := rd_struct (g := fun ⟨a0, a1, a2, a3, _⟩ => ⟨a0, a1, a2, a3⟩) Tryd.underlying33 (by kernel_rfl) (fun _ => rfl) (rdfs_cons rfl (by kernel_rfl) rd3 (rdfs_cons rfl (by kernel_rfl) rd3 (rdfs_cons rfl (by kernel_rfl) rd30 (rdfs_cons rfl (by kernel_rfl) rd31 rdfs_nil))))
theorem JournalKept.rd22 : RdK Tryd.prog 22 (ksl k_caballaw13_Act) := rd_sl Tryd.underlying22 (by kernel_rfl) rd33
theorem JournalKept.lifted (os : Os) (started : os.Started) (H : Type) (enc : TypeId × Value → H) :
    ReturnsInHanded {} Tryd.checked os 3 .any (fun w args => (Rows.journalKeptSpec.pre enc Tryd.prog Tryd.f3 [] false w args ∧ laidMetH Tryd.prog laidOf w) ∧ sizedMet enc Tryd.prog Tryd.f3 (OpenSpec.ofChange Rows.journalKeptSpec) false w args)
      (Rows.journalKeptSpec.post enc Tryd.prog Tryd.f3 false true false false) := by
  refine returnsInHanded_of_change_and (C := Tryd.checked) (X := fun w _ => laidMetH Tryd.prog laidOf w) (fun _ _ _ hh h => h.of_heap hh) JournalKept.own started (by kernel_rfl) Tryd.func3
    (ChangeSpec.witness_shaped (enc := enc) (C := Tryd.checked) (os := os) (X := fun w _ => laidMetH Tryd.prog laidOf w) false (World.doorLaid Tryd.prog 400 os) #[.slice none 0 0] 8 rfl (World.shaped_of_RefB (by kernel_rfl) (by kernel_rfl)) (by kernel_rfl) (by kernel_rfl) (by kernel_rfl) (Laid.met os _)) ?_
  intro W base args ds gs before hval0 hW _ _ hL _
  have hval : ∀ (j : Nat) t v, Tryd.f3.params[j]? = some t → args[j]? = some v → Value.okWide Tryd.prog W .any base t v := hval0
  have hW' := hW
  obtain ⟨p, q, hA0, hV, rfl, hfz, hnd⟩ := hW
  have hA : DataW.TrodAll enc Tryd.prog W 0 (fun _ => true) true Tryd.f3.params.toList args.toList ds p := hA0
  rw [Tryd.params3] at hA hval
  obtain ⟨v0, vs0, d0, ds0, p0, q0, hargs, rfl, rfl, h0, r0⟩ := trodAll_cons hA
  obtain ⟨rfl, rfl, rfl⟩ := trodAll_nil r0
  obtain rfl : args = #[v0] := by cases args; simp_all
  obtain ⟨rfl, rfl⟩ := trodVars_none hV
  have lt0 : ∀ x ∈ p0, x.block < W.heap.size := by obtain ⟨m, hm⟩ := h0; exact DataW.trod_lt m _ _ _ hm
  obtain ⟨x0, y0⟩ := arg_in JournalKept.rd22 (by kernel_rfl) (fun _ => one_sl Tryd.underlying22 (hval 0 22 v0 rfl rfl)) (hval 0 22 v0 rfl rfl) h0
  clear hA0 hval0
  obtain ⟨k, hk⟩ := JournalKept x0 (Fine.of y0)
  refine (law_out (c_caballaw13_JournalKept k x0 true hk _ W (Laid.of hL).1 (Laid.of hL).2 v0 y0)).mono fun e W' ⟨he, bel⟩ => ?_
  subst he
  exact ⟨_, rfl, _, _, _, [], _, [], hW', trodAll_mk1 (shut_bool Tryd.underlying4 _), (trodAll_cons_mk (Below.trod JournalKept.laidOut (by kernel_rfl) (of_decide_eq_true (by kernel_rfl)) h0 bel lt0) trodAll_mk0), rfl, bel.frame _, fun h => by cases h⟩
theorem JournalKept.holds : Rows.JournalKeptSaid :=
  OpenClaim.holds_of_wide 3 Tryd.f3 rfl rfl rfl rfl rfl rfl rfl ⟨rfl, rfl, rfl, rfl, rfl⟩ rfl rfl rfl rfl rfl (by kernel_rfl) Tryd.func3 (by kernel_rfl)
    (of_decide_eq_true (by kernel_rfl)) (by unfold Func.isWrapper; first | (rw [if_pos (by decide +kernel)]; kernel_rfl) | (rw [if_neg (by decide +kernel)]; exact ⟨rfl, rfl⟩))
    (fun os started H enc _ => JournalKept.lifted os started H enc)
theorem JournalKept.card : Rows.JournalKeptCardSaid :=
  Claim7.holds_tied_plain_at .later [] [.data, .data] true (true, "7424af01ebd5ae982913f85de284594bba0d8721365da49558931e38333c4f97") false
    JournalKept.holds (fun _ h => by cases h) (by kernel_rfl) (fun _ h => by cases h) journalKept_row_tie rfl ⟨rfl, rfl⟩ (by kernel_rfl) rfl
    (fun f fn hf hfn => by
      obtain rfl : f = 3 := Option.some.inj ((show Tryd.prog.funcNamed "cabal/caballaw13.JournalKept" = some 3 by kernel_rfl).symm.trans hf) |>.symm
      obtain rfl : fn = Tryd.f3 := (Option.some.inj (Tryd.func3.symm.trans hfn)).symm
      exact ⟨by kernel_rfl, fun j t ht => by
        rw [Tryd.params3] at ht
        have hm : t ∈ [22] := by simpa using Array.mem_of_getElem? ht
        have hall : ([22].all fun u => !Tryd.prog.wantsStandIn u) = true := by kernel_rfl
        exact (show Tryd.prog.wantsStandIn t = false by simpa using List.all_eq_true.1 hall t hm)⟩)
    (by kernel_rfl)
end Go.Proofs.YtjbjladhgmknnaaDoor
end
