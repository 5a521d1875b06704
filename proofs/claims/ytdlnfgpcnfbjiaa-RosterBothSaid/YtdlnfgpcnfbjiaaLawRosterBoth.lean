/- RosterBoth: for every input the law returns true, and each argument reads behind the call as it read before. No condition: every input. -/
import Derived.Test.YtdlnfgpcnfbjiaaRows
import Derived.Test.YtdlnfgpcnfbjiaaUWalk
import Derived.Test.YtdlnfgpcnfbjiaaPRosterBoth
import Derived.Test.YtdlnfgpcnfbjiaaKit10
import Derived.Test.YtdlnfgpcnfbjiaaJoined
namespace Go.Proofs.Ytdlnfgpcnfbjiaa
open Go.ChangeShapes Go.WideShapes Go.ChangeAt Go.RowKit Go.Proofs.Kit Go.Proofs.Pure
set_option linter.unusedVariables false
set_option maxRecDepth 100000

theorem RosterBoth.own : ownKnob Try.prog.godebug = none := by kernel_rfl
theorem RosterBoth.laidOut : laidOutB Try.prog = true := Joined.laidOut
theorem RosterBoth.rd5 : RdK Try.prog 5 (kint .u8) := rd_int Try.underlying5

theorem RosterBoth.lifted (os : Os) (started : os.Started) (H : Type) (enc : TypeId × Value → H) :
    ReturnsInHanded {} Try.checked os 10 .any (Rows.rosterBothSpec.pre6 enc Try.prog Try.f10 Rows.rosterBothRow.domain false) (Rows.rosterBothSpec.post enc Try.prog Try.f10 false true false false) := by
  refine returnsInHanded_of_change (C := Try.checked) RosterBoth.own started (by kernel_rfl) Try.func10
    (ChangeSpec.witness6 (enc := enc) (C := Try.checked) false ⟨#[], #[.int .u8 0, .int .u8 0, .int .u8 0], []⟩ 8 (by kernel_rfl) (by kernel_rfl) (by kernel_rfl) (by kernel_rfl)) ?_
  intro W base args ds gs before hval0 hW hcnd _
  have hval : ∀ (j : Nat) t v, Try.f10.params[j]? = some t → args[j]? = some v → Value.okWide Try.prog W .any base t v := hval0
  have hW' := hW
  obtain ⟨p, q, hA0, hV, rfl, hfz, hnd⟩ := hW
  have hA : DataW.TrodAll enc Try.prog W 0 (fun _ => true) true Try.f10.params.toList args.toList ds p := hA0
  rw [Try.params10] at hA hval
  obtain ⟨v0, vs0, d0, ds0, p0, q0, hargs, rfl, rfl, h0, r0⟩ := trodAll_cons hA
  obtain ⟨v1, vs1, d1, ds1, p1, q1, rfl, rfl, rfl, h1, r1⟩ := trodAll_cons r0
  obtain ⟨v2, vs2, d2, ds2, p2, q2, rfl, rfl, rfl, h2, r2⟩ := trodAll_cons r1
  obtain ⟨rfl, rfl, rfl⟩ := trodAll_nil r2
  obtain rfl : args = #[v0, v1, v2] := by cases args; simp_all
  obtain ⟨rfl, rfl⟩ := trodVars_none hV
  have lt0 : ∀ x ∈ p0, x.block < W.heap.size := by obtain ⟨m, hm⟩ := h0; exact DataW.trod_lt m _ _ _ hm
  obtain ⟨x0, y0⟩ := arg_in RosterBoth.rd5 (by kernel_rfl) (fun _ => one_int Try.underlying5 (hval 0 5 v0 rfl rfl)) (hval 0 5 v0 rfl rfl) h0
  have lt1 : ∀ x ∈ p1, x.block < W.heap.size := by obtain ⟨m, hm⟩ := h1; exact DataW.trod_lt m _ _ _ hm
  obtain ⟨x1, y1⟩ := arg_in RosterBoth.rd5 (by kernel_rfl) (fun _ => one_int Try.underlying5 (hval 1 5 v1 rfl rfl)) (hval 1 5 v1 rfl rfl) h1
  have lt2 : ∀ x ∈ p2, x.block < W.heap.size := by obtain ⟨m, hm⟩ := h2; exact DataW.trod_lt m _ _ _ hm
  obtain ⟨x2, y2⟩ := arg_in RosterBoth.rd5 (by kernel_rfl) (fun _ => one_int Try.underlying5 (hval 2 5 v2 rfl rfl)) (hval 2 5 v2 rfl rfl) h2
  clear hA0 hval0
  obtain ⟨k, hk⟩ := RosterBoth x0 x1 x2 (Fine.of y0) (Fine.of y1) (Fine.of y2)
  refine (law_out (c_caballaw16_RosterBoth k x0 x1 x2 true hk _ W v0 v1 v2 y0 y1 y2)).mono fun e W' ⟨he, bel⟩ => ?_
  subst he
  exact ⟨_, rfl, _, _, _, [], _, [], hW', trodAll_mk1 (shut_bool Try.underlying4 _), (trodAll_cons_mk (Below.trod RosterBoth.laidOut (by kernel_rfl) (of_decide_eq_true (by kernel_rfl)) h0 bel lt0) (trodAll_cons_mk (Below.trod RosterBoth.laidOut (by kernel_rfl) (of_decide_eq_true (by kernel_rfl)) h1 bel lt1) (trodAll_cons_mk (Below.trod RosterBoth.laidOut (by kernel_rfl) (of_decide_eq_true (by kernel_rfl)) h2 bel lt2) trodAll_mk0))), rfl, bel.frame _, fun h => by cases h⟩

theorem RosterBoth.inPlace : (Rows.rosterBothRow.inPlace == Try.prog.inPlace 10) = true := by kernel_rfl
theorem RosterBoth.unfollowed : (Rows.rosterBothRow.unfollowed == Try.prog.unfollowed 10) = true := by kernel_rfl
theorem RosterBoth.recurses : (Rows.rosterBothRow.recurses == Try.prog.recurses 10) = true := by kernel_rfl
theorem RosterBoth.named : (Rows.rosterBothRow.named == Try.prog.varsNamed 10) = true := by kernel_rfl
theorem RosterBoth.finals : (Rows.rosterBothRow.lifted == Try.prog.liftsFinal) = true := by kernel_rfl
theorem RosterBoth.plainKeys : (Rows.rosterBothRow.plainKeys == Try.prog.plainKeys) = true := by kernel_rfl
theorem RosterBoth.closed : joinedFacts Try.prog 10 Try.f10 Rows.rosterBothSpec Rows.rosterBothRow = true := by
  unfold joinedFacts
  rw [RosterBoth.inPlace, RosterBoth.unfollowed, RosterBoth.recurses, RosterBoth.named, RosterBoth.finals, RosterBoth.plainKeys, Joined.stops, Joined.knobs, Joined.heard, Joined.enter, Joined.laidOut, Joined.rowed]
  kernel_rfl

theorem RosterBoth.holds : Rows.RosterBothSaid :=
  OpenClaim.holds_of_wide 10 Try.f10 rfl rfl rfl rfl rfl rfl rfl ⟨rfl, rfl, rfl, rfl, rfl⟩ rfl rfl rfl rfl rfl (by kernel_rfl) Try.func10 RosterBoth.closed
    (of_decide_eq_true (by kernel_rfl)) (by unfold Func.isWrapper; first | (rw [if_pos (by decide +kernel)]; kernel_rfl) | (rw [if_neg (by decide +kernel)]; exact ⟨rfl, rfl⟩))
    (fun os started H enc _ => RosterBoth.lifted os started H enc)

end Go.Proofs.Ytdlnfgpcnfbjiaa
