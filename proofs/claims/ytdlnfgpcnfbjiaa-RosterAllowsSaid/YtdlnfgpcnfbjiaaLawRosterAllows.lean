/- RosterAllows: for every input the law returns true, and each argument reads behind the call as it read before. No condition: every input. -/
import Derived.Test.YtdlnfgpcnfbjiaaRows
import Derived.Test.YtdlnfgpcnfbjiaaYWalk
import Derived.Test.YtdlnfgpcnfbjiaaPRosterAllows
import Derived.Test.YtdlnfgpcnfbjiaaKx10
import Derived.Test.YtdlnfgpcnfbjiaaJoined
namespace Go.Proofs.Ytdlnfgpcnfbjiaa
open Go.ChangeShapes Go.WideShapes Go.ChangeAt Go.RowKit Go.Proofs.Kit Go.Proofs.Pure
set_option linter.unusedVariables false
set_option maxRecDepth 100000

theorem RosterAllows.own : ownKnob Try.prog.godebug = none := by kernel_rfl
theorem RosterAllows.laidOut : laidOutB Try.prog = true := Joined.laidOut
theorem RosterAllows.rd3 : RdK Try.prog 3 (kint .i64) := rd_int Try.underlying3
theorem RosterAllows.rd41 : RdK Try.prog 41 (ksl (kint .i64)) := rd_sl Try.underlying41 (by kernel_rfl) rd3
theorem RosterAllows.rd9 : RdK Try.prog 9 kstr := rd_str Try.underlying9
theorem RosterAllows.rd25 : RdK Try.prog 25 (kint .u32) := rd_int Try.underlying25
theorem RosterAllows.rd5 : RdK Try.prog 5 (kint .u8) := rd_int Try.underlying5
theorem RosterAllows.rd39 : RdK Try.prog 39 (karr 32 (kint .u8)) := rd_arr Try.underlying39 (by kernel_rfl) (by kernel_rfl) rd5
theorem RosterAllows.rd76 : RdK Try.prog 76 k_api_Head := rd_struct (g := fun ⟨a0, a1, a2, _⟩ => ⟨a0, a1, a2⟩) Try.underlying76 (by kernel_rfl) (fun _ => rfl) (rdfs_cons rfl (by kernel_rfl) rd39 (rdfs_cons rfl (by kernel_rfl) rd25 (rdfs_cons rfl (by kernel_rfl) rd25 rdfs_nil)))
theorem RosterAllows.rd78 : RdK Try.prog 78 k_api_Box := rd_struct (g := fun ⟨a0, a1, a2, _⟩ => ⟨a0, a1, a2⟩) Try.underlying78 (by kernel_rfl) (fun _ => rfl) (rdfs_cons rfl (by kernel_rfl) rd3 (rdfs_cons rfl (by kernel_rfl) rd76 (rdfs_cons rfl (by kernel_rfl) rd9 rdfs_nil)))
theorem RosterAllows.rd42 : RdK Try.prog 42 (ksl k_api_Box) := rd_sl Try.underlying42 (by kernel_rfl) rd78
theorem RosterAllows.rd40 : RdK Try.prog 40 (ksl (karr 32 (kint .u8))) := rd_sl Try.underlying40 (by kernel_rfl) rd39
theorem RosterAllows.rd44 : RdK Try.prog 44 k_api_Op := rd_struct (g := fun ⟨a0, a1, a2, a3, a4, a5, a6, a7, a8, _⟩ => ⟨a0, a1, a2, a3, a4, a5, a6, a7, a8⟩) Try.underlying44 (by kernel_rfl) (fun _ => rfl) (rdfs_cons rfl (by kernel_rfl) rd3 (rdfs_cons rfl (by kernel_rfl) rd25 (rdfs_cons rfl (by kernel_rfl) rd40 (rdfs_cons rfl (by kernel_rfl) rd3 (rdfs_cons rfl (by kernel_rfl) rd41 (rdfs_cons rfl (by kernel_rfl) rd39 (rdfs_cons rfl (by kernel_rfl) rd39 (rdfs_cons rfl (by kernel_rfl) rd9 (rdfs_cons rfl (by kernel_rfl) rd42 rdfs_nil)))))))))
theorem RosterAllows.rd46 : RdK Try.prog 46 k_api_Node := rd_struct (g := fun ⟨a0, a1, a2, _⟩ => ⟨a0, a1, a2⟩) Try.underlying46 (by kernel_rfl) (fun _ => rfl) (rdfs_cons rfl (by kernel_rfl) rd39 (rdfs_cons rfl (by kernel_rfl) rd44 (rdfs_cons rfl (by kernel_rfl) rd41 rdfs_nil)))
theorem RosterAllows.rd22 : RdK Try.prog 22 (ksl k_api_Node) := rd_sl Try.underlying22 (by kernel_rfl) rd46

theorem RosterAllows.lifted (os : Os) (started : os.Started) (H : Type) (enc : TypeId × Value → H) :
    ReturnsInHanded {} Try.checked os 21 .any (Rows.rosterAllowsSpec.pre6 enc Try.prog Try.f21 Rows.rosterAllowsRow.domain false) (Rows.rosterAllowsSpec.post enc Try.prog Try.f21 false true false false) := by
  refine returnsInHanded_of_change (C := Try.checked) RosterAllows.own started (by kernel_rfl) Try.func21
    (ChangeSpec.witness6 (enc := enc) (C := Try.checked) false ⟨#[], #[.slice none 0 0, .agg (([.int .i64 0] ++ ([.int .u32 0] ++ ([.slice none 0 0] ++ ([.int .i64 0] ++ ([.slice none 0 0] ++ ((List.replicate 32 [.int .u8 0]).flatten ++ ((List.replicate 32 [.int .u8 0]).flatten ++ ([.string ⟨#[]⟩] ++ ([.slice none 0 0] ++ []))))))))) : List Value).toArray], []⟩ 8 (by kernel_rfl) (by kernel_rfl) (by kernel_rfl) (by kernel_rfl)) ?_
  intro W base args ds gs before hval0 hW hcnd _
  have hval : ∀ (j : Nat) t v, Try.f21.params[j]? = some t → args[j]? = some v → Value.okWide Try.prog W .any base t v := hval0
  have hW' := hW
  obtain ⟨p, q, hA0, hV, rfl, hfz, hnd⟩ := hW
  have hA : DataW.TrodAll enc Try.prog W 0 (fun _ => true) true Try.f21.params.toList args.toList ds p := hA0
  rw [Try.params21] at hA hval
  obtain ⟨v0, vs0, d0, ds0, p0, q0, hargs, rfl, rfl, h0, r0⟩ := trodAll_cons hA
  obtain ⟨v1, vs1, d1, ds1, p1, q1, rfl, rfl, rfl, h1, r1⟩ := trodAll_cons r0
  obtain ⟨rfl, rfl, rfl⟩ := trodAll_nil r1
  obtain rfl : args = #[v0, v1] := by cases args; simp_all
  obtain ⟨rfl, rfl⟩ := trodVars_none hV
  have lt0 : ∀ x ∈ p0, x.block < W.heap.size := by obtain ⟨m, hm⟩ := h0; exact DataW.trod_lt m _ _ _ hm
  obtain ⟨x0, y0⟩ := arg_in RosterAllows.rd22 (by kernel_rfl) (fun _ => one_sl Try.underlying22 (hval 0 22 v0 rfl rfl)) (hval 0 22 v0 rfl rfl) h0
  have lt1 : ∀ x ∈ p1, x.block < W.heap.size := by obtain ⟨m, hm⟩ := h1; exact DataW.trod_lt m _ _ _ hm
  obtain ⟨x1, y1⟩ := arg_in RosterAllows.rd44 (by kernel_rfl) (fun hn => by cases hn) (hval 1 44 v1 rfl rfl) h1
  clear hA0 hval0
  obtain ⟨k, hk⟩ := RosterAllows x0 x1 (Fine.of y0) (Fine.of y1)
  refine (law_out (c_caballaw16_RosterAllows k x0 x1 true hk _ W v0 v1 y0 y1)).mono fun e W' ⟨he, bel⟩ => ?_
  subst he
  exact ⟨_, rfl, _, _, _, [], _, [], hW', trodAll_mk1 (shut_bool Try.underlying4 _), (trodAll_cons_mk (Below.trod RosterAllows.laidOut (by kernel_rfl) (of_decide_eq_true (by kernel_rfl)) h0 bel lt0) (trodAll_cons_mk (Below.trod RosterAllows.laidOut (by kernel_rfl) (of_decide_eq_true (by kernel_rfl)) h1 bel lt1) trodAll_mk0)), rfl, bel.frame _, fun h => by cases h⟩

theorem RosterAllows.inPlace : (Rows.rosterAllowsRow.inPlace == Try.prog.inPlace 21) = true := by kernel_rfl
theorem RosterAllows.unfollowed : (Rows.rosterAllowsRow.unfollowed == Try.prog.unfollowed 21) = true := by kernel_rfl
theorem RosterAllows.recurses : (Rows.rosterAllowsRow.recurses == Try.prog.recurses 21) = true := by kernel_rfl
theorem RosterAllows.named : (Rows.rosterAllowsRow.named == Try.prog.varsNamed 21) = true := by kernel_rfl
theorem RosterAllows.finals : (Rows.rosterAllowsRow.lifted == Try.prog.liftsFinal) = true := by kernel_rfl
theorem RosterAllows.plainKeys : (Rows.rosterAllowsRow.plainKeys == Try.prog.plainKeys) = true := by kernel_rfl
theorem RosterAllows.closed : joinedFacts Try.prog 21 Try.f21 Rows.rosterAllowsSpec Rows.rosterAllowsRow = true := by
  unfold joinedFacts
  rw [RosterAllows.inPlace, RosterAllows.unfollowed, RosterAllows.recurses, RosterAllows.named, RosterAllows.finals, RosterAllows.plainKeys, Joined.stops, Joined.knobs, Joined.heard, Joined.enter, Joined.laidOut, Joined.rowed]
  kernel_rfl

theorem RosterAllows.holds : Rows.RosterAllowsSaid :=
  OpenClaim.holds_of_wide 21 Try.f21 rfl rfl rfl rfl rfl rfl rfl ⟨rfl, rfl, rfl, rfl, rfl⟩ rfl rfl rfl rfl rfl (by kernel_rfl) Try.func21 RosterAllows.closed
    (of_decide_eq_true (by kernel_rfl)) (by unfold Func.isWrapper; first | (rw [if_pos (by decide +kernel)]; kernel_rfl) | (rw [if_neg (by decide +kernel)]; exact ⟨rfl, rfl⟩))
    (fun os started H enc _ => RosterAllows.lifted os started H enc)

end Go.Proofs.Ytdlnfgpcnfbjiaa
