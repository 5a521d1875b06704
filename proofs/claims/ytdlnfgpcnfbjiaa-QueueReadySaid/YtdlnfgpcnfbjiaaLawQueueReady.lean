/- QueueReady: for every input the law returns true, and each argument reads behind the call as it read before. No condition: every input. -/
import Derived.Test.YtdlnfgpcnfbjiaaRows
import Derived.Test.YtdlnfgpcnfbjiaaVWalk
import Derived.Test.YtdlnfgpcnfbjiaaPQueueReady
import Derived.Test.YtdlnfgpcnfbjiaaKx10
import Derived.Test.YtdlnfgpcnfbjiaaJoined
namespace Go.Proofs.Ytdlnfgpcnfbjiaa
open Go.ChangeShapes Go.WideShapes Go.ChangeAt Go.RowKit Go.Proofs.Kit Go.Proofs.Pure
set_option linter.unusedVariables false
set_option maxRecDepth 100000

theorem QueueReady.own : ownKnob Try.prog.godebug = none := by kernel_rfl
theorem QueueReady.laidOut : laidOutB Try.prog = true := Joined.laidOut
theorem QueueReady.rd3 : RdK Try.prog 3 (kint .i64) := rd_int Try.underlying3
theorem QueueReady.rd41 : RdK Try.prog 41 (ksl (kint .i64)) := rd_sl Try.underlying41 (by kernel_rfl) rd3
theorem QueueReady.rd9 : RdK Try.prog 9 kstr := rd_str Try.underlying9
theorem QueueReady.rd25 : RdK Try.prog 25 (kint .u32) := rd_int Try.underlying25
theorem QueueReady.rd5 : RdK Try.prog 5 (kint .u8) := rd_int Try.underlying5
theorem QueueReady.rd39 : RdK Try.prog 39 (karr 32 (kint .u8)) := rd_arr Try.underlying39 (by kernel_rfl) (by kernel_rfl) rd5
theorem QueueReady.rd76 : RdK Try.prog 76 k_api_Head := rd_struct (g := fun ⟨a0, a1, a2, _⟩ => ⟨a0, a1, a2⟩) Try.underlying76 (by kernel_rfl) (fun _ => rfl) (rdfs_cons rfl (by kernel_rfl) rd39 (rdfs_cons rfl (by kernel_rfl) rd25 (rdfs_cons rfl (by kernel_rfl) rd25 rdfs_nil)))
theorem QueueReady.rd78 : RdK Try.prog 78 k_api_Box := rd_struct (g := fun ⟨a0, a1, a2, _⟩ => ⟨a0, a1, a2⟩) Try.underlying78 (by kernel_rfl) (fun _ => rfl) (rdfs_cons rfl (by kernel_rfl) rd3 (rdfs_cons rfl (by kernel_rfl) rd76 (rdfs_cons rfl (by kernel_rfl) rd9 rdfs_nil)))
theorem QueueReady.rd42 : RdK Try.prog 42 (ksl k_api_Box) := rd_sl Try.underlying42 (by kernel_rfl) rd78
theorem QueueReady.rd40 : RdK Try.prog 40 (ksl (karr 32 (kint .u8))) := rd_sl Try.underlying40 (by kernel_rfl) rd39
theorem QueueReady.rd44 : RdK Try.prog 44 k_api_Op := rd_struct (g := fun ⟨a0, a1, a2, a3, a4, a5, a6, a7, a8, _⟩ => ⟨a0, a1, a2, a3, a4, a5, a6, a7, a8⟩) Try.underlying44 (by kernel_rfl) (fun _ => rfl) (rdfs_cons rfl (by kernel_rfl) rd3 (rdfs_cons rfl (by kernel_rfl) rd25 (rdfs_cons rfl (by kernel_rfl) rd40 (rdfs_cons rfl (by kernel_rfl) rd3 (rdfs_cons rfl (by kernel_rfl) rd41 (rdfs_cons rfl (by kernel_rfl) rd39 (rdfs_cons rfl (by kernel_rfl) rd39 (rdfs_cons rfl (by kernel_rfl) rd9 (rdfs_cons rfl (by kernel_rfl) rd42 rdfs_nil)))))))))
theorem QueueReady.rd46 : RdK Try.prog 46 k_api_Node := rd_struct (g := fun ⟨a0, a1, a2, _⟩ => ⟨a0, a1, a2⟩) Try.underlying46 (by kernel_rfl) (fun _ => rfl) (rdfs_cons rfl (by kernel_rfl) rd39 (rdfs_cons rfl (by kernel_rfl) rd44 (rdfs_cons rfl (by kernel_rfl) rd41 rdfs_nil)))
theorem QueueReady.rd22 : RdK Try.prog 22 (ksl k_api_Node) := rd_sl Try.underlying22 (by kernel_rfl) rd46
theorem QueueReady.rd91 : RdK Try.prog 91 k_api_Held := rd_struct (g := fun ⟨a0, a1, a2, _⟩ => ⟨a0, a1, a2⟩) Try.underlying91 (by kernel_rfl) (fun _ => rfl) (rdfs_cons rfl (by kernel_rfl) rd39 (rdfs_cons rfl (by kernel_rfl) rd44 (rdfs_cons rfl (by kernel_rfl) rd40 rdfs_nil)))
theorem QueueReady.rd85 : RdK Try.prog 85 (ksl k_api_Held) := rd_sl Try.underlying85 (by kernel_rfl) rd91

theorem QueueReady.lifted (os : Os) (started : os.Started) (H : Type) (enc : TypeId × Value → H) :
    ReturnsInHanded {} Try.checked os 17 .any (Rows.queueReadySpec.pre6 enc Try.prog Try.f17 Rows.queueReadyRow.domain false) (Rows.queueReadySpec.post enc Try.prog Try.f17 false true false false) := by
  refine returnsInHanded_of_change (C := Try.checked) QueueReady.own started (by kernel_rfl) Try.func17
    (ChangeSpec.witness6 (enc := enc) (C := Try.checked) false ⟨#[], #[.slice none 0 0, .slice none 0 0], []⟩ 8 (by kernel_rfl) (by kernel_rfl) (by kernel_rfl) (by kernel_rfl)) ?_
  intro W base args ds gs before hval0 hW hcnd _
  have hval : ∀ (j : Nat) t v, Try.f17.params[j]? = some t → args[j]? = some v → Value.okWide Try.prog W .any base t v := hval0
  have hW' := hW
  obtain ⟨p, q, hA0, hV, rfl, hfz, hnd⟩ := hW
  have hA : DataW.TrodAll enc Try.prog W 0 (fun _ => true) true Try.f17.params.toList args.toList ds p := hA0
  rw [Try.params17] at hA hval
  obtain ⟨v0, vs0, d0, ds0, p0, q0, hargs, rfl, rfl, h0, r0⟩ := trodAll_cons hA
  obtain ⟨v1, vs1, d1, ds1, p1, q1, rfl, rfl, rfl, h1, r1⟩ := trodAll_cons r0
  obtain ⟨rfl, rfl, rfl⟩ := trodAll_nil r1
  obtain rfl : args = #[v0, v1] := by cases args; simp_all
  obtain ⟨rfl, rfl⟩ := trodVars_none hV
  have lt0 : ∀ x ∈ p0, x.block < W.heap.size := by obtain ⟨m, hm⟩ := h0; exact DataW.trod_lt m _ _ _ hm
  obtain ⟨x0, y0⟩ := arg_in QueueReady.rd22 (by kernel_rfl) (fun _ => one_sl Try.underlying22 (hval 0 22 v0 rfl rfl)) (hval 0 22 v0 rfl rfl) h0
  have lt1 : ∀ x ∈ p1, x.block < W.heap.size := by obtain ⟨m, hm⟩ := h1; exact DataW.trod_lt m _ _ _ hm
  obtain ⟨x1, y1⟩ := arg_in QueueReady.rd85 (by kernel_rfl) (fun _ => one_sl Try.underlying85 (hval 1 85 v1 rfl rfl)) (hval 1 85 v1 rfl rfl) h1
  clear hA0 hval0
  obtain ⟨k, hk⟩ := QueueReady x0 x1 (Fine.of y0) (Fine.of y1)
  refine (law_out (c_caballaw19_QueueReady k x0 x1 true hk _ W v0 v1 y0 y1)).mono fun e W' ⟨he, bel⟩ => ?_
  subst he
  exact ⟨_, rfl, _, _, _, [], _, [], hW', trodAll_mk1 (shut_bool Try.underlying4 _), (trodAll_cons_mk (Below.trod QueueReady.laidOut (by kernel_rfl) (of_decide_eq_true (by kernel_rfl)) h0 bel lt0) (trodAll_cons_mk (Below.trod QueueReady.laidOut (by kernel_rfl) (of_decide_eq_true (by kernel_rfl)) h1 bel lt1) trodAll_mk0)), rfl, bel.frame _, fun h => by cases h⟩

theorem QueueReady.inPlace : (Rows.queueReadyRow.inPlace == Try.prog.inPlace 17) = true := by kernel_rfl
theorem QueueReady.unfollowed : (Rows.queueReadyRow.unfollowed == Try.prog.unfollowed 17) = true := by kernel_rfl
theorem QueueReady.recurses : (Rows.queueReadyRow.recurses == Try.prog.recurses 17) = true := by kernel_rfl
theorem QueueReady.named : (Rows.queueReadyRow.named == Try.prog.varsNamed 17) = true := by kernel_rfl
theorem QueueReady.finals : (Rows.queueReadyRow.lifted == Try.prog.liftsFinal) = true := by kernel_rfl
theorem QueueReady.plainKeys : (Rows.queueReadyRow.plainKeys == Try.prog.plainKeys) = true := by kernel_rfl
theorem QueueReady.closed : joinedFacts Try.prog 17 Try.f17 Rows.queueReadySpec Rows.queueReadyRow = true := by
  unfold joinedFacts
  rw [QueueReady.inPlace, QueueReady.unfollowed, QueueReady.recurses, QueueReady.named, QueueReady.finals, QueueReady.plainKeys, Joined.stops, Joined.knobs, Joined.heard, Joined.enter, Joined.laidOut, Joined.rowed]
  kernel_rfl

theorem QueueReady.holds : Rows.QueueReadySaid :=
  OpenClaim.holds_of_wide 17 Try.f17 rfl rfl rfl rfl rfl rfl rfl ⟨rfl, rfl, rfl, rfl, rfl⟩ rfl rfl rfl rfl rfl (by kernel_rfl) Try.func17 QueueReady.closed
    (of_decide_eq_true (by kernel_rfl)) (by unfold Func.isWrapper; first | (rw [if_pos (by decide +kernel)]; kernel_rfl) | (rw [if_neg (by decide +kernel)]; exact ⟨rfl, rfl⟩))
    (fun os started H enc _ => QueueReady.lifted os started H enc)

end Go.Proofs.Ytdlnfgpcnfbjiaa
