/- QueueKeeps: for every input the law returns true, and each argument reads behind the call as it read before. No condition: every input. -/
import Derived.Test.YtdlnfgpcnfbjiaaRows
import Derived.Test.YtdlnfgpcnfbjiaaDyKeepQW
import Derived.Test.YtdlnfgpcnfbjiaaDyT
import Derived.Test.YtdlnfgpcnfbjiaaKyA
import Derived.Test.YtdlnfgpcnfbjiaaJoyQueueKeeps
namespace Go.Proofs.Ytdlnfgpcnfbjiaa
open Go.ChangeShapes Go.WideShapes Go.ChangeAt Go.RowKit Go.Proofs.Kit Go.Proofs.Pure
set_option linter.unusedVariables false
set_option maxRecDepth 100000
theorem QueueKeeps.own : ownKnob Try.prog.godebug = none := by kernel_rfl
theorem QueueKeeps.laidOut : laidOutB Try.prog = true := Joined.laidOut
theorem QueueKeeps.rd5 : RdK Try.prog 5 (kint .u8) := rd_int Try.underlying5
theorem QueueKeeps.rd39 : RdK Try.prog 39 (karr 32 (kint .u8)) := rd_arr Try.underlying39 (by kernel_rfl) (by kernel_rfl) rd5
theorem QueueKeeps.rd40 : RdK Try.prog 40 (ksl (karr 32 (kint .u8))) := rd_sl Try.underlying40 (by kernel_rfl) rd39
theorem QueueKeeps.rd9 : RdK Try.prog 9 kstr := rd_str Try.underlying9
theorem QueueKeeps.rd25 : RdK Try.prog 25 (kint .u32) := rd_int Try.underlying25
theorem QueueKeeps.rd76 : RdK Try.prog 76 k_api_Head := rd_struct (g := fun ⟨a0, a1, a2, _⟩ => ⟨a0, a1, a2⟩) Try.underlying76 (by kernel_rfl) (fun _ => rfl) (rdfs_cons rfl (by kernel_rfl) rd39 (rdfs_cons rfl (by kernel_rfl) rd25 (rdfs_cons rfl (by kernel_rfl) rd25 rdfs_nil)))
theorem QueueKeeps.rd3 : RdK Try.prog 3 (kint .i64) := rd_int Try.underlying3
theorem QueueKeeps.rd78 : RdK Try.prog 78 k_api_Box := rd_struct (g := fun ⟨a0, a1, a2, _⟩ => ⟨a0, a1, a2⟩) Try.underlying78 (by kernel_rfl) (fun _ => rfl) (rdfs_cons rfl (by kernel_rfl) rd3 (rdfs_cons rfl (by kernel_rfl) rd76 (rdfs_cons rfl (by kernel_rfl) rd9 rdfs_nil)))
theorem QueueKeeps.rd42 : RdK Try.prog 42 (ksl k_api_Box) := rd_sl Try.underlying42 (by kernel_rfl) rd78
theorem QueueKeeps.rd41 : RdK Try.prog 41 (ksl (kint .i64)) := rd_sl Try.underlying41 (by kernel_rfl) rd3
theorem QueueKeeps.rd44 : RdK Try.prog 44 k_api_Op := rd_struct (g := fun ⟨a0, a1, a2, a3, a4, a5, a6, a7, a8, _⟩ => ⟨a0, a1, a2, a3, a4, a5, a6, a7, a8⟩) Try.underlying44 (by kernel_rfl) (fun _ => rfl) (rdfs_cons rfl (by kernel_rfl) rd3 (rdfs_cons rfl (by kernel_rfl) rd25 (rdfs_cons rfl (by kernel_rfl) rd40 (rdfs_cons rfl (by kernel_rfl) rd3 (rdfs_cons rfl (by kernel_rfl) rd41 (rdfs_cons rfl (by kernel_rfl) rd39 (rdfs_cons rfl (by kernel_rfl) rd39 (rdfs_cons rfl (by kernel_rfl) rd9 (rdfs_cons rfl (by kernel_rfl) rd42 rdfs_nil)))))))))
theorem QueueKeeps.rd91 : RdK Try.prog 91 k_api_Held := rd_struct (g := fun ⟨a0, a1, a2, _⟩ => ⟨a0, a1, a2⟩) Try.underlying91 (by kernel_rfl) (fun _ => rfl) (rdfs_cons rfl (by kernel_rfl) rd39 (rdfs_cons rfl (by kernel_rfl) rd44 (rdfs_cons rfl (by kernel_rfl) rd40 rdfs_nil)))
theorem QueueKeeps.rd85 : RdK Try.prog 85 (ksl k_api_Held) := rd_sl Try.underlying85 (by kernel_rfl) rd91
theorem QueueKeeps.lifted (os : Os) (started : os.Started) (H : Type) (enc : TypeId × Value → H) :
    ReturnsInHanded {} Try.checked os 18 .any (Rows.queueKeepsSpec.pre6 enc Try.prog Try.f18 Rows.queueKeepsRow.domain false) (Rows.queueKeepsSpec.post enc Try.prog Try.f18 false true false false) := by
  refine returnsInHanded_of_change (C := Try.checked) QueueKeeps.own started (by kernel_rfl) Try.func18
    (ChangeSpec.witness6 (enc := enc) (C := Try.checked) false ⟨#[], #[.slice none 0 0, .agg (((List.replicate 32 [.int .u8 0]).flatten ++ (([.int .i64 0] ++ ([.int .u32 0] ++ ([.slice none 0 0] ++ ([.int .i64 0] ++ ([.slice none 0 0] ++ ((List.replicate 32 [.int .u8 0]).flatten ++ ((List.replicate 32 [.int .u8 0]).flatten ++ ([.string ⟨#[]⟩] ++ ([.slice none 0 0] ++ []))))))))) ++ ([.slice none 0 0] ++ []))) : List Value).toArray], []⟩ 8 (by kernel_rfl) (by kernel_rfl) (by kernel_rfl) (by kernel_rfl)) ?_
  intro W base args ds gs before hval0 hW hcnd _
  have hval : ∀ (j : Nat) t v, Try.f18.params[j]? = some t → args[j]? = some v → Value.okWide Try.prog W .any base t v := hval0
  have hW' := hW
  obtain ⟨p, q, hA0, hV, rfl, hfz, hnd⟩ := hW
  have hA : DataW.TrodAll enc Try.prog W 0 (fun _ => true) true Try.f18.params.toList args.toList ds p := hA0
  rw [Try.params18] at hA hval
  obtain ⟨v0, vs0, d0, ds0, p0, q0, hargs, rfl, rfl, h0, r0⟩ := trodAll_cons hA
  obtain ⟨v1, vs1, d1, ds1, p1, q1, rfl, rfl, rfl, h1, r1⟩ := trodAll_cons r0
  obtain ⟨rfl, rfl, rfl⟩ := trodAll_nil r1
  obtain rfl : args = #[v0, v1] := by cases args; simp_all
  obtain ⟨rfl, rfl⟩ := trodVars_none hV
  have lt0 : ∀ x ∈ p0, x.block < W.heap.size := by obtain ⟨m, hm⟩ := h0; exact DataW.trod_lt m _ _ _ hm
  obtain ⟨x0, y0⟩ := arg_in QueueKeeps.rd85 (by kernel_rfl) (fun _ => one_sl Try.underlying85 (hval 0 85 v0 rfl rfl)) (hval 0 85 v0 rfl rfl) h0
  have lt1 : ∀ x ∈ p1, x.block < W.heap.size := by obtain ⟨m, hm⟩ := h1; exact DataW.trod_lt m _ _ _ hm
  obtain ⟨x1, y1⟩ := arg_in QueueKeeps.rd91 (by kernel_rfl) (fun hn => by cases hn) (hval 1 91 v1 rfl rfl) h1
  clear hA0 hval0
  obtain ⟨k, hk⟩ := QueueKeeps x0 x1 (Fine.of y0) (Fine.of y1)
  refine (law_out (c_caballaw19_QueueKeeps k x0 x1 true hk _ W v0 v1 y0 y1)).mono fun e W' ⟨he, bel⟩ => ?_
  subst he
  exact ⟨_, rfl, _, _, _, [], _, [], hW', trodAll_mk1 (shut_bool Try.underlying4 _), (trodAll_cons_mk (Below.trod QueueKeeps.laidOut (by kernel_rfl) (of_decide_eq_true (by kernel_rfl)) h0 bel lt0) (trodAll_cons_mk (Below.trod QueueKeeps.laidOut (by kernel_rfl) (of_decide_eq_true (by kernel_rfl)) h1 bel lt1) trodAll_mk0)), rfl, bel.frame _, fun h => by cases h⟩
theorem QueueKeeps.inPlace : (Rows.queueKeepsRow.inPlace == Try.prog.inPlace 18) = true := by kernel_rfl
theorem QueueKeeps.unfollowed : (Rows.queueKeepsRow.unfollowed == Try.prog.unfollowed 18) = true := by kernel_rfl
theorem QueueKeeps.recurses : (Rows.queueKeepsRow.recurses == Try.prog.recurses 18) = true := by kernel_rfl
theorem QueueKeeps.named : (Rows.queueKeepsRow.named == Try.prog.varsNamed 18) = true := by kernel_rfl
theorem QueueKeeps.finals : (Rows.queueKeepsRow.lifted == Try.prog.liftsFinal) = true := by kernel_rfl
theorem QueueKeeps.plainKeys : (Rows.queueKeepsRow.plainKeys == Try.prog.plainKeys) = true := by kernel_rfl
theorem QueueKeeps.closed : joinedFacts Try.prog 18 Try.f18 Rows.queueKeepsSpec Rows.queueKeepsRow = true := by
  unfold joinedFacts
  rw [QueueKeeps.inPlace, QueueKeeps.unfollowed, QueueKeeps.recurses, QueueKeeps.named, QueueKeeps.finals, QueueKeeps.plainKeys, Joined.stops, Joined.knobs, Joined.heard, Joined.enter, Joined.laidOut, Joined.rowed]
  kernel_rfl
theorem QueueKeeps.holds : Rows.QueueKeepsSaid :=
  OpenClaim.holds_of_wide 18 Try.f18 rfl rfl rfl rfl rfl rfl rfl ⟨rfl, rfl, rfl, rfl, rfl⟩ rfl rfl rfl rfl rfl (by kernel_rfl) Try.func18 QueueKeeps.closed
    (of_decide_eq_true (by kernel_rfl)) (by unfold Func.isWrapper; first | (rw [if_pos (by decide +kernel)]; kernel_rfl) | (rw [if_neg (by decide +kernel)]; exact ⟨rfl, rfl⟩))
    (fun os started H enc _ => QueueKeeps.lifted os started H enc)
end Go.Proofs.Ytdlnfgpcnfbjiaa
