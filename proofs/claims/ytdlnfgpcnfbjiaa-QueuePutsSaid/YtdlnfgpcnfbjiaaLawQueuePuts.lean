/- QueuePuts: for every input the law returns true, and each argument reads behind the call as it read before. No condition: every input. -/
import Derived.Test.YtdlnfgpcnfbjiaaRows
import Derived.Test.YtdlnfgpcnfbjiaaXWalk
import Derived.Test.YtdlnfgpcnfbjiaaPQueuePuts
import Derived.Test.YtdlnfgpcnfbjiaaKit10
import Derived.Test.YtdlnfgpcnfbjiaaJoined
namespace Go.Proofs.Ytdlnfgpcnfbjiaa
open Go.ChangeShapes Go.WideShapes Go.ChangeAt Go.RowKit Go.Proofs.Kit Go.Proofs.Pure
set_option linter.unusedVariables false
set_option maxRecDepth 100000

theorem QueuePuts.own : ownKnob Try.prog.godebug = none := by kernel_rfl
theorem QueuePuts.laidOut : laidOutB Try.prog = true := Joined.laidOut
theorem QueuePuts.rd5 : RdK Try.prog 5 (kint .u8) := rd_int Try.underlying5
theorem QueuePuts.rd39 : RdK Try.prog 39 (karr 32 (kint .u8)) := rd_arr Try.underlying39 (by kernel_rfl) (by kernel_rfl) rd5
theorem QueuePuts.rd40 : RdK Try.prog 40 (ksl (karr 32 (kint .u8))) := rd_sl Try.underlying40 (by kernel_rfl) rd39
theorem QueuePuts.rd9 : RdK Try.prog 9 kstr := rd_str Try.underlying9
theorem QueuePuts.rd25 : RdK Try.prog 25 (kint .u32) := rd_int Try.underlying25
theorem QueuePuts.rd76 : RdK Try.prog 76 k_api_Head := rd_struct (g := fun ⟨a0, a1, a2, _⟩ => ⟨a0, a1, a2⟩) Try.underlying76 (by kernel_rfl) (fun _ => rfl) (rdfs_cons rfl (by kernel_rfl) rd39 (rdfs_cons rfl (by kernel_rfl) rd25 (rdfs_cons rfl (by kernel_rfl) rd25 rdfs_nil)))
theorem QueuePuts.rd3 : RdK Try.prog 3 (kint .i64) := rd_int Try.underlying3
theorem QueuePuts.rd78 : RdK Try.prog 78 k_api_Box := rd_struct (g := fun ⟨a0, a1, a2, _⟩ => ⟨a0, a1, a2⟩) Try.underlying78 (by kernel_rfl) (fun _ => rfl) (rdfs_cons rfl (by kernel_rfl) rd3 (rdfs_cons rfl (by kernel_rfl) rd76 (rdfs_cons rfl (by kernel_rfl) rd9 rdfs_nil)))
theorem QueuePuts.rd42 : RdK Try.prog 42 (ksl k_api_Box) := rd_sl Try.underlying42 (by kernel_rfl) rd78
theorem QueuePuts.rd41 : RdK Try.prog 41 (ksl (kint .i64)) := rd_sl Try.underlying41 (by kernel_rfl) rd3
theorem QueuePuts.rd44 : RdK Try.prog 44 k_api_Op := rd_struct (g := fun ⟨a0, a1, a2, a3, a4, a5, a6, a7, a8, _⟩ => ⟨a0, a1, a2, a3, a4, a5, a6, a7, a8⟩) Try.underlying44 (by kernel_rfl) (fun _ => rfl) (rdfs_cons rfl (by kernel_rfl) rd3 (rdfs_cons rfl (by kernel_rfl) rd25 (rdfs_cons rfl (by kernel_rfl) rd40 (rdfs_cons rfl (by kernel_rfl) rd3 (rdfs_cons rfl (by kernel_rfl) rd41 (rdfs_cons rfl (by kernel_rfl) rd39 (rdfs_cons rfl (by kernel_rfl) rd39 (rdfs_cons rfl (by kernel_rfl) rd9 (rdfs_cons rfl (by kernel_rfl) rd42 rdfs_nil)))))))))
theorem QueuePuts.rd91 : RdK Try.prog 91 k_api_Held := rd_struct (g := fun ⟨a0, a1, a2, _⟩ => ⟨a0, a1, a2⟩) Try.underlying91 (by kernel_rfl) (fun _ => rfl) (rdfs_cons rfl (by kernel_rfl) rd39 (rdfs_cons rfl (by kernel_rfl) rd44 (rdfs_cons rfl (by kernel_rfl) rd40 rdfs_nil)))
theorem QueuePuts.rd85 : RdK Try.prog 85 (ksl k_api_Held) := rd_sl Try.underlying85 (by kernel_rfl) rd91

theorem QueuePuts.lifted (os : Os) (started : os.Started) (H : Type) (enc : TypeId × Value → H) :
    ReturnsInHanded {} Try.checked os 19 .any (Rows.queuePutsSpec.pre6 enc Try.prog Try.f19 Rows.queuePutsRow.domain false) (Rows.queuePutsSpec.post enc Try.prog Try.f19 false true false false) := by
  refine returnsInHanded_of_change (C := Try.checked) QueuePuts.own started (by kernel_rfl) Try.func19
    (ChangeSpec.witness6 (enc := enc) (C := Try.checked) false ⟨#[], #[.slice none 0 0, .slice none 0 0, .agg (((List.replicate 32 [.int .u8 0]).flatten ++ (([.int .i64 0] ++ ([.int .u32 0] ++ ([.slice none 0 0] ++ ([.int .i64 0] ++ ([.slice none 0 0] ++ ((List.replicate 32 [.int .u8 0]).flatten ++ ((List.replicate 32 [.int .u8 0]).flatten ++ ([.string ⟨#[]⟩] ++ ([.slice none 0 0] ++ []))))))))) ++ ([.slice none 0 0] ++ []))) : List Value).toArray, .int .i64 0], []⟩ 8 (by kernel_rfl) (by kernel_rfl) (by kernel_rfl) (by kernel_rfl)) ?_
  intro W base args ds gs before hval0 hW hcnd _
  have hval : ∀ (j : Nat) t v, Try.f19.params[j]? = some t → args[j]? = some v → Value.okWide Try.prog W .any base t v := hval0
  have hW' := hW
  obtain ⟨p, q, hA0, hV, rfl, hfz, hnd⟩ := hW
  have hA : DataW.TrodAll enc Try.prog W 0 (fun _ => true) true Try.f19.params.toList args.toList ds p := hA0
  rw [Try.params19] at hA hval
  obtain ⟨v0, vs0, d0, ds0, p0, q0, hargs, rfl, rfl, h0, r0⟩ := trodAll_cons hA
  obtain ⟨v1, vs1, d1, ds1, p1, q1, rfl, rfl, rfl, h1, r1⟩ := trodAll_cons r0
  obtain ⟨v2, vs2, d2, ds2, p2, q2, rfl, rfl, rfl, h2, r2⟩ := trodAll_cons r1
  obtain ⟨v3, vs3, d3, ds3, p3, q3, rfl, rfl, rfl, h3, r3⟩ := trodAll_cons r2
  obtain ⟨rfl, rfl, rfl⟩ := trodAll_nil r3
  obtain rfl : args = #[v0, v1, v2, v3] := by cases args; simp_all
  obtain ⟨rfl, rfl⟩ := trodVars_none hV
  have lt0 : ∀ x ∈ p0, x.block < W.heap.size := by obtain ⟨m, hm⟩ := h0; exact DataW.trod_lt m _ _ _ hm
  obtain ⟨x0, y0⟩ := arg_in QueuePuts.rd85 (by kernel_rfl) (fun _ => one_sl Try.underlying85 (hval 0 85 v0 rfl rfl)) (hval 0 85 v0 rfl rfl) h0
  have lt1 : ∀ x ∈ p1, x.block < W.heap.size := by obtain ⟨m, hm⟩ := h1; exact DataW.trod_lt m _ _ _ hm
  obtain ⟨x1, y1⟩ := arg_in QueuePuts.rd85 (by kernel_rfl) (fun _ => one_sl Try.underlying85 (hval 1 85 v1 rfl rfl)) (hval 1 85 v1 rfl rfl) h1
  have lt2 : ∀ x ∈ p2, x.block < W.heap.size := by obtain ⟨m, hm⟩ := h2; exact DataW.trod_lt m _ _ _ hm
  obtain ⟨x2, y2⟩ := arg_in QueuePuts.rd91 (by kernel_rfl) (fun hn => by cases hn) (hval 2 91 v2 rfl rfl) h2
  have lt3 : ∀ x ∈ p3, x.block < W.heap.size := by obtain ⟨m, hm⟩ := h3; exact DataW.trod_lt m _ _ _ hm
  obtain ⟨x3, y3⟩ := arg_in QueuePuts.rd3 (by kernel_rfl) (fun _ => one_int Try.underlying3 (hval 3 3 v3 rfl rfl)) (hval 3 3 v3 rfl rfl) h3
  clear hA0 hval0
  obtain ⟨k, hk⟩ := QueuePuts x0 x1 x2 x3 (Fine.of y0) (Fine.of y1) (Fine.of y2) (Fine.of y3)
  refine (law_out (c_caballaw19_QueuePuts k x0 x1 x2 x3 true hk _ W v0 v1 v2 v3 y0 y1 y2 y3)).mono fun e W' ⟨he, bel⟩ => ?_
  subst he
  exact ⟨_, rfl, _, _, _, [], _, [], hW', trodAll_mk1 (shut_bool Try.underlying4 _), (trodAll_cons_mk (Below.trod QueuePuts.laidOut (by kernel_rfl) (of_decide_eq_true (by kernel_rfl)) h0 bel lt0) (trodAll_cons_mk (Below.trod QueuePuts.laidOut (by kernel_rfl) (of_decide_eq_true (by kernel_rfl)) h1 bel lt1) (trodAll_cons_mk (Below.trod QueuePuts.laidOut (by kernel_rfl) (of_decide_eq_true (by kernel_rfl)) h2 bel lt2) (trodAll_cons_mk (Below.trod QueuePuts.laidOut (by kernel_rfl) (of_decide_eq_true (by kernel_rfl)) h3 bel lt3) trodAll_mk0)))), rfl, bel.frame _, fun h => by cases h⟩

theorem QueuePuts.inPlace : (Rows.queuePutsRow.inPlace == Try.prog.inPlace 19) = true := by kernel_rfl
theorem QueuePuts.unfollowed : (Rows.queuePutsRow.unfollowed == Try.prog.unfollowed 19) = true := by kernel_rfl
theorem QueuePuts.recurses : (Rows.queuePutsRow.recurses == Try.prog.recurses 19) = true := by kernel_rfl
theorem QueuePuts.named : (Rows.queuePutsRow.named == Try.prog.varsNamed 19) = true := by kernel_rfl
theorem QueuePuts.finals : (Rows.queuePutsRow.lifted == Try.prog.liftsFinal) = true := by kernel_rfl
theorem QueuePuts.plainKeys : (Rows.queuePutsRow.plainKeys == Try.prog.plainKeys) = true := by kernel_rfl
theorem QueuePuts.closed : joinedFacts Try.prog 19 Try.f19 Rows.queuePutsSpec Rows.queuePutsRow = true := by
  unfold joinedFacts
  rw [QueuePuts.inPlace, QueuePuts.unfollowed, QueuePuts.recurses, QueuePuts.named, QueuePuts.finals, QueuePuts.plainKeys, Joined.stops, Joined.knobs, Joined.heard, Joined.enter, Joined.laidOut, Joined.rowed]
  kernel_rfl

theorem QueuePuts.holds : Rows.QueuePutsSaid :=
  OpenClaim.holds_of_wide 19 Try.f19 rfl rfl rfl rfl rfl rfl rfl ⟨rfl, rfl, rfl, rfl, rfl⟩ rfl rfl rfl rfl rfl (by kernel_rfl) Try.func19 QueuePuts.closed
    (of_decide_eq_true (by kernel_rfl)) (by unfold Func.isWrapper; first | (rw [if_pos (by decide +kernel)]; kernel_rfl) | (rw [if_neg (by decide +kernel)]; exact ⟨rfl, rfl⟩))
    (fun os started H enc _ => QueuePuts.lifted os started H enc)

end Go.Proofs.Ytdlnfgpcnfbjiaa
