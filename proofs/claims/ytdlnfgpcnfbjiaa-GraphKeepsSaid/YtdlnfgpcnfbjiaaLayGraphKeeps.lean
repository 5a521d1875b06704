/- GraphKeeps: for every input the law returns true, and each argument reads behind the call as it read before. No condition: every input. -/
import Derived.Test.YtdlnfgpcnfbjiaaRows
import Derived.Test.YtdlnfgpcnfbjiaaGyKeepW
import Derived.Test.YtdlnfgpcnfbjiaaGyT
import Derived.Test.YtdlnfgpcnfbjiaaKyA
import Derived.Test.YtdlnfgpcnfbjiaaJoyGraphKeeps
namespace Go.Proofs.Ytdlnfgpcnfbjiaa
open Go.ChangeShapes Go.WideShapes Go.ChangeAt Go.RowKit Go.Proofs.Kit Go.Proofs.Pure
set_option linter.unusedVariables false
set_option maxRecDepth 100000
theorem GraphKeeps.own : ownKnob Try.prog.godebug = none := by kernel_rfl
theorem GraphKeeps.laidOut : laidOutB Try.prog = true := Joined.laidOut
theorem GraphKeeps.rd3 : RdK Try.prog 3 (kint .i64) := rd_int Try.underlying3
theorem GraphKeeps.rd41 : RdK Try.prog 41 (ksl (kint .i64)) := rd_sl Try.underlying41 (by kernel_rfl) rd3
theorem GraphKeeps.rd9 : RdK Try.prog 9 kstr := rd_str Try.underlying9
theorem GraphKeeps.rd25 : RdK Try.prog 25 (kint .u32) := rd_int Try.underlying25
theorem GraphKeeps.rd5 : RdK Try.prog 5 (kint .u8) := rd_int Try.underlying5
theorem GraphKeeps.rd39 : RdK Try.prog 39 (karr 32 (kint .u8)) := rd_arr Try.underlying39 (by kernel_rfl) (by kernel_rfl) rd5
theorem GraphKeeps.rd76 : RdK Try.prog 76 k_api_Head := rd_struct (g := fun ⟨a0, a1, a2, _⟩ => ⟨a0, a1, a2⟩) Try.underlying76 (by kernel_rfl) (fun _ => rfl) (rdfs_cons rfl (by kernel_rfl) rd39 (rdfs_cons rfl (by kernel_rfl) rd25 (rdfs_cons rfl (by kernel_rfl) rd25 rdfs_nil)))
theorem GraphKeeps.rd78 : RdK Try.prog 78 k_api_Box := rd_struct (g := fun ⟨a0, a1, a2, _⟩ => ⟨a0, a1, a2⟩) Try.underlying78 (by kernel_rfl) (fun _ => rfl) (rdfs_cons rfl (by kernel_rfl) rd3 (rdfs_cons rfl (by kernel_rfl) rd76 (rdfs_cons rfl (by kernel_rfl) rd9 rdfs_nil)))
theorem GraphKeeps.rd42 : RdK Try.prog 42 (ksl k_api_Box) := rd_sl Try.underlying42 (by kernel_rfl) rd78
theorem GraphKeeps.rd40 : RdK Try.prog 40 (ksl (karr 32 (kint .u8))) := rd_sl Try.underlying40 (by kernel_rfl) rd39
theorem GraphKeeps.rd44 : RdK Try.prog 44 k_api_Op := rd_struct (g := fun ⟨a0, a1, a2, a3, a4, a5, a6, a7, a8, _⟩ => ⟨a0, a1, a2, a3, a4, a5, a6, a7, a8⟩) Try.underlying44 (by kernel_rfl) (fun _ => rfl) (rdfs_cons rfl (by kernel_rfl) rd3 (rdfs_cons rfl (by kernel_rfl) rd25 (rdfs_cons rfl (by kernel_rfl) rd40 (rdfs_cons rfl (by kernel_rfl) rd3 (rdfs_cons rfl (by kernel_rfl) rd41 (rdfs_cons rfl (by kernel_rfl) rd39 (rdfs_cons rfl (by kernel_rfl) rd39 (rdfs_cons rfl (by kernel_rfl) rd9 (rdfs_cons rfl (by kernel_rfl) rd42 rdfs_nil)))))))))
theorem GraphKeeps.rd46 : RdK Try.prog 46 k_api_Node := rd_struct (g := fun ⟨a0, a1, a2, _⟩ => ⟨a0, a1, a2⟩) Try.underlying46 (by kernel_rfl) (fun _ => rfl) (rdfs_cons rfl (by kernel_rfl) rd39 (rdfs_cons rfl (by kernel_rfl) rd44 (rdfs_cons rfl (by kernel_rfl) rd41 rdfs_nil)))
theorem GraphKeeps.rd22 : RdK Try.prog 22 (ksl k_api_Node) := rd_sl Try.underlying22 (by kernel_rfl) rd46
theorem GraphKeeps.lifted (os : Os) (started : os.Started) (H : Type) (enc : TypeId × Value → H) :
    ReturnsInHanded {} Try.checked os 13 .any (Rows.graphKeepsSpec.pre6 enc Try.prog Try.f13 Rows.graphKeepsRow.domain false) (Rows.graphKeepsSpec.post enc Try.prog Try.f13 false true false false) := by
  refine returnsInHanded_of_change (C := Try.checked) GraphKeeps.own started (by kernel_rfl) Try.func13
    (ChangeSpec.witness6 (enc := enc) (C := Try.checked) false ⟨#[], #[.slice none 0 0, .agg ((List.replicate 32 [.int .u8 0]).flatten : List Value).toArray, .agg (([.int .i64 0] ++ ([.int .u32 0] ++ ([.slice none 0 0] ++ ([.int .i64 0] ++ ([.slice none 0 0] ++ ((List.replicate 32 [.int .u8 0]).flatten ++ ((List.replicate 32 [.int .u8 0]).flatten ++ ([.string ⟨#[]⟩] ++ ([.slice none 0 0] ++ []))))))))) : List Value).toArray], []⟩ 8 (by kernel_rfl) (by kernel_rfl) (by kernel_rfl) (by kernel_rfl)) ?_
  intro W base args ds gs before hval0 hW hcnd _
  have hval : ∀ (j : Nat) t v, Try.f13.params[j]? = some t → args[j]? = some v → Value.okWide Try.prog W .any base t v := hval0
  have hW' := hW
  obtain ⟨p, q, hA0, hV, rfl, hfz, hnd⟩ := hW
  have hA : DataW.TrodAll enc Try.prog W 0 (fun _ => true) true Try.f13.params.toList args.toList ds p := hA0
  rw [Try.params13] at hA hval
  obtain ⟨v0, vs0, d0, ds0, p0, q0, hargs, rfl, rfl, h0, r0⟩ := trodAll_cons hA
  obtain ⟨v1, vs1, d1, ds1, p1, q1, rfl, rfl, rfl, h1, r1⟩ := trodAll_cons r0
  obtain ⟨v2, vs2, d2, ds2, p2, q2, rfl, rfl, rfl, h2, r2⟩ := trodAll_cons r1
  obtain ⟨rfl, rfl, rfl⟩ := trodAll_nil r2
  obtain rfl : args = #[v0, v1, v2] := by cases args; simp_all
  obtain ⟨rfl, rfl⟩ := trodVars_none hV
  have lt0 : ∀ x ∈ p0, x.block < W.heap.size := by obtain ⟨m, hm⟩ := h0; exact DataW.trod_lt m _ _ _ hm
  obtain ⟨x0, y0⟩ := arg_in GraphKeeps.rd22 (by kernel_rfl) (fun _ => one_sl Try.underlying22 (hval 0 22 v0 rfl rfl)) (hval 0 22 v0 rfl rfl) h0
  have lt1 : ∀ x ∈ p1, x.block < W.heap.size := by obtain ⟨m, hm⟩ := h1; exact DataW.trod_lt m _ _ _ hm
  obtain ⟨x1, y1⟩ := arg_in GraphKeeps.rd39 (by kernel_rfl) (fun hn => by cases hn) (hval 1 39 v1 rfl rfl) h1
  have lt2 : ∀ x ∈ p2, x.block < W.heap.size := by obtain ⟨m, hm⟩ := h2; exact DataW.trod_lt m _ _ _ hm
  obtain ⟨x2, y2⟩ := arg_in GraphKeeps.rd44 (by kernel_rfl) (fun hn => by cases hn) (hval 2 44 v2 rfl rfl) h2
  clear hA0 hval0
  obtain ⟨k, hk⟩ := GraphKeeps x0 x1 x2 (Fine.of y0) (Fine.of y1) (Fine.of y2)
  refine (law_out (c_caballaw15_GraphKeeps k x0 x1 x2 true hk _ W v0 v1 v2 y0 y1 y2)).mono fun e W' ⟨he, bel⟩ => ?_
  subst he
  exact ⟨_, rfl, _, _, _, [], _, [], hW', trodAll_mk1 (shut_bool Try.underlying4 _), (trodAll_cons_mk (Below.trod GraphKeeps.laidOut (by kernel_rfl) (of_decide_eq_true (by kernel_rfl)) h0 bel lt0) (trodAll_cons_mk (Below.trod GraphKeeps.laidOut (by kernel_rfl) (of_decide_eq_true (by kernel_rfl)) h1 bel lt1) (trodAll_cons_mk (Below.trod GraphKeeps.laidOut (by kernel_rfl) (of_decide_eq_true (by kernel_rfl)) h2 bel lt2) trodAll_mk0))), rfl, bel.frame _, fun h => by cases h⟩
theorem GraphKeeps.inPlace : (Rows.graphKeepsRow.inPlace == Try.prog.inPlace 13) = true := by kernel_rfl
theorem GraphKeeps.unfollowed : (Rows.graphKeepsRow.unfollowed == Try.prog.unfollowed 13) = true := by kernel_rfl
theorem GraphKeeps.recurses : (Rows.graphKeepsRow.recurses == Try.prog.recurses 13) = true := by kernel_rfl
theorem GraphKeeps.named : (Rows.graphKeepsRow.named == Try.prog.varsNamed 13) = true := by kernel_rfl
theorem GraphKeeps.finals : (Rows.graphKeepsRow.lifted == Try.prog.liftsFinal) = true := by kernel_rfl
theorem GraphKeeps.plainKeys : (Rows.graphKeepsRow.plainKeys == Try.prog.plainKeys) = true := by kernel_rfl
theorem GraphKeeps.closed : joinedFacts Try.prog 13 Try.f13 Rows.graphKeepsSpec Rows.graphKeepsRow = true := by
  unfold joinedFacts
  rw [GraphKeeps.inPlace, GraphKeeps.unfollowed, GraphKeeps.recurses, GraphKeeps.named, GraphKeeps.finals, GraphKeeps.plainKeys, Joined.stops, Joined.knobs, Joined.heard, Joined.enter, Joined.laidOut, Joined.rowed]
  kernel_rfl
theorem GraphKeeps.holds : Rows.GraphKeepsSaid :=
  OpenClaim.holds_of_wide 13 Try.f13 rfl rfl rfl rfl rfl rfl rfl ⟨rfl, rfl, rfl, rfl, rfl⟩ rfl rfl rfl rfl rfl (by kernel_rfl) Try.func13 GraphKeeps.closed
    (of_decide_eq_true (by kernel_rfl)) (by unfold Func.isWrapper; first | (rw [if_pos (by decide +kernel)]; kernel_rfl) | (rw [if_neg (by decide +kernel)]; exact ⟨rfl, rfl⟩))
    (fun os started H enc _ => GraphKeeps.lifted os started H enc)
end Go.Proofs.Ytdlnfgpcnfbjiaa
