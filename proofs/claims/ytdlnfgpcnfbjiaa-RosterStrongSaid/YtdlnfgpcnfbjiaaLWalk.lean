/- Each function's code comes to what its plain function answers. No condition. -/
import Derived.Test.YtdlnfgpcnfbjiaaLWalk2
namespace Go.Proofs.Ytdlnfgpcnfbjiaa
open Go Go.RowKit Go.Proofs.Kit Go.Proofs.Pure
set_option linter.unusedVariables false
set_option linter.unusedSimpArgs false
set_option maxRecDepth 100000
set_option maxHeartbeats 2000000

/- 82 cabal/graph.has -/
theorem c_graph_has (k : Nat) (p1 : (List api_Node)) (p2 : Int) (p3 : Int) (r : Bool) (h0 : graph_has k p1 p2 p3 = some r) (ok : Ok) (w0 : World) (z0 : Value) (z1 : Value) (z2 : Value) (u0 : ((ksl k_api_Node).V p1).holds ok w0 z0) (u1 : ((kint .i64).V p2).holds ok w0 z1) (u2 : ((kint .i64).V p3).holds ok w0 z2) :
    Gives Try.prog 82 [z0, z1, z2] ok w0 (resFact [kbool.V r]) := by
  unfold graph_has at h0
  refine enter (N := 29) Try.func82 rfl rfl (of_decide_eq_true rfl) (.cons u0 (.cons u1 (.cons u2 .nil))) fun a1 s1 => ?_
  refine wp_seq_k fun K1 hK1 => ?_
  refine wp_region_lit ?_
  refine seq_op s1 rfl rfl (of_decide_eq_true rfl) (ob_assign rfl opd_bool) fun a2 w2 s2 => ?_; clear s1
  refine wpList_nil ?_
  refine then_normal ?_
  refine hK1 _ _ ?_
  have s3 := s2.sub (.cons (t := 0) rfl (.cons (t := 1) rfl (.cons (t := 2) rfl .nil))); clear s2
  refine wp_seq_k fun K2 hK2 => ?_
  refine wp_region_lit ?_
  refine seq_op s3 rfl rfl (of_decide_eq_true rfl) (ob_move rfl (.tmp rfl)) fun a4 w4 s4 => ?_; clear s3
  refine seq_op s4 rfl rfl (of_decide_eq_true rfl) (ob_geq rfl (.tmp rfl) (opd_int rfl)) fun a5 w5 s5 => ?_; clear s4
  refine seq_op s5 rfl rfl (of_decide_eq_true rfl) (ob_move rfl (.tmp rfl)) fun a6 w6 s6 => ?_; clear s5
  refine seq_opg s6 rfl rfl rfl rfl (of_decide_eq_true rfl) (fun hb => ob_move rfl (.tmp rfl)) fun a7 w7 s7 => ?_; clear s6
  refine seq_opg s7 rfl rfl rfl rfl (of_decide_eq_true rfl) (fun hb => (Ob.uncond (t := 10) hb rfl (ob_geq rfl (.tmp rfl) (opd_int rfl)))) fun a8 w8 s8 => ?_; clear s7
  obtain ⟨x1, e_x1, h1⟩ := bind_some h0; clear h0; replace e_x1 := Option.some.inj e_x1
  refine seq_op s8 rfl rfl (of_decide_eq_true rfl) ((ob_and2 rfl (.tmp rfl) (.tmp rfl) opd_bool).nm e_x1) fun a9 w9 s9 => ?_; clear s8
  refine seq_op s9 rfl rfl (of_decide_eq_true rfl) (ob_move rfl (.tmp rfl)) fun a10 w10 s10 => ?_; clear s9
  refine seq_opg s10 rfl rfl rfl rfl (of_decide_eq_true rfl) (fun hb => ob_move rfl (.tmp rfl)) fun a11 w11 s11 => ?_; clear s10
  refine seq_opg s11 rfl rfl rfl rfl (of_decide_eq_true rfl) (fun hb => ob_move rfl (.tmp rfl)) fun a12 w12 s12 => ?_; clear s11
  refine seq_opg s12 rfl rfl rfl rfl (of_decide_eq_true rfl) (fun hb => (Ob.uncond (t := 15) hb rfl (ob_lens rfl Try.underlying22 (.tmp rfl)))) fun a13 w13 s13 => ?_; clear s12
  refine seq_opg s13 rfl rfl rfl rfl (of_decide_eq_true rfl) (fun hb => (Ob.uncond (t := 16) hb rfl ((Ob.uncond (t := 14) hb rfl (ob_lss rfl (.tmp rfl) (.tmp rfl)))))) fun a14 w14 s14 => ?_; clear s13
  refine seq_op s14 rfl rfl (of_decide_eq_true rfl) (ob_and2 rfl (.tmp rfl) (.tmp rfl) opd_bool) fun a15 w15 s15 => ?_; clear s14
  refine seq_op s15 rfl rfl (of_decide_eq_true rfl) (ob_move rfl (.tmp rfl)) fun a16 w16 s16 => ?_; clear s15
  refine seq_opg s16 rfl rfl rfl rfl (of_decide_eq_true rfl) (fun hb => ob_move rfl (.tmp rfl)) fun a17 w17 s17 => ?_; clear s16
  refine seq_opg s17 rfl rfl rfl rfl (of_decide_eq_true rfl) (fun hb => ob_move rfl (.tmp rfl)) fun a18 w18 s18 => ?_; clear s17
  refine seq_opg s18 rfl rfl rfl rfl (of_decide_eq_true rfl) (fun hb => (Ob.uncond (t := 21) hb rfl (ob_lens rfl Try.underlying22 (.tmp rfl)))) fun a19 w19 s19 => ?_; clear s18
  refine seq_opg s19 rfl rfl rfl rfl (of_decide_eq_true rfl) (fun hb => (Ob.uncond (t := 22) hb rfl ((Ob.uncond (t := 20) hb rfl (ob_lss rfl (.tmp rfl) (.tmp rfl)))))) fun a20 w20 s20 => ?_; clear s19
  obtain ⟨x2, e_x2, h2⟩ := bind_some h1; clear h1; replace e_x2 := Option.some.inj e_x2
  refine seq_op s20 rfl rfl (of_decide_eq_true rfl) ((ob_and2 rfl (.tmp rfl) (.tmp rfl) opd_bool).nm e_x2) fun a21 w21 s21 => ?_; clear s20
  refine seq_op s21 rfl rfl (of_decide_eq_true rfl) (ob_move rfl (.tmp rfl)) fun a22 w22 s22 => ?_; clear s21
  refine seq_opg s22 rfl rfl rfl rfl (of_decide_eq_true rfl) (fun hb => ob_move rfl (.tmp rfl)) fun a23 w23 s23 => ?_; clear s22
  obtain ⟨x3, e_x3, h3⟩ := bind_some h2; clear h2
  refine seq_opg s23 rfl rfl rfl rfl (of_decide_eq_true rfl) (fun hb => (Ob.uncond (t := 26) hb rfl (ob_callD (args := [_]) rfl .direct hb24 (fun a w s fs gs hf hg => by obtain rfl := hf.unnil; obtain rfl := hg.unnil; exact c_graph_Right k _ _ (ite_t hb e_x3) _ _ _ (s.arg (.tmp rfl)))))) fun a24 w24 s24 => ?_; clear s23
  refine seq_op s24 rfl rfl (of_decide_eq_true rfl) (ob_and2 rfl (.tmp rfl) (.tmp rfl) opd_bool) fun a25 w25 s25 => ?_; clear s24
  refine seq_op s25 rfl rfl (of_decide_eq_true rfl) (ob_assign rfl (.tmp rfl)) fun a26 w26 s26 => ?_; clear s25
  refine wpList_nil ?_
  refine then_normal ?_
  refine hK2 _ _ ?_
  have s27 := s26.sub (.cons (t := 6) rfl .nil); clear s26
  refine wp_ret ?_
  obtain rfl := Option.some.inj h3
  exact leave s27 (.inl rfl) rfl (.cons (.tmp rfl) .nil)

/- 27 cabal/graph.Ahead -/
theorem c_graph_Ahead (k : Nat) (p1 : (List api_Node)) (p2 : Int) (p3 : Int) (r : Bool) (h0 : graph_Ahead k p1 p2 p3 = some r) (ok : Ok) (w0 : World) (z0 : Value) (z1 : Value) (z2 : Value) (u0 : ((ksl k_api_Node).V p1).holds ok w0 z0) (u1 : ((kint .i64).V p2).holds ok w0 z1) (u2 : ((kint .i64).V p3).holds ok w0 z2) :
    Gives Try.prog 27 [z0, z1, z2] ok w0 (resFact [kbool.V r]) := by
  unfold graph_Ahead at h0
  refine enter (N := 20) Try.func27 rfl rfl (of_decide_eq_true rfl) (.cons u0 (.cons u1 (.cons u2 .nil))) fun a1 s1 => ?_
  refine wp_seq_k fun K1 hK1 => ?_
  refine wp_region_lit ?_
  refine seq_op s1 rfl rfl (of_decide_eq_true rfl) (ob_assign rfl opd_bool) fun a2 w2 s2 => ?_; clear s1
  refine wpList_nil ?_
  refine then_normal ?_
  refine hK1 _ _ ?_
  have s3 := s2.sub (.cons (t := 0) rfl (.cons (t := 1) rfl (.cons (t := 2) rfl .nil))); clear s2
  refine wp_seq_k fun K2 hK2 => ?_
  refine wp_region_lit ?_
  refine seq_op s3 rfl rfl (of_decide_eq_true rfl) (ob_move rfl (.tmp rfl)) fun a4 w4 s4 => ?_; clear s3
  refine seq_op s4 rfl rfl (of_decide_eq_true rfl) (ob_move rfl (.tmp rfl)) fun a5 w5 s5 => ?_; clear s4
  refine seq_op s5 rfl rfl (of_decide_eq_true rfl) (ob_move rfl (.tmp rfl)) fun a6 w6 s6 => ?_; clear s5
  obtain ⟨x1, e_x1, h1⟩ := bind_some h0; clear h0
  refine seq_op s6 rfl rfl (of_decide_eq_true rfl) (ob_callD (args := [_, _, _]) rfl .direct hb82 (fun a w s fs gs hf hg => by obtain rfl := hf.unnil; obtain rfl := hg.unnil; exact c_graph_has k _ _ _ _ e_x1 _ _ _ _ _ (s.arg (.tmp rfl)) (s.arg (.tmp rfl)) (s.arg (.tmp rfl)))) fun a7 w7 s7 => ?_; clear s6
  refine seq_op s7 rfl rfl (of_decide_eq_true rfl) (ob_move rfl (.tmp rfl)) fun a8 w8 s8 => ?_; clear s7
  refine seq_opg s8 rfl rfl rfl rfl (of_decide_eq_true rfl) (fun hb => ob_move rfl (.tmp rfl)) fun a9 w9 s9 => ?_; clear s8
  refine seq_opg s9 rfl rfl rfl rfl (of_decide_eq_true rfl) (fun hb => ob_move rfl (.tmp rfl)) fun a10 w10 s10 => ?_; clear s9
  obtain ⟨x2, e_x2, h2⟩ := bind_some h1; clear h1
  refine seq_opg s10 rfl rfl rfl rfl (of_decide_eq_true rfl) (fun hb => (Ob.uncond (t := 13) hb rfl ((Ob.uncond (t := 12) hb rfl (ob_indexAddrs rfl Try.underlying22 sz46 (.tmp rfl) (.tmp rfl) (ite_t hb e_x2)))))) fun a11 w11 s11 => ?_; clear s10
  refine seq_opg s11 rfl rfl rfl rfl (of_decide_eq_true rfl) (fun hb => (Ob.uncond (t := 14) hb rfl (ob_fieldAddrr rfl Try.underlying46 rfl sz41 (by decide) (.tmp rfl) (lg_api_Node_Past x2)))) fun a12 w12 s12 => ?_; clear s11
  refine seq_opg s12 rfl rfl rfl rfl (of_decide_eq_true rfl) (fun hb => (Ob.uncond (t := 15) hb rfl (ob_loadr rfl tk41 (.tmp rfl)))) fun a13 w13 s13 => ?_; clear s12
  refine seq_opg s13 rfl rfl rfl rfl (of_decide_eq_true rfl) (fun hb => ob_move rfl (.tmp rfl)) fun a14 w14 s14 => ?_; clear s13
  obtain ⟨x3, e_x3, h3⟩ := bind_some h2; clear h2
  refine seq_opg s14 rfl rfl rfl rfl (of_decide_eq_true rfl) (fun hb => (Ob.uncond (t := 17) hb rfl ((Ob.uncond (t := 16) hb rfl (ob_callD (args := [_, _]) rfl .direct hb83 (fun a w s fs gs hf hg => by obtain rfl := hf.unnil; obtain rfl := hg.unnil; exact c_slices_Contains_int_int k _ _ _ (ite_t hb e_x3) _ _ _ _ (s.arg (.tmp rfl)) (s.arg (.tmp rfl)))))))) fun a15 w15 s15 => ?_; clear s14
  refine seq_op s15 rfl rfl (of_decide_eq_true rfl) (ob_and2 rfl (.tmp rfl) (.tmp rfl) opd_bool) fun a16 w16 s16 => ?_; clear s15
  refine seq_op s16 rfl rfl (of_decide_eq_true rfl) (ob_assign rfl (.tmp rfl)) fun a17 w17 s17 => ?_; clear s16
  refine wpList_nil ?_
  refine then_normal ?_
  refine hK2 _ _ ?_
  have s18 := s17.sub (.cons (t := 6) rfl .nil); clear s17
  refine wp_ret ?_
  obtain rfl := Option.some.inj h3
  exact leave s18 (.inl rfl) rfl (.cons (.tmp rfl) .nil)

/- 9 cabal/caballaw16.RosterStrong -/
theorem c_caballaw16_RosterStrong (k : Nat) (p1 : (List api_Node)) (r : Bool) (h0 : caballaw16_RosterStrong k p1 = some r) (ok : Ok) (w0 : World) (z0 : Value) (u0 : ((ksl k_api_Node).V p1).holds ok w0 z0) :
    Gives Try.prog 9 [z0] ok w0 (resFact [kbool.V r]) := by
  unfold caballaw16_RosterStrong at h0
  refine enter (N := 106) Try.func9 rfl rfl (of_decide_eq_true rfl) (.cons u0 .nil) fun a1 s1 => ?_
  refine wp_seq_k fun K1 hK1 => ?_
  refine wp_region_lit ?_
  refine seq_op s1 rfl rfl (of_decide_eq_true rfl) (ob_assign rfl opd_bool) fun a2 w2 s2 => ?_; clear s1
  refine wpList_nil ?_
  refine then_normal ?_
  refine hK1 _ _ ?_
  have s3 := s2.sub (.cons (t := 0) rfl .nil); clear s2
  refine wp_seq_k fun K2 hK2 => ?_
  refine wp_seq_k fun K3 hK3 => ?_
  refine wp_region_lit ?_
  obtain ⟨x1, e_x1, h1⟩ := bind_some h0; clear h0
  refine seq_op s3 rfl rfl (of_decide_eq_true rfl) (ob_callD (args := []) rfl .direct hb35 (fun a w s fs gs hf hg => by obtain rfl := hf.unnil; obtain rfl := hg.unnil; exact c_caballaw16_alive k _ e_x1 _ _)) fun a4 w4 s4 => ?_; clear s3
  refine seq_op s4 rfl rfl (of_decide_eq_true rfl) (ob_not rfl (.tmp rfl)) fun a5 w5 s5 => ?_; clear s4
  refine wpList_nil ?_
  refine then_normal ?_
  refine hK3 _ _ ?_
  have s6 := s5.sub (.cons (t := 0) rfl (.cons (t := 11) rfl .nil)); clear s5
  refine cond_split s6 (.tmp rfl) (fun hc1 => ?_) (fun hc1 => ?_)
  · replace h1 := ite_t hc1 h1
    have h2 := h1; clear h1
    refine wp_seq_k fun K4 hK4 => ?_
    refine wp_region_lit ?_
    refine seq_op s6 rfl rfl (of_decide_eq_true rfl) (ob_assign rfl opd_bool) fun a7 w7 s7 => ?_; clear s6
    refine wpList_nil ?_
    refine then_normal ?_
    refine hK4 _ _ ?_
    have s8 := s7.sub (.cons (t := 2) rfl .nil); clear s7
    refine wp_ret ?_
    obtain rfl := Option.some.inj h2
    exact leave s8 (.inl rfl) rfl (.cons (.tmp rfl) .nil)
  · replace h1 := ite_f hc1 h1
    have h3 := h1; clear h1
    refine wp_skip ?_
    refine then_normal ?_
    refine hK2 _ _ ?_
    have s9 := s6.sub (.cons (t := 0) rfl .nil); clear s6
    refine wp_seq_k fun K5 hK5 => ?_
    refine wp_seq_k fun K6 hK6 => ?_
    refine wp_region_lit ?_
    refine seq_op s9 rfl rfl (of_decide_eq_true rfl) (ob_move rfl (.tmp rfl)) fun a10 w10 s10 => ?_; clear s9
    obtain ⟨x2, e_x2, h4⟩ := bind_some h3; clear h3
    refine seq_op s10 rfl rfl (of_decide_eq_true rfl) (ob_callD (args := [_]) rfl .direct hb23 (fun a w s fs gs hf hg => by obtain rfl := hf.unnil; obtain rfl := hg.unnil; exact c_cabalref15_Great k _ _ e_x2 _ _ _ (s.arg (.tmp rfl)))) fun a11 w11 s11 => ?_; clear s10
    refine seq_op s11 rfl rfl (of_decide_eq_true rfl) (ob_move rfl (.tmp rfl)) fun a12 w12 s12 => ?_; clear s11
    refine seq_opg s12 rfl rfl rfl rfl (of_decide_eq_true rfl) (fun hb => ob_move rfl (.tmp rfl)) fun a13 w13 s13 => ?_; clear s12
    obtain ⟨x3, e_x3, h5⟩ := bind_some h4; clear h4
    refine seq_opg s13 rfl rfl rfl rfl (of_decide_eq_true rfl) (fun hb => (Ob.uncond (t := 15) hb rfl (ob_callD (args := [_]) rfl .direct hb24 (fun a w s fs gs hf hg => by obtain rfl := hf.unnil; obtain rfl := hg.unnil; exact c_graph_Right k _ _ (ite_t hb e_x3) _ _ _ (s.arg (.tmp rfl)))))) fun a14 w14 s14 => ?_; clear s13
    refine seq_opg s14 rfl rfl rfl rfl (of_decide_eq_true rfl) (fun hb => (Ob.uncond (t := 16) hb rfl (ob_not rfl (.tmp rfl)))) fun a15 w15 s15 => ?_; clear s14
    refine seq_op s15 rfl rfl (of_decide_eq_true rfl) (ob_or2 rfl (.tmp rfl) opd_bool (.tmp rfl)) fun a16 w16 s16 => ?_; clear s15
    refine wpList_nil ?_
    refine then_normal ?_
    refine hK6 _ _ ?_
    have s17 := s16.sub (.cons (t := 0) rfl (.cons (t := 18) rfl .nil)); clear s16
    refine cond_split s17 (.tmp rfl) (fun hc2 => ?_) (fun hc2 => ?_)
    · replace h5 := ite_t hc2 h5
      have h6 := h5; clear h5
      refine wp_seq_k fun K7 hK7 => ?_
      refine wp_region_lit ?_
      obtain ⟨x4, e_x4, h7⟩ := bind_some h6; clear h6
      refine seq_op s17 rfl rfl (of_decide_eq_true rfl) (ob_callD (args := []) rfl .direct hb35 (fun a w s fs gs hf hg => by obtain rfl := hf.unnil; obtain rfl := hg.unnil; exact c_caballaw16_alive k _ e_x4 _ _)) fun a18 w18 s18 => ?_; clear s17
      refine seq_op s18 rfl rfl (of_decide_eq_true rfl) (ob_assign rfl (.tmp rfl)) fun a19 w19 s19 => ?_; clear s18
      refine wpList_nil ?_
      refine then_normal ?_
      refine hK7 _ _ ?_
      have s20 := s19.sub (.cons (t := 2) rfl .nil); clear s19
      refine wp_ret ?_
      obtain rfl := Option.some.inj h7
      exact leave s20 (.inl rfl) rfl (.cons (.tmp rfl) .nil)
    · replace h5 := ite_f hc2 h5
      have h8 := h5; clear h5
      refine wp_skip ?_
      refine then_normal ?_
      refine hK5 _ _ ?_
      have s21 := s17.sub (.cons (t := 0) rfl .nil); clear s17
      refine wp_seq_k fun K8 hK8 => ?_
      refine wp_region_lit ?_
      refine seq_op s21 rfl rfl (of_decide_eq_true rfl) (ob_move rfl (.tmp rfl)) fun a22 w22 s22 => ?_; clear s21
      obtain ⟨x5, e_x5, h9⟩ := bind_some h8; clear h8
      refine seq_opx (B' := (fun v1 : Value => [RowF v1 3 (kint .i64) x5])) s22 rfl rfl (of_decide_eq_true rfl) (ob_callL (args := [_]) (L := []) rfl .direct hb37 (List.Perm.refl _) (fun a w s fs gs hf hg => by obtain rfl := hf.unnil; obtain rfl := hg.unnil; exact c_roster_All k _ _ e_x5 _ _ _ (s.arg (.tmp rfl))) (by exact fun _ => rfl)) fun v1 a23 w23 s23 => ?_; clear s22
      refine seq_op s23 rfl rfl (of_decide_eq_true rfl) (ob_assign rfl (.tmp rfl)) fun a24 w24 s24 => ?_; clear s23
      refine wpList_nil ?_
      refine then_normal ?_
      refine hK8 _ _ ?_
      have s25 := s24.sub (.cons (t := 0) rfl (.cons (t := 3) rfl .nil)); clear s24
      refine wp_seq_k fun K9 hK9 => ?_
      refine wp_seq_k fun K10 hK10 => ?_
      refine wp_region_lit ?_
      refine seq_op s25 rfl rfl (of_decide_eq_true rfl) (ob_assign rfl (opd_int rfl)) fun a26 w26 s26 => ?_; clear s25
      refine wpList_nil ?_
      refine then_normal ?_
      refine hK10 _ _ ?_
      have s27 := s26.sub (.cons (t := 0) rfl (.cons (t := 3) rfl (.cons (t := 4) rfl .nil))); clear s26
      have hj1 : ∀ (a : Act) (w : World), (caballaw16_RosterStrong.j1 k) = some r → St ⟨106, w0, ok, []⟩ [] [] a w → K9 a w := by
        intro a28 w28 h10 s28
        unfold caballaw16_RosterStrong.j1 at h10
        refine hK9 _ _ ?_
        refine wp_seq_k fun K11 hK11 => ?_
        refine wp_region_lit ?_
        obtain ⟨x6, e_x6, h11⟩ := bind_some h10; clear h10
        refine seq_op s28 rfl rfl (of_decide_eq_true rfl) (ob_callD (args := []) rfl .direct hb35 (fun a w s fs gs hf hg => by obtain rfl := hf.unnil; obtain rfl := hg.unnil; exact c_caballaw16_alive k _ e_x6 _ _)) fun a29 w29 s29 => ?_; clear s28
        refine seq_op s29 rfl rfl (of_decide_eq_true rfl) (ob_assign rfl (.tmp rfl)) fun a30 w30 s30 => ?_; clear s29
        refine wpList_nil ?_
        refine then_normal ?_
        refine hK11 _ _ ?_
        have s31 := s30.sub (.cons (t := 2) rfl .nil); clear s30
        refine wp_ret ?_
        obtain rfl := Option.some.inj h11
        exact leave s31 (.inl rfl) rfl (.cons (.tmp rfl) .nil)
      refine wp_block ?_
      refine wp_loop_fuel (fun m (q : Int) => caballaw16_RosterStrong.l1 k p1 x5 m q) r (fun _ => rfl) (fun q a w => St ⟨106, w0, ok, []⟩ [RowF v1 3 (kint .i64) x5] [(0, ((ksl k_api_Node).V p1)), (3, (is v1)), (4, ((kint .i64).V q))] a w) ?_ k (0 : Int) _ _ h9 (s27.sub (.cons rfl (.cons rfl (.cons rfl .nil))))
      rintro n1 y1 a32 w32 h12 s32 K12 hK12
      replace h12 : caballaw16_RosterStrong.l1 k p1 x5 (n1 + 1) y1 = some r := h12; rw [caballaw16_RosterStrong.l1] at h12
      have h13 := h12; clear h12
      refine wp_seq_k fun K13 hK13 => ?_
      refine wp_seq_k fun K14 hK14 => ?_
      refine wp_region_lit ?_
      refine seq_op s32 rfl rfl (of_decide_eq_true rfl) (ob_move rfl (.tmp rfl)) fun a33 w33 s33 => ?_; clear s32
      refine seq_op s33 rfl rfl (of_decide_eq_true rfl) (ob_move rfl (.tmp rfl)) fun a34 w34 s34 => ?_; clear s33
      refine seq_op s34 rfl rfl (of_decide_eq_true rfl) (ob_lens rfl Try.underlying22 (.tmp rfl)) fun a35 w35 s35 => ?_; clear s34
      refine seq_op s35 rfl rfl (of_decide_eq_true rfl) (ob_lss rfl (.tmp rfl) (.tmp rfl)) fun a36 w36 s36 => ?_; clear s35
      refine wpList_nil ?_
      refine then_normal ?_
      refine hK14 _ _ ?_
      have s37 := s36.sub (.cons (t := 0) rfl (.cons (t := 3) rfl (.cons (t := 4) rfl (.cons (t := 25) rfl .nil)))); clear s36
      refine cond_split s37 (.tmp rfl) (fun hc3 => ?_) (fun hc3 => ?_)
      · replace h13 := ite_t hc3 h13
        have h14 := h13; clear h13
        refine wp_skip ?_
        refine then_normal ?_
        refine hK13 _ _ ?_
        have s38 := s37.sub (.cons (t := 0) rfl (.cons (t := 3) rfl (.cons (t := 4) rfl .nil))); clear s37
        refine wp_seq_k fun K15 hK15 => ?_
        have hj2 : ∀ (a : Act) (w : World), (caballaw16_RosterStrong.j2 k y1 (caballaw16_RosterStrong.l1 k p1 x5 n1)) = some r → St ⟨106, w0, ok, []⟩ [RowF v1 3 (kint .i64) x5] [(0, ((ksl k_api_Node).V p1)), (3, (is v1)), (4, ((kint .i64).V y1))] a w → K15 a w := by
          intro a39 w39 h15 s39
          unfold caballaw16_RosterStrong.j2 at h15
          refine hK15 _ _ ?_
          refine wp_region_lit ?_
          refine seq_op s39 rfl rfl (of_decide_eq_true rfl) (ob_move rfl (.tmp rfl)) fun a40 w40 s40 => ?_; clear s39
          refine seq_op s40 rfl rfl (of_decide_eq_true rfl) (ob_add rfl (.tmp rfl) (opd_int rfl)) fun a41 w41 s41 => ?_; clear s40
          refine seq_op s41 rfl rfl (of_decide_eq_true rfl) (ob_assign rfl (.tmp rfl)) fun a42 w42 s42 => ?_; clear s41
          refine wpList_nil ?_
          refine then_normal ?_
          exact hK12 (iadd .i64 y1 (1 : Int)) _ _ h15 (s42.sub (.cons rfl (.cons rfl (.cons rfl .nil))))
        refine wp_block ?_
        refine wp_seq_k fun K16 hK16 => ?_
        refine wp_seq_k fun K17 hK17 => ?_
        refine wp_region_lit ?_
        refine seq_op s38 rfl rfl (of_decide_eq_true rfl) (ob_move rfl (.tmp rfl)) fun a43 w43 s43 => ?_; clear s38
        refine seq_op s43 rfl rfl (of_decide_eq_true rfl) (ob_move rfl (.tmp rfl)) fun a44 w44 s44 => ?_; clear s43
        obtain ⟨x7, e_x7, h16⟩ := bind_some h14; clear h14
        refine seq_op s44 rfl rfl (of_decide_eq_true rfl) (ob_indexAddrs rfl Try.underlying22 sz46 (.tmp rfl) (.tmp rfl) e_x7) fun a45 w45 s45 => ?_; clear s44
        refine seq_op s45 rfl rfl (of_decide_eq_true rfl) (ob_fieldAddrr rfl Try.underlying46 rfl sz44 (by decide) (.tmp rfl) (lg_api_Node_Op x7)) fun a46 w46 s46 => ?_; clear s45
        refine seq_op s46 rfl rfl (of_decide_eq_true rfl) (ob_fieldAddrr rfl Try.underlying44 rfl sz3 (by decide) (.tmp rfl) (lg_api_Op_Kind x7.Op)) fun a47 w47 s47 => ?_; clear s46
        refine seq_op s47 rfl rfl (of_decide_eq_true rfl) (ob_loadr rfl tk3 (.tmp rfl)) fun a48 w48 s48 => ?_; clear s47
        refine seq_op s48 rfl rfl (of_decide_eq_true rfl) (ob_neq rfl (.tmp rfl) (opd_int rfl)) fun a49 w49 s49 => ?_; clear s48
        refine wpList_nil ?_
        refine then_normal ?_
        refine hK17 _ _ ?_
        have s50 := s49.sub (.cons (t := 0) rfl (.cons (t := 3) rfl (.cons (t := 4) rfl (.cons (t := 34) rfl .nil)))); clear s49
        refine cond_split s50 (.tmp rfl) (fun hc4 => ?_) (fun hc4 => ?_)
        · replace h16 := ite_t hc4 h16
          have h17 := h16; clear h16
          refine wp_exit ?_
          refine (then_exit (in_here ?_))
          refine then_normal ?_
          exact hj2 _ _ h17 (s50.sub (.cons rfl (.cons rfl (.cons rfl .nil))))
        · replace h16 := ite_f hc4 h16
          have h18 := h16; clear h16
          refine wp_skip ?_
          refine then_normal ?_
          refine hK16 _ _ ?_
          have s51 := s50.sub (.cons (t := 0) rfl (.cons (t := 3) rfl (.cons (t := 4) rfl .nil))); clear s50
          refine wp_seq_k fun K18 hK18 => ?_
          refine wp_region_lit ?_
          refine seq_op s51 rfl rfl (of_decide_eq_true rfl) (ob_move rfl (.tmp rfl)) fun a52 w52 s52 => ?_; clear s51
          refine seq_op s52 rfl rfl (of_decide_eq_true rfl) (ob_move rfl (.tmp rfl)) fun a53 w53 s53 => ?_; clear s52
          refine seq_op s53 rfl rfl (of_decide_eq_true rfl) (ob_move rfl (.tmp rfl)) fun a54 w54 s54 => ?_; clear s53
          obtain ⟨x8, e_x8, h19⟩ := bind_some h18; clear h18
          refine seq_op s54 rfl rfl (of_decide_eq_true rfl) (ob_indexAddrs rfl Try.underlying22 sz46 (.tmp rfl) (.tmp rfl) e_x8) fun a55 w55 s55 => ?_; clear s54
          refine seq_op s55 rfl rfl (of_decide_eq_true rfl) (ob_fieldAddrr rfl Try.underlying46 rfl sz41 (by decide) (.tmp rfl) (lg_api_Node_Past x8)) fun a56 w56 s56 => ?_; clear s55
          refine seq_op s56 rfl rfl (of_decide_eq_true rfl) (ob_loadr rfl tk41 (.tmp rfl)) fun a57 w57 s57 => ?_; clear s56
          obtain ⟨x9, e_x9, h20⟩ := bind_some h19; clear h19
          refine seq_opx (B' := (fun v2 : Value => [RowF v2 3 (kint .i64) x9.1, RowF v1 3 (kint .i64) x5])) s57 rfl rfl (of_decide_eq_true rfl) (ob_callL (args := [_, _]) (L := []) rfl .direct hb36 (List.Perm.refl _) (fun a w s fs gs hf hg => by obtain rfl := hf.unnil; obtain rfl := hg.unnil; exact c_roster_Of k _ _ _ e_x9 _ _ _ _ (s.arg (.tmp rfl)) (s.arg (.tmp rfl))) (by exact fun _ => rfl)) fun v2 a58 w58 s58 => ?_; clear s57
          refine seq_op s58 rfl rfl (of_decide_eq_true rfl) (ob_move rfl (.tmp rfl)) fun a59 w59 s59 => ?_; clear s58
          refine seq_op s59 rfl rfl (of_decide_eq_true rfl) (ob_extract rfl (.tmp rfl) rfl) fun a60 w60 s60 => ?_; clear s59
          refine seq_op s60 rfl rfl (of_decide_eq_true rfl) (ob_extract rfl (.tmp rfl) rfl) fun a61 w61 s61 => ?_; clear s60
          refine seq_op s61 rfl rfl (of_decide_eq_true rfl) (ob_assign rfl (.tmp rfl)) fun a62 w62 s62 => ?_; clear s61
          refine seq_op s62 rfl rfl (of_decide_eq_true rfl) (ob_assign rfl (.tmp rfl)) fun a63 w63 s63 => ?_; clear s62
          refine wpList_nil ?_
          refine then_normal ?_
          refine hK18 _ _ ?_
          have s64 := s63.sub (.cons (t := 0) rfl (.cons (t := 3) rfl (.cons (t := 4) rfl (.cons (t := 5) rfl (.cons (t := 6) rfl .nil))))); clear s63
          refine wp_seq_k fun K19 hK19 => ?_
          refine wp_seq_k fun K20 hK20 => ?_
          refine wp_region_lit ?_
          refine seq_op s64 rfl rfl (of_decide_eq_true rfl) (ob_move rfl (.tmp rfl)) fun a65 w65 s65 => ?_; clear s64
          refine seq_op s65 rfl rfl (of_decide_eq_true rfl) (ob_neq rfl (.tmp rfl) (opd_int rfl)) fun a66 w66 s66 => ?_; clear s65
          refine wpList_nil ?_
          refine then_normal ?_
          refine hK20 _ _ ?_
          have s67 := s66.sub (.cons (t := 0) rfl (.cons (t := 3) rfl (.cons (t := 4) rfl (.cons (t := 5) rfl (.cons (t := 46) rfl .nil))))); clear s66
          refine cond_split s67 (.tmp rfl) (fun hc5 => ?_) (fun hc5 => ?_)
          · replace h20 := ite_t hc5 h20
            have h21 := h20; clear h20
            refine wp_seq_k fun K21 hK21 => ?_
            refine wp_region_lit ?_
            refine seq_op s67 rfl rfl (of_decide_eq_true rfl) (ob_assign rfl opd_bool) fun a68 w68 s68 => ?_; clear s67
            refine wpList_nil ?_
            refine then_normal ?_
            refine hK21 _ _ ?_
            have s69 := s68.sub (.cons (t := 2) rfl .nil); clear s68
            have s70 := St.drop (A := []) s69; clear s69
            have s71 := St.drop (A := []) s70; clear s70
            refine wp_ret ?_
            obtain rfl := Option.some.inj h21
            exact leave s71 (.inl rfl) rfl (.cons (.tmp rfl) .nil)
          · replace h20 := ite_f hc5 h20
            have h22 := h20; clear h20
            refine wp_skip ?_
            refine then_normal ?_
            refine hK19 _ _ ?_
            have s72 := s67.sub (.cons (t := 0) rfl (.cons (t := 3) rfl (.cons (t := 4) rfl (.cons (t := 5) rfl .nil)))); clear s67
            refine wp_seq_k fun K22 hK22 => ?_
            refine wp_region_lit ?_
            refine seq_op s72 rfl rfl (of_decide_eq_true rfl) (ob_move rfl (.tmp rfl)) fun a73 w73 s73 => ?_; clear s72
            refine seq_op s73 rfl rfl (of_decide_eq_true rfl) (ob_move rfl (.tmp rfl)) fun a74 w74 s74 => ?_; clear s73
            obtain ⟨x10, e_x10, h23⟩ := bind_some h22; clear h22
            refine seq_op s74 rfl rfl (of_decide_eq_true rfl) (ob_indexAddrs rfl Try.underlying22 sz46 (.tmp rfl) (.tmp rfl) e_x10) fun a75 w75 s75 => ?_; clear s74
            refine seq_op s75 rfl rfl (of_decide_eq_true rfl) (ob_fieldAddrr rfl Try.underlying46 rfl sz44 (by decide) (.tmp rfl) (lg_api_Node_Op x10)) fun a76 w76 s76 => ?_; clear s75
            refine seq_op s76 rfl rfl (of_decide_eq_true rfl) (ob_fieldAddrr rfl Try.underlying44 rfl sz41 (by decide) (.tmp rfl) (lg_api_Op_Who x10.Op)) fun a77 w77 s77 => ?_; clear s76
            refine seq_op s77 rfl rfl (of_decide_eq_true rfl) (ob_loadr rfl tk41 (.tmp rfl)) fun a78 w78 s78 => ?_; clear s77
            obtain ⟨x11, e_x11, h24⟩ := bind_some h23; clear h23
            refine seq_op s78 rfl rfl (of_decide_eq_true rfl) (ob_indexAddrs rfl Try.underlying41 sz3 (.tmp rfl) (opd_int rfl) e_x11) fun a79 w79 s79 => ?_; clear s78
            refine seq_op s79 rfl rfl (of_decide_eq_true rfl) (ob_loadr rfl tk3 (.tmp rfl)) fun a80 w80 s80 => ?_; clear s79
            refine seq_op s80 rfl rfl (of_decide_eq_true rfl) (ob_assign rfl (.tmp rfl)) fun a81 w81 s81 => ?_; clear s80
            refine wpList_nil ?_
            refine then_normal ?_
            refine hK22 _ _ ?_
            have s82 := s81.sub (.cons (t := 0) rfl (.cons (t := 3) rfl (.cons (t := 4) rfl (.cons (t := 5) rfl (.cons (t := 7) rfl .nil))))); clear s81
            refine wp_seq_k fun K23 hK23 => ?_
            refine wp_seq_k fun K24 hK24 => ?_
            refine wp_region_lit ?_
            refine seq_op s82 rfl rfl (of_decide_eq_true rfl) (ob_move rfl (.tmp rfl)) fun a83 w83 s83 => ?_; clear s82
            refine seq_op s83 rfl rfl (of_decide_eq_true rfl) (ob_move rfl (.tmp rfl)) fun a84 w84 s84 => ?_; clear s83
            refine seq_op s84 rfl rfl (of_decide_eq_true rfl) (ob_move rfl (.tmp rfl)) fun a85 w85 s85 => ?_; clear s84
            obtain ⟨x12, e_x12, h25⟩ := bind_some h24; clear h24
            refine seq_op s85 rfl rfl (of_decide_eq_true rfl) (ob_indexAddrs rfl Try.underlying22 sz46 (.tmp rfl) (.tmp rfl) e_x12) fun a86 w86 s86 => ?_; clear s85
            refine seq_op s86 rfl rfl (of_decide_eq_true rfl) (ob_fieldAddrr rfl Try.underlying46 rfl sz44 (by decide) (.tmp rfl) (lg_api_Node_Op x12)) fun a87 w87 s87 => ?_; clear s86
            refine seq_op s87 rfl rfl (of_decide_eq_true rfl) (ob_fieldAddrr rfl Try.underlying44 rfl sz3 (by decide) (.tmp rfl) (lg_api_Op_Author x12.Op)) fun a88 w88 s88 => ?_; clear s87
            refine seq_op s88 rfl rfl (of_decide_eq_true rfl) (ob_loadr rfl tk3 (.tmp rfl)) fun a89 w89 s89 => ?_; clear s88
            obtain ⟨x13, e_x13, h26⟩ := bind_some h25; clear h25
            refine seq_op s89 rfl rfl (of_decide_eq_true rfl) ((ob_lendG (L := [_]) (List.Perm.refl _) (.cons (t := 55) rfl (lendRow (.head _)) .nil) (Flat.res1 (Flat.V KFlat.bool)) (fun _ => ob_callD (args := [_, _]) rfl .direct hb44 (fun a w s fs gs hf hg => by obtain rfl := hf.unnil; obtain rfl := hg.unnil; exact c_cabalref15_In k _ _ _ e_x13 _ _ _ _ (s.arg (.tmp rfl)) (s.arg (.tmp rfl)))))) fun a90 w90 s90 => ?_; clear s89
            refine seq_op s90 rfl rfl (of_decide_eq_true rfl) (ob_not rfl (.tmp rfl)) fun a91 w91 s91 => ?_; clear s90
            refine wpList_nil ?_
            refine then_normal ?_
            refine hK24 _ _ ?_
            have s92 := s91.sub (.cons (t := 0) rfl (.cons (t := 3) rfl (.cons (t := 4) rfl (.cons (t := 7) rfl (.cons (t := 63) rfl .nil))))); clear s91
            have s93 := St.drop (A := []) s92; clear s92
            refine cond_split s93 (.tmp rfl) (fun hc6 => ?_) (fun hc6 => ?_)
            · replace h26 := ite_t hc6 h26
              have h27 := h26; clear h26
              refine wp_exit ?_
              refine (then_exit (in_here ?_))
              refine then_normal ?_
              exact hj2 _ _ h27 (s93.sub (.cons rfl (.cons rfl (.cons rfl .nil))))
            · replace h26 := ite_f hc6 h26
              have h28 := h26; clear h26
              refine wp_skip ?_
              refine then_normal ?_
              refine hK23 _ _ ?_
              have s94 := s93.sub (.cons (t := 0) rfl (.cons (t := 3) rfl (.cons (t := 4) rfl (.cons (t := 7) rfl .nil)))); clear s93
              refine wp_seq_k fun K25 hK25 => ?_
              refine wp_region_lit ?_
              refine seq_op s94 rfl rfl (of_decide_eq_true rfl) (ob_assign rfl opd_bool) fun a95 w95 s95 => ?_; clear s94
              refine wpList_nil ?_
              refine then_normal ?_
              refine hK25 _ _ ?_
              have s96 := s95.sub (.cons (t := 0) rfl (.cons (t := 3) rfl (.cons (t := 4) rfl (.cons (t := 7) rfl (.cons (t := 8) rfl .nil))))); clear s95
              refine wp_seq_k fun K26 hK26 => ?_
              refine wp_seq_k fun K27 hK27 => ?_
              refine wp_region_lit ?_
              refine seq_op s96 rfl rfl (of_decide_eq_true rfl) (ob_assign rfl (opd_int rfl)) fun a97 w97 s97 => ?_; clear s96
              refine wpList_nil ?_
              refine then_normal ?_
              refine hK27 _ _ ?_
              have s98 := s97.sub (.cons (t := 0) rfl (.cons (t := 3) rfl (.cons (t := 4) rfl (.cons (t := 7) rfl (.cons (t := 8) rfl (.cons (t := 9) rfl .nil)))))); clear s97
              have hj3 : ∀ (y2 : Bool) (a : Act) (w : World), (caballaw16_RosterStrong.j3 k x5 x11 y1 (caballaw16_RosterStrong.l1 k p1 x5 n1)) y2 = some r → St ⟨106, w0, ok, []⟩ [RowF v1 3 (kint .i64) x5] [(0, ((ksl k_api_Node).V p1)), (3, (is v1)), (4, ((kint .i64).V y1)), (7, ((kint .i64).V x11)), (8, (kbool.V y2))] a w → K26 a w := by
                intro y2 a99 w99 h29 s99
                unfold caballaw16_RosterStrong.j3 at h29
                refine hK26 _ _ ?_
                refine wp_seq_k fun K28 hK28 => ?_
                refine wp_region_lit ?_
                refine seq_op s99 rfl rfl (of_decide_eq_true rfl) (ob_move rfl (.tmp rfl)) fun a100 w100 s100 => ?_; clear s99
                refine seq_op s100 rfl rfl (of_decide_eq_true rfl) (ob_not rfl (.tmp rfl)) fun a101 w101 s101 => ?_; clear s100
                refine seq_op s101 rfl rfl (of_decide_eq_true rfl) (ob_move rfl (.tmp rfl)) fun a102 w102 s102 => ?_; clear s101
                refine seq_opg s102 rfl rfl rfl rfl (of_decide_eq_true rfl) (fun hb => ob_move rfl (.tmp rfl)) fun a103 w103 s103 => ?_; clear s102
                refine seq_opg s103 rfl rfl rfl rfl (of_decide_eq_true rfl) (fun hb => ob_move rfl (.tmp rfl)) fun a104 w104 s104 => ?_; clear s103
                obtain ⟨x14, e_x14, h30⟩ := bind_some h29; clear h29
                refine seq_opg s104 rfl rfl rfl rfl (of_decide_eq_true rfl) (fun hb => (Ob.uncond (t := 102) hb rfl ((Ob.uncond (t := 101) hb rfl ((ob_lendG (L := [_]) (List.Perm.refl _) (.cons (t := 101) rfl (lendRow (.head _)) .nil) (Flat.res1 (Flat.V KFlat.bool)) (fun _ => ob_callD (args := [_, _]) rfl .direct hb44 (fun a w s fs gs hf hg => by obtain rfl := hf.unnil; obtain rfl := hg.unnil; exact c_cabalref15_In k _ _ _ (ite_t hb e_x14) _ _ _ _ (s.arg (.tmp rfl)) (s.arg (.tmp rfl)))))))))) fun a105 w105 s105 => ?_; clear s104
                refine seq_op s105 rfl rfl (of_decide_eq_true rfl) (ob_and2 rfl (.tmp rfl) (.tmp rfl) opd_bool) fun a106 w106 s106 => ?_; clear s105
                refine wpList_nil ?_
                refine then_normal ?_
                refine hK28 _ _ ?_
                have s107 := s106.sub (.cons (t := 0) rfl (.cons (t := 3) rfl (.cons (t := 4) rfl (.cons (t := 104) rfl .nil)))); clear s106
                refine cond_split s107 (.tmp rfl) (fun hc7 => ?_) (fun hc7 => ?_)
                · replace h30 := ite_t hc7 h30
                  have h31 := h30; clear h30
                  refine wp_seq_k fun K29 hK29 => ?_
                  refine wp_region_lit ?_
                  refine seq_op s107 rfl rfl (of_decide_eq_true rfl) (ob_assign rfl opd_bool) fun a108 w108 s108 => ?_; clear s107
                  refine wpList_nil ?_
                  refine then_normal ?_
                  refine hK29 _ _ ?_
                  have s109 := s108.sub (.cons (t := 2) rfl .nil); clear s108
                  have s110 := St.drop (A := []) s109; clear s109
                  refine wp_ret ?_
                  obtain rfl := Option.some.inj h31
                  exact leave s110 (.inl rfl) rfl (.cons (.tmp rfl) .nil)
                · replace h30 := ite_f hc7 h30
                  have h32 := h30; clear h30
                  refine wp_skip ?_
                  refine in_normal ?_
                  refine then_normal ?_
                  exact hj2 _ _ h32 (s107.sub (.cons rfl (.cons rfl (.cons rfl .nil))))
              refine wp_block ?_
              refine wp_loop_fuel (fun m (q : Bool × Int) => caballaw16_RosterStrong.l2 k p1 y1 x11 x5 (caballaw16_RosterStrong.l1 k p1 x5 n1) m q.1 q.2) r (fun _ => rfl) (fun q a w => St ⟨106, w0, ok, []⟩ [RowF v1 3 (kint .i64) x5] [(0, ((ksl k_api_Node).V p1)), (3, (is v1)), (4, ((kint .i64).V y1)), (7, ((kint .i64).V x11)), (8, (kbool.V q.1)), (9, ((kint .i64).V q.2))] a w) ?_ k (false, (0 : Int)) _ _ h28 (s98.sub (.cons rfl (.cons rfl (.cons rfl (.cons rfl (.cons rfl (.cons rfl .nil)))))))
              rintro n2 ⟨y3, y4⟩ a111 w111 h33 s111 K30 hK30
              replace h33 : caballaw16_RosterStrong.l2 k p1 y1 x11 x5 (caballaw16_RosterStrong.l1 k p1 x5 n1) (n2 + 1) y3 y4 = some r := h33; rw [caballaw16_RosterStrong.l2] at h33
              have h34 := h33; clear h33
              refine wp_seq_k fun K31 hK31 => ?_
              refine wp_seq_k fun K32 hK32 => ?_
              refine wp_region_lit ?_
              refine seq_op s111 rfl rfl (of_decide_eq_true rfl) (ob_move rfl (.tmp rfl)) fun a112 w112 s112 => ?_; clear s111
              refine seq_op s112 rfl rfl (of_decide_eq_true rfl) (ob_move rfl (.tmp rfl)) fun a113 w113 s113 => ?_; clear s112
              refine seq_op s113 rfl rfl (of_decide_eq_true rfl) (ob_lens rfl Try.underlying22 (.tmp rfl)) fun a114 w114 s114 => ?_; clear s113
              refine seq_op s114 rfl rfl (of_decide_eq_true rfl) (ob_lss rfl (.tmp rfl) (.tmp rfl)) fun a115 w115 s115 => ?_; clear s114
              refine wpList_nil ?_
              refine then_normal ?_
              refine hK32 _ _ ?_
              have s116 := s115.sub (.cons (t := 0) rfl (.cons (t := 3) rfl (.cons (t := 4) rfl (.cons (t := 7) rfl (.cons (t := 8) rfl (.cons (t := 9) rfl (.cons (t := 67) rfl .nil))))))); clear s115
              refine cond_split s116 (.tmp rfl) (fun hc8 => ?_) (fun hc8 => ?_)
              · replace h34 := ite_t hc8 h34
                have h35 := h34; clear h34
                refine wp_skip ?_
                refine then_normal ?_
                refine hK31 _ _ ?_
                have s117 := s116.sub (.cons (t := 0) rfl (.cons (t := 3) rfl (.cons (t := 4) rfl (.cons (t := 7) rfl (.cons (t := 8) rfl (.cons (t := 9) rfl .nil)))))); clear s116
                refine wp_seq_k fun K33 hK33 => ?_
                refine wp_block ?_
                refine wp_region_lit ?_
                refine seq_op s117 rfl rfl (of_decide_eq_true rfl) (ob_move rfl (.tmp rfl)) fun a118 w118 s118 => ?_; clear s117
                refine seq_op s118 rfl rfl (of_decide_eq_true rfl) (ob_move rfl (.tmp rfl)) fun a119 w119 s119 => ?_; clear s118
                refine seq_opg s119 rfl rfl rfl rfl (of_decide_eq_true rfl) (fun hb => ob_move rfl (.tmp rfl)) fun a120 w120 s120 => ?_; clear s119
                refine seq_opg s120 rfl rfl rfl rfl (of_decide_eq_true rfl) (fun hb => ob_move rfl (.tmp rfl)) fun a121 w121 s121 => ?_; clear s120
                refine seq_opg s121 rfl rfl rfl rfl (of_decide_eq_true rfl) (fun hb => ob_move rfl (.tmp rfl)) fun a122 w122 s122 => ?_; clear s121
                obtain ⟨x15, e_x15, h36⟩ := bind_some h35; clear h35
                refine seq_opg s122 rfl rfl rfl rfl (of_decide_eq_true rfl) (fun hb => (Ob.uncond (t := 74) hb rfl ((Ob.uncond (t := 73) hb rfl ((Ob.uncond (t := 72) hb rfl (ob_callD (args := [_, _, _]) rfl .direct hb27 (fun a w s fs gs hf hg => by obtain rfl := hf.unnil; obtain rfl := hg.unnil; exact c_graph_Ahead k _ _ _ _ (ite_t hb e_x15) _ _ _ _ _ (s.arg (.tmp rfl)) (s.arg (.tmp rfl)) (s.arg (.tmp rfl)))))))))) fun a123 w123 s123 => ?_; clear s122
                refine seq_opg s123 rfl rfl rfl rfl (of_decide_eq_true rfl) (fun hb => (Ob.uncond (t := 75) hb rfl (ob_move rfl (.tmp rfl)))) fun a124 w124 s124 => ?_; clear s123
                refine seq_opg2 s124 rfl rfl rfl rfl (of_decide_eq_true rfl) (fun hb => ob_move rfl (.tmp rfl)) fun a125 w125 s125 => ?_; clear s124
                refine seq_opg2 s125 rfl rfl rfl rfl (of_decide_eq_true rfl) (fun hb => ob_move rfl (.tmp rfl)) fun a126 w126 s126 => ?_; clear s125
                obtain ⟨x16, e_x16, h37⟩ := bind_some h36; clear h36
                refine seq_opg2 s126 rfl rfl rfl rfl (of_decide_eq_true rfl) (fun hb => (Ob.uncond (t := 78) hb rfl ((Ob.uncond (t := 77) hb rfl (ob_indexAddrs rfl Try.underlying22 sz46 (.tmp rfl) (.tmp rfl) (ite_t hb e_x16)))))) fun a127 w127 s127 => ?_; clear s126
                refine seq_opg2 s127 rfl rfl rfl rfl (of_decide_eq_true rfl) (fun hb => (Ob.uncond (t := 79) hb rfl (ob_fieldAddrr rfl Try.underlying46 rfl sz44 (by decide) (.tmp rfl) (lg_api_Node_Op x16)))) fun a128 w128 s128 => ?_; clear s127
                refine seq_opg2 s128 rfl rfl rfl rfl (of_decide_eq_true rfl) (fun hb => (Ob.uncond (t := 80) hb rfl (ob_fieldAddrr rfl Try.underlying44 rfl sz3 (by decide) (.tmp rfl) (lg_api_Op_Kind x16.Op)))) fun a129 w129 s129 => ?_; clear s128
                refine seq_opg2 s129 rfl rfl rfl rfl (of_decide_eq_true rfl) (fun hb => (Ob.uncond (t := 81) hb rfl (ob_loadr rfl tk3 (.tmp rfl)))) fun a130 w130 s130 => ?_; clear s129
                refine seq_opg2 s130 rfl rfl rfl rfl (of_decide_eq_true rfl) (fun hb => (Ob.uncond (t := 82) hb rfl (ob_eql rfl (.tmp rfl) (opd_int rfl)))) fun a131 w131 s131 => ?_; clear s130
                refine seq_opg s131 rfl rfl rfl rfl (of_decide_eq_true rfl) (fun hb => (Ob.uncond (t := 76) hb rfl (ob_and3 hb rfl (.tmp rfl) (.tmp rfl) opd_bool))) fun a132 w132 s132 => ?_; clear s131
                refine seq_opg s132 rfl rfl rfl rfl (of_decide_eq_true rfl) (fun hb => (Ob.uncond (t := 84) hb rfl (ob_move rfl (.tmp rfl)))) fun a133 w133 s133 => ?_; clear s132
                refine seq_opg2 s133 rfl rfl rfl rfl (of_decide_eq_true rfl) (fun hb => ob_move rfl (.tmp rfl)) fun a134 w134 s134 => ?_; clear s133
                refine seq_opg2 s134 rfl rfl rfl rfl (of_decide_eq_true rfl) (fun hb => ob_move rfl (.tmp rfl)) fun a135 w135 s135 => ?_; clear s134
                obtain ⟨x17, e_x17, h38⟩ := bind_some h37; clear h37
                refine seq_opg2 s135 rfl rfl rfl rfl (of_decide_eq_true rfl) (fun hb => (Ob.uncond (t := 87) hb rfl ((Ob.uncond (t := 86) hb rfl (ob_indexAddrs rfl Try.underlying22 sz46 (.tmp rfl) (.tmp rfl) (ite_t hb e_x17)))))) fun a136 w136 s136 => ?_; clear s135
                refine seq_opg2 s136 rfl rfl rfl rfl (of_decide_eq_true rfl) (fun hb => (Ob.uncond (t := 88) hb rfl (ob_fieldAddrr rfl Try.underlying46 rfl sz44 (by decide) (.tmp rfl) (lg_api_Node_Op x17)))) fun a137 w137 s137 => ?_; clear s136
                refine seq_opg2 s137 rfl rfl rfl rfl (of_decide_eq_true rfl) (fun hb => (Ob.uncond (t := 89) hb rfl (ob_fieldAddrr rfl Try.underlying44 rfl sz41 (by decide) (.tmp rfl) (lg_api_Op_Who x17.Op)))) fun a138 w138 s138 => ?_; clear s137
                refine seq_opg2 s138 rfl rfl rfl rfl (of_decide_eq_true rfl) (fun hb => (Ob.uncond (t := 90) hb rfl (ob_loadr rfl tk41 (.tmp rfl)))) fun a139 w139 s139 => ?_; clear s138
                obtain ⟨x18, e_x18, h39⟩ := bind_some h38; clear h38
                refine seq_opg2 s139 rfl rfl rfl rfl (of_decide_eq_true rfl) (fun hb => (Ob.uncond (t := 91) hb rfl (ob_indexAddrs rfl Try.underlying41 sz3 (.tmp rfl) (opd_int rfl) (ite_t hb e_x18)))) fun a140 w140 s140 => ?_; clear s139
                refine seq_opg2 s140 rfl rfl rfl rfl (of_decide_eq_true rfl) (fun hb => (Ob.uncond (t := 92) hb rfl (ob_loadr rfl tk3 (.tmp rfl)))) fun a141 w141 s141 => ?_; clear s140
                refine seq_opg2 s141 rfl rfl rfl rfl (of_decide_eq_true rfl) (fun hb => ob_move rfl (.tmp rfl)) fun a142 w142 s142 => ?_; clear s141
                refine seq_opg2 s142 rfl rfl rfl rfl (of_decide_eq_true rfl) (fun hb => (Ob.uncond (t := 94) hb rfl ((Ob.uncond (t := 93) hb rfl (ob_eql rfl (.tmp rfl) (.tmp rfl)))))) fun a143 w143 s143 => ?_; clear s142
                obtain ⟨x19, e_x19, h40⟩ := bind_some h39; clear h39; replace e_x19 := Option.some.inj e_x19
                refine seq_opg s143 rfl rfl rfl rfl (of_decide_eq_true rfl) (fun hb => (Ob.uncond (t := 85) hb rfl ((ob_and3 hb rfl (.tmp rfl) (.tmp rfl) opd_bool).nm e_x19))) fun a144 w144 s144 => ?_; clear s143
                refine seq_op s144 rfl rfl (of_decide_eq_true rfl) (ob_or2 rfl (.tmp rfl) opd_bool (.tmp rfl)) fun a145 w145 s145 => ?_; clear s144
                refine seq_op s145 rfl rfl (of_decide_eq_true rfl) (ob_assign rfl (.tmp rfl)) fun a146 w146 s146 => ?_; clear s145
                refine wpList_nil ?_
                refine in_normal ?_
                refine then_normal ?_
                refine hK33 _ _ ?_
                have s147 := s146.sub (.cons (t := 0) rfl (.cons (t := 3) rfl (.cons (t := 4) rfl (.cons (t := 7) rfl (.cons (t := 8) rfl (.cons (t := 9) rfl .nil)))))); clear s146
                refine wp_region_lit ?_
                refine seq_op s147 rfl rfl (of_decide_eq_true rfl) (ob_move rfl (.tmp rfl)) fun a148 w148 s148 => ?_; clear s147
                refine seq_op s148 rfl rfl (of_decide_eq_true rfl) (ob_add rfl (.tmp rfl) (opd_int rfl)) fun a149 w149 s149 => ?_; clear s148
                refine seq_op s149 rfl rfl (of_decide_eq_true rfl) (ob_assign rfl (.tmp rfl)) fun a150 w150 s150 => ?_; clear s149
                refine wpList_nil ?_
                refine then_normal ?_
                exact hK30 ((if y3 then true else x19), (iadd .i64 y4 (1 : Int))) _ _ h40 (s150.sub (.cons rfl (.cons rfl (.cons rfl (.cons rfl (.cons rfl (.cons rfl .nil)))))))
              · replace h34 := ite_f hc8 h34
                have h41 := h34; clear h34
                refine wp_exit ?_
                refine (then_exit (then_exit (in_here ?_)))
                refine then_normal ?_
                exact hj3 y3 _ _ h41 (s116.sub (.cons rfl (.cons rfl (.cons rfl (.cons rfl (.cons rfl .nil))))))
      · replace h13 := ite_f hc3 h13
        have h42 := h13; clear h13
        refine wp_exit ?_
        refine (then_exit (then_exit (in_here ?_)))
        refine then_normal ?_
        have s151 := St.drop (A := []) s37; clear s37
        exact hj1 _ _ h42 (s151.sub .nil)

end Go.Proofs.Ytdlnfgpcnfbjiaa
