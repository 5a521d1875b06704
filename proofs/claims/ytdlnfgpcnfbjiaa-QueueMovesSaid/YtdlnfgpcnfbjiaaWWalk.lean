/- Each function's code comes to what its plain function answers. No condition. -/
import Derived.Test.YtdlnfgpcnfbjiaaWWalk2
namespace Go.Proofs.Ytdlnfgpcnfbjiaa
open Go Go.RowKit Go.Proofs.Kit Go.Proofs.Pure
set_option linter.unusedVariables false
set_option linter.unusedSimpArgs false
set_option maxRecDepth 100000
set_option maxHeartbeats 2000000

/- 23 cabal/cabalref15.Great -/
theorem c_cabalref15_Great (k : Nat) (p1 : (List api_Node)) (r : Bool) (h0 : cabalref15_Great k p1 = some r) (ok : Ok) (w0 : World) (z0 : Value) (u0 : ((ksl k_api_Node).V p1).holds ok w0 z0) :
    Gives Try.prog 23 [z0] ok w0 (resFact [kbool.V r]) := by
  unfold cabalref15_Great at h0
  refine enter (N := 28) Try.func23 rfl rfl (of_decide_eq_true rfl) (.cons u0 .nil) fun a1 s1 => ?_
  refine wp_seq_k fun K1 hK1 => ?_
  refine wp_region_lit ?_
  refine seq_op s1 rfl rfl (of_decide_eq_true rfl) (ob_assign rfl opd_bool) fun a2 w2 s2 => ?_; clear s1
  refine wpList_nil ?_
  refine then_normal ?_
  refine hK1 _ _ ?_
  have s3 := s2.sub (.cons (t := 0) rfl .nil); clear s2
  refine wp_seq_k fun K2 hK2 => ?_
  refine wp_seq_k fun K3 hK3 => ?_
  refine wp_region_lit ?_
  refine seq_op s3 rfl rfl (of_decide_eq_true rfl) (ob_move rfl (.tmp rfl)) fun a4 w4 s4 => ?_; clear s3
  refine seq_op s4 rfl rfl (of_decide_eq_true rfl) (ob_lens rfl Try.underlying22 (.tmp rfl)) fun a5 w5 s5 => ?_; clear s4
  refine seq_op s5 rfl rfl (of_decide_eq_true rfl) (ob_gtr rfl (.tmp rfl) (opd_int rfl)) fun a6 w6 s6 => ?_; clear s5
  refine wpList_nil ?_
  refine then_normal ?_
  refine hK3 _ _ ?_
  have s7 := s6.sub (.cons (t := 0) rfl (.cons (t := 6) rfl .nil)); clear s6
  refine cond_split s7 (.tmp rfl) (fun hc1 => ?_) (fun hc1 => ?_)
  · replace h0 := ite_t hc1 h0
    have h1 := h0; clear h0
    refine wp_seq_k fun K4 hK4 => ?_
    refine wp_region_lit ?_
    refine seq_op s7 rfl rfl (of_decide_eq_true rfl) (ob_assign rfl opd_bool) fun a8 w8 s8 => ?_; clear s7
    refine wpList_nil ?_
    refine then_normal ?_
    refine hK4 _ _ ?_
    have s9 := s8.sub (.cons (t := 2) rfl .nil); clear s8
    refine wp_ret ?_
    obtain rfl := Option.some.inj h1
    exact leave s9 (.inl rfl) rfl (.cons (.tmp rfl) .nil)
  · replace h0 := ite_f hc1 h0
    have h2 := h0; clear h0
    refine wp_skip ?_
    refine then_normal ?_
    refine hK2 _ _ ?_
    have s10 := s7.sub (.cons (t := 0) rfl .nil); clear s7
    refine wp_seq_k fun K5 hK5 => ?_
    refine wp_seq_k fun K6 hK6 => ?_
    refine wp_region_lit ?_
    refine seq_op s10 rfl rfl (of_decide_eq_true rfl) (ob_assign rfl (opd_int rfl)) fun a11 w11 s11 => ?_; clear s10
    refine wpList_nil ?_
    refine then_normal ?_
    refine hK6 _ _ ?_
    have s12 := s11.sub (.cons (t := 0) rfl (.cons (t := 3) rfl .nil)); clear s11
    have hj1 : ∀ (a : Act) (w : World), (cabalref15_Great.j1 k) = some r → St ⟨28, w0, ok, []⟩ [] [] a w → K5 a w := by
      intro a13 w13 h3 s13
      unfold cabalref15_Great.j1 at h3
      refine hK5 _ _ ?_
      refine wp_seq_k fun K7 hK7 => ?_
      refine wp_region_lit ?_
      refine seq_op s13 rfl rfl (of_decide_eq_true rfl) (ob_assign rfl opd_bool) fun a14 w14 s14 => ?_; clear s13
      refine wpList_nil ?_
      refine then_normal ?_
      refine hK7 _ _ ?_
      have s15 := s14.sub (.cons (t := 2) rfl .nil); clear s14
      refine wp_ret ?_
      obtain rfl := Option.some.inj h3
      exact leave s15 (.inl rfl) rfl (.cons (.tmp rfl) .nil)
    refine wp_block ?_
    refine wp_loop_fuel (fun m (q : Int) => cabalref15_Great.l1 k p1 m q) r (fun _ => rfl) (fun q a w => St ⟨28, w0, ok, []⟩ [] [(0, ((ksl k_api_Node).V p1)), (3, ((kint .i64).V q))] a w) ?_ k (0 : Int) _ _ h2 (s12.sub (.cons rfl (.cons rfl .nil)))
    rintro n1 y1 a16 w16 h4 s16 K8 hK8
    replace h4 : cabalref15_Great.l1 k p1 (n1 + 1) y1 = some r := h4; rw [cabalref15_Great.l1] at h4
    have h5 := h4; clear h4
    refine wp_seq_k fun K9 hK9 => ?_
    refine wp_seq_k fun K10 hK10 => ?_
    refine wp_region_lit ?_
    refine seq_op s16 rfl rfl (of_decide_eq_true rfl) (ob_move rfl (.tmp rfl)) fun a17 w17 s17 => ?_; clear s16
    refine seq_op s17 rfl rfl (of_decide_eq_true rfl) (ob_move rfl (.tmp rfl)) fun a18 w18 s18 => ?_; clear s17
    refine seq_op s18 rfl rfl (of_decide_eq_true rfl) (ob_lens rfl Try.underlying22 (.tmp rfl)) fun a19 w19 s19 => ?_; clear s18
    refine seq_op s19 rfl rfl (of_decide_eq_true rfl) (ob_lss rfl (.tmp rfl) (.tmp rfl)) fun a20 w20 s20 => ?_; clear s19
    refine wpList_nil ?_
    refine then_normal ?_
    refine hK10 _ _ ?_
    have s21 := s20.sub (.cons (t := 0) rfl (.cons (t := 3) rfl (.cons (t := 10) rfl .nil))); clear s20
    refine cond_split s21 (.tmp rfl) (fun hc2 => ?_) (fun hc2 => ?_)
    · replace h5 := ite_t hc2 h5
      have h6 := h5; clear h5
      refine wp_skip ?_
      refine then_normal ?_
      refine hK9 _ _ ?_
      have s22 := s21.sub (.cons (t := 0) rfl (.cons (t := 3) rfl .nil)); clear s21
      refine wp_seq_k fun K11 hK11 => ?_
      refine wp_block ?_
      refine wp_seq_k fun K12 hK12 => ?_
      refine wp_region_lit ?_
      refine seq_op s22 rfl rfl (of_decide_eq_true rfl) (ob_move rfl (.tmp rfl)) fun a23 w23 s23 => ?_; clear s22
      refine seq_op s23 rfl rfl (of_decide_eq_true rfl) (ob_move rfl (.tmp rfl)) fun a24 w24 s24 => ?_; clear s23
      obtain ⟨x1, e_x1, h7⟩ := bind_some h6; clear h6
      refine seq_op s24 rfl rfl (of_decide_eq_true rfl) (ob_indexAddrs rfl Try.underlying22 sz46 (.tmp rfl) (.tmp rfl) e_x1) fun a25 w25 s25 => ?_; clear s24
      refine seq_op s25 rfl rfl (of_decide_eq_true rfl) (ob_fieldAddrr rfl Try.underlying46 rfl sz44 (by decide) (.tmp rfl) (lg_api_Node_Op x1)) fun a26 w26 s26 => ?_; clear s25
      refine seq_op s26 rfl rfl (of_decide_eq_true rfl) (ob_loadr rfl tk44 (.tmp rfl)) fun a27 w27 s27 => ?_; clear s26
      obtain ⟨x2, e_x2, h8⟩ := bind_some h7; clear h7
      refine seq_op s27 rfl rfl (of_decide_eq_true rfl) (ob_callD (args := [_]) rfl .direct hb51 (fun a w s fs gs hf hg => by obtain rfl := hf.unnil; obtain rfl := hg.unnil; exact c_cabalref11_Great k _ _ e_x2 _ _ _ (s.arg (.tmp rfl)))) fun a28 w28 s28 => ?_; clear s27
      refine seq_op s28 rfl rfl (of_decide_eq_true rfl) (ob_move rfl (.tmp rfl)) fun a29 w29 s29 => ?_; clear s28
      refine seq_opg s29 rfl rfl rfl rfl (of_decide_eq_true rfl) (fun hb => ob_move rfl (.tmp rfl)) fun a30 w30 s30 => ?_; clear s29
      refine seq_opg s30 rfl rfl rfl rfl (of_decide_eq_true rfl) (fun hb => ob_move rfl (.tmp rfl)) fun a31 w31 s31 => ?_; clear s30
      obtain ⟨x3, e_x3, h9⟩ := bind_some h8; clear h8
      refine seq_opg s31 rfl rfl rfl rfl (of_decide_eq_true rfl) (fun hb => (Ob.uncond (t := 21) hb rfl ((Ob.uncond (t := 20) hb rfl (ob_indexAddrs rfl Try.underlying22 sz46 (.tmp rfl) (.tmp rfl) (ite_t hb e_x3)))))) fun a32 w32 s32 => ?_; clear s31
      refine seq_opg s32 rfl rfl rfl rfl (of_decide_eq_true rfl) (fun hb => (Ob.uncond (t := 22) hb rfl (ob_fieldAddrr rfl Try.underlying46 rfl sz41 (by decide) (.tmp rfl) (lg_api_Node_Past x3)))) fun a33 w33 s33 => ?_; clear s32
      refine seq_opg s33 rfl rfl rfl rfl (of_decide_eq_true rfl) (fun hb => (Ob.uncond (t := 23) hb rfl (ob_loadr rfl tk41 (.tmp rfl)))) fun a34 w34 s34 => ?_; clear s33
      refine seq_opg s34 rfl rfl rfl rfl (of_decide_eq_true rfl) (fun hb => (Ob.uncond (t := 24) hb rfl (ob_lens rfl Try.underlying41 (.tmp rfl)))) fun a35 w35 s35 => ?_; clear s34
      refine seq_opg s35 rfl rfl rfl rfl (of_decide_eq_true rfl) (fun hb => (Ob.uncond (t := 25) hb rfl (ob_gtr rfl (.tmp rfl) (opd_int rfl)))) fun a36 w36 s36 => ?_; clear s35
      refine seq_op s36 rfl rfl (of_decide_eq_true rfl) (ob_or2 rfl (.tmp rfl) opd_bool (.tmp rfl)) fun a37 w37 s37 => ?_; clear s36
      refine wpList_nil ?_
      refine then_normal ?_
      refine hK12 _ _ ?_
      have s38 := s37.sub (.cons (t := 0) rfl (.cons (t := 3) rfl (.cons (t := 27) rfl .nil))); clear s37
      refine cond_split s38 (.tmp rfl) (fun hc3 => ?_) (fun hc3 => ?_)
      · replace h9 := ite_t hc3 h9
        have h10 := h9; clear h9
        refine wp_seq_k fun K13 hK13 => ?_
        refine wp_region_lit ?_
        refine seq_op s38 rfl rfl (of_decide_eq_true rfl) (ob_assign rfl opd_bool) fun a39 w39 s39 => ?_; clear s38
        refine wpList_nil ?_
        refine then_normal ?_
        refine hK13 _ _ ?_
        have s40 := s39.sub (.cons (t := 2) rfl .nil); clear s39
        refine wp_ret ?_
        obtain rfl := Option.some.inj h10
        exact leave s40 (.inl rfl) rfl (.cons (.tmp rfl) .nil)
      · replace h9 := ite_f hc3 h9
        have h11 := h9; clear h9
        refine wp_skip ?_
        refine in_normal ?_
        refine then_normal ?_
        refine hK11 _ _ ?_
        have s41 := s38.sub (.cons (t := 0) rfl (.cons (t := 3) rfl .nil)); clear s38
        refine wp_region_lit ?_
        refine seq_op s41 rfl rfl (of_decide_eq_true rfl) (ob_move rfl (.tmp rfl)) fun a42 w42 s42 => ?_; clear s41
        refine seq_op s42 rfl rfl (of_decide_eq_true rfl) (ob_add rfl (.tmp rfl) (opd_int rfl)) fun a43 w43 s43 => ?_; clear s42
        refine seq_op s43 rfl rfl (of_decide_eq_true rfl) (ob_assign rfl (.tmp rfl)) fun a44 w44 s44 => ?_; clear s43
        refine wpList_nil ?_
        refine then_normal ?_
        exact hK8 (iadd .i64 y1 (1 : Int)) _ _ h11 (s44.sub (.cons rfl (.cons rfl .nil)))
    · replace h5 := ite_f hc2 h5
      have h12 := h5; clear h5
      refine wp_exit ?_
      refine (then_exit (then_exit (in_here ?_)))
      refine then_normal ?_
      exact hj1 _ _ h12 (s21.sub .nil)

/- 66 cabal/queue.Put -/
theorem c_queue_Put_w2 (k : Nat) (p1 : (List api_Held)) (p2 : api_Held) (r : ((List api_Held) × Int)) (h0 : queue_Put_w2 k p1 p2 = some r) (ok : Ok) (w0 : World) (z0 : Value) (z1 : Value) (u0 : ((ksl k_api_Held).V p1).holds ok w0 z0) (u1 : (k_api_Held.V p2).holds ok w0 z1) :
    Gives Try.prog 66 [z0, z1] ok w0 (resFact [(ksl k_api_Held).V r.1, (kint .i64).V r.2]) := by
  unfold queue_Put_w2 at h0
  refine enter (N := 32) Try.func66 rfl rfl (of_decide_eq_true rfl) (.cons u0 (.cons u1 .nil)) fun a1 s1 => ?_
  refine wp_seq_k fun K1 hK1 => ?_
  refine wp_region_lit ?_
  refine seq_opx (B' := (fun b1 : Nat => [BF b1 91 k_api_Held p2])) s1 rfl rfl (of_decide_eq_true rfl) (ob_box rfl (.tmp rfl)) fun b1 a2 w2 s2 => ?_; clear s1
  refine seq_op s2 rfl rfl (of_decide_eq_true rfl) (ob_assign rfl opd_is) fun a3 w3 s3 => ?_; clear s2
  have s4 := St.adopt s3 (G := RowF (nilRow 25) 91 k_api_Held []) rfl (rowNilN _ _ _ _ _); clear s3
  refine seq_op s4 rfl rfl (of_decide_eq_true rfl) (ob_assign rfl (opd_int rfl)) fun a5 w5 s5 => ?_; clear s4
  refine wpList_nil ?_
  refine then_normal ?_
  refine hK1 _ _ ?_
  have s6 := s5.sub (.cons (t := 0) rfl (.cons (t := 3) rfl .nil)); clear s5
  have s7 := St.drop (A := []) s6; clear s6
  refine wp_seq_k fun K2 hK2 => ?_
  refine wp_block ?_
  refine wp_seq_k fun K3 hK3 => ?_
  refine wp_region_lit ?_
  refine seq_op s7 rfl rfl (of_decide_eq_true rfl) (ob_move rfl (.tmp rfl)) fun a8 w8 s8 => ?_; clear s7
  obtain ⟨x1, e_x1, h1⟩ := bind_some h0; clear h0
  refine seq_op s8 rfl rfl (of_decide_eq_true rfl) (ob_callD (args := [_]) rfl .direct hb71 (fun a w s fs gs hf hg => by obtain rfl := hf.unnil; obtain rfl := hg.unnil; exact c_queue_Right k _ _ e_x1 _ _ _ (s.arg (.tmp rfl)))) fun a9 w9 s9 => ?_; clear s8
  refine seq_op s9 rfl rfl (of_decide_eq_true rfl) (ob_not rfl (.tmp rfl)) fun a10 w10 s10 => ?_; clear s9
  refine seq_op s10 rfl rfl (of_decide_eq_true rfl) (ob_move rfl (.tmp rfl)) fun a11 w11 s11 => ?_; clear s10
  refine seq_opg s11 rfl rfl rfl rfl (of_decide_eq_true rfl) (fun hb => ob_fieldAddr (off' := 32) rfl Try.underlying91 rfl sz44 (by decide) (.tmp rfl) rfl) fun a12 w12 s12 => ?_; clear s11
  refine seq_opg s12 rfl rfl rfl rfl (of_decide_eq_true rfl) (fun hb => (Ob.uncond (t := 11) hb rfl (ob_load rfl tk44 (.tmp rfl) (.head _) (lg_api_Held_Op p2)))) fun a13 w13 s13 => ?_; clear s12
  obtain ⟨x2, e_x2, h2⟩ := bind_some h1; clear h1
  refine seq_opg s13 rfl rfl rfl rfl (of_decide_eq_true rfl) (fun hb => (Ob.uncond (t := 12) hb rfl (ob_callD (args := [_]) rfl .direct hb91 (fun a w s fs gs hf hg => by obtain rfl := hf.unnil; obtain rfl := hg.unnil; exact c_frame_Right k _ _ (ite_t hb e_x2) _ _ _ (s.arg (.tmp rfl)))))) fun a14 w14 s14 => ?_; clear s13
  refine seq_opg s14 rfl rfl rfl rfl (of_decide_eq_true rfl) (fun hb => (Ob.uncond (t := 13) hb rfl (ob_not rfl (.tmp rfl)))) fun a15 w15 s15 => ?_; clear s14
  refine seq_op s15 rfl rfl (of_decide_eq_true rfl) (ob_or2 rfl (.tmp rfl) opd_bool (.tmp rfl)) fun a16 w16 s16 => ?_; clear s15
  refine seq_op s16 rfl rfl (of_decide_eq_true rfl) (ob_assign rfl (.tmp rfl)) fun a17 w17 s17 => ?_; clear s16
  refine wpList_nil ?_
  refine then_normal ?_
  refine hK3 _ _ ?_
  have s18 := s17.sub (.cons (t := 0) rfl (.cons (t := 3) rfl (.cons (t := 6) rfl .nil))); clear s17
  refine cond_split s18 (.tmp rfl) (fun hc1 => ?_) (fun hc1 => ?_)
  · replace h2 := ite_t hc1 h2
    have h3 := h2; clear h2
    refine wp_seq_k fun K4 hK4 => ?_
    refine wp_region_lit ?_
    refine seq_op s18 rfl rfl (of_decide_eq_true rfl) (ob_assign rfl opd_is) fun a19 w19 s19 => ?_; clear s18
    have s20 := St.adopt s19 (G := RowF (nilRow 26) 91 k_api_Held []) rfl (rowNilN _ _ _ _ _); clear s19
    refine seq_op s20 rfl rfl (of_decide_eq_true rfl) (ob_assign rfl (opd_int rfl)) fun a21 w21 s21 => ?_; clear s20
    refine wpList_nil ?_
    refine then_normal ?_
    refine hK4 _ _ ?_
    have s22 := s21.sub (.cons (t := 4) rfl (.cons (t := 5) rfl .nil)); clear s21
    have s23 := St.drop (A := [_]) s22; clear s22
    refine wp_ret ?_
    have s24 := St.freezeAllM (A := []) s23 (ts := [4]) (.cons rfl .nil); clear s23
    obtain rfl := Option.some.inj h3
    exact leave s24 (.inl rfl) rfl (.cons (.tmp rfl) (.cons (.tmp rfl) .nil))
  · replace h2 := ite_f hc1 h2
    have h4 := h2; clear h2
    refine wp_seq_k fun K5 hK5 => ?_
    refine wp_region_lit ?_
    refine seq_op s18 rfl rfl (of_decide_eq_true rfl) (ob_move rfl (.tmp rfl)) fun a25 w25 s25 => ?_; clear s18
    refine seq_op s25 rfl rfl (of_decide_eq_true rfl) (ob_fieldAddr (off' := 0) rfl Try.underlying91 rfl sz39 (by decide) (.tmp rfl) rfl) fun a26 w26 s26 => ?_; clear s25
    refine seq_op s26 rfl rfl (of_decide_eq_true rfl) (ob_load rfl tk39 (.tmp rfl) (.head _) (lg_api_Held_Id p2)) fun a27 w27 s27 => ?_; clear s26
    obtain ⟨x3, e_x3, h5⟩ := bind_some h4; clear h4
    refine seq_op s27 rfl rfl (of_decide_eq_true rfl) (ob_callD (args := [_, _]) rfl .direct hb72 (fun a w s fs gs hf hg => by obtain rfl := hf.unnil; obtain rfl := hg.unnil; exact c_queue_Find k _ _ _ e_x3 _ _ _ _ (s.arg (.tmp rfl)) (s.arg (.tmp rfl)))) fun a28 w28 s28 => ?_; clear s27
    refine seq_op s28 rfl rfl (of_decide_eq_true rfl) (ob_geq rfl (.tmp rfl) (opd_int rfl)) fun a29 w29 s29 => ?_; clear s28
    refine seq_op s29 rfl rfl (of_decide_eq_true rfl) (ob_assign rfl (.tmp rfl)) fun a30 w30 s30 => ?_; clear s29
    refine wpList_nil ?_
    refine then_normal ?_
    refine hK5 _ _ ?_
    have s31 := s30.sub (.cons (t := 0) rfl (.cons (t := 3) rfl (.cons (t := 16) rfl .nil))); clear s30
    refine cond_split s31 (.tmp rfl) (fun hc2 => ?_) (fun hc2 => ?_)
    · replace h5 := ite_t hc2 h5
      have h6 := h5; clear h5
      refine wp_seq_k fun K6 hK6 => ?_
      refine wp_region_lit ?_
      refine seq_op s31 rfl rfl (of_decide_eq_true rfl) (ob_assign rfl opd_is) fun a32 w32 s32 => ?_; clear s31
      have s33 := St.adopt s32 (G := RowF (nilRow 27) 91 k_api_Held []) rfl (rowNilN _ _ _ _ _); clear s32
      refine seq_op s33 rfl rfl (of_decide_eq_true rfl) (ob_assign rfl (opd_int rfl)) fun a34 w34 s34 => ?_; clear s33
      refine wpList_nil ?_
      refine then_normal ?_
      refine hK6 _ _ ?_
      have s35 := s34.sub (.cons (t := 4) rfl (.cons (t := 5) rfl .nil)); clear s34
      have s36 := St.drop (A := [_]) s35; clear s35
      refine wp_ret ?_
      have s37 := St.freezeAllM (A := []) s36 (ts := [4]) (.cons rfl .nil); clear s36
      obtain rfl := Option.some.inj h6
      exact leave s37 (.inl rfl) rfl (.cons (.tmp rfl) (.cons (.tmp rfl) .nil))
    · replace h5 := ite_f hc2 h5
      have h7 := h5; clear h5
      refine wp_seq_k fun K7 hK7 => ?_
      refine wp_region_lit ?_
      refine seq_op s31 rfl rfl (of_decide_eq_true rfl) (ob_move rfl (.tmp rfl)) fun a38 w38 s38 => ?_; clear s31
      refine seq_op s38 rfl rfl (of_decide_eq_true rfl) (ob_lens rfl Try.underlying85 (.tmp rfl)) fun a39 w39 s39 => ?_; clear s38
      refine seq_op s39 rfl rfl (of_decide_eq_true rfl) (ob_eql rfl (.tmp rfl) (opd_int rfl)) fun a40 w40 s40 => ?_; clear s39
      refine seq_op s40 rfl rfl (of_decide_eq_true rfl) (ob_assign rfl (.tmp rfl)) fun a41 w41 s41 => ?_; clear s40
      refine wpList_nil ?_
      refine then_normal ?_
      refine hK7 _ _ ?_
      have s42 := s41.sub (.cons (t := 0) rfl (.cons (t := 3) rfl (.cons (t := 22) rfl .nil))); clear s41
      refine cond_split s42 (.tmp rfl) (fun hc3 => ?_) (fun hc3 => ?_)
      · replace h7 := ite_t hc3 h7
        have h8 := h7; clear h7
        refine wp_seq_k fun K8 hK8 => ?_
        refine wp_region_lit ?_
        refine seq_op s42 rfl rfl (of_decide_eq_true rfl) (ob_assign rfl opd_is) fun a43 w43 s43 => ?_; clear s42
        have s44 := St.adopt s43 (G := RowF (nilRow 28) 91 k_api_Held []) rfl (rowNilN _ _ _ _ _); clear s43
        refine seq_op s44 rfl rfl (of_decide_eq_true rfl) (ob_assign rfl (opd_int rfl)) fun a45 w45 s45 => ?_; clear s44
        refine wpList_nil ?_
        refine then_normal ?_
        refine hK8 _ _ ?_
        have s46 := s45.sub (.cons (t := 4) rfl (.cons (t := 5) rfl .nil)); clear s45
        have s47 := St.drop (A := [_]) s46; clear s46
        refine wp_ret ?_
        have s48 := St.freezeAllM (A := []) s47 (ts := [4]) (.cons rfl .nil); clear s47
        obtain rfl := Option.some.inj h8
        exact leave s48 (.inl rfl) rfl (.cons (.tmp rfl) (.cons (.tmp rfl) .nil))
      · replace h7 := ite_f hc3 h7
        have h9 := h7; clear h7
        refine wp_skip ?_
        refine in_normal ?_
        refine then_normal ?_
        refine hK2 _ _ ?_
        have s49 := s42.sub (.cons (t := 0) rfl (.cons (t := 3) rfl .nil)); clear s42
        refine wp_seq_k fun K9 hK9 => ?_
        obtain ⟨x4, e_x4, h10⟩ := bind_some h9; clear h9
        refine wp_goes (Fs := [((ksl k_api_Held).V p1), nofact, (k_api_Held.V p2)]) (bits := [0, 1, 0, 7, 15, 31, 63, 127]) (m := 3) (todo := 2) mx s49 ?_; clear s49
        refine goes_turn (B' := (fun v1 : Value => [RowF v1 91 k_api_Held x4, BF b1 91 k_api_Held p2])) (Fs' := (fun v1 : Value => setAll ([((ksl k_api_Held).V p1), nofact, (k_api_Held.V p2)]) [(1, (is v1))])) 1 2 3 0 (by kernel_rfl) rfl rfl rfl (opsS_cons (.plain _ (Av.old (t := 0) rfl rfl Av.nil) rfl rfl (ob_move rfl (.tmp rfl))) (opsS_skip (by rfl) (opsS_cons (.plain _ (Av.old (t := 3) rfl rfl Av.nil) rfl rfl (ob_load rfl tk91 (.tmp rfl) (.head _) (LG.refl _ _))) opsS_nil))) (.plain _ (Av.new (j := 0) rfl rfl rfl Av.nil) rfl (fun _ => rfl) (fun R => ob_callL (args := [_, _]) (L := []) rfl .direct hb117 (List.Perm.refl _) (fun a w s fs gs hf hg => by obtain rfl := hf.unnil; obtain rfl := hg.unnil; exact c_queue_copied k _ _ _ e_x4 _ _ _ _ (s.arg (.tmp rfl)) (s.arg (opd_int rfl))) (by exact fun _ => rfl))) (setAll_same (us := (fun v1 : Value => [(1, (is v1))])) fun _ => by kernel_rfl) fun v1 => ?_
        refine goes_last (by kernel_rfl) rfl (opsS_skip (by rfl) (opsS_skip (by rfl) (opsS_cons (.plain _ (Av.old (t := 3) rfl rfl Av.nil) rfl rfl (ob_load rfl tk91 (.tmp rfl) (.tail _ (.head _)) (LG.refl _ _))) opsS_nil))) (out_new (i := 1) (by decide) rfl rfl (out_new (i := 2) (by decide) rfl rfl out_nil)) fun a50 w50 s50 => ?_
        obtain ⟨x5, e_x5, h11⟩ := bind_some h10; clear h10
        refine seq_op s50 rfl rfl (of_decide_eq_true rfl) (ob_callD (args := [_]) rfl .direct hb118 (fun a w s fs gs hf hg => by obtain rfl := hf.unnil; obtain rfl := hg.unnil; exact c_queue_clone k _ _ e_x5 _ _ _ (s.arg (.tmp rfl)))) fun a51 w51 s51 => ?_; clear s50
        refine seq_op s51 rfl rfl (of_decide_eq_true rfl) (ob_mkSlice (k := k_api_Held) (xs := ([x5] : (List api_Held))) rfl Try.underlying85 zz91 sz91 (Zr.iso (f := t_api_Held) (x := (⟨(List.replicate 32 (0 : Int)), (⟨(0 : Int), (0 : Int), [], (0 : Int), [], (List.replicate 32 (0 : Int)), (List.replicate 32 (0 : Int)), [], []⟩ : api_Op), []⟩ : api_Held)) (Zr.pair (Zr.arr 32 (Zr.int .u8)) (Zr.pair (Zr.iso (f := t_api_Op) (x := (⟨(0 : Int), (0 : Int), [], (0 : Int), [], (List.replicate 32 (0 : Int)), (List.replicate 32 (0 : Int)), [], []⟩ : api_Op)) (Zr.pair (Zr.int .i64) (Zr.pair (Zr.int .u32) (Zr.pair (Zr.sl _) (Zr.pair (Zr.int .i64) (Zr.pair (Zr.sl _) (Zr.pair (Zr.arr 32 (Zr.int .u8)) (Zr.pair (Zr.arr 32 (Zr.int .u8)) (Zr.pair Zr.str (Zr.pair (Zr.sl _) Zr.nil)))))))))) (Zr.pair (Zr.sl _) Zr.nil)))) (by decide) (by decide) (.cons (.tmp rfl) rfl (LS.arr' (i := 0) (ys := ([x5] : (List api_Held))) (by simp) (by rfl)) (.nil _))) fun a52 w52 s52 => ?_; clear s51
        obtain ⟨g1, h12⟩ := guard_some h11; clear h11
        refine seq_opx (B' := (fun v2 : Value => [RowF v2 91 k_api_Held (x4 ++ ([x5] : (List api_Held))), BF b1 91 k_api_Held p2])) s52 rfl rfl (of_decide_eq_true rfl) (ob_appendL2 (A := []) rfl Try.underlying85 ap91 (Zr.iso (f := t_api_Held) (x := (⟨(List.replicate 32 (0 : Int)), (⟨(0 : Int), (0 : Int), [], (0 : Int), [], (List.replicate 32 (0 : Int)), (List.replicate 32 (0 : Int)), [], []⟩ : api_Op), []⟩ : api_Held)) (Zr.pair (Zr.arr 32 (Zr.int .u8)) (Zr.pair (Zr.iso (f := t_api_Op) (x := (⟨(0 : Int), (0 : Int), [], (0 : Int), [], (List.replicate 32 (0 : Int)), (List.replicate 32 (0 : Int)), [], []⟩ : api_Op)) (Zr.pair (Zr.int .i64) (Zr.pair (Zr.int .u32) (Zr.pair (Zr.sl _) (Zr.pair (Zr.int .i64) (Zr.pair (Zr.sl _) (Zr.pair (Zr.arr 32 (Zr.int .u8)) (Zr.pair (Zr.arr 32 (Zr.int .u8)) (Zr.pair Zr.str (Zr.pair (Zr.sl _) Zr.nil)))))))))) (Zr.pair (Zr.sl _) Zr.nil)))) (by decide) (.tmp rfl) (.tmp rfl) rfl g1) fun v2 a53 w53 s53 => ?_; clear s52
        refine seq_op s53 rfl rfl (of_decide_eq_true rfl) (ob_assign rfl (.tmp rfl)) fun a54 w54 s54 => ?_; clear s53
        refine seq_op s54 rfl rfl (of_decide_eq_true rfl) (ob_assign rfl (opd_int rfl)) fun a55 w55 s55 => ?_; clear s54
        refine wpList_nil ?_
        refine then_normal ?_
        refine hK9 _ _ ?_
        have s56 := s55.sub (.cons (t := 4) rfl (.cons (t := 5) rfl .nil)); clear s55
        have s57 := St.drop (A := [_]) s56; clear s56
        refine wp_ret ?_
        have s58 := St.freezeAllM (A := []) s57 (ts := [4]) (.cons rfl .nil); clear s57
        obtain rfl := Option.some.inj h12
        exact leave s58 (.inl rfl) rfl (.cons (.tmp rfl) (.cons (.tmp rfl) .nil))

/- 94 cabal/graph.clone -/
theorem c_graph_clone (k : Nat) (p1 : api_Op) (r : api_Op) (h0 : graph_clone k p1 = some r) (ok : Ok) (w0 : World) (z0 : Value) (u0 : (k_api_Op.V p1).holds ok w0 z0) :
    Gives Try.prog 94 [z0] ok w0 (resFact [k_api_Op.V r]) := by
  unfold graph_clone at h0
  refine enter (N := 16) Try.func94 rfl rfl (of_decide_eq_true rfl) (.cons u0 .nil) fun a1 s1 => ?_
  refine wp_seq_k fun K1 hK1 => ?_
  refine wp_region_lit ?_
  refine seq_opx (B' := (fun b1 : Nat => [BF b1 44 k_api_Op p1])) s1 rfl rfl (of_decide_eq_true rfl) (ob_box rfl (.tmp rfl)) fun b1 a2 w2 s2 => ?_; clear s1
  refine seq_opx (B' := (fun b2 : Nat => [BF b2 44 k_api_Op (⟨(0 : Int), (0 : Int), [], (0 : Int), [], (List.replicate 32 (0 : Int)), (List.replicate 32 (0 : Int)), [], []⟩ : api_Op), BF b1 44 k_api_Op p1])) s2 rfl rfl (of_decide_eq_true rfl) (ob_new (k := k_api_Op) rfl zz44 (Zr.iso (f := t_api_Op) (x := (⟨(0 : Int), (0 : Int), [], (0 : Int), [], (List.replicate 32 (0 : Int)), (List.replicate 32 (0 : Int)), [], []⟩ : api_Op)) (Zr.pair (Zr.int .i64) (Zr.pair (Zr.int .u32) (Zr.pair (Zr.sl _) (Zr.pair (Zr.int .i64) (Zr.pair (Zr.sl _) (Zr.pair (Zr.arr 32 (Zr.int .u8)) (Zr.pair (Zr.arr 32 (Zr.int .u8)) (Zr.pair Zr.str (Zr.pair (Zr.sl _) Zr.nil))))))))))) fun b2 a3 w3 s3 => ?_; clear s2
  refine wpList_nil ?_
  refine then_normal ?_
  refine hK1 _ _ ?_
  have s4 := s3.sub (.cons (t := 1) rfl (.cons (t := 2) rfl .nil)); clear s3
  refine wp_seq_k fun K2 hK2 => ?_
  obtain ⟨x1, e_x1, h1⟩ := bind_some h0; clear h0
  obtain ⟨x2, e_x2, h2⟩ := bind_some h1; clear h1
  obtain ⟨x3, e_x3, h3⟩ := bind_some h2; clear h2
  refine wp_goes (Fs := [(ptrB b1 2), ((ksl (karr 32 (kint .u8))).V p1.Parents), ((ksl (karr 32 (kint .u8))).V x1), (ptrB b1 4), ((ksl (kint .i64)).V p1.Who), ((ksl (kint .i64)).V x2), (ptrB b1 70), ((ksl k_api_Box).V p1.Boxes), ((ksl k_api_Box).V x3), (ptrB b1 2)]) (bits := [0, 1, 3, 0, 8, 31, 0, 64, 255, 223, 1023, 2047, 4095, 8191, 16383]) (m := 10) (todo := 0) mx s4 ?_; clear s4
  refine goes_last (by kernel_rfl) rfl (opsS_cons (.plain _ (Av.old (t := 1) rfl rfl Av.nil) rfl rfl (ob_fieldAddr (off' := 2) rfl Try.underlying44 rfl sz40 (by decide) (.tmp rfl) rfl)) (opsS_cons (.plain _ (Av.new (j := 0) rfl rfl rfl Av.nil) rfl rfl (ob_load rfl tk40 (.tmp rfl) (.tail _ (.head _)) (lg_api_Op_Parents p1))) (opsS_cons (.plain _ (Av.new (j := 1) rfl rfl rfl Av.nil) rfl rfl ((ObF.ob (ob_callF (F := resFact [((ksl (karr 32 (kint .u8))).V x1)]) (args := [_]) rfl .direct hb142 (fun a w s fs gs hf hg => by obtain rfl := hf.unnil; obtain rfl := hg.unnil; exact c_slices_Clone_api_Key_api_Key k _ _ e_x1 _ _ _ (s.arg (.tmp rfl))) (by exact fun g => ResF.all (.row (.head _) (KFlat.arr (KFlat.int _)) .nil)))))) (opsS_cons (.plain _ (Av.old (t := 1) rfl rfl Av.nil) rfl rfl (ob_fieldAddr (off' := 4) rfl Try.underlying44 rfl sz41 (by decide) (.tmp rfl) rfl)) (opsS_cons (.plain _ (Av.new (j := 3) rfl rfl rfl Av.nil) rfl rfl (ob_load rfl tk41 (.tmp rfl) (.tail _ (.head _)) (lg_api_Op_Who p1))) (opsS_cons (.plain _ (Av.new (j := 4) rfl rfl rfl Av.nil) rfl rfl ((ObF.ob (ob_callF (F := resFact [((ksl (kint .i64)).V x2)]) (args := [_]) rfl .direct hb80 (fun a w s fs gs hf hg => by obtain rfl := hf.unnil; obtain rfl := hg.unnil; exact c_slices_Clone_int_int k _ _ e_x2 _ _ _ (s.arg (.tmp rfl))) (by exact fun g => ResF.all (.row (.head _) (KFlat.int _) .nil)))))) (opsS_cons (.plain _ (Av.old (t := 1) rfl rfl Av.nil) rfl rfl (ob_fieldAddr (off' := 70) rfl Try.underlying44 rfl sz42 (by decide) (.tmp rfl) rfl)) (opsS_cons (.plain _ (Av.new (j := 6) rfl rfl rfl Av.nil) rfl rfl (ob_load rfl tk42 (.tmp rfl) (.tail _ (.head _)) (lg_api_Op_Boxes p1))) (opsS_cons (.plain _ (Av.new (j := 7) rfl rfl rfl Av.nil) rfl rfl ((ObF.ob (ob_callF (F := resFact [((ksl k_api_Box).V x3)]) (args := [_]) rfl .direct hb143 (fun a w s fs gs hf hg => by obtain rfl := hf.unnil; obtain rfl := hg.unnil; exact c_slices_Clone_api_Box_api_Box k _ _ e_x3 _ _ _ (s.arg (.tmp rfl))) (by exact fun g => ResF.all (.row (.head _) kf_api_Box .nil)))))) (opsS_cons (.plain _ (Av.old (t := 1) rfl rfl Av.nil) rfl rfl (ob_fieldAddr (off' := 2) rfl Try.underlying44 rfl sz40 (by decide) (.tmp rfl) rfl)) opsS_nil)))))))))) (out_old (t := 1) rfl rfl (out_old (t := 2) rfl rfl (out_new (i := 2) (by decide) rfl rfl (out_new (i := 5) (by decide) rfl rfl (out_new (i := 8) (by decide) rfl rfl (out_new (i := 9) (by decide) rfl rfl out_nil)))))) fun a5 w5 s5 => ?_
  refine seq_opx0 (B' := (fun _ : Unit => [BF b2 44 k_api_Op (⟨(0 : Int), (0 : Int), [], (0 : Int), [], (List.replicate 32 (0 : Int)), (List.replicate 32 (0 : Int)), [], []⟩ : api_Op), BF b1 44 k_api_Op ({ p1 with Parents := x1 })])) s5 rfl rfl (ob_store (A := [_]) rfl tk40 (.tmp rfl) (.tmp rfl) rfl (ls_api_Op_Parents p1 x1) rfl) fun _ a6 w6 s6 => ?_; clear s5
  refine seq_op s6 rfl rfl (of_decide_eq_true rfl) (ob_fieldAddr (off' := 4) rfl Try.underlying44 rfl sz41 (by decide) (.tmp rfl) rfl) fun a7 w7 s7 => ?_; clear s6
  refine seq_opx0 (B' := (fun _ : Unit => [BF b2 44 k_api_Op (⟨(0 : Int), (0 : Int), [], (0 : Int), [], (List.replicate 32 (0 : Int)), (List.replicate 32 (0 : Int)), [], []⟩ : api_Op), BF b1 44 k_api_Op ({ { p1 with Parents := x1 } with Who := x2 })])) s7 rfl rfl (ob_store (A := [_]) rfl tk41 (.tmp rfl) (.tmp rfl) rfl (ls_api_Op_Who ({ p1 with Parents := x1 }) x2) rfl) fun _ a8 w8 s8 => ?_; clear s7
  refine seq_op s8 rfl rfl (of_decide_eq_true rfl) (ob_fieldAddr (off' := 70) rfl Try.underlying44 rfl sz42 (by decide) (.tmp rfl) rfl) fun a9 w9 s9 => ?_; clear s8
  obtain ⟨x4, e_x4, h4⟩ := bind_some h3; clear h3; replace e_x4 := Option.some.inj e_x4
  refine seq_opx0 (B' := (fun _ : Unit => [BF b2 44 k_api_Op (⟨(0 : Int), (0 : Int), [], (0 : Int), [], (List.replicate 32 (0 : Int)), (List.replicate 32 (0 : Int)), [], []⟩ : api_Op), BF b1 44 k_api_Op x4])) s9 rfl rfl (ob_store (A := [_]) rfl tk42 (.tmp rfl) (.tmp rfl) rfl (LS.to (ls_api_Op_Boxes ({ { p1 with Parents := x1 } with Who := x2 }) x3) e_x4) rfl) fun _ a10 w10 s10 => ?_; clear s9
  refine wpList_nil ?_
  refine then_normal ?_
  refine hK2 _ _ ?_
  have s11 := s10.sub (.cons (t := 1) rfl (.cons (t := 2) rfl .nil)); clear s10
  refine wp_seq_k fun K3 hK3 => ?_
  refine wp_region_lit ?_
  refine seq_op s11 rfl rfl (of_decide_eq_true rfl) (ob_load rfl tk44 (.tmp rfl) (.tail _ (.head _)) (LG.refl _ _)) fun a12 w12 s12 => ?_; clear s11
  refine seq_opx0 (B' := (fun _ : Unit => [BF b2 44 k_api_Op x4, BF b1 44 k_api_Op x4])) s12 rfl rfl (ob_store (A := []) rfl tk44 (.tmp rfl) (.tmp rfl) rfl (LS.refl _ _ _) rfl) fun _ a13 w13 s13 => ?_; clear s12
  refine wpList_nil ?_
  refine then_normal ?_
  refine hK3 _ _ ?_
  have s14 := s13.sub (.cons (t := 2) rfl .nil); clear s13
  have s15 := St.drop (A := [_]) s14; clear s14
  refine wp_ret ?_
  obtain rfl := Option.some.inj h4
  exact leave s15 (.inl rfl) rfl (.cons (.cell rfl tk44 (.head _) (LG.refl _ _)) .nil)

/- 43 cabal/graph.Add -/
theorem c_graph_Add (k : Nat) (p1 : (List api_Node)) (p2 : (List Int)) (p3 : api_Op) (r : ((List api_Node) × Int)) (h0 : graph_Add k p1 p2 p3 = some r) (ok : Ok) (w0 : World) (z0 : Value) (z1 : Value) (z2 : Value) (u0 : ((ksl k_api_Node).V p1).holds ok w0 z0) (u1 : ((karr 32 (kint .u8)).V p2).holds ok w0 z1) (u2 : (k_api_Op.V p3).holds ok w0 z2) :
    GivesX Try.prog 43 [z0, z1, z2] ok w0 [] (fun g : Value => resFact [is g, (kint .i64).V r.2]) (fun g : Value => [RowF (g) 46 k_api_Node r.1]) := by
  unfold graph_Add at h0
  refine enterX (N := 74) Try.func43 rfl rfl (of_decide_eq_true rfl) (.cons u0 (.cons u1 (.cons u2 .nil))) List.nodup_nil (fun _ h => by cases h) (fun _ h => by cases h) fun a1 s1 => ?_
  refine wp_seq_k fun K1 hK1 => ?_
  refine wp_region_lit ?_
  refine seq_opx (B' := (fun b1 : Nat => [BF b1 39 (karr 32 (kint .u8)) p2])) s1 rfl rfl (of_decide_eq_true rfl) (ob_box rfl (.tmp rfl)) fun b1 a2 w2 s2 => ?_; clear s1
  refine seq_opx (B' := (fun b2 : Nat => [BF b2 44 k_api_Op p3, BF b1 39 (karr 32 (kint .u8)) p2])) s2 rfl rfl (of_decide_eq_true rfl) (ob_box rfl (.tmp rfl)) fun b2 a3 w3 s3 => ?_; clear s2
  refine seq_op s3 rfl rfl (of_decide_eq_true rfl) (ob_assign rfl opd_is) fun a4 w4 s4 => ?_; clear s3
  have s5 := St.adopt s4 (G := RowF (nilRow 29) 46 k_api_Node []) rfl (rowNilN _ _ _ _ _); clear s4
  refine seq_op s5 rfl rfl (of_decide_eq_true rfl) (ob_assign rfl (opd_int rfl)) fun a6 w6 s6 => ?_; clear s5
  refine wpList_nil ?_
  refine then_normal ?_
  refine hK1 _ _ ?_
  have s7 := s6.sub (.cons (t := 0) rfl (.cons (t := 4) rfl (.cons (t := 5) rfl .nil))); clear s6
  have s8 := St.drop (A := []) s7; clear s7
  refine wp_seq_k fun K2 hK2 => ?_
  refine wp_seq_k fun K3 hK3 => ?_
  refine wp_region_lit ?_
  refine seq_op s8 rfl rfl (of_decide_eq_true rfl) (ob_move rfl (.tmp rfl)) fun a9 w9 s9 => ?_; clear s8
  obtain ⟨x1, e_x1, h1⟩ := bind_some h0; clear h0
  refine seq_op s9 rfl rfl (of_decide_eq_true rfl) (ob_callD (args := [_]) rfl .direct hb24 (fun a w s fs gs hf hg => by obtain rfl := hf.unnil; obtain rfl := hg.unnil; exact c_graph_Right k _ _ e_x1 _ _ _ (s.arg (.tmp rfl)))) fun a10 w10 s10 => ?_; clear s9
  refine seq_op s10 rfl rfl (of_decide_eq_true rfl) (ob_not rfl (.tmp rfl)) fun a11 w11 s11 => ?_; clear s10
  refine seq_op s11 rfl rfl (of_decide_eq_true rfl) (ob_move rfl (.tmp rfl)) fun a12 w12 s12 => ?_; clear s11
  refine seq_opg s12 rfl rfl rfl rfl (of_decide_eq_true rfl) (fun hb => ob_load rfl tk44 (.tmp rfl) (.head _) (LG.refl _ _)) fun a13 w13 s13 => ?_; clear s12
  obtain ⟨x2, e_x2, h2⟩ := bind_some h1; clear h1
  refine seq_opg s13 rfl rfl rfl rfl (of_decide_eq_true rfl) (fun hb => (Ob.uncond (t := 17) hb rfl (ob_callD (args := [_]) rfl .direct hb91 (fun a w s fs gs hf hg => by obtain rfl := hf.unnil; obtain rfl := hg.unnil; exact c_frame_Right k _ _ (ite_t hb e_x2) _ _ _ (s.arg (.tmp rfl)))))) fun a14 w14 s14 => ?_; clear s13
  refine seq_opg s14 rfl rfl rfl rfl (of_decide_eq_true rfl) (fun hb => (Ob.uncond (t := 18) hb rfl (ob_not rfl (.tmp rfl)))) fun a15 w15 s15 => ?_; clear s14
  refine seq_op s15 rfl rfl (of_decide_eq_true rfl) (ob_or2 rfl (.tmp rfl) opd_bool (.tmp rfl)) fun a16 w16 s16 => ?_; clear s15
  refine wpList_nil ?_
  refine then_normal ?_
  refine hK3 _ _ ?_
  have s17 := s16.sub (.cons (t := 0) rfl (.cons (t := 4) rfl (.cons (t := 5) rfl (.cons (t := 20) rfl .nil)))); clear s16
  refine cond_split s17 (.tmp rfl) (fun hc1 => ?_) (fun hc1 => ?_)
  · replace h2 := ite_t hc1 h2
    have h3 := h2; clear h2
    refine wp_seq_k fun K4 hK4 => ?_
    refine wp_region_lit ?_
    refine seq_op s17 rfl rfl (of_decide_eq_true rfl) (ob_assign rfl opd_is) fun a18 w18 s18 => ?_; clear s17
    have s19 := St.adopt s18 (G := RowF (nilRow 30) 46 k_api_Node []) rfl (rowNilN _ _ _ _ _); clear s18
    refine seq_op s19 rfl rfl (of_decide_eq_true rfl) (ob_assign rfl (opd_int rfl)) fun a20 w20 s20 => ?_; clear s19
    refine wpList_nil ?_
    refine then_normal ?_
    refine hK4 _ _ ?_
    have s21 := s20.sub (.cons (t := 6) rfl (.cons (t := 7) rfl .nil)); clear s20
    have s22 := St.drop (A := [_]) s21; clear s21
    have s23 := St.drop (A := [_]) s22; clear s22
    refine wp_ret ?_
    obtain rfl := Option.some.inj h3
    exact leaveXD (D := []) (nilRow 30) s23 rfl (.inl rfl) rfl (.cons (.tmp rfl) (.cons (.tmp rfl) .nil)) rfl
  · replace h2 := ite_f hc1 h2
    have h4 := h2; clear h2
    refine wp_skip ?_
    refine then_normal ?_
    refine hK2 _ _ ?_
    have s24 := s17.sub (.cons (t := 0) rfl (.cons (t := 4) rfl (.cons (t := 5) rfl .nil))); clear s17
    refine wp_seq_k fun K5 hK5 => ?_
    refine wp_block ?_
    refine wp_seq_k fun K6 hK6 => ?_
    refine wp_region_lit ?_
    refine seq_op s24 rfl rfl (of_decide_eq_true rfl) (ob_move rfl (.tmp rfl)) fun a25 w25 s25 => ?_; clear s24
    refine seq_op s25 rfl rfl (of_decide_eq_true rfl) (ob_load rfl tk39 (.tmp rfl) (.tail _ (.head _)) (LG.refl _ _)) fun a26 w26 s26 => ?_; clear s25
    obtain ⟨x3, e_x3, h5⟩ := bind_some h4; clear h4
    refine seq_op s26 rfl rfl (of_decide_eq_true rfl) (ob_callD (args := [_, _]) rfl .direct hb48 (fun a w s fs gs hf hg => by obtain rfl := hf.unnil; obtain rfl := hg.unnil; exact c_graph_Find k _ _ _ e_x3 _ _ _ _ (s.arg (.tmp rfl)) (s.arg (.tmp rfl)))) fun a27 w27 s27 => ?_; clear s26
    refine seq_op s27 rfl rfl (of_decide_eq_true rfl) (ob_geq rfl (.tmp rfl) (opd_int rfl)) fun a28 w28 s28 => ?_; clear s27
    refine seq_op s28 rfl rfl (of_decide_eq_true rfl) (ob_assign rfl (.tmp rfl)) fun a29 w29 s29 => ?_; clear s28
    refine wpList_nil ?_
    refine then_normal ?_
    refine hK6 _ _ ?_
    have s30 := s29.sub (.cons (t := 0) rfl (.cons (t := 4) rfl (.cons (t := 5) rfl (.cons (t := 21) rfl .nil)))); clear s29
    refine cond_split s30 (.tmp rfl) (fun hc2 => ?_) (fun hc2 => ?_)
    · replace h5 := ite_t hc2 h5
      have h6 := h5; clear h5
      refine wp_seq_k fun K7 hK7 => ?_
      refine wp_region_lit ?_
      refine seq_op s30 rfl rfl (of_decide_eq_true rfl) (ob_assign rfl opd_is) fun a31 w31 s31 => ?_; clear s30
      have s32 := St.adopt s31 (G := RowF (nilRow 31) 46 k_api_Node []) rfl (rowNilN _ _ _ _ _); clear s31
      refine seq_op s32 rfl rfl (of_decide_eq_true rfl) (ob_assign rfl (opd_int rfl)) fun a33 w33 s33 => ?_; clear s32
      refine wpList_nil ?_
      refine then_normal ?_
      refine hK7 _ _ ?_
      have s34 := s33.sub (.cons (t := 6) rfl (.cons (t := 7) rfl .nil)); clear s33
      have s35 := St.drop (A := [_]) s34; clear s34
      have s36 := St.drop (A := [_]) s35; clear s35
      refine wp_ret ?_
      obtain rfl := Option.some.inj h6
      exact leaveXD (D := []) (nilRow 31) s36 rfl (.inl rfl) rfl (.cons (.tmp rfl) (.cons (.tmp rfl) .nil)) rfl
    · replace h5 := ite_f hc2 h5
      have h7 := h5; clear h5
      refine wp_seq_k fun K8 hK8 => ?_
      refine wp_region_lit ?_
      refine seq_op s30 rfl rfl (of_decide_eq_true rfl) (ob_move rfl (.tmp rfl)) fun a37 w37 s37 => ?_; clear s30
      refine seq_op s37 rfl rfl (of_decide_eq_true rfl) (ob_lens rfl Try.underlying22 (.tmp rfl)) fun a38 w38 s38 => ?_; clear s37
      refine seq_op s38 rfl rfl (of_decide_eq_true rfl) (ob_eql rfl (.tmp rfl) (opd_int rfl)) fun a39 w39 s39 => ?_; clear s38
      refine seq_op s39 rfl rfl (of_decide_eq_true rfl) (ob_assign rfl (.tmp rfl)) fun a40 w40 s40 => ?_; clear s39
      refine wpList_nil ?_
      refine then_normal ?_
      refine hK8 _ _ ?_
      have s41 := s40.sub (.cons (t := 0) rfl (.cons (t := 4) rfl (.cons (t := 5) rfl (.cons (t := 26) rfl .nil)))); clear s40
      refine cond_split s41 (.tmp rfl) (fun hc3 => ?_) (fun hc3 => ?_)
      · replace h7 := ite_t hc3 h7
        have h8 := h7; clear h7
        refine wp_seq_k fun K9 hK9 => ?_
        refine wp_region_lit ?_
        refine seq_op s41 rfl rfl (of_decide_eq_true rfl) (ob_assign rfl opd_is) fun a42 w42 s42 => ?_; clear s41
        have s43 := St.adopt s42 (G := RowF (nilRow 32) 46 k_api_Node []) rfl (rowNilN _ _ _ _ _); clear s42
        refine seq_op s43 rfl rfl (of_decide_eq_true rfl) (ob_assign rfl (opd_int rfl)) fun a44 w44 s44 => ?_; clear s43
        refine wpList_nil ?_
        refine then_normal ?_
        refine hK9 _ _ ?_
        have s45 := s44.sub (.cons (t := 6) rfl (.cons (t := 7) rfl .nil)); clear s44
        have s46 := St.drop (A := [_]) s45; clear s45
        have s47 := St.drop (A := [_]) s46; clear s46
        refine wp_ret ?_
        obtain rfl := Option.some.inj h8
        exact leaveXD (D := []) (nilRow 32) s47 rfl (.inl rfl) rfl (.cons (.tmp rfl) (.cons (.tmp rfl) .nil)) rfl
      · replace h7 := ite_f hc3 h7
        have h9 := h7; clear h7
        refine wp_skip ?_
        refine in_normal ?_
        refine then_normal ?_
        refine hK5 _ _ ?_
        have s48 := s41.sub (.cons (t := 0) rfl (.cons (t := 4) rfl (.cons (t := 5) rfl .nil))); clear s41
        refine wp_seq_k fun K10 hK10 => ?_
        refine wp_region_lit ?_
        refine seq_op s48 rfl rfl (of_decide_eq_true rfl) (ob_move rfl (.tmp rfl)) fun a49 w49 s49 => ?_; clear s48
        refine seq_op s49 rfl rfl (of_decide_eq_true rfl) (ob_fieldAddr (off' := 2) rfl Try.underlying44 rfl sz40 (by decide) (.tmp rfl) rfl) fun a50 w50 s50 => ?_; clear s49
        refine seq_op s50 rfl rfl (of_decide_eq_true rfl) (ob_load rfl tk40 (.tmp rfl) (.head _) (lg_api_Op_Parents p3)) fun a51 w51 s51 => ?_; clear s50
        obtain ⟨x4, e_x4, h10⟩ := bind_some h9; clear h9
        refine seq_opx (B' := (fun v1 : Value => [RowF v1 3 (kint .i64) x4.1, BF b2 44 k_api_Op p3, BF b1 39 (karr 32 (kint .u8)) p2])) s51 rfl rfl (of_decide_eq_true rfl) (ob_callL (args := [_, _]) (L := []) rfl .direct hb92 (List.Perm.refl _) (fun a w s fs gs hf hg => by obtain rfl := hf.unnil; obtain rfl := hg.unnil; exact c_graph_past k _ _ _ e_x4 _ _ _ _ (s.arg (.tmp rfl)) (s.arg (.tmp rfl))) (by exact fun _ => rfl)) fun v1 a52 w52 s52 => ?_; clear s51
        refine seq_op s52 rfl rfl (of_decide_eq_true rfl) (ob_move rfl (.tmp rfl)) fun a53 w53 s53 => ?_; clear s52
        refine seq_op s53 rfl rfl (of_decide_eq_true rfl) (ob_extract rfl (.tmp rfl) rfl) fun a54 w54 s54 => ?_; clear s53
        refine seq_op s54 rfl rfl (of_decide_eq_true rfl) (ob_extract rfl (.tmp rfl) rfl) fun a55 w55 s55 => ?_; clear s54
        refine seq_op s55 rfl rfl (of_decide_eq_true rfl) (ob_assign rfl (.tmp rfl)) fun a56 w56 s56 => ?_; clear s55
        refine seq_op s56 rfl rfl (of_decide_eq_true rfl) (ob_assign rfl (.tmp rfl)) fun a57 w57 s57 => ?_; clear s56
        refine wpList_nil ?_
        refine then_normal ?_
        refine hK10 _ _ ?_
        have s58 := s57.sub (.cons (t := 0) rfl (.cons (t := 4) rfl (.cons (t := 5) rfl (.cons (t := 8) rfl (.cons (t := 9) rfl .nil))))); clear s57
        refine wp_seq_k fun K11 hK11 => ?_
        refine wp_block ?_
        refine wp_seq_k fun K12 hK12 => ?_
        refine wp_region_lit ?_
        refine seq_op s58 rfl rfl (of_decide_eq_true rfl) (ob_move rfl (.tmp rfl)) fun a59 w59 s59 => ?_; clear s58
        refine seq_op s59 rfl rfl (of_decide_eq_true rfl) (ob_neq rfl (.tmp rfl) (opd_int rfl)) fun a60 w60 s60 => ?_; clear s59
        refine seq_op s60 rfl rfl (of_decide_eq_true rfl) (ob_assign rfl (.tmp rfl)) fun a61 w61 s61 => ?_; clear s60
        refine wpList_nil ?_
        refine then_normal ?_
        refine hK12 _ _ ?_
        have s62 := s61.sub (.cons (t := 0) rfl (.cons (t := 4) rfl (.cons (t := 5) rfl (.cons (t := 8) rfl (.cons (t := 9) rfl (.cons (t := 37) rfl .nil)))))); clear s61
        refine cond_split s62 (.tmp rfl) (fun hc4 => ?_) (fun hc4 => ?_)
        · replace h10 := ite_t hc4 h10
          have h11 := h10; clear h10
          refine wp_seq_k fun K13 hK13 => ?_
          refine wp_region_lit ?_
          refine seq_op s62 rfl rfl (of_decide_eq_true rfl) (ob_move rfl (.tmp rfl)) fun a63 w63 s63 => ?_; clear s62
          refine seq_op s63 rfl rfl (of_decide_eq_true rfl) (ob_assign rfl opd_is) fun a64 w64 s64 => ?_; clear s63
          have s65 := St.adopt s64 (G := RowF (nilRow 33) 46 k_api_Node []) rfl (rowNilN _ _ _ _ _); clear s64
          refine seq_op s65 rfl rfl (of_decide_eq_true rfl) (ob_assign rfl (.tmp rfl)) fun a66 w66 s66 => ?_; clear s65
          refine wpList_nil ?_
          refine then_normal ?_
          refine hK13 _ _ ?_
          have s67 := s66.sub (.cons (t := 6) rfl (.cons (t := 7) rfl .nil)); clear s66
          have s68 := St.drop (A := [_]) s67; clear s67
          have s69 := St.drop (A := [_]) s68; clear s68
          have s70 := St.drop (A := [_]) s69; clear s69
          refine wp_ret ?_
          obtain rfl := Option.some.inj h11
          exact leaveXD (D := []) (nilRow 33) s70 rfl (.inl rfl) rfl (.cons (.tmp rfl) (.cons (.tmp rfl) .nil)) rfl
        · replace h10 := ite_f hc4 h10
          have h12 := h10; clear h10
          refine wp_seq_k fun K14 hK14 => ?_
          refine wp_region_lit ?_
          refine seq_op s62 rfl rfl (of_decide_eq_true rfl) (ob_move rfl (.tmp rfl)) fun a71 w71 s71 => ?_; clear s62
          refine seq_op s71 rfl rfl (of_decide_eq_true rfl) (ob_load rfl tk44 (.tmp rfl) (.tail _ (.head _)) (LG.refl _ _)) fun a72 w72 s72 => ?_; clear s71
          refine seq_op s72 rfl rfl (of_decide_eq_true rfl) (ob_move rfl (.tmp rfl)) fun a73 w73 s73 => ?_; clear s72
          obtain ⟨x5, e_x5, h13⟩ := bind_some h12; clear h12
          refine seq_op s73 rfl rfl (of_decide_eq_true rfl) ((ob_lendG (L := [_]) (List.Perm.refl _) (.cons (t := 44) rfl (lendRow (.head _)) .nil) (Flat.res1 (Flat.V KFlat.bool)) (fun _ => ob_callD (args := [_, _, _]) rfl .direct hb93 (fun a w s fs gs hf hg => by obtain rfl := hf.unnil; obtain rfl := hg.unnil; exact c_graph_turn k _ _ _ _ e_x5 _ _ _ _ _ (s.arg (.tmp rfl)) (s.arg (.tmp rfl)) (s.arg (.tmp rfl)))))) fun a74 w74 s74 => ?_; clear s73
          refine seq_op s74 rfl rfl (of_decide_eq_true rfl) (ob_not rfl (.tmp rfl)) fun a75 w75 s75 => ?_; clear s74
          refine seq_op s75 rfl rfl (of_decide_eq_true rfl) (ob_assign rfl (.tmp rfl)) fun a76 w76 s76 => ?_; clear s75
          refine wpList_nil ?_
          refine then_normal ?_
          refine hK14 _ _ ?_
          have s77 := s76.sub (.cons (t := 0) rfl (.cons (t := 4) rfl (.cons (t := 5) rfl (.cons (t := 8) rfl (.cons (t := 41) rfl .nil))))); clear s76
          refine cond_split s77 (.tmp rfl) (fun hc5 => ?_) (fun hc5 => ?_)
          · replace h13 := ite_t hc5 h13
            have h14 := h13; clear h13
            refine wp_seq_k fun K15 hK15 => ?_
            refine wp_region_lit ?_
            refine seq_op s77 rfl rfl (of_decide_eq_true rfl) (ob_assign rfl opd_is) fun a78 w78 s78 => ?_; clear s77
            have s79 := St.adopt s78 (G := RowF (nilRow 34) 46 k_api_Node []) rfl (rowNilN _ _ _ _ _); clear s78
            refine seq_op s79 rfl rfl (of_decide_eq_true rfl) (ob_assign rfl (opd_int rfl)) fun a80 w80 s80 => ?_; clear s79
            refine wpList_nil ?_
            refine then_normal ?_
            refine hK15 _ _ ?_
            have s81 := s80.sub (.cons (t := 6) rfl (.cons (t := 7) rfl .nil)); clear s80
            have s82 := St.drop (A := [_]) s81; clear s81
            have s83 := St.drop (A := [_]) s82; clear s82
            have s84 := St.drop (A := [_]) s83; clear s83
            refine wp_ret ?_
            obtain rfl := Option.some.inj h14
            exact leaveXD (D := []) (nilRow 34) s84 rfl (.inl rfl) rfl (.cons (.tmp rfl) (.cons (.tmp rfl) .nil)) rfl
          · replace h13 := ite_f hc5 h13
            have h15 := h13; clear h13
            refine wp_skip ?_
            refine in_normal ?_
            refine then_normal ?_
            refine hK11 _ _ ?_
            have s85 := s77.sub (.cons (t := 0) rfl (.cons (t := 4) rfl (.cons (t := 5) rfl (.cons (t := 8) rfl .nil)))); clear s77
            refine wp_seq_k fun K16 hK16 => ?_
            refine wp_region_lit ?_
            refine seq_op s85 rfl rfl (of_decide_eq_true rfl) (ob_assign rfl opd_is) fun a86 w86 s86 => ?_; clear s85
            have s87 := St.adopt s86 (G := RowF (nilRow 35) 46 k_api_Node []) rfl (rowNilN _ _ _ _ _); clear s86
            refine wpList_nil ?_
            refine then_normal ?_
            refine hK16 _ _ ?_
            have s88 := s87.sub (.cons (t := 0) rfl (.cons (t := 4) rfl (.cons (t := 5) rfl (.cons (t := 8) rfl (.cons (t := 10) rfl .nil))))); clear s87
            refine wp_seq_k fun K17 hK17 => ?_
            refine wp_seq_k fun K18 hK18 => ?_
            refine wp_region_lit ?_
            refine seq_op s88 rfl rfl (of_decide_eq_true rfl) (ob_move rfl (.tmp rfl)) fun a89 w89 s89 => ?_; clear s88
            refine seq_op s89 rfl rfl (of_decide_eq_true rfl) (ob_lens rfl Try.underlying22 (.tmp rfl)) fun a90 w90 s90 => ?_; clear s89
            refine seq_op s90 rfl rfl (of_decide_eq_true rfl) (ob_move rfl (opd_int rfl)) fun a91 w91 s91 => ?_; clear s90
            refine wpList_nil ?_
            refine then_normal ?_
            refine hK18 _ _ ?_
            have s92 := s91.sub (.cons (t := 4) rfl (.cons (t := 5) rfl (.cons (t := 8) rfl (.cons (t := 10) rfl (.cons (t := 47) rfl (.cons (t := 48) rfl (.cons (t := 49) rfl .nil))))))); clear s91
            have hj1 : ∀ (y1 : (List api_Node)) (v2 : Value) (a : Act) (w : World), (graph_Add.j1 k p3 p2 x4) y1 = some r → St ⟨74, w0, ok, (idsOf [])⟩ [BF b1 39 (karr 32 (kint .u8)) p2, BF b2 44 k_api_Op p3, RowF v1 3 (kint .i64) x4.1, RowF v2 46 k_api_Node y1] [(4, (ptrB b1 0)), (5, (ptrB b2 0)), (8, (is v1)), (10, (is v2))] a w → K17 a w := by
              intro y1 v2 a93 w93 h16 s93
              unfold graph_Add.j1 at h16
              refine hK17 _ _ ?_
              refine wp_seq_k fun K19 hK19 => ?_
              have s94 := St.freezeAllM (A := [_, _]) s93 (ts := [8]) (.cons rfl .nil); clear s93
              obtain ⟨x6, e_x6, h17⟩ := bind_some h16; clear h16
              refine wp_goes (Fs := [(is v2), ((karr 32 (kint .u8)).V p2), (k_api_Op.V p3), (k_api_Op.V x6), ((ksl (kint .i64)).V x4.1), (k_api_Node.V (⟨p2, x6, x4.1⟩ : api_Node)), ((ksl k_api_Node).V ([(⟨p2, x6, x4.1⟩ : api_Node)] : (List api_Node)))]) (bits := [0, 0, 0, 4, 0, 30, 62, 127, 255, 511]) (m := 7) (todo := 0) mx s94 ?_; clear s94
              refine goes_last (by kernel_rfl) rfl (opsS_cons (.plain _ (Av.old (t := 10) rfl rfl Av.nil) rfl rfl (ob_move rfl (.tmp rfl))) (opsS_cons (.plain _ (Av.old (t := 4) rfl rfl Av.nil) rfl rfl (ob_load rfl tk39 (.tmp rfl) (.head _) (LG.refl _ _))) (opsS_cons (.plain _ (Av.old (t := 5) rfl rfl Av.nil) rfl rfl (ob_load rfl tk44 (.tmp rfl) (.tail _ (.head _)) (LG.refl _ _))) (opsS_cons (.plain _ (Av.new (j := 2) rfl rfl rfl Av.nil) rfl rfl (ob_callD (args := [_]) rfl .direct hb94 (fun a w s fs gs hf hg => by obtain rfl := hf.unnil; obtain rfl := hg.unnil; exact c_graph_clone k _ _ e_x6 _ _ _ (s.arg (.tmp rfl))))) (opsS_cons (.plain _ (Av.old (t := 8) rfl rfl Av.nil) rfl rfl (ob_move rfl (.tmp rfl))) (opsS_cons (.plain _ (Av.new (j := 1) rfl rfl rfl (Av.new (j := 3) rfl rfl rfl (Av.new (j := 4) rfl rfl rfl Av.nil))) rfl rfl (ob_mkStruct (K := k_api_Node) (X0 := (⟨(List.replicate 32 (0 : Int)), (⟨(0 : Int), (0 : Int), [], (0 : Int), [], (List.replicate 32 (0 : Int)), (List.replicate 32 (0 : Int)), [], []⟩ : api_Op), []⟩ : api_Node)) rfl Try.underlying46 zz46 rfl pl46 (Zr.iso (f := t_api_Node) (x := (⟨(List.replicate 32 (0 : Int)), (⟨(0 : Int), (0 : Int), [], (0 : Int), [], (List.replicate 32 (0 : Int)), (List.replicate 32 (0 : Int)), [], []⟩ : api_Op), []⟩ : api_Node)) (Zr.pair (Zr.arr 32 (Zr.int .u8)) (Zr.pair (Zr.iso (f := t_api_Op) (x := (⟨(0 : Int), (0 : Int), [], (0 : Int), [], (List.replicate 32 (0 : Int)), (List.replicate 32 (0 : Int)), [], []⟩ : api_Op)) (Zr.pair (Zr.int .i64) (Zr.pair (Zr.int .u32) (Zr.pair (Zr.sl _) (Zr.pair (Zr.int .i64) (Zr.pair (Zr.sl _) (Zr.pair (Zr.arr 32 (Zr.int .u8)) (Zr.pair (Zr.arr 32 (Zr.int .u8)) (Zr.pair Zr.str (Zr.pair (Zr.sl _) Zr.nil)))))))))) (Zr.pair (Zr.sl _) Zr.nil)))) (.cons (.tmp rfl) rfl (ls_api_Node_Id (⟨(List.replicate 32 (0 : Int)), (⟨(0 : Int), (0 : Int), [], (0 : Int), [], (List.replicate 32 (0 : Int)), (List.replicate 32 (0 : Int)), [], []⟩ : api_Op), []⟩ : api_Node) p2) (.cons (.tmp rfl) rfl (ls_api_Node_Op (⟨p2, (⟨(0 : Int), (0 : Int), [], (0 : Int), [], (List.replicate 32 (0 : Int)), (List.replicate 32 (0 : Int)), [], []⟩ : api_Op), []⟩ : api_Node) x6) (.cons (.tmp rfl) rfl (ls_api_Node_Past (⟨p2, x6, []⟩ : api_Node) x4.1) (.nil _)))))) (opsS_cons (.plain _ (Av.new (j := 5) rfl rfl rfl Av.nil) rfl rfl (ob_mkSlice (k := k_api_Node) (xs := ([(⟨p2, x6, x4.1⟩ : api_Node)] : (List api_Node))) rfl Try.underlying22 zz46 sz46 (Zr.iso (f := t_api_Node) (x := (⟨(List.replicate 32 (0 : Int)), (⟨(0 : Int), (0 : Int), [], (0 : Int), [], (List.replicate 32 (0 : Int)), (List.replicate 32 (0 : Int)), [], []⟩ : api_Op), []⟩ : api_Node)) (Zr.pair (Zr.arr 32 (Zr.int .u8)) (Zr.pair (Zr.iso (f := t_api_Op) (x := (⟨(0 : Int), (0 : Int), [], (0 : Int), [], (List.replicate 32 (0 : Int)), (List.replicate 32 (0 : Int)), [], []⟩ : api_Op)) (Zr.pair (Zr.int .i64) (Zr.pair (Zr.int .u32) (Zr.pair (Zr.sl _) (Zr.pair (Zr.int .i64) (Zr.pair (Zr.sl _) (Zr.pair (Zr.arr 32 (Zr.int .u8)) (Zr.pair (Zr.arr 32 (Zr.int .u8)) (Zr.pair Zr.str (Zr.pair (Zr.sl _) Zr.nil)))))))))) (Zr.pair (Zr.sl _) Zr.nil)))) (by decide) (by decide) (.cons (.tmp rfl) rfl (LS.arr' (i := 0) (ys := ([(⟨p2, x6, x4.1⟩ : api_Node)] : (List api_Node))) (by simp) (by rfl)) (.nil _)))) opsS_nil))))))) (out_new (i := 0) (by decide) rfl rfl (out_new (i := 6) (by decide) rfl rfl out_nil)) fun a95 w95 s95 => ?_
              obtain ⟨g1, h18⟩ := guard_some h17; clear h17
              refine seq_opx (B' := (fun v3 : Value => [BF b1 39 (karr 32 (kint .u8)) p2, BF b2 44 k_api_Op p3, RowF v3 46 k_api_Node (y1 ++ ([(⟨p2, x6, x4.1⟩ : api_Node)] : (List api_Node)))])) s95 rfl rfl (of_decide_eq_true rfl) (ob_appendL2 (A := [_, _]) rfl Try.underlying22 ap46 (Zr.iso (f := t_api_Node) (x := (⟨(List.replicate 32 (0 : Int)), (⟨(0 : Int), (0 : Int), [], (0 : Int), [], (List.replicate 32 (0 : Int)), (List.replicate 32 (0 : Int)), [], []⟩ : api_Op), []⟩ : api_Node)) (Zr.pair (Zr.arr 32 (Zr.int .u8)) (Zr.pair (Zr.iso (f := t_api_Op) (x := (⟨(0 : Int), (0 : Int), [], (0 : Int), [], (List.replicate 32 (0 : Int)), (List.replicate 32 (0 : Int)), [], []⟩ : api_Op)) (Zr.pair (Zr.int .i64) (Zr.pair (Zr.int .u32) (Zr.pair (Zr.sl _) (Zr.pair (Zr.int .i64) (Zr.pair (Zr.sl _) (Zr.pair (Zr.arr 32 (Zr.int .u8)) (Zr.pair (Zr.arr 32 (Zr.int .u8)) (Zr.pair Zr.str (Zr.pair (Zr.sl _) Zr.nil)))))))))) (Zr.pair (Zr.sl _) Zr.nil)))) (by decide) (.tmp rfl) (.tmp rfl) rfl g1) fun v3 a96 w96 s96 => ?_; clear s95
              refine seq_op s96 rfl rfl (of_decide_eq_true rfl) (ob_assign rfl (.tmp rfl)) fun a97 w97 s97 => ?_; clear s96
              refine seq_op s97 rfl rfl (of_decide_eq_true rfl) (ob_assign rfl (opd_int rfl)) fun a98 w98 s98 => ?_; clear s97
              refine wpList_nil ?_
              refine then_normal ?_
              refine hK19 _ _ ?_
              have s99 := s98.sub (.cons (t := 6) rfl (.cons (t := 7) rfl .nil)); clear s98
              have s100 := St.drop (A := []) s99; clear s99
              have s101 := St.drop (A := []) s100; clear s100
              refine wp_ret ?_
              obtain rfl := Option.some.inj h18
              exact leaveXD (D := []) v3 s101 rfl (.inl rfl) rfl (.cons (.tmp rfl) (.cons (.tmp rfl) .nil)) rfl
            refine wp_block ?_
            have s102 := s92.perm (toFront [_, _, _] (toFront [_, _] (toFront [_] (toFront [] (List.Perm.refl _))))); clear s92
            refine wp_loop_fuel (fun m (q : Int × (List api_Node)) => graph_Add.l1 k p1 p3 p2 x4 m q.1 q.2) r (fun _ => rfl) (fun q a w => ∃ (v4 : Value), St ⟨74, w0, ok, (idsOf [])⟩ [BF b1 39 (karr 32 (kint .u8)) p2, BF b2 44 k_api_Op p3, RowF v1 3 (kint .i64) x4.1, RowF v4 46 k_api_Node q.2] [(4, (ptrB b1 0)), (5, (ptrB b2 0)), (8, (is v1)), (10, (is v4)), (47, ((ksl k_api_Node).V p1)), (48, ((kint .i64).V (p1.length : Int))), (49, ((kint .i64).V q.1))] a w) ?_ k ((0 : Int), ([] : (List api_Node))) _ _ h15 ⟨(nilRow 35), (s102.sub (.cons rfl (.cons rfl (.cons rfl (.cons rfl (.cons rfl (.cons rfl (.cons rfl .nil))))))))⟩
            rintro n1 ⟨y2, y3⟩ a103 w103 h19 ⟨v4, s103⟩ K20 hK20
            replace h19 : graph_Add.l1 k p1 p3 p2 x4 (n1 + 1) y2 y3 = some r := h19; rw [graph_Add.l1] at h19
            have h20 := h19; clear h19
            refine wp_seq_k fun K21 hK21 => ?_
            refine wp_region_lit ?_
            refine seq_op s103 rfl rfl (of_decide_eq_true rfl) (ob_lss rfl (.tmp rfl) (.tmp rfl)) fun a104 w104 s104 => ?_; clear s103
            refine wpList_nil ?_
            refine then_normal ?_
            refine hK21 _ _ ?_
            have s105 := s104.sub (.cons (t := 4) rfl (.cons (t := 5) rfl (.cons (t := 8) rfl (.cons (t := 10) rfl (.cons (t := 47) rfl (.cons (t := 48) rfl (.cons (t := 49) rfl (.cons (t := 50) rfl .nil)))))))); clear s104
            refine wp_seq_k fun K22 hK22 => ?_
            refine cond_split s105 (.tmp rfl) (fun hc6 => ?_) (fun hc6 => ?_)
            · replace h20 := ite_t hc6 h20
              have h21 := h20; clear h20
              refine wp_skip ?_
              refine then_normal ?_
              refine hK22 _ _ ?_
              have s106 := s105.sub (.cons (t := 4) rfl (.cons (t := 5) rfl (.cons (t := 8) rfl (.cons (t := 10) rfl (.cons (t := 47) rfl (.cons (t := 48) rfl (.cons (t := 49) rfl .nil))))))); clear s105
              refine wp_seq_k fun K23 hK23 => ?_
              refine wp_block ?_
              refine wp_seq_k fun K24 hK24 => ?_
              refine wp_region_lit ?_
              obtain ⟨x7, e_x7, h22⟩ := bind_some h21; clear h21
              refine seq_op s106 rfl rfl (of_decide_eq_true rfl) (ob_indexAddrs rfl Try.underlying22 sz46 (.tmp rfl) (.tmp rfl) e_x7) fun a107 w107 s107 => ?_; clear s106
              refine seq_op s107 rfl rfl (of_decide_eq_true rfl) (ob_loadr rfl tk46 (.tmp rfl)) fun a108 w108 s108 => ?_; clear s107
              refine seq_opx (B' := (fun b3 : Nat => [BF b3 46 k_api_Node (⟨(List.replicate 32 (0 : Int)), (⟨(0 : Int), (0 : Int), [], (0 : Int), [], (List.replicate 32 (0 : Int)), (List.replicate 32 (0 : Int)), [], []⟩ : api_Op), []⟩ : api_Node), BF b1 39 (karr 32 (kint .u8)) p2, BF b2 44 k_api_Op p3, RowF v1 3 (kint .i64) x4.1, RowF v4 46 k_api_Node y3])) s108 rfl rfl (of_decide_eq_true rfl) (ob_new (k := k_api_Node) rfl zz46 (Zr.iso (f := t_api_Node) (x := (⟨(List.replicate 32 (0 : Int)), (⟨(0 : Int), (0 : Int), [], (0 : Int), [], (List.replicate 32 (0 : Int)), (List.replicate 32 (0 : Int)), [], []⟩ : api_Op), []⟩ : api_Node)) (Zr.pair (Zr.arr 32 (Zr.int .u8)) (Zr.pair (Zr.iso (f := t_api_Op) (x := (⟨(0 : Int), (0 : Int), [], (0 : Int), [], (List.replicate 32 (0 : Int)), (List.replicate 32 (0 : Int)), [], []⟩ : api_Op)) (Zr.pair (Zr.int .i64) (Zr.pair (Zr.int .u32) (Zr.pair (Zr.sl _) (Zr.pair (Zr.int .i64) (Zr.pair (Zr.sl _) (Zr.pair (Zr.arr 32 (Zr.int .u8)) (Zr.pair (Zr.arr 32 (Zr.int .u8)) (Zr.pair Zr.str (Zr.pair (Zr.sl _) Zr.nil)))))))))) (Zr.pair (Zr.sl _) Zr.nil))))) fun b3 a109 w109 s109 => ?_; clear s108
              refine seq_opx0 (B' := (fun _ : Unit => [BF b3 46 k_api_Node x7, BF b1 39 (karr 32 (kint .u8)) p2, BF b2 44 k_api_Op p3, RowF v1 3 (kint .i64) x4.1, RowF v4 46 k_api_Node y3])) s109 rfl rfl (ob_store (A := []) rfl tk46 (.tmp rfl) (.tmp rfl) rfl (LS.refl _ _ _) rfl) fun _ a110 w110 s110 => ?_; clear s109
              refine wpList_nil ?_
              refine then_normal ?_
              refine hK24 _ _ ?_
              have s111 := s110.sub (.cons (t := 4) rfl (.cons (t := 5) rfl (.cons (t := 8) rfl (.cons (t := 10) rfl (.cons (t := 12) rfl (.cons (t := 47) rfl (.cons (t := 48) rfl (.cons (t := 49) rfl .nil)))))))); clear s110
              obtain ⟨x8, e_x8, h23⟩ := bind_some h22; clear h22
              obtain ⟨x9, e_x9, h24⟩ := bind_some h23; clear h23
              refine wp_goes (Fs := [(is v4), (ptrB b3 0), ((karr 32 (kint .u8)).V x7.Id), (ptrB b3 32), (k_api_Op.V x7.Op), (k_api_Op.V x8), (ptrB b3 103), ((ksl (kint .i64)).V x7.Past), ((ksl (kint .i64)).V x9), (k_api_Node.V (⟨x7.Id, x8, x9⟩ : api_Node)), ((ksl k_api_Node).V ([(⟨x7.Id, x8, x9⟩ : api_Node)] : (List api_Node)))]) (bits := [0, 0, 2, 0, 8, 24, 0, 64, 248, 510, 1022, 2047, 4095]) (m := 11) (todo := 0) mx s111 ?_; clear s111
              refine goes_last (by kernel_rfl) rfl (opsS_cons (.plain _ (Av.old (t := 10) rfl rfl Av.nil) rfl rfl (ob_move rfl (.tmp rfl))) (opsS_cons (.plain _ (Av.old (t := 12) rfl rfl Av.nil) rfl rfl (ob_fieldAddr (off' := 0) rfl Try.underlying46 rfl sz39 (by decide) (.tmp rfl) rfl)) (opsS_cons (.plain _ (Av.new (j := 1) rfl rfl rfl Av.nil) rfl rfl (ob_load rfl tk39 (.tmp rfl) (.head _) (lg_api_Node_Id x7))) (opsS_cons (.plain _ (Av.old (t := 12) rfl rfl Av.nil) rfl rfl (ob_fieldAddr (off' := 32) rfl Try.underlying46 rfl sz44 (by decide) (.tmp rfl) rfl)) (opsS_cons (.plain _ (Av.new (j := 3) rfl rfl rfl Av.nil) rfl rfl (ob_load rfl tk44 (.tmp rfl) (.head _) (lg_api_Node_Op x7))) (opsS_cons (.plain _ (Av.new (j := 4) rfl rfl rfl Av.nil) rfl rfl (ob_callD (args := [_]) rfl .direct hb94 (fun a w s fs gs hf hg => by obtain rfl := hf.unnil; obtain rfl := hg.unnil; exact c_graph_clone k _ _ e_x8 _ _ _ (s.arg (.tmp rfl))))) (opsS_cons (.plain _ (Av.old (t := 12) rfl rfl Av.nil) rfl rfl (ob_fieldAddr (off' := 103) rfl Try.underlying46 rfl sz41 (by decide) (.tmp rfl) rfl)) (opsS_cons (.plain _ (Av.new (j := 6) rfl rfl rfl Av.nil) rfl rfl (ob_load rfl tk41 (.tmp rfl) (.head _) (lg_api_Node_Past x7))) (opsS_cons (.plain _ (Av.new (j := 7) rfl rfl rfl Av.nil) rfl rfl ((ObF.ob (ob_callF (F := resFact [((ksl (kint .i64)).V x9)]) (args := [_]) rfl .direct hb80 (fun a w s fs gs hf hg => by obtain rfl := hf.unnil; obtain rfl := hg.unnil; exact c_slices_Clone_int_int k _ _ e_x9 _ _ _ (s.arg (.tmp rfl))) (by exact fun g => ResF.all (.row (.head _) (KFlat.int _) .nil)))))) (opsS_cons (.plain _ (Av.new (j := 2) rfl rfl rfl (Av.new (j := 5) rfl rfl rfl (Av.new (j := 8) rfl rfl rfl Av.nil))) rfl rfl (ob_mkStruct (K := k_api_Node) (X0 := (⟨(List.replicate 32 (0 : Int)), (⟨(0 : Int), (0 : Int), [], (0 : Int), [], (List.replicate 32 (0 : Int)), (List.replicate 32 (0 : Int)), [], []⟩ : api_Op), []⟩ : api_Node)) rfl Try.underlying46 zz46 rfl pl46 (Zr.iso (f := t_api_Node) (x := (⟨(List.replicate 32 (0 : Int)), (⟨(0 : Int), (0 : Int), [], (0 : Int), [], (List.replicate 32 (0 : Int)), (List.replicate 32 (0 : Int)), [], []⟩ : api_Op), []⟩ : api_Node)) (Zr.pair (Zr.arr 32 (Zr.int .u8)) (Zr.pair (Zr.iso (f := t_api_Op) (x := (⟨(0 : Int), (0 : Int), [], (0 : Int), [], (List.replicate 32 (0 : Int)), (List.replicate 32 (0 : Int)), [], []⟩ : api_Op)) (Zr.pair (Zr.int .i64) (Zr.pair (Zr.int .u32) (Zr.pair (Zr.sl _) (Zr.pair (Zr.int .i64) (Zr.pair (Zr.sl _) (Zr.pair (Zr.arr 32 (Zr.int .u8)) (Zr.pair (Zr.arr 32 (Zr.int .u8)) (Zr.pair Zr.str (Zr.pair (Zr.sl _) Zr.nil)))))))))) (Zr.pair (Zr.sl _) Zr.nil)))) (.cons (.tmp rfl) rfl (ls_api_Node_Id (⟨(List.replicate 32 (0 : Int)), (⟨(0 : Int), (0 : Int), [], (0 : Int), [], (List.replicate 32 (0 : Int)), (List.replicate 32 (0 : Int)), [], []⟩ : api_Op), []⟩ : api_Node) x7.Id) (.cons (.tmp rfl) rfl (ls_api_Node_Op (⟨x7.Id, (⟨(0 : Int), (0 : Int), [], (0 : Int), [], (List.replicate 32 (0 : Int)), (List.replicate 32 (0 : Int)), [], []⟩ : api_Op), []⟩ : api_Node) x8) (.cons (.tmp rfl) rfl (ls_api_Node_Past (⟨x7.Id, x8, []⟩ : api_Node) x9) (.nil _)))))) (opsS_cons (.plain _ (Av.new (j := 9) rfl rfl rfl Av.nil) rfl rfl (ob_mkSlice (k := k_api_Node) (xs := ([(⟨x7.Id, x8, x9⟩ : api_Node)] : (List api_Node))) rfl Try.underlying22 zz46 sz46 (Zr.iso (f := t_api_Node) (x := (⟨(List.replicate 32 (0 : Int)), (⟨(0 : Int), (0 : Int), [], (0 : Int), [], (List.replicate 32 (0 : Int)), (List.replicate 32 (0 : Int)), [], []⟩ : api_Op), []⟩ : api_Node)) (Zr.pair (Zr.arr 32 (Zr.int .u8)) (Zr.pair (Zr.iso (f := t_api_Op) (x := (⟨(0 : Int), (0 : Int), [], (0 : Int), [], (List.replicate 32 (0 : Int)), (List.replicate 32 (0 : Int)), [], []⟩ : api_Op)) (Zr.pair (Zr.int .i64) (Zr.pair (Zr.int .u32) (Zr.pair (Zr.sl _) (Zr.pair (Zr.int .i64) (Zr.pair (Zr.sl _) (Zr.pair (Zr.arr 32 (Zr.int .u8)) (Zr.pair (Zr.arr 32 (Zr.int .u8)) (Zr.pair Zr.str (Zr.pair (Zr.sl _) Zr.nil)))))))))) (Zr.pair (Zr.sl _) Zr.nil)))) (by decide) (by decide) (.cons (.tmp rfl) rfl (LS.arr' (i := 0) (ys := ([(⟨x7.Id, x8, x9⟩ : api_Node)] : (List api_Node))) (by simp) (by rfl)) (.nil _)))) opsS_nil))))))))))) (out_old (t := 4) rfl rfl (out_old (t := 5) rfl rfl (out_old (t := 8) rfl rfl (out_old (t := 10) rfl rfl (out_old (t := 47) rfl rfl (out_old (t := 48) rfl rfl (out_old (t := 49) rfl rfl (out_new (i := 0) (by decide) rfl rfl (out_new (i := 10) (by decide) rfl rfl out_nil))))))))) fun a112 w112 s112 => ?_
              obtain ⟨g2, h25⟩ := guard_some h24; clear h24
              refine seq_opx (B' := (fun v5 : Value => [BF b3 46 k_api_Node x7, BF b1 39 (karr 32 (kint .u8)) p2, BF b2 44 k_api_Op p3, RowF v1 3 (kint .i64) x4.1, RowF v5 46 k_api_Node (y3 ++ ([(⟨x7.Id, x8, x9⟩ : api_Node)] : (List api_Node)))])) s112 rfl rfl (of_decide_eq_true rfl) (ob_appendL2 (A := [_, _, _, _]) rfl Try.underlying22 ap46 (Zr.iso (f := t_api_Node) (x := (⟨(List.replicate 32 (0 : Int)), (⟨(0 : Int), (0 : Int), [], (0 : Int), [], (List.replicate 32 (0 : Int)), (List.replicate 32 (0 : Int)), [], []⟩ : api_Op), []⟩ : api_Node)) (Zr.pair (Zr.arr 32 (Zr.int .u8)) (Zr.pair (Zr.iso (f := t_api_Op) (x := (⟨(0 : Int), (0 : Int), [], (0 : Int), [], (List.replicate 32 (0 : Int)), (List.replicate 32 (0 : Int)), [], []⟩ : api_Op)) (Zr.pair (Zr.int .i64) (Zr.pair (Zr.int .u32) (Zr.pair (Zr.sl _) (Zr.pair (Zr.int .i64) (Zr.pair (Zr.sl _) (Zr.pair (Zr.arr 32 (Zr.int .u8)) (Zr.pair (Zr.arr 32 (Zr.int .u8)) (Zr.pair Zr.str (Zr.pair (Zr.sl _) Zr.nil)))))))))) (Zr.pair (Zr.sl _) Zr.nil)))) (by decide) (.tmp rfl) (.tmp rfl) rfl g2) fun v5 a113 w113 s113 => ?_; clear s112
              refine seq_op s113 rfl rfl (of_decide_eq_true rfl) (ob_assign rfl (.tmp rfl)) fun a114 w114 s114 => ?_; clear s113
              refine wpList_nil ?_
              refine in_normal ?_
              refine then_normal ?_
              refine hK23 _ _ ?_
              have s115 := s114.sub (.cons (t := 4) rfl (.cons (t := 5) rfl (.cons (t := 8) rfl (.cons (t := 10) rfl (.cons (t := 47) rfl (.cons (t := 48) rfl (.cons (t := 49) rfl .nil))))))); clear s114
              have s116 := St.drop (A := []) s115; clear s115
              refine wp_region_lit ?_
              refine seq_op s116 rfl rfl (of_decide_eq_true rfl) (ob_add rfl (.tmp rfl) (opd_int rfl)) fun a117 w117 s117 => ?_; clear s116
              refine seq_op s117 rfl rfl (of_decide_eq_true rfl) (ob_move rfl (.tmp rfl)) fun a118 w118 s118 => ?_; clear s117
              refine wpList_nil ?_
              refine then_normal ?_
              exact hK20 ((iadd .i64 y2 (1 : Int)), (y3 ++ ([(⟨x7.Id, x8, x9⟩ : api_Node)] : (List api_Node)))) _ _ h25 ⟨v5, (s118.sub (.cons rfl (.cons rfl (.cons rfl (.cons rfl (.cons rfl (.cons rfl (.cons rfl .nil))))))))⟩
            · replace h20 := ite_f hc6 h20
              have h26 := h20; clear h20
              refine wp_exit ?_
              refine (then_exit (then_exit (in_here ?_)))
              refine then_normal ?_
              exact hj1 y3 v4 _ _ h26 (s105.sub (.cons rfl (.cons rfl (.cons rfl (.cons rfl .nil)))))

/- 43 cabal/graph.Add -/
theorem c_graph_Add_w2 (k : Nat) (p1 : (List api_Node)) (p2 : (List Int)) (p3 : api_Op) (r : ((List api_Node) × Int)) (h0 : graph_Add_w2 k p1 p2 p3 = some r) (ok : Ok) (w0 : World) (z0 : Value) (z1 : Value) (z2 : Value) (u0 : ((ksl k_api_Node).V p1).holds ok w0 z0) (u1 : ((karr 32 (kint .u8)).V p2).holds ok w0 z1) (u2 : (k_api_Op.V p3).holds ok w0 z2) :
    Gives Try.prog 43 [z0, z1, z2] ok w0 (resFact [(ksl k_api_Node).V r.1, (kint .i64).V r.2]) := by
  unfold graph_Add_w2 at h0
  refine enter (N := 74) Try.func43 rfl rfl (of_decide_eq_true rfl) (.cons u0 (.cons u1 (.cons u2 .nil))) fun a1 s1 => ?_
  refine wp_seq_k fun K1 hK1 => ?_
  refine wp_region_lit ?_
  refine seq_opx (B' := (fun b1 : Nat => [BF b1 39 (karr 32 (kint .u8)) p2])) s1 rfl rfl (of_decide_eq_true rfl) (ob_box rfl (.tmp rfl)) fun b1 a2 w2 s2 => ?_; clear s1
  refine seq_opx (B' := (fun b2 : Nat => [BF b2 44 k_api_Op p3, BF b1 39 (karr 32 (kint .u8)) p2])) s2 rfl rfl (of_decide_eq_true rfl) (ob_box rfl (.tmp rfl)) fun b2 a3 w3 s3 => ?_; clear s2
  refine seq_op s3 rfl rfl (of_decide_eq_true rfl) (ob_assign rfl opd_is) fun a4 w4 s4 => ?_; clear s3
  have s5 := St.adopt s4 (G := RowF (nilRow 36) 46 k_api_Node []) rfl (rowNilN _ _ _ _ _); clear s4
  refine seq_op s5 rfl rfl (of_decide_eq_true rfl) (ob_assign rfl (opd_int rfl)) fun a6 w6 s6 => ?_; clear s5
  refine wpList_nil ?_
  refine then_normal ?_
  refine hK1 _ _ ?_
  have s7 := s6.sub (.cons (t := 0) rfl (.cons (t := 4) rfl (.cons (t := 5) rfl .nil))); clear s6
  have s8 := St.drop (A := []) s7; clear s7
  refine wp_seq_k fun K2 hK2 => ?_
  refine wp_seq_k fun K3 hK3 => ?_
  refine wp_region_lit ?_
  refine seq_op s8 rfl rfl (of_decide_eq_true rfl) (ob_move rfl (.tmp rfl)) fun a9 w9 s9 => ?_; clear s8
  obtain ⟨x1, e_x1, h1⟩ := bind_some h0; clear h0
  refine seq_op s9 rfl rfl (of_decide_eq_true rfl) (ob_callD (args := [_]) rfl .direct hb24 (fun a w s fs gs hf hg => by obtain rfl := hf.unnil; obtain rfl := hg.unnil; exact c_graph_Right k _ _ e_x1 _ _ _ (s.arg (.tmp rfl)))) fun a10 w10 s10 => ?_; clear s9
  refine seq_op s10 rfl rfl (of_decide_eq_true rfl) (ob_not rfl (.tmp rfl)) fun a11 w11 s11 => ?_; clear s10
  refine seq_op s11 rfl rfl (of_decide_eq_true rfl) (ob_move rfl (.tmp rfl)) fun a12 w12 s12 => ?_; clear s11
  refine seq_opg s12 rfl rfl rfl rfl (of_decide_eq_true rfl) (fun hb => ob_load rfl tk44 (.tmp rfl) (.head _) (LG.refl _ _)) fun a13 w13 s13 => ?_; clear s12
  obtain ⟨x2, e_x2, h2⟩ := bind_some h1; clear h1
  refine seq_opg s13 rfl rfl rfl rfl (of_decide_eq_true rfl) (fun hb => (Ob.uncond (t := 17) hb rfl (ob_callD (args := [_]) rfl .direct hb91 (fun a w s fs gs hf hg => by obtain rfl := hf.unnil; obtain rfl := hg.unnil; exact c_frame_Right k _ _ (ite_t hb e_x2) _ _ _ (s.arg (.tmp rfl)))))) fun a14 w14 s14 => ?_; clear s13
  refine seq_opg s14 rfl rfl rfl rfl (of_decide_eq_true rfl) (fun hb => (Ob.uncond (t := 18) hb rfl (ob_not rfl (.tmp rfl)))) fun a15 w15 s15 => ?_; clear s14
  refine seq_op s15 rfl rfl (of_decide_eq_true rfl) (ob_or2 rfl (.tmp rfl) opd_bool (.tmp rfl)) fun a16 w16 s16 => ?_; clear s15
  refine wpList_nil ?_
  refine then_normal ?_
  refine hK3 _ _ ?_
  have s17 := s16.sub (.cons (t := 0) rfl (.cons (t := 4) rfl (.cons (t := 5) rfl (.cons (t := 20) rfl .nil)))); clear s16
  refine cond_split s17 (.tmp rfl) (fun hc1 => ?_) (fun hc1 => ?_)
  · replace h2 := ite_t hc1 h2
    have h3 := h2; clear h2
    refine wp_seq_k fun K4 hK4 => ?_
    refine wp_region_lit ?_
    refine seq_op s17 rfl rfl (of_decide_eq_true rfl) (ob_assign rfl opd_is) fun a18 w18 s18 => ?_; clear s17
    have s19 := St.adopt s18 (G := RowF (nilRow 37) 46 k_api_Node []) rfl (rowNilN _ _ _ _ _); clear s18
    refine seq_op s19 rfl rfl (of_decide_eq_true rfl) (ob_assign rfl (opd_int rfl)) fun a20 w20 s20 => ?_; clear s19
    refine wpList_nil ?_
    refine then_normal ?_
    refine hK4 _ _ ?_
    have s21 := s20.sub (.cons (t := 6) rfl (.cons (t := 7) rfl .nil)); clear s20
    have s22 := St.drop (A := [_]) s21; clear s21
    have s23 := St.drop (A := [_]) s22; clear s22
    refine wp_ret ?_
    have s24 := St.freezeAllM (A := []) s23 (ts := [6]) (.cons rfl .nil); clear s23
    obtain rfl := Option.some.inj h3
    exact leave s24 (.inl rfl) rfl (.cons (.tmp rfl) (.cons (.tmp rfl) .nil))
  · replace h2 := ite_f hc1 h2
    have h4 := h2; clear h2
    refine wp_skip ?_
    refine then_normal ?_
    refine hK2 _ _ ?_
    have s25 := s17.sub (.cons (t := 0) rfl (.cons (t := 4) rfl (.cons (t := 5) rfl .nil))); clear s17
    refine wp_seq_k fun K5 hK5 => ?_
    refine wp_block ?_
    refine wp_seq_k fun K6 hK6 => ?_
    refine wp_region_lit ?_
    refine seq_op s25 rfl rfl (of_decide_eq_true rfl) (ob_move rfl (.tmp rfl)) fun a26 w26 s26 => ?_; clear s25
    refine seq_op s26 rfl rfl (of_decide_eq_true rfl) (ob_load rfl tk39 (.tmp rfl) (.tail _ (.head _)) (LG.refl _ _)) fun a27 w27 s27 => ?_; clear s26
    obtain ⟨x3, e_x3, h5⟩ := bind_some h4; clear h4
    refine seq_op s27 rfl rfl (of_decide_eq_true rfl) (ob_callD (args := [_, _]) rfl .direct hb48 (fun a w s fs gs hf hg => by obtain rfl := hf.unnil; obtain rfl := hg.unnil; exact c_graph_Find k _ _ _ e_x3 _ _ _ _ (s.arg (.tmp rfl)) (s.arg (.tmp rfl)))) fun a28 w28 s28 => ?_; clear s27
    refine seq_op s28 rfl rfl (of_decide_eq_true rfl) (ob_geq rfl (.tmp rfl) (opd_int rfl)) fun a29 w29 s29 => ?_; clear s28
    refine seq_op s29 rfl rfl (of_decide_eq_true rfl) (ob_assign rfl (.tmp rfl)) fun a30 w30 s30 => ?_; clear s29
    refine wpList_nil ?_
    refine then_normal ?_
    refine hK6 _ _ ?_
    have s31 := s30.sub (.cons (t := 0) rfl (.cons (t := 4) rfl (.cons (t := 5) rfl (.cons (t := 21) rfl .nil)))); clear s30
    refine cond_split s31 (.tmp rfl) (fun hc2 => ?_) (fun hc2 => ?_)
    · replace h5 := ite_t hc2 h5
      have h6 := h5; clear h5
      refine wp_seq_k fun K7 hK7 => ?_
      refine wp_region_lit ?_
      refine seq_op s31 rfl rfl (of_decide_eq_true rfl) (ob_assign rfl opd_is) fun a32 w32 s32 => ?_; clear s31
      have s33 := St.adopt s32 (G := RowF (nilRow 38) 46 k_api_Node []) rfl (rowNilN _ _ _ _ _); clear s32
      refine seq_op s33 rfl rfl (of_decide_eq_true rfl) (ob_assign rfl (opd_int rfl)) fun a34 w34 s34 => ?_; clear s33
      refine wpList_nil ?_
      refine then_normal ?_
      refine hK7 _ _ ?_
      have s35 := s34.sub (.cons (t := 6) rfl (.cons (t := 7) rfl .nil)); clear s34
      have s36 := St.drop (A := [_]) s35; clear s35
      have s37 := St.drop (A := [_]) s36; clear s36
      refine wp_ret ?_
      have s38 := St.freezeAllM (A := []) s37 (ts := [6]) (.cons rfl .nil); clear s37
      obtain rfl := Option.some.inj h6
      exact leave s38 (.inl rfl) rfl (.cons (.tmp rfl) (.cons (.tmp rfl) .nil))
    · replace h5 := ite_f hc2 h5
      have h7 := h5; clear h5
      refine wp_seq_k fun K8 hK8 => ?_
      refine wp_region_lit ?_
      refine seq_op s31 rfl rfl (of_decide_eq_true rfl) (ob_move rfl (.tmp rfl)) fun a39 w39 s39 => ?_; clear s31
      refine seq_op s39 rfl rfl (of_decide_eq_true rfl) (ob_lens rfl Try.underlying22 (.tmp rfl)) fun a40 w40 s40 => ?_; clear s39
      refine seq_op s40 rfl rfl (of_decide_eq_true rfl) (ob_eql rfl (.tmp rfl) (opd_int rfl)) fun a41 w41 s41 => ?_; clear s40
      refine seq_op s41 rfl rfl (of_decide_eq_true rfl) (ob_assign rfl (.tmp rfl)) fun a42 w42 s42 => ?_; clear s41
      refine wpList_nil ?_
      refine then_normal ?_
      refine hK8 _ _ ?_
      have s43 := s42.sub (.cons (t := 0) rfl (.cons (t := 4) rfl (.cons (t := 5) rfl (.cons (t := 26) rfl .nil)))); clear s42
      refine cond_split s43 (.tmp rfl) (fun hc3 => ?_) (fun hc3 => ?_)
      · replace h7 := ite_t hc3 h7
        have h8 := h7; clear h7
        refine wp_seq_k fun K9 hK9 => ?_
        refine wp_region_lit ?_
        refine seq_op s43 rfl rfl (of_decide_eq_true rfl) (ob_assign rfl opd_is) fun a44 w44 s44 => ?_; clear s43
        have s45 := St.adopt s44 (G := RowF (nilRow 39) 46 k_api_Node []) rfl (rowNilN _ _ _ _ _); clear s44
        refine seq_op s45 rfl rfl (of_decide_eq_true rfl) (ob_assign rfl (opd_int rfl)) fun a46 w46 s46 => ?_; clear s45
        refine wpList_nil ?_
        refine then_normal ?_
        refine hK9 _ _ ?_
        have s47 := s46.sub (.cons (t := 6) rfl (.cons (t := 7) rfl .nil)); clear s46
        have s48 := St.drop (A := [_]) s47; clear s47
        have s49 := St.drop (A := [_]) s48; clear s48
        refine wp_ret ?_
        have s50 := St.freezeAllM (A := []) s49 (ts := [6]) (.cons rfl .nil); clear s49
        obtain rfl := Option.some.inj h8
        exact leave s50 (.inl rfl) rfl (.cons (.tmp rfl) (.cons (.tmp rfl) .nil))
      · replace h7 := ite_f hc3 h7
        have h9 := h7; clear h7
        refine wp_skip ?_
        refine in_normal ?_
        refine then_normal ?_
        refine hK5 _ _ ?_
        have s51 := s43.sub (.cons (t := 0) rfl (.cons (t := 4) rfl (.cons (t := 5) rfl .nil))); clear s43
        refine wp_seq_k fun K10 hK10 => ?_
        refine wp_region_lit ?_
        refine seq_op s51 rfl rfl (of_decide_eq_true rfl) (ob_move rfl (.tmp rfl)) fun a52 w52 s52 => ?_; clear s51
        refine seq_op s52 rfl rfl (of_decide_eq_true rfl) (ob_fieldAddr (off' := 2) rfl Try.underlying44 rfl sz40 (by decide) (.tmp rfl) rfl) fun a53 w53 s53 => ?_; clear s52
        refine seq_op s53 rfl rfl (of_decide_eq_true rfl) (ob_load rfl tk40 (.tmp rfl) (.head _) (lg_api_Op_Parents p3)) fun a54 w54 s54 => ?_; clear s53
        obtain ⟨x4, e_x4, h10⟩ := bind_some h9; clear h9
        refine seq_opx (B' := (fun v1 : Value => [RowF v1 3 (kint .i64) x4.1, BF b2 44 k_api_Op p3, BF b1 39 (karr 32 (kint .u8)) p2])) s54 rfl rfl (of_decide_eq_true rfl) (ob_callL (args := [_, _]) (L := []) rfl .direct hb92 (List.Perm.refl _) (fun a w s fs gs hf hg => by obtain rfl := hf.unnil; obtain rfl := hg.unnil; exact c_graph_past k _ _ _ e_x4 _ _ _ _ (s.arg (.tmp rfl)) (s.arg (.tmp rfl))) (by exact fun _ => rfl)) fun v1 a55 w55 s55 => ?_; clear s54
        refine seq_op s55 rfl rfl (of_decide_eq_true rfl) (ob_move rfl (.tmp rfl)) fun a56 w56 s56 => ?_; clear s55
        refine seq_op s56 rfl rfl (of_decide_eq_true rfl) (ob_extract rfl (.tmp rfl) rfl) fun a57 w57 s57 => ?_; clear s56
        refine seq_op s57 rfl rfl (of_decide_eq_true rfl) (ob_extract rfl (.tmp rfl) rfl) fun a58 w58 s58 => ?_; clear s57
        refine seq_op s58 rfl rfl (of_decide_eq_true rfl) (ob_assign rfl (.tmp rfl)) fun a59 w59 s59 => ?_; clear s58
        refine seq_op s59 rfl rfl (of_decide_eq_true rfl) (ob_assign rfl (.tmp rfl)) fun a60 w60 s60 => ?_; clear s59
        refine wpList_nil ?_
        refine then_normal ?_
        refine hK10 _ _ ?_
        have s61 := s60.sub (.cons (t := 0) rfl (.cons (t := 4) rfl (.cons (t := 5) rfl (.cons (t := 8) rfl (.cons (t := 9) rfl .nil))))); clear s60
        refine wp_seq_k fun K11 hK11 => ?_
        refine wp_block ?_
        refine wp_seq_k fun K12 hK12 => ?_
        refine wp_region_lit ?_
        refine seq_op s61 rfl rfl (of_decide_eq_true rfl) (ob_move rfl (.tmp rfl)) fun a62 w62 s62 => ?_; clear s61
        refine seq_op s62 rfl rfl (of_decide_eq_true rfl) (ob_neq rfl (.tmp rfl) (opd_int rfl)) fun a63 w63 s63 => ?_; clear s62
        refine seq_op s63 rfl rfl (of_decide_eq_true rfl) (ob_assign rfl (.tmp rfl)) fun a64 w64 s64 => ?_; clear s63
        refine wpList_nil ?_
        refine then_normal ?_
        refine hK12 _ _ ?_
        have s65 := s64.sub (.cons (t := 0) rfl (.cons (t := 4) rfl (.cons (t := 5) rfl (.cons (t := 8) rfl (.cons (t := 9) rfl (.cons (t := 37) rfl .nil)))))); clear s64
        refine cond_split s65 (.tmp rfl) (fun hc4 => ?_) (fun hc4 => ?_)
        · replace h10 := ite_t hc4 h10
          have h11 := h10; clear h10
          refine wp_seq_k fun K13 hK13 => ?_
          refine wp_region_lit ?_
          refine seq_op s65 rfl rfl (of_decide_eq_true rfl) (ob_move rfl (.tmp rfl)) fun a66 w66 s66 => ?_; clear s65
          refine seq_op s66 rfl rfl (of_decide_eq_true rfl) (ob_assign rfl opd_is) fun a67 w67 s67 => ?_; clear s66
          have s68 := St.adopt s67 (G := RowF (nilRow 40) 46 k_api_Node []) rfl (rowNilN _ _ _ _ _); clear s67
          refine seq_op s68 rfl rfl (of_decide_eq_true rfl) (ob_assign rfl (.tmp rfl)) fun a69 w69 s69 => ?_; clear s68
          refine wpList_nil ?_
          refine then_normal ?_
          refine hK13 _ _ ?_
          have s70 := s69.sub (.cons (t := 6) rfl (.cons (t := 7) rfl .nil)); clear s69
          have s71 := St.drop (A := [_]) s70; clear s70
          have s72 := St.drop (A := [_]) s71; clear s71
          have s73 := St.drop (A := [_]) s72; clear s72
          refine wp_ret ?_
          have s74 := St.freezeAllM (A := []) s73 (ts := [6]) (.cons rfl .nil); clear s73
          obtain rfl := Option.some.inj h11
          exact leave s74 (.inl rfl) rfl (.cons (.tmp rfl) (.cons (.tmp rfl) .nil))
        · replace h10 := ite_f hc4 h10
          have h12 := h10; clear h10
          refine wp_seq_k fun K14 hK14 => ?_
          refine wp_region_lit ?_
          refine seq_op s65 rfl rfl (of_decide_eq_true rfl) (ob_move rfl (.tmp rfl)) fun a75 w75 s75 => ?_; clear s65
          refine seq_op s75 rfl rfl (of_decide_eq_true rfl) (ob_load rfl tk44 (.tmp rfl) (.tail _ (.head _)) (LG.refl _ _)) fun a76 w76 s76 => ?_; clear s75
          refine seq_op s76 rfl rfl (of_decide_eq_true rfl) (ob_move rfl (.tmp rfl)) fun a77 w77 s77 => ?_; clear s76
          obtain ⟨x5, e_x5, h13⟩ := bind_some h12; clear h12
          refine seq_op s77 rfl rfl (of_decide_eq_true rfl) ((ob_lendG (L := [_]) (List.Perm.refl _) (.cons (t := 44) rfl (lendRow (.head _)) .nil) (Flat.res1 (Flat.V KFlat.bool)) (fun _ => ob_callD (args := [_, _, _]) rfl .direct hb93 (fun a w s fs gs hf hg => by obtain rfl := hf.unnil; obtain rfl := hg.unnil; exact c_graph_turn k _ _ _ _ e_x5 _ _ _ _ _ (s.arg (.tmp rfl)) (s.arg (.tmp rfl)) (s.arg (.tmp rfl)))))) fun a78 w78 s78 => ?_; clear s77
          refine seq_op s78 rfl rfl (of_decide_eq_true rfl) (ob_not rfl (.tmp rfl)) fun a79 w79 s79 => ?_; clear s78
          refine seq_op s79 rfl rfl (of_decide_eq_true rfl) (ob_assign rfl (.tmp rfl)) fun a80 w80 s80 => ?_; clear s79
          refine wpList_nil ?_
          refine then_normal ?_
          refine hK14 _ _ ?_
          have s81 := s80.sub (.cons (t := 0) rfl (.cons (t := 4) rfl (.cons (t := 5) rfl (.cons (t := 8) rfl (.cons (t := 41) rfl .nil))))); clear s80
          refine cond_split s81 (.tmp rfl) (fun hc5 => ?_) (fun hc5 => ?_)
          · replace h13 := ite_t hc5 h13
            have h14 := h13; clear h13
            refine wp_seq_k fun K15 hK15 => ?_
            refine wp_region_lit ?_
            refine seq_op s81 rfl rfl (of_decide_eq_true rfl) (ob_assign rfl opd_is) fun a82 w82 s82 => ?_; clear s81
            have s83 := St.adopt s82 (G := RowF (nilRow 41) 46 k_api_Node []) rfl (rowNilN _ _ _ _ _); clear s82
            refine seq_op s83 rfl rfl (of_decide_eq_true rfl) (ob_assign rfl (opd_int rfl)) fun a84 w84 s84 => ?_; clear s83
            refine wpList_nil ?_
            refine then_normal ?_
            refine hK15 _ _ ?_
            have s85 := s84.sub (.cons (t := 6) rfl (.cons (t := 7) rfl .nil)); clear s84
            have s86 := St.drop (A := [_]) s85; clear s85
            have s87 := St.drop (A := [_]) s86; clear s86
            have s88 := St.drop (A := [_]) s87; clear s87
            refine wp_ret ?_
            have s89 := St.freezeAllM (A := []) s88 (ts := [6]) (.cons rfl .nil); clear s88
            obtain rfl := Option.some.inj h14
            exact leave s89 (.inl rfl) rfl (.cons (.tmp rfl) (.cons (.tmp rfl) .nil))
          · replace h13 := ite_f hc5 h13
            have h15 := h13; clear h13
            refine wp_skip ?_
            refine in_normal ?_
            refine then_normal ?_
            refine hK11 _ _ ?_
            have s90 := s81.sub (.cons (t := 0) rfl (.cons (t := 4) rfl (.cons (t := 5) rfl (.cons (t := 8) rfl .nil)))); clear s81
            refine wp_seq_k fun K16 hK16 => ?_
            refine wp_region_lit ?_
            refine seq_op s90 rfl rfl (of_decide_eq_true rfl) (ob_assign rfl opd_is) fun a91 w91 s91 => ?_; clear s90
            have s92 := St.adopt s91 (G := RowF (nilRow 42) 46 k_api_Node []) rfl (rowNilN _ _ _ _ _); clear s91
            refine wpList_nil ?_
            refine then_normal ?_
            refine hK16 _ _ ?_
            have s93 := s92.sub (.cons (t := 0) rfl (.cons (t := 4) rfl (.cons (t := 5) rfl (.cons (t := 8) rfl (.cons (t := 10) rfl .nil))))); clear s92
            refine wp_seq_k fun K17 hK17 => ?_
            refine wp_seq_k fun K18 hK18 => ?_
            refine wp_region_lit ?_
            refine seq_op s93 rfl rfl (of_decide_eq_true rfl) (ob_move rfl (.tmp rfl)) fun a94 w94 s94 => ?_; clear s93
            refine seq_op s94 rfl rfl (of_decide_eq_true rfl) (ob_lens rfl Try.underlying22 (.tmp rfl)) fun a95 w95 s95 => ?_; clear s94
            refine seq_op s95 rfl rfl (of_decide_eq_true rfl) (ob_move rfl (opd_int rfl)) fun a96 w96 s96 => ?_; clear s95
            refine wpList_nil ?_
            refine then_normal ?_
            refine hK18 _ _ ?_
            have s97 := s96.sub (.cons (t := 4) rfl (.cons (t := 5) rfl (.cons (t := 8) rfl (.cons (t := 10) rfl (.cons (t := 47) rfl (.cons (t := 48) rfl (.cons (t := 49) rfl .nil))))))); clear s96
            have hj1 : ∀ (y1 : (List api_Node)) (v2 : Value) (a : Act) (w : World), (graph_Add_w2.j1 k p3 p2 x4) y1 = some r → St ⟨74, w0, ok, []⟩ [BF b1 39 (karr 32 (kint .u8)) p2, BF b2 44 k_api_Op p3, RowF v1 3 (kint .i64) x4.1, RowF v2 46 k_api_Node y1] [(4, (ptrB b1 0)), (5, (ptrB b2 0)), (8, (is v1)), (10, (is v2))] a w → K17 a w := by
              intro y1 v2 a98 w98 h16 s98
              unfold graph_Add_w2.j1 at h16
              refine hK17 _ _ ?_
              refine wp_seq_k fun K19 hK19 => ?_
              have s99 := St.freezeAllM (A := [_, _]) s98 (ts := [8]) (.cons rfl .nil); clear s98
              obtain ⟨x6, e_x6, h17⟩ := bind_some h16; clear h16
              refine wp_goes (Fs := [(is v2), ((karr 32 (kint .u8)).V p2), (k_api_Op.V p3), (k_api_Op.V x6), ((ksl (kint .i64)).V x4.1), (k_api_Node.V (⟨p2, x6, x4.1⟩ : api_Node)), ((ksl k_api_Node).V ([(⟨p2, x6, x4.1⟩ : api_Node)] : (List api_Node)))]) (bits := [0, 0, 0, 4, 0, 30, 62, 127, 255, 511]) (m := 7) (todo := 0) mx s99 ?_; clear s99
              refine goes_last (by kernel_rfl) rfl (opsS_cons (.plain _ (Av.old (t := 10) rfl rfl Av.nil) rfl rfl (ob_move rfl (.tmp rfl))) (opsS_cons (.plain _ (Av.old (t := 4) rfl rfl Av.nil) rfl rfl (ob_load rfl tk39 (.tmp rfl) (.head _) (LG.refl _ _))) (opsS_cons (.plain _ (Av.old (t := 5) rfl rfl Av.nil) rfl rfl (ob_load rfl tk44 (.tmp rfl) (.tail _ (.head _)) (LG.refl _ _))) (opsS_cons (.plain _ (Av.new (j := 2) rfl rfl rfl Av.nil) rfl rfl (ob_callD (args := [_]) rfl .direct hb94 (fun a w s fs gs hf hg => by obtain rfl := hf.unnil; obtain rfl := hg.unnil; exact c_graph_clone k _ _ e_x6 _ _ _ (s.arg (.tmp rfl))))) (opsS_cons (.plain _ (Av.old (t := 8) rfl rfl Av.nil) rfl rfl (ob_move rfl (.tmp rfl))) (opsS_cons (.plain _ (Av.new (j := 1) rfl rfl rfl (Av.new (j := 3) rfl rfl rfl (Av.new (j := 4) rfl rfl rfl Av.nil))) rfl rfl (ob_mkStruct (K := k_api_Node) (X0 := (⟨(List.replicate 32 (0 : Int)), (⟨(0 : Int), (0 : Int), [], (0 : Int), [], (List.replicate 32 (0 : Int)), (List.replicate 32 (0 : Int)), [], []⟩ : api_Op), []⟩ : api_Node)) rfl Try.underlying46 zz46 rfl pl46 (Zr.iso (f := t_api_Node) (x := (⟨(List.replicate 32 (0 : Int)), (⟨(0 : Int), (0 : Int), [], (0 : Int), [], (List.replicate 32 (0 : Int)), (List.replicate 32 (0 : Int)), [], []⟩ : api_Op), []⟩ : api_Node)) (Zr.pair (Zr.arr 32 (Zr.int .u8)) (Zr.pair (Zr.iso (f := t_api_Op) (x := (⟨(0 : Int), (0 : Int), [], (0 : Int), [], (List.replicate 32 (0 : Int)), (List.replicate 32 (0 : Int)), [], []⟩ : api_Op)) (Zr.pair (Zr.int .i64) (Zr.pair (Zr.int .u32) (Zr.pair (Zr.sl _) (Zr.pair (Zr.int .i64) (Zr.pair (Zr.sl _) (Zr.pair (Zr.arr 32 (Zr.int .u8)) (Zr.pair (Zr.arr 32 (Zr.int .u8)) (Zr.pair Zr.str (Zr.pair (Zr.sl _) Zr.nil)))))))))) (Zr.pair (Zr.sl _) Zr.nil)))) (.cons (.tmp rfl) rfl (ls_api_Node_Id (⟨(List.replicate 32 (0 : Int)), (⟨(0 : Int), (0 : Int), [], (0 : Int), [], (List.replicate 32 (0 : Int)), (List.replicate 32 (0 : Int)), [], []⟩ : api_Op), []⟩ : api_Node) p2) (.cons (.tmp rfl) rfl (ls_api_Node_Op (⟨p2, (⟨(0 : Int), (0 : Int), [], (0 : Int), [], (List.replicate 32 (0 : Int)), (List.replicate 32 (0 : Int)), [], []⟩ : api_Op), []⟩ : api_Node) x6) (.cons (.tmp rfl) rfl (ls_api_Node_Past (⟨p2, x6, []⟩ : api_Node) x4.1) (.nil _)))))) (opsS_cons (.plain _ (Av.new (j := 5) rfl rfl rfl Av.nil) rfl rfl (ob_mkSlice (k := k_api_Node) (xs := ([(⟨p2, x6, x4.1⟩ : api_Node)] : (List api_Node))) rfl Try.underlying22 zz46 sz46 (Zr.iso (f := t_api_Node) (x := (⟨(List.replicate 32 (0 : Int)), (⟨(0 : Int), (0 : Int), [], (0 : Int), [], (List.replicate 32 (0 : Int)), (List.replicate 32 (0 : Int)), [], []⟩ : api_Op), []⟩ : api_Node)) (Zr.pair (Zr.arr 32 (Zr.int .u8)) (Zr.pair (Zr.iso (f := t_api_Op) (x := (⟨(0 : Int), (0 : Int), [], (0 : Int), [], (List.replicate 32 (0 : Int)), (List.replicate 32 (0 : Int)), [], []⟩ : api_Op)) (Zr.pair (Zr.int .i64) (Zr.pair (Zr.int .u32) (Zr.pair (Zr.sl _) (Zr.pair (Zr.int .i64) (Zr.pair (Zr.sl _) (Zr.pair (Zr.arr 32 (Zr.int .u8)) (Zr.pair (Zr.arr 32 (Zr.int .u8)) (Zr.pair Zr.str (Zr.pair (Zr.sl _) Zr.nil)))))))))) (Zr.pair (Zr.sl _) Zr.nil)))) (by decide) (by decide) (.cons (.tmp rfl) rfl (LS.arr' (i := 0) (ys := ([(⟨p2, x6, x4.1⟩ : api_Node)] : (List api_Node))) (by simp) (by rfl)) (.nil _)))) opsS_nil))))))) (out_new (i := 0) (by decide) rfl rfl (out_new (i := 6) (by decide) rfl rfl out_nil)) fun a100 w100 s100 => ?_
              obtain ⟨g1, h18⟩ := guard_some h17; clear h17
              refine seq_opx (B' := (fun v3 : Value => [BF b1 39 (karr 32 (kint .u8)) p2, BF b2 44 k_api_Op p3, RowF v3 46 k_api_Node (y1 ++ ([(⟨p2, x6, x4.1⟩ : api_Node)] : (List api_Node)))])) s100 rfl rfl (of_decide_eq_true rfl) (ob_appendL2 (A := [_, _]) rfl Try.underlying22 ap46 (Zr.iso (f := t_api_Node) (x := (⟨(List.replicate 32 (0 : Int)), (⟨(0 : Int), (0 : Int), [], (0 : Int), [], (List.replicate 32 (0 : Int)), (List.replicate 32 (0 : Int)), [], []⟩ : api_Op), []⟩ : api_Node)) (Zr.pair (Zr.arr 32 (Zr.int .u8)) (Zr.pair (Zr.iso (f := t_api_Op) (x := (⟨(0 : Int), (0 : Int), [], (0 : Int), [], (List.replicate 32 (0 : Int)), (List.replicate 32 (0 : Int)), [], []⟩ : api_Op)) (Zr.pair (Zr.int .i64) (Zr.pair (Zr.int .u32) (Zr.pair (Zr.sl _) (Zr.pair (Zr.int .i64) (Zr.pair (Zr.sl _) (Zr.pair (Zr.arr 32 (Zr.int .u8)) (Zr.pair (Zr.arr 32 (Zr.int .u8)) (Zr.pair Zr.str (Zr.pair (Zr.sl _) Zr.nil)))))))))) (Zr.pair (Zr.sl _) Zr.nil)))) (by decide) (.tmp rfl) (.tmp rfl) rfl g1) fun v3 a101 w101 s101 => ?_; clear s100
              refine seq_op s101 rfl rfl (of_decide_eq_true rfl) (ob_assign rfl (.tmp rfl)) fun a102 w102 s102 => ?_; clear s101
              refine seq_op s102 rfl rfl (of_decide_eq_true rfl) (ob_assign rfl (opd_int rfl)) fun a103 w103 s103 => ?_; clear s102
              refine wpList_nil ?_
              refine then_normal ?_
              refine hK19 _ _ ?_
              have s104 := s103.sub (.cons (t := 6) rfl (.cons (t := 7) rfl .nil)); clear s103
              have s105 := St.drop (A := []) s104; clear s104
              have s106 := St.drop (A := []) s105; clear s105
              refine wp_ret ?_
              have s107 := St.freezeAllM (A := []) s106 (ts := [6]) (.cons rfl .nil); clear s106
              obtain rfl := Option.some.inj h18
              exact leave s107 (.inl rfl) rfl (.cons (.tmp rfl) (.cons (.tmp rfl) .nil))
            refine wp_block ?_
            have s108 := s97.perm (toFront [_, _, _] (toFront [_, _] (toFront [_] (toFront [] (List.Perm.refl _))))); clear s97
            refine wp_loop_fuel (fun m (q : Int × (List api_Node)) => graph_Add_w2.l1 k p1 p3 p2 x4 m q.1 q.2) r (fun _ => rfl) (fun q a w => ∃ (v4 : Value), St ⟨74, w0, ok, []⟩ [BF b1 39 (karr 32 (kint .u8)) p2, BF b2 44 k_api_Op p3, RowF v1 3 (kint .i64) x4.1, RowF v4 46 k_api_Node q.2] [(4, (ptrB b1 0)), (5, (ptrB b2 0)), (8, (is v1)), (10, (is v4)), (47, ((ksl k_api_Node).V p1)), (48, ((kint .i64).V (p1.length : Int))), (49, ((kint .i64).V q.1))] a w) ?_ k ((0 : Int), ([] : (List api_Node))) _ _ h15 ⟨(nilRow 42), (s108.sub (.cons rfl (.cons rfl (.cons rfl (.cons rfl (.cons rfl (.cons rfl (.cons rfl .nil))))))))⟩
            rintro n1 ⟨y2, y3⟩ a109 w109 h19 ⟨v4, s109⟩ K20 hK20
            replace h19 : graph_Add_w2.l1 k p1 p3 p2 x4 (n1 + 1) y2 y3 = some r := h19; rw [graph_Add_w2.l1] at h19
            have h20 := h19; clear h19
            refine wp_seq_k fun K21 hK21 => ?_
            refine wp_region_lit ?_
            refine seq_op s109 rfl rfl (of_decide_eq_true rfl) (ob_lss rfl (.tmp rfl) (.tmp rfl)) fun a110 w110 s110 => ?_; clear s109
            refine wpList_nil ?_
            refine then_normal ?_
            refine hK21 _ _ ?_
            have s111 := s110.sub (.cons (t := 4) rfl (.cons (t := 5) rfl (.cons (t := 8) rfl (.cons (t := 10) rfl (.cons (t := 47) rfl (.cons (t := 48) rfl (.cons (t := 49) rfl (.cons (t := 50) rfl .nil)))))))); clear s110
            refine wp_seq_k fun K22 hK22 => ?_
            refine cond_split s111 (.tmp rfl) (fun hc6 => ?_) (fun hc6 => ?_)
            · replace h20 := ite_t hc6 h20
              have h21 := h20; clear h20
              refine wp_skip ?_
              refine then_normal ?_
              refine hK22 _ _ ?_
              have s112 := s111.sub (.cons (t := 4) rfl (.cons (t := 5) rfl (.cons (t := 8) rfl (.cons (t := 10) rfl (.cons (t := 47) rfl (.cons (t := 48) rfl (.cons (t := 49) rfl .nil))))))); clear s111
              refine wp_seq_k fun K23 hK23 => ?_
              refine wp_block ?_
              refine wp_seq_k fun K24 hK24 => ?_
              refine wp_region_lit ?_
              obtain ⟨x7, e_x7, h22⟩ := bind_some h21; clear h21
              refine seq_op s112 rfl rfl (of_decide_eq_true rfl) (ob_indexAddrs rfl Try.underlying22 sz46 (.tmp rfl) (.tmp rfl) e_x7) fun a113 w113 s113 => ?_; clear s112
              refine seq_op s113 rfl rfl (of_decide_eq_true rfl) (ob_loadr rfl tk46 (.tmp rfl)) fun a114 w114 s114 => ?_; clear s113
              refine seq_opx (B' := (fun b3 : Nat => [BF b3 46 k_api_Node (⟨(List.replicate 32 (0 : Int)), (⟨(0 : Int), (0 : Int), [], (0 : Int), [], (List.replicate 32 (0 : Int)), (List.replicate 32 (0 : Int)), [], []⟩ : api_Op), []⟩ : api_Node), BF b1 39 (karr 32 (kint .u8)) p2, BF b2 44 k_api_Op p3, RowF v1 3 (kint .i64) x4.1, RowF v4 46 k_api_Node y3])) s114 rfl rfl (of_decide_eq_true rfl) (ob_new (k := k_api_Node) rfl zz46 (Zr.iso (f := t_api_Node) (x := (⟨(List.replicate 32 (0 : Int)), (⟨(0 : Int), (0 : Int), [], (0 : Int), [], (List.replicate 32 (0 : Int)), (List.replicate 32 (0 : Int)), [], []⟩ : api_Op), []⟩ : api_Node)) (Zr.pair (Zr.arr 32 (Zr.int .u8)) (Zr.pair (Zr.iso (f := t_api_Op) (x := (⟨(0 : Int), (0 : Int), [], (0 : Int), [], (List.replicate 32 (0 : Int)), (List.replicate 32 (0 : Int)), [], []⟩ : api_Op)) (Zr.pair (Zr.int .i64) (Zr.pair (Zr.int .u32) (Zr.pair (Zr.sl _) (Zr.pair (Zr.int .i64) (Zr.pair (Zr.sl _) (Zr.pair (Zr.arr 32 (Zr.int .u8)) (Zr.pair (Zr.arr 32 (Zr.int .u8)) (Zr.pair Zr.str (Zr.pair (Zr.sl _) Zr.nil)))))))))) (Zr.pair (Zr.sl _) Zr.nil))))) fun b3 a115 w115 s115 => ?_; clear s114
              refine seq_opx0 (B' := (fun _ : Unit => [BF b3 46 k_api_Node x7, BF b1 39 (karr 32 (kint .u8)) p2, BF b2 44 k_api_Op p3, RowF v1 3 (kint .i64) x4.1, RowF v4 46 k_api_Node y3])) s115 rfl rfl (ob_store (A := []) rfl tk46 (.tmp rfl) (.tmp rfl) rfl (LS.refl _ _ _) rfl) fun _ a116 w116 s116 => ?_; clear s115
              refine wpList_nil ?_
              refine then_normal ?_
              refine hK24 _ _ ?_
              have s117 := s116.sub (.cons (t := 4) rfl (.cons (t := 5) rfl (.cons (t := 8) rfl (.cons (t := 10) rfl (.cons (t := 12) rfl (.cons (t := 47) rfl (.cons (t := 48) rfl (.cons (t := 49) rfl .nil)))))))); clear s116
              obtain ⟨x8, e_x8, h23⟩ := bind_some h22; clear h22
              obtain ⟨x9, e_x9, h24⟩ := bind_some h23; clear h23
              refine wp_goes (Fs := [(is v4), (ptrB b3 0), ((karr 32 (kint .u8)).V x7.Id), (ptrB b3 32), (k_api_Op.V x7.Op), (k_api_Op.V x8), (ptrB b3 103), ((ksl (kint .i64)).V x7.Past), ((ksl (kint .i64)).V x9), (k_api_Node.V (⟨x7.Id, x8, x9⟩ : api_Node)), ((ksl k_api_Node).V ([(⟨x7.Id, x8, x9⟩ : api_Node)] : (List api_Node)))]) (bits := [0, 0, 2, 0, 8, 24, 0, 64, 248, 510, 1022, 2047, 4095]) (m := 11) (todo := 0) mx s117 ?_; clear s117
              refine goes_last (by kernel_rfl) rfl (opsS_cons (.plain _ (Av.old (t := 10) rfl rfl Av.nil) rfl rfl (ob_move rfl (.tmp rfl))) (opsS_cons (.plain _ (Av.old (t := 12) rfl rfl Av.nil) rfl rfl (ob_fieldAddr (off' := 0) rfl Try.underlying46 rfl sz39 (by decide) (.tmp rfl) rfl)) (opsS_cons (.plain _ (Av.new (j := 1) rfl rfl rfl Av.nil) rfl rfl (ob_load rfl tk39 (.tmp rfl) (.head _) (lg_api_Node_Id x7))) (opsS_cons (.plain _ (Av.old (t := 12) rfl rfl Av.nil) rfl rfl (ob_fieldAddr (off' := 32) rfl Try.underlying46 rfl sz44 (by decide) (.tmp rfl) rfl)) (opsS_cons (.plain _ (Av.new (j := 3) rfl rfl rfl Av.nil) rfl rfl (ob_load rfl tk44 (.tmp rfl) (.head _) (lg_api_Node_Op x7))) (opsS_cons (.plain _ (Av.new (j := 4) rfl rfl rfl Av.nil) rfl rfl (ob_callD (args := [_]) rfl .direct hb94 (fun a w s fs gs hf hg => by obtain rfl := hf.unnil; obtain rfl := hg.unnil; exact c_graph_clone k _ _ e_x8 _ _ _ (s.arg (.tmp rfl))))) (opsS_cons (.plain _ (Av.old (t := 12) rfl rfl Av.nil) rfl rfl (ob_fieldAddr (off' := 103) rfl Try.underlying46 rfl sz41 (by decide) (.tmp rfl) rfl)) (opsS_cons (.plain _ (Av.new (j := 6) rfl rfl rfl Av.nil) rfl rfl (ob_load rfl tk41 (.tmp rfl) (.head _) (lg_api_Node_Past x7))) (opsS_cons (.plain _ (Av.new (j := 7) rfl rfl rfl Av.nil) rfl rfl ((ObF.ob (ob_callF (F := resFact [((ksl (kint .i64)).V x9)]) (args := [_]) rfl .direct hb80 (fun a w s fs gs hf hg => by obtain rfl := hf.unnil; obtain rfl := hg.unnil; exact c_slices_Clone_int_int k _ _ e_x9 _ _ _ (s.arg (.tmp rfl))) (by exact fun g => ResF.all (.row (.head _) (KFlat.int _) .nil)))))) (opsS_cons (.plain _ (Av.new (j := 2) rfl rfl rfl (Av.new (j := 5) rfl rfl rfl (Av.new (j := 8) rfl rfl rfl Av.nil))) rfl rfl (ob_mkStruct (K := k_api_Node) (X0 := (⟨(List.replicate 32 (0 : Int)), (⟨(0 : Int), (0 : Int), [], (0 : Int), [], (List.replicate 32 (0 : Int)), (List.replicate 32 (0 : Int)), [], []⟩ : api_Op), []⟩ : api_Node)) rfl Try.underlying46 zz46 rfl pl46 (Zr.iso (f := t_api_Node) (x := (⟨(List.replicate 32 (0 : Int)), (⟨(0 : Int), (0 : Int), [], (0 : Int), [], (List.replicate 32 (0 : Int)), (List.replicate 32 (0 : Int)), [], []⟩ : api_Op), []⟩ : api_Node)) (Zr.pair (Zr.arr 32 (Zr.int .u8)) (Zr.pair (Zr.iso (f := t_api_Op) (x := (⟨(0 : Int), (0 : Int), [], (0 : Int), [], (List.replicate 32 (0 : Int)), (List.replicate 32 (0 : Int)), [], []⟩ : api_Op)) (Zr.pair (Zr.int .i64) (Zr.pair (Zr.int .u32) (Zr.pair (Zr.sl _) (Zr.pair (Zr.int .i64) (Zr.pair (Zr.sl _) (Zr.pair (Zr.arr 32 (Zr.int .u8)) (Zr.pair (Zr.arr 32 (Zr.int .u8)) (Zr.pair Zr.str (Zr.pair (Zr.sl _) Zr.nil)))))))))) (Zr.pair (Zr.sl _) Zr.nil)))) (.cons (.tmp rfl) rfl (ls_api_Node_Id (⟨(List.replicate 32 (0 : Int)), (⟨(0 : Int), (0 : Int), [], (0 : Int), [], (List.replicate 32 (0 : Int)), (List.replicate 32 (0 : Int)), [], []⟩ : api_Op), []⟩ : api_Node) x7.Id) (.cons (.tmp rfl) rfl (ls_api_Node_Op (⟨x7.Id, (⟨(0 : Int), (0 : Int), [], (0 : Int), [], (List.replicate 32 (0 : Int)), (List.replicate 32 (0 : Int)), [], []⟩ : api_Op), []⟩ : api_Node) x8) (.cons (.tmp rfl) rfl (ls_api_Node_Past (⟨x7.Id, x8, []⟩ : api_Node) x9) (.nil _)))))) (opsS_cons (.plain _ (Av.new (j := 9) rfl rfl rfl Av.nil) rfl rfl (ob_mkSlice (k := k_api_Node) (xs := ([(⟨x7.Id, x8, x9⟩ : api_Node)] : (List api_Node))) rfl Try.underlying22 zz46 sz46 (Zr.iso (f := t_api_Node) (x := (⟨(List.replicate 32 (0 : Int)), (⟨(0 : Int), (0 : Int), [], (0 : Int), [], (List.replicate 32 (0 : Int)), (List.replicate 32 (0 : Int)), [], []⟩ : api_Op), []⟩ : api_Node)) (Zr.pair (Zr.arr 32 (Zr.int .u8)) (Zr.pair (Zr.iso (f := t_api_Op) (x := (⟨(0 : Int), (0 : Int), [], (0 : Int), [], (List.replicate 32 (0 : Int)), (List.replicate 32 (0 : Int)), [], []⟩ : api_Op)) (Zr.pair (Zr.int .i64) (Zr.pair (Zr.int .u32) (Zr.pair (Zr.sl _) (Zr.pair (Zr.int .i64) (Zr.pair (Zr.sl _) (Zr.pair (Zr.arr 32 (Zr.int .u8)) (Zr.pair (Zr.arr 32 (Zr.int .u8)) (Zr.pair Zr.str (Zr.pair (Zr.sl _) Zr.nil)))))))))) (Zr.pair (Zr.sl _) Zr.nil)))) (by decide) (by decide) (.cons (.tmp rfl) rfl (LS.arr' (i := 0) (ys := ([(⟨x7.Id, x8, x9⟩ : api_Node)] : (List api_Node))) (by simp) (by rfl)) (.nil _)))) opsS_nil))))))))))) (out_old (t := 4) rfl rfl (out_old (t := 5) rfl rfl (out_old (t := 8) rfl rfl (out_old (t := 10) rfl rfl (out_old (t := 47) rfl rfl (out_old (t := 48) rfl rfl (out_old (t := 49) rfl rfl (out_new (i := 0) (by decide) rfl rfl (out_new (i := 10) (by decide) rfl rfl out_nil))))))))) fun a118 w118 s118 => ?_
              obtain ⟨g2, h25⟩ := guard_some h24; clear h24
              refine seq_opx (B' := (fun v5 : Value => [BF b3 46 k_api_Node x7, BF b1 39 (karr 32 (kint .u8)) p2, BF b2 44 k_api_Op p3, RowF v1 3 (kint .i64) x4.1, RowF v5 46 k_api_Node (y3 ++ ([(⟨x7.Id, x8, x9⟩ : api_Node)] : (List api_Node)))])) s118 rfl rfl (of_decide_eq_true rfl) (ob_appendL2 (A := [_, _, _, _]) rfl Try.underlying22 ap46 (Zr.iso (f := t_api_Node) (x := (⟨(List.replicate 32 (0 : Int)), (⟨(0 : Int), (0 : Int), [], (0 : Int), [], (List.replicate 32 (0 : Int)), (List.replicate 32 (0 : Int)), [], []⟩ : api_Op), []⟩ : api_Node)) (Zr.pair (Zr.arr 32 (Zr.int .u8)) (Zr.pair (Zr.iso (f := t_api_Op) (x := (⟨(0 : Int), (0 : Int), [], (0 : Int), [], (List.replicate 32 (0 : Int)), (List.replicate 32 (0 : Int)), [], []⟩ : api_Op)) (Zr.pair (Zr.int .i64) (Zr.pair (Zr.int .u32) (Zr.pair (Zr.sl _) (Zr.pair (Zr.int .i64) (Zr.pair (Zr.sl _) (Zr.pair (Zr.arr 32 (Zr.int .u8)) (Zr.pair (Zr.arr 32 (Zr.int .u8)) (Zr.pair Zr.str (Zr.pair (Zr.sl _) Zr.nil)))))))))) (Zr.pair (Zr.sl _) Zr.nil)))) (by decide) (.tmp rfl) (.tmp rfl) rfl g2) fun v5 a119 w119 s119 => ?_; clear s118
              refine seq_op s119 rfl rfl (of_decide_eq_true rfl) (ob_assign rfl (.tmp rfl)) fun a120 w120 s120 => ?_; clear s119
              refine wpList_nil ?_
              refine in_normal ?_
              refine then_normal ?_
              refine hK23 _ _ ?_
              have s121 := s120.sub (.cons (t := 4) rfl (.cons (t := 5) rfl (.cons (t := 8) rfl (.cons (t := 10) rfl (.cons (t := 47) rfl (.cons (t := 48) rfl (.cons (t := 49) rfl .nil))))))); clear s120
              have s122 := St.drop (A := []) s121; clear s121
              refine wp_region_lit ?_
              refine seq_op s122 rfl rfl (of_decide_eq_true rfl) (ob_add rfl (.tmp rfl) (opd_int rfl)) fun a123 w123 s123 => ?_; clear s122
              refine seq_op s123 rfl rfl (of_decide_eq_true rfl) (ob_move rfl (.tmp rfl)) fun a124 w124 s124 => ?_; clear s123
              refine wpList_nil ?_
              refine then_normal ?_
              exact hK20 ((iadd .i64 y2 (1 : Int)), (y3 ++ ([(⟨x7.Id, x8, x9⟩ : api_Node)] : (List api_Node)))) _ _ h25 ⟨v5, (s124.sub (.cons rfl (.cons rfl (.cons rfl (.cons rfl (.cons rfl (.cons rfl (.cons rfl .nil))))))))⟩
            · replace h20 := ite_f hc6 h20
              have h26 := h20; clear h20
              refine wp_exit ?_
              refine (then_exit (then_exit (in_here ?_)))
              refine then_normal ?_
              exact hj1 y3 v4 _ _ h26 (s111.sub (.cons rfl (.cons rfl (.cons rfl (.cons rfl .nil)))))

/- 20 cabal/caballaw19.QueueMoves -/
theorem c_caballaw19_QueueMoves (k : Nat) (p1 : (List api_Node)) (p2 : Int) (r : Bool) (h0 : caballaw19_QueueMoves k p1 p2 = some r) (ok : Ok) (w0 : World) (z0 : Value) (z1 : Value) (u0 : ((ksl k_api_Node).V p1).holds ok w0 z0) (u1 : ((kint .i64).V p2).holds ok w0 z1) :
    Gives Try.prog 20 [z0, z1] ok w0 (resFact [kbool.V r]) := by
  unfold caballaw19_QueueMoves at h0
  refine enter (N := 129) Try.func20 rfl rfl (of_decide_eq_true rfl) (.cons u0 (.cons u1 .nil)) fun a1 s1 => ?_
  refine wp_seq_k fun K1 hK1 => ?_
  refine wp_region_lit ?_
  refine seq_op s1 rfl rfl (of_decide_eq_true rfl) (ob_assign rfl opd_bool) fun a2 w2 s2 => ?_; clear s1
  refine wpList_nil ?_
  refine then_normal ?_
  refine hK1 _ _ ?_
  have s3 := s2.sub (.cons (t := 0) rfl (.cons (t := 1) rfl .nil)); clear s2
  refine wp_seq_k fun K2 hK2 => ?_
  refine wp_seq_k fun K3 hK3 => ?_
  refine wp_region_lit ?_
  obtain ⟨x1, e_x1, h1⟩ := bind_some h0; clear h0
  refine seq_op s3 rfl rfl (of_decide_eq_true rfl) (ob_callD (args := []) rfl .direct hb59 (fun a w s fs gs hf hg => by obtain rfl := hf.unnil; obtain rfl := hg.unnil; exact c_caballaw19_alive k _ e_x1 _ _)) fun a4 w4 s4 => ?_; clear s3
  refine seq_op s4 rfl rfl (of_decide_eq_true rfl) (ob_not rfl (.tmp rfl)) fun a5 w5 s5 => ?_; clear s4
  refine wpList_nil ?_
  refine then_normal ?_
  refine hK3 _ _ ?_
  have s6 := s5.sub (.cons (t := 0) rfl (.cons (t := 1) rfl (.cons (t := 17) rfl .nil))); clear s5
  refine cond_split s6 (.tmp rfl) (fun hc1 => ?_) (fun hc1 => ?_)
  · replace h1 := ite_t hc1 h1
    have h2 := h1; clear h1
    refine wp_seq_k fun K4 hK4 => ?_
    refine wp_region_lit ?_
    refine seq_op s6 rfl rfl (of_decide_eq_true rfl) (ob_assign rfl opd_bool) fun a7 w7 s7 => ?_; clear s6
    refine wpList_nil ?_
    refine then_normal ?_
    refine hK4 _ _ ?_
    have s8 := s7.sub (.cons (t := 4) rfl .nil); clear s7
    refine wp_ret ?_
    obtain rfl := Option.some.inj h2
    exact leave s8 (.inl rfl) rfl (.cons (.tmp rfl) .nil)
  · replace h1 := ite_f hc1 h1
    have h3 := h1; clear h1
    refine wp_skip ?_
    refine then_normal ?_
    refine hK2 _ _ ?_
    have s9 := s6.sub (.cons (t := 0) rfl (.cons (t := 1) rfl .nil)); clear s6
    refine wp_seq_k fun K5 hK5 => ?_
    refine wp_seq_k fun K6 hK6 => ?_
    refine wp_region_lit ?_
    refine seq_op s9 rfl rfl (of_decide_eq_true rfl) (ob_move rfl (.tmp rfl)) fun a10 w10 s10 => ?_; clear s9
    obtain ⟨x2, e_x2, h4⟩ := bind_some h3; clear h3
    refine seq_op s10 rfl rfl (of_decide_eq_true rfl) (ob_callD (args := [_]) rfl .direct hb23 (fun a w s fs gs hf hg => by obtain rfl := hf.unnil; obtain rfl := hg.unnil; exact c_cabalref15_Great k _ _ e_x2 _ _ _ (s.arg (.tmp rfl)))) fun a11 w11 s11 => ?_; clear s10
    refine seq_op s11 rfl rfl (of_decide_eq_true rfl) (ob_move rfl (.tmp rfl)) fun a12 w12 s12 => ?_; clear s11
    refine seq_opg s12 rfl rfl rfl rfl (of_decide_eq_true rfl) (fun hb => ob_move rfl (.tmp rfl)) fun a13 w13 s13 => ?_; clear s12
    refine seq_opg s13 rfl rfl rfl rfl (of_decide_eq_true rfl) (fun hb => (Ob.uncond (t := 21) hb rfl (ob_lens rfl Try.underlying22 (.tmp rfl)))) fun a14 w14 s14 => ?_; clear s13
    refine seq_opg s14 rfl rfl rfl rfl (of_decide_eq_true rfl) (fun hb => (Ob.uncond (t := 22) hb rfl (ob_gtr rfl (.tmp rfl) (opd_int rfl)))) fun a15 w15 s15 => ?_; clear s14
    refine seq_op s15 rfl rfl (of_decide_eq_true rfl) (ob_or2 rfl (.tmp rfl) opd_bool (.tmp rfl)) fun a16 w16 s16 => ?_; clear s15
    refine seq_op s16 rfl rfl (of_decide_eq_true rfl) (ob_move rfl (.tmp rfl)) fun a17 w17 s17 => ?_; clear s16
    refine seq_opg s17 rfl rfl rfl rfl (of_decide_eq_true rfl) (fun hb => ob_move rfl (.tmp rfl)) fun a18 w18 s18 => ?_; clear s17
    obtain ⟨x3, e_x3, h5⟩ := bind_some h4; clear h4
    refine seq_opg s18 rfl rfl rfl rfl (of_decide_eq_true rfl) (fun hb => (Ob.uncond (t := 26) hb rfl (ob_callD (args := [_]) rfl .direct hb24 (fun a w s fs gs hf hg => by obtain rfl := hf.unnil; obtain rfl := hg.unnil; exact c_graph_Right k _ _ (ite_t hb e_x3) _ _ _ (s.arg (.tmp rfl)))))) fun a19 w19 s19 => ?_; clear s18
    refine seq_opg s19 rfl rfl rfl rfl (of_decide_eq_true rfl) (fun hb => (Ob.uncond (t := 27) hb rfl (ob_not rfl (.tmp rfl)))) fun a20 w20 s20 => ?_; clear s19
    obtain ⟨x4, e_x4, h6⟩ := bind_some h5; clear h5; replace e_x4 := Option.some.inj e_x4
    refine seq_op s20 rfl rfl (of_decide_eq_true rfl) ((ob_or2 rfl (.tmp rfl) opd_bool (.tmp rfl)).nm e_x4) fun a21 w21 s21 => ?_; clear s20
    refine wpList_nil ?_
    refine then_normal ?_
    refine hK6 _ _ ?_
    have s22 := s21.sub (.cons (t := 0) rfl (.cons (t := 1) rfl (.cons (t := 29) rfl .nil))); clear s21
    refine cond_split s22 (.tmp rfl) (fun hc2 => ?_) (fun hc2 => ?_)
    · replace h6 := ite_t hc2 h6
      have h7 := h6; clear h6
      refine wp_seq_k fun K7 hK7 => ?_
      refine wp_region_lit ?_
      obtain ⟨x5, e_x5, h8⟩ := bind_some h7; clear h7
      refine seq_op s22 rfl rfl (of_decide_eq_true rfl) (ob_callD (args := []) rfl .direct hb59 (fun a w s fs gs hf hg => by obtain rfl := hf.unnil; obtain rfl := hg.unnil; exact c_caballaw19_alive k _ e_x5 _ _)) fun a23 w23 s23 => ?_; clear s22
      refine seq_op s23 rfl rfl (of_decide_eq_true rfl) (ob_assign rfl (.tmp rfl)) fun a24 w24 s24 => ?_; clear s23
      refine wpList_nil ?_
      refine then_normal ?_
      refine hK7 _ _ ?_
      have s25 := s24.sub (.cons (t := 4) rfl .nil); clear s24
      refine wp_ret ?_
      obtain rfl := Option.some.inj h8
      exact leave s25 (.inl rfl) rfl (.cons (.tmp rfl) .nil)
    · replace h6 := ite_f hc2 h6
      have h9 := h6; clear h6
      refine wp_skip ?_
      refine then_normal ?_
      refine hK5 _ _ ?_
      have s26 := s22.sub (.cons (t := 0) rfl (.cons (t := 1) rfl .nil)); clear s22
      refine wp_seq_k fun K8 hK8 => ?_
      refine wp_region_lit ?_
      refine seq_op s26 rfl rfl (of_decide_eq_true rfl) (ob_move rfl (.tmp rfl)) fun a27 w27 s27 => ?_; clear s26
      refine seq_op s27 rfl rfl (of_decide_eq_true rfl) (ob_conv rfl _ Try.underlying3 Try.underlying37 (.tmp rfl)) fun a28 w28 s28 => ?_; clear s27
      refine seq_op s28 rfl rfl (of_decide_eq_true rfl) (ob_move rfl (.tmp rfl)) fun a29 w29 s29 => ?_; clear s28
      refine seq_op s29 rfl rfl (of_decide_eq_true rfl) (ob_lens rfl Try.underlying22 (.tmp rfl)) fun a30 w30 s30 => ?_; clear s29
      refine seq_op s30 rfl rfl (of_decide_eq_true rfl) (ob_add rfl (.tmp rfl) (opd_int rfl)) fun a31 w31 s31 => ?_; clear s30
      refine seq_op s31 rfl rfl (of_decide_eq_true rfl) (ob_conv rfl _ Try.underlying3 Try.underlying37 (.tmp rfl)) fun a32 w32 s32 => ?_; clear s31
      obtain ⟨g1, h10⟩ := guard_some h9; clear h9
      obtain ⟨x6, e_x6, h11⟩ := bind_some h10; clear h10; replace e_x6 := Option.some.inj e_x6
      refine seq_op s32 rfl rfl (of_decide_eq_true rfl) ((ob_rem rfl (.tmp rfl) (.tmp rfl) g1).nm e_x6) fun a33 w33 s33 => ?_; clear s32
      refine seq_op s33 rfl rfl (of_decide_eq_true rfl) (ob_conv rfl _ Try.underlying37 Try.underlying3 (.tmp rfl)) fun a34 w34 s34 => ?_; clear s33
      refine seq_op s34 rfl rfl (of_decide_eq_true rfl) (ob_assign rfl (.tmp rfl)) fun a35 w35 s35 => ?_; clear s34
      refine wpList_nil ?_
      refine then_normal ?_
      refine hK8 _ _ ?_
      have s36 := s35.sub (.cons (t := 0) rfl (.cons (t := 5) rfl .nil)); clear s35
      refine wp_seq_k fun K9 hK9 => ?_
      refine wp_region_lit ?_
      refine seq_op s36 rfl rfl (of_decide_eq_true rfl) (ob_assign rfl opd_is) fun a37 w37 s37 => ?_; clear s36
      have s38 := St.adopt s37 (G := RowF (nilRow 24) 91 k_api_Held []) rfl (rowNilN _ _ _ _ _); clear s37
      refine wpList_nil ?_
      refine then_normal ?_
      refine hK9 _ _ ?_
      have s39 := s38.sub (.cons (t := 0) rfl (.cons (t := 5) rfl (.cons (t := 6) rfl .nil))); clear s38
      refine wp_seq_k fun K10 hK10 => ?_
      refine wp_seq_k fun K11 hK11 => ?_
      refine wp_region_lit ?_
      refine seq_op s39 rfl rfl (of_decide_eq_true rfl) (ob_move rfl (.tmp rfl)) fun a40 w40 s40 => ?_; clear s39
      refine seq_op s40 rfl rfl (of_decide_eq_true rfl) (ob_lens rfl Try.underlying22 (.tmp rfl)) fun a41 w41 s41 => ?_; clear s40
      refine seq_op s41 rfl rfl (of_decide_eq_true rfl) (ob_sub rfl (.tmp rfl) (opd_int rfl)) fun a42 w42 s42 => ?_; clear s41
      refine seq_op s42 rfl rfl (of_decide_eq_true rfl) (ob_assign rfl (.tmp rfl)) fun a43 w43 s43 => ?_; clear s42
      refine wpList_nil ?_
      refine then_normal ?_
      refine hK11 _ _ ?_
      have s44 := s43.sub (.cons (t := 0) rfl (.cons (t := 5) rfl (.cons (t := 6) rfl (.cons (t := 7) rfl .nil)))); clear s43
      have hj1 : ∀ (y1 : (List api_Held)) (a : Act) (w : World), (caballaw19_QueueMoves.j1 k p1 x6) y1 = some r → St ⟨129, w0, ok, []⟩ [] [(0, ((ksl k_api_Node).V p1)), (5, ((kint .i64).V (IntKind.wrap .i64 x6))), (6, ((ksl k_api_Held).V y1))] a w → K10 a w := by
        intro y1 a45 w45 h12 s45
        unfold caballaw19_QueueMoves.j1 at h12
        refine hK10 _ _ ?_
        refine wp_seq_k fun K12 hK12 => ?_
        refine wp_region_lit ?_
        refine seq_op s45 rfl rfl (of_decide_eq_true rfl) (ob_move rfl (.tmp rfl)) fun a46 w46 s46 => ?_; clear s45
        refine seq_op s46 rfl rfl (of_decide_eq_true rfl) (ob_move rfl (.tmp rfl)) fun a47 w47 s47 => ?_; clear s46
        obtain ⟨x7, e_x7, h13⟩ := bind_some h12; clear h12
        refine seq_op s47 rfl rfl (of_decide_eq_true rfl) (ob_cuts rfl Try.underlying22 sz46 (.tmp rfl) .none (.some (.tmp rfl)) e_x7) fun a48 w48 s48 => ?_; clear s47
        refine seq_op s48 rfl rfl (of_decide_eq_true rfl) (ob_assign rfl (.tmp rfl)) fun a49 w49 s49 => ?_; clear s48
        refine wpList_nil ?_
        refine then_normal ?_
        refine hK12 _ _ ?_
        have s50 := s49.sub (.cons (t := 0) rfl (.cons (t := 6) rfl (.cons (t := 10) rfl .nil))); clear s49
        refine wp_seq_k fun K13 hK13 => ?_
        have hj2 : ∀ (y2 : (List api_Node)) (a : Act) (w : World), (caballaw19_QueueMoves.j2 k p1) y2 = some r → St ⟨129, w0, ok, []⟩ [] [(0, ((ksl k_api_Node).V p1)), (10, ((ksl k_api_Node).V y2))] a w → K13 a w := by
          intro y2 a51 w51 h14 s51
          unfold caballaw19_QueueMoves.j2 at h14
          refine hK13 _ _ ?_
          refine wp_seq_k fun K14 hK14 => ?_
          refine wp_region_lit ?_
          obtain ⟨x8, e_x8, h15⟩ := bind_some h14; clear h14
          refine seq_op s51 rfl rfl (of_decide_eq_true rfl) (ob_callD (args := []) rfl .direct hb59 (fun a w s fs gs hf hg => by obtain rfl := hf.unnil; obtain rfl := hg.unnil; exact c_caballaw19_alive k _ e_x8 _ _)) fun a52 w52 s52 => ?_; clear s51
          refine seq_op s52 rfl rfl (of_decide_eq_true rfl) (ob_move rfl (.tmp rfl)) fun a53 w53 s53 => ?_; clear s52
          refine seq_opg s53 rfl rfl rfl rfl (of_decide_eq_true rfl) (fun hb => ob_move rfl (.tmp rfl)) fun a54 w54 s54 => ?_; clear s53
          refine seq_opg s54 rfl rfl rfl rfl (of_decide_eq_true rfl) (fun hb => (Ob.uncond (t := 123) hb rfl (ob_lens rfl Try.underlying22 (.tmp rfl)))) fun a55 w55 s55 => ?_; clear s54
          refine seq_opg s55 rfl rfl rfl rfl (of_decide_eq_true rfl) (fun hb => ob_move rfl (.tmp rfl)) fun a56 w56 s56 => ?_; clear s55
          refine seq_opg s56 rfl rfl rfl rfl (of_decide_eq_true rfl) (fun hb => (Ob.uncond (t := 125) hb rfl (ob_lens rfl Try.underlying22 (.tmp rfl)))) fun a57 w57 s57 => ?_; clear s56
          refine seq_opg s57 rfl rfl rfl rfl (of_decide_eq_true rfl) (fun hb => (Ob.uncond (t := 126) hb rfl ((Ob.uncond (t := 124) hb rfl (ob_eql rfl (.tmp rfl) (.tmp rfl)))))) fun a58 w58 s58 => ?_; clear s57
          refine seq_op s58 rfl rfl (of_decide_eq_true rfl) (ob_and2 rfl (.tmp rfl) (.tmp rfl) opd_bool) fun a59 w59 s59 => ?_; clear s58
          refine seq_op s59 rfl rfl (of_decide_eq_true rfl) (ob_assign rfl (.tmp rfl)) fun a60 w60 s60 => ?_; clear s59
          refine wpList_nil ?_
          refine then_normal ?_
          refine hK14 _ _ ?_
          have s61 := s60.sub (.cons (t := 4) rfl .nil); clear s60
          refine wp_ret ?_
          obtain rfl := Option.some.inj h15
          exact leave s61 (.inl rfl) rfl (.cons (.tmp rfl) .nil)
        refine wp_block ?_
        refine wp_loop_fuel (fun m (q : (List api_Held) × (List api_Node)) => caballaw19_QueueMoves.l1 k p1 m q.1 q.2) r (fun _ => rfl) (fun q a w => St ⟨129, w0, ok, []⟩ [] [(0, ((ksl k_api_Node).V p1)), (6, ((ksl k_api_Held).V q.1)), (10, ((ksl k_api_Node).V q.2))] a w) ?_ k (y1, x7) _ _ h13 (s50.sub (.cons rfl (.cons rfl (.cons rfl .nil))))
        rintro n1 ⟨y3, y4⟩ a62 w62 h16 s62 K15 hK15
        replace h16 : caballaw19_QueueMoves.l1 k p1 (n1 + 1) y3 y4 = some r := h16; rw [caballaw19_QueueMoves.l1] at h16
        have h17 := h16; clear h16
        refine wp_seq_k fun K16 hK16 => ?_
        refine wp_seq_k fun K17 hK17 => ?_
        refine wp_region_lit ?_
        refine seq_op s62 rfl rfl (of_decide_eq_true rfl) (ob_move rfl (.tmp rfl)) fun a63 w63 s63 => ?_; clear s62
        refine seq_op s63 rfl rfl (of_decide_eq_true rfl) (ob_lens rfl Try.underlying85 (.tmp rfl)) fun a64 w64 s64 => ?_; clear s63
        refine seq_op s64 rfl rfl (of_decide_eq_true rfl) (ob_gtr rfl (.tmp rfl) (opd_int rfl)) fun a65 w65 s65 => ?_; clear s64
        refine wpList_nil ?_
        refine then_normal ?_
        refine hK17 _ _ ?_
        have s66 := s65.sub (.cons (t := 0) rfl (.cons (t := 6) rfl (.cons (t := 10) rfl (.cons (t := 71) rfl .nil)))); clear s65
        refine cond_split s66 (.tmp rfl) (fun hc3 => ?_) (fun hc3 => ?_)
        · replace h17 := ite_t hc3 h17
          have h18 := h17; clear h17
          refine wp_skip ?_
          refine then_normal ?_
          refine hK16 _ _ ?_
          have s67 := s66.sub (.cons (t := 0) rfl (.cons (t := 6) rfl (.cons (t := 10) rfl .nil))); clear s66
          refine wp_block ?_
          refine wp_seq_k fun K18 hK18 => ?_
          refine wp_region_lit ?_
          refine seq_op s67 rfl rfl (of_decide_eq_true rfl) (ob_move rfl (.tmp rfl)) fun a68 w68 s68 => ?_; clear s67
          refine seq_op s68 rfl rfl (of_decide_eq_true rfl) (ob_move rfl (.tmp rfl)) fun a69 w69 s69 => ?_; clear s68
          obtain ⟨x9, e_x9, h19⟩ := bind_some h18; clear h18
          refine seq_op s69 rfl rfl (of_decide_eq_true rfl) (ob_callD (args := [_, _]) rfl .direct hb61 (fun a w s fs gs hf hg => by obtain rfl := hf.unnil; obtain rfl := hg.unnil; exact c_queue_Ready k _ _ _ e_x9 _ _ _ _ (s.arg (.tmp rfl)) (s.arg (.tmp rfl)))) fun a70 w70 s70 => ?_; clear s69
          refine seq_op s70 rfl rfl (of_decide_eq_true rfl) (ob_assign rfl (.tmp rfl)) fun a71 w71 s71 => ?_; clear s70
          refine wpList_nil ?_
          refine then_normal ?_
          refine hK18 _ _ ?_
          have s72 := s71.sub (.cons (t := 0) rfl (.cons (t := 6) rfl (.cons (t := 10) rfl (.cons (t := 11) rfl .nil)))); clear s71
          refine wp_seq_k fun K19 hK19 => ?_
          refine wp_seq_k fun K20 hK20 => ?_
          refine wp_region_lit ?_
          refine seq_op s72 rfl rfl (of_decide_eq_true rfl) (ob_move rfl (.tmp rfl)) fun a73 w73 s73 => ?_; clear s72
          refine seq_op s73 rfl rfl (of_decide_eq_true rfl) (ob_lss rfl (.tmp rfl) (opd_int rfl)) fun a74 w74 s74 => ?_; clear s73
          refine seq_op s74 rfl rfl (of_decide_eq_true rfl) (ob_move rfl (.tmp rfl)) fun a75 w75 s75 => ?_; clear s74
          refine seq_opg s75 rfl rfl rfl rfl (of_decide_eq_true rfl) (fun hb => ob_move rfl (.tmp rfl)) fun a76 w76 s76 => ?_; clear s75
          refine seq_opg s76 rfl rfl rfl rfl (of_decide_eq_true rfl) (fun hb => ob_move rfl (.tmp rfl)) fun a77 w77 s77 => ?_; clear s76
          obtain ⟨x10, e_x10, h20⟩ := bind_some h19; clear h19
          refine seq_opg s77 rfl rfl rfl rfl (of_decide_eq_true rfl) (fun hb => (ObF.ob ((ObF.uncond (t := 79) hb rfl ((ObF.uncond (t := 78) hb rfl (ob_callF (F := resFact [((ksl (karr 32 (kint .u8))).V x10)]) (args := [_, _]) rfl .direct hb62 (fun a w s fs gs hf hg => by obtain rfl := hf.unnil; obtain rfl := hg.unnil; exact c_queue_Wanted k _ _ _ (ite_t hb e_x10) _ _ _ _ (s.arg (.tmp rfl)) (s.arg (.tmp rfl))) (by exact fun g => ResF.all (.row (.head _) (KFlat.arr (KFlat.int _)) .nil))))))))) fun a78 w78 s78 => ?_; clear s77
          refine seq_opg s78 rfl rfl rfl rfl (of_decide_eq_true rfl) (fun hb => (Ob.uncond (t := 80) hb rfl (ob_lens rfl Try.underlying40 (.tmp rfl)))) fun a79 w79 s79 => ?_; clear s78
          refine seq_opg s79 rfl rfl rfl rfl (of_decide_eq_true rfl) (fun hb => (Ob.uncond (t := 81) hb rfl (ob_gtr rfl (.tmp rfl) (opd_int rfl)))) fun a80 w80 s80 => ?_; clear s79
          obtain ⟨x11, e_x11, h21⟩ := bind_some h20; clear h20; replace e_x11 := Option.some.inj e_x11
          refine seq_op s80 rfl rfl (of_decide_eq_true rfl) ((ob_or2 rfl (.tmp rfl) opd_bool (.tmp rfl)).nm e_x11) fun a81 w81 s81 => ?_; clear s80
          refine wpList_nil ?_
          refine then_normal ?_
          refine hK20 _ _ ?_
          have s82 := s81.sub (.cons (t := 0) rfl (.cons (t := 6) rfl (.cons (t := 10) rfl (.cons (t := 11) rfl (.cons (t := 83) rfl .nil))))); clear s81
          refine cond_split s82 (.tmp rfl) (fun hc4 => ?_) (fun hc4 => ?_)
          · replace h21 := ite_t hc4 h21
            have h22 := h21; clear h21
            refine wp_seq_k fun K21 hK21 => ?_
            refine wp_region_lit ?_
            refine seq_op s82 rfl rfl (of_decide_eq_true rfl) (ob_assign rfl opd_bool) fun a83 w83 s83 => ?_; clear s82
            refine wpList_nil ?_
            refine then_normal ?_
            refine hK21 _ _ ?_
            have s84 := s83.sub (.cons (t := 4) rfl .nil); clear s83
            refine wp_ret ?_
            obtain rfl := Option.some.inj h22
            exact leave s84 (.inl rfl) rfl (.cons (.tmp rfl) .nil)
          · replace h21 := ite_f hc4 h21
            have h23 := h21; clear h21
            refine wp_skip ?_
            refine then_normal ?_
            refine hK19 _ _ ?_
            have s85 := s82.sub (.cons (t := 0) rfl (.cons (t := 6) rfl (.cons (t := 10) rfl (.cons (t := 11) rfl .nil)))); clear s82
            refine wp_seq_k fun K22 hK22 => ?_
            obtain ⟨x12, e_x12, h24⟩ := bind_some h23; clear h23
            obtain ⟨x13, e_x13, h25⟩ := bind_some h24; clear h24
            obtain ⟨x14, e_x14, h26⟩ := bind_some h25; clear h25
            refine wp_goes (Fs := [((ksl k_api_Node).V y4), ((ksl k_api_Held).V y3), ((kint .i64).V x9), (ptrTo k_api_Held x12), (ptrTo (karr 32 (kint .u8)) x12.Id), ((karr 32 (kint .u8)).V x12.Id), ((ksl k_api_Held).V y3), ((kint .i64).V x9), (ptrTo k_api_Held x13), (ptrTo k_api_Op x13.Op), (k_api_Op.V x13.Op), (tup [((ksl k_api_Node).V x14.1), ((kint .i64).V x14.2)]), (tup [((ksl k_api_Node).V x14.1), ((kint .i64).V x14.2)]), ((ksl k_api_Node).V x14.1), ((kint .i64).V x14.2), ((ksl k_api_Node).V x14.1)]) (bits := [0, 0, 0, 6, 14, 30, 0, 0, 192, 448, 960, 2047, 4095, 8191, 8191, 16383, 65535]) (m := 16) (todo := 0) mx s85 ?_; clear s85
            refine goes_last (by kernel_rfl) rfl (opsS_cons (.plain _ (Av.old (t := 10) rfl rfl Av.nil) rfl rfl (ob_move rfl (.tmp rfl))) (opsS_cons (.plain _ (Av.old (t := 6) rfl rfl Av.nil) rfl rfl (ob_move rfl (.tmp rfl))) (opsS_cons (.plain _ (Av.old (t := 11) rfl rfl Av.nil) rfl rfl (ob_move rfl (.tmp rfl))) (opsS_cons (.plain _ (Av.new (j := 1) rfl rfl rfl (Av.new (j := 2) rfl rfl rfl Av.nil)) rfl rfl (ob_indexAddrs rfl Try.underlying85 sz91 (.tmp rfl) (.tmp rfl) e_x12)) (opsS_cons (.plain _ (Av.new (j := 3) rfl rfl rfl Av.nil) rfl rfl (ob_fieldAddrr rfl Try.underlying91 rfl sz39 (by decide) (.tmp rfl) (lg_api_Held_Id x12))) (opsS_cons (.plain _ (Av.new (j := 4) rfl rfl rfl Av.nil) rfl rfl (ob_loadr rfl tk39 (.tmp rfl))) (opsS_cons (.plain _ (Av.old (t := 6) rfl rfl Av.nil) rfl rfl (ob_move rfl (.tmp rfl))) (opsS_cons (.plain _ (Av.old (t := 11) rfl rfl Av.nil) rfl rfl (ob_move rfl (.tmp rfl))) (opsS_cons (.plain _ (Av.new (j := 6) rfl rfl rfl (Av.new (j := 7) rfl rfl rfl Av.nil)) rfl rfl (ob_indexAddrs rfl Try.underlying85 sz91 (.tmp rfl) (.tmp rfl) e_x13)) (opsS_cons (.plain _ (Av.new (j := 8) rfl rfl rfl Av.nil) rfl rfl (ob_fieldAddrr rfl Try.underlying91 rfl sz44 (by decide) (.tmp rfl) (lg_api_Held_Op x13))) (opsS_cons (.plain _ (Av.new (j := 9) rfl rfl rfl Av.nil) rfl rfl (ob_loadr rfl tk44 (.tmp rfl))) (opsS_cons (.plain _ (Av.new (j := 0) rfl rfl rfl (Av.new (j := 5) rfl rfl rfl (Av.new (j := 10) rfl rfl rfl Av.nil))) rfl rfl (ob_callD (args := [_, _, _]) rfl .direct hb43 (fun a w s fs gs hf hg => by obtain rfl := hf.unnil; obtain rfl := hg.unnil; exact c_graph_Add_w2 k _ _ _ _ e_x14 _ _ _ _ _ (s.arg (.tmp rfl)) (s.arg (.tmp rfl)) (s.arg (.tmp rfl))))) (opsS_cons (.plain _ (Av.new (j := 11) rfl rfl rfl Av.nil) rfl rfl (ob_move rfl (.tmp rfl))) (opsS_cons (.plain _ (Av.new (j := 12) rfl rfl rfl Av.nil) rfl rfl (ob_extract rfl (.tmp rfl) rfl)) (opsS_cons (.plain _ (Av.new (j := 12) rfl rfl rfl Av.nil) rfl rfl (ob_extract rfl (.tmp rfl) rfl)) (opsS_cons (.plain _ (Av.new (j := 13) rfl rfl rfl Av.nil) rfl rfl (ob_assign rfl (.tmp rfl))) opsS_nil)))))))))))))))) (out_old (t := 0) rfl rfl (out_old (t := 6) rfl rfl (out_old (t := 11) rfl rfl (out_new (i := 15) (by decide) rfl rfl (out_new (i := 14) (by decide) rfl rfl out_nil))))) fun a86 w86 s86 => ?_
            refine seq_op s86 rfl rfl (of_decide_eq_true rfl) (ob_assign rfl (.tmp rfl)) fun a87 w87 s87 => ?_; clear s86
            refine wpList_nil ?_
            refine then_normal ?_
            refine hK22 _ _ ?_
            have s88 := s87.sub (.cons (t := 0) rfl (.cons (t := 6) rfl (.cons (t := 11) rfl (.cons (t := 12) rfl (.cons (t := 13) rfl .nil))))); clear s87
            refine wp_seq_k fun K23 hK23 => ?_
            refine wp_region_lit ?_
            refine seq_op s88 rfl rfl (of_decide_eq_true rfl) (ob_move rfl (.tmp rfl)) fun a89 w89 s89 => ?_; clear s88
            refine seq_op s89 rfl rfl (of_decide_eq_true rfl) (ob_move rfl (.tmp rfl)) fun a90 w90 s90 => ?_; clear s89
            obtain ⟨x15, e_x15, h27⟩ := bind_some h26; clear h26
            refine seq_opx (B' := (fun v1 : Value => [RowF v1 91 k_api_Held x15.1])) s90 rfl rfl (of_decide_eq_true rfl) (ob_callL (args := [_, _]) (L := []) rfl .direct hb69 (List.Perm.refl _) (fun a w s fs gs hf hg => by obtain rfl := hf.unnil; obtain rfl := hg.unnil; exact c_queue_Without k _ _ _ e_x15 _ _ _ _ (s.arg (.tmp rfl)) (s.arg (.tmp rfl))) (by exact fun _ => rfl)) fun v1 a91 w91 s91 => ?_; clear s90
            refine seq_op s91 rfl rfl (of_decide_eq_true rfl) (ob_move rfl (.tmp rfl)) fun a92 w92 s92 => ?_; clear s91
            refine seq_op s92 rfl rfl (of_decide_eq_true rfl) (ob_extract rfl (.tmp rfl) rfl) fun a93 w93 s93 => ?_; clear s92
            refine seq_op s93 rfl rfl (of_decide_eq_true rfl) (ob_extract rfl (.tmp rfl) rfl) fun a94 w94 s94 => ?_; clear s93
            refine seq_op s94 rfl rfl (of_decide_eq_true rfl) (ob_assign rfl (.tmp rfl)) fun a95 w95 s95 => ?_; clear s94
            refine seq_op s95 rfl rfl (of_decide_eq_true rfl) (ob_assign rfl (.tmp rfl)) fun a96 w96 s96 => ?_; clear s95
            refine wpList_nil ?_
            refine then_normal ?_
            refine hK23 _ _ ?_
            have s97 := s96.sub (.cons (t := 0) rfl (.cons (t := 6) rfl (.cons (t := 12) rfl (.cons (t := 13) rfl (.cons (t := 14) rfl (.cons (t := 15) rfl .nil)))))); clear s96
            refine wp_seq_k fun K24 hK24 => ?_
            refine wp_seq_k fun K25 hK25 => ?_
            refine wp_region_lit ?_
            refine seq_op s97 rfl rfl (of_decide_eq_true rfl) (ob_move rfl (.tmp rfl)) fun a98 w98 s98 => ?_; clear s97
            refine seq_op s98 rfl rfl (of_decide_eq_true rfl) (ob_neq rfl (.tmp rfl) (opd_int rfl)) fun a99 w99 s99 => ?_; clear s98
            refine seq_op s99 rfl rfl (of_decide_eq_true rfl) (ob_move rfl (.tmp rfl)) fun a100 w100 s100 => ?_; clear s99
            refine seq_opg s100 rfl rfl rfl rfl (of_decide_eq_true rfl) (fun hb => ob_move rfl (.tmp rfl)) fun a101 w101 s101 => ?_; clear s100
            refine seq_opg s101 rfl rfl rfl rfl (of_decide_eq_true rfl) (fun hb => (Ob.uncond (t := 108) hb rfl (ob_neq rfl (.tmp rfl) (opd_int rfl)))) fun a102 w102 s102 => ?_; clear s101
            refine seq_op s102 rfl rfl (of_decide_eq_true rfl) (ob_or2 rfl (.tmp rfl) opd_bool (.tmp rfl)) fun a103 w103 s103 => ?_; clear s102
            refine seq_op s103 rfl rfl (of_decide_eq_true rfl) (ob_move rfl (.tmp rfl)) fun a104 w104 s104 => ?_; clear s103
            refine seq_opg s104 rfl rfl rfl rfl (of_decide_eq_true rfl) (fun hb => ob_move rfl (.tmp rfl)) fun a105 w105 s105 => ?_; clear s104
            refine seq_opg s105 rfl rfl rfl rfl (of_decide_eq_true rfl) (fun hb => (Ob.uncond (t := 112) hb rfl (ob_lenRow rfl Try.underlying85 (.tmp rfl) (.head _)))) fun a106 w106 s106 => ?_; clear s105
            refine seq_opg s106 rfl rfl rfl rfl (of_decide_eq_true rfl) (fun hb => ob_move rfl (.tmp rfl)) fun a107 w107 s107 => ?_; clear s106
            refine seq_opg s107 rfl rfl rfl rfl (of_decide_eq_true rfl) (fun hb => (Ob.uncond (t := 114) hb rfl (ob_lens rfl Try.underlying85 (.tmp rfl)))) fun a108 w108 s108 => ?_; clear s107
            refine seq_opg s108 rfl rfl rfl rfl (of_decide_eq_true rfl) (fun hb => (Ob.uncond (t := 115) hb rfl (ob_sub rfl (.tmp rfl) (opd_int rfl)))) fun a109 w109 s109 => ?_; clear s108
            refine seq_opg s109 rfl rfl rfl rfl (of_decide_eq_true rfl) (fun hb => (Ob.uncond (t := 116) hb rfl ((Ob.uncond (t := 113) hb rfl (ob_neq rfl (.tmp rfl) (.tmp rfl)))))) fun a110 w110 s110 => ?_; clear s109
            obtain ⟨x16, e_x16, h28⟩ := bind_some h27; clear h27; replace e_x16 := Option.some.inj e_x16
            refine seq_op s110 rfl rfl (of_decide_eq_true rfl) ((ob_or2 rfl (.tmp rfl) opd_bool (.tmp rfl)).nm e_x16) fun a111 w111 s111 => ?_; clear s110
            refine wpList_nil ?_
            refine then_normal ?_
            refine hK25 _ _ ?_
            have s112 := s111.sub (.cons (t := 0) rfl (.cons (t := 12) rfl (.cons (t := 14) rfl (.cons (t := 118) rfl .nil)))); clear s111
            refine cond_split s112 (.tmp rfl) (fun hc5 => ?_) (fun hc5 => ?_)
            · replace h28 := ite_t hc5 h28
              have h29 := h28; clear h28
              refine wp_seq_k fun K26 hK26 => ?_
              refine wp_region_lit ?_
              refine seq_op s112 rfl rfl (of_decide_eq_true rfl) (ob_assign rfl opd_bool) fun a113 w113 s113 => ?_; clear s112
              refine wpList_nil ?_
              refine then_normal ?_
              refine hK26 _ _ ?_
              have s114 := s113.sub (.cons (t := 4) rfl .nil); clear s113
              have s115 := St.drop (A := []) s114; clear s114
              refine wp_ret ?_
              obtain rfl := Option.some.inj h29
              exact leave s115 (.inl rfl) rfl (.cons (.tmp rfl) .nil)
            · replace h28 := ite_f hc5 h28
              have h30 := h28; clear h28
              refine wp_skip ?_
              refine then_normal ?_
              refine hK24 _ _ ?_
              have s116 := s112.sub (.cons (t := 0) rfl (.cons (t := 12) rfl (.cons (t := 14) rfl .nil))); clear s112
              refine wp_seq_k fun K27 hK27 => ?_
              refine wp_region_lit ?_
              refine seq_op s116 rfl rfl (of_decide_eq_true rfl) (ob_move rfl (.tmp rfl)) fun a117 w117 s117 => ?_; clear s116
              refine seq_op s117 rfl rfl (of_decide_eq_true rfl) (ob_assign rfl (.tmp rfl)) fun a118 w118 s118 => ?_; clear s117
              refine wpList_nil ?_
              refine then_normal ?_
              refine hK27 _ _ ?_
              have s119 := s118.sub (.cons (t := 0) rfl (.cons (t := 10) rfl (.cons (t := 14) rfl .nil))); clear s118
              refine wp_region_lit ?_
              refine seq_op s119 rfl rfl (of_decide_eq_true rfl) (ob_move rfl (.tmp rfl)) fun a120 w120 s120 => ?_; clear s119
              refine seq_op s120 rfl rfl (of_decide_eq_true rfl) (ob_assign rfl (.tmp rfl)) fun a121 w121 s121 => ?_; clear s120
              refine wpList_nil ?_
              refine in_normal ?_
              refine then_normal ?_
              have s122 := St.freezeAllM (A := []) s121 (ts := [14, 120, 6]) (.cons rfl (.cons rfl (.cons rfl .nil))); clear s121
              exact hK15 (x15.1, x14.1) _ _ h30 (s122.sub (.cons rfl (.cons rfl (.cons rfl .nil))))
        · replace h17 := ite_f hc3 h17
          have h31 := h17; clear h17
          refine wp_exit ?_
          refine (then_exit (then_exit (in_here ?_)))
          refine then_normal ?_
          exact hj2 y4 _ _ h31 (s66.sub (.cons rfl (.cons rfl .nil)))
      refine wp_block ?_
      have s123 := St.freezeAllM (A := []) s44 (ts := [6]) (.cons rfl .nil); clear s44
      refine wp_loop_fuel (fun m (q : (List api_Held) × Int) => caballaw19_QueueMoves.l2 k x6 p1 m q.1 q.2) r (fun _ => rfl) (fun q a w => St ⟨129, w0, ok, []⟩ [] [(0, ((ksl k_api_Node).V p1)), (5, ((kint .i64).V (IntKind.wrap .i64 x6))), (6, ((ksl k_api_Held).V q.1)), (7, ((kint .i64).V q.2))] a w) ?_ k (([] : (List api_Held)), (isub .i64 (p1.length : Int) (1 : Int))) _ _ h11 (s123.sub (.cons rfl (.cons rfl (.cons rfl (.cons rfl .nil)))))
      rintro n2 ⟨y5, y6⟩ a124 w124 h32 s124 K28 hK28
      replace h32 : caballaw19_QueueMoves.l2 k x6 p1 (n2 + 1) y5 y6 = some r := h32; rw [caballaw19_QueueMoves.l2] at h32
      have h33 := h32; clear h32
      refine wp_seq_k fun K29 hK29 => ?_
      refine wp_seq_k fun K30 hK30 => ?_
      refine wp_region_lit ?_
      refine seq_op s124 rfl rfl (of_decide_eq_true rfl) (ob_move rfl (.tmp rfl)) fun a125 w125 s125 => ?_; clear s124
      refine seq_op s125 rfl rfl (of_decide_eq_true rfl) (ob_move rfl (.tmp rfl)) fun a126 w126 s126 => ?_; clear s125
      refine seq_op s126 rfl rfl (of_decide_eq_true rfl) (ob_geq rfl (.tmp rfl) (.tmp rfl)) fun a127 w127 s127 => ?_; clear s126
      refine wpList_nil ?_
      refine then_normal ?_
      refine hK30 _ _ ?_
      have s128 := s127.sub (.cons (t := 0) rfl (.cons (t := 5) rfl (.cons (t := 6) rfl (.cons (t := 7) rfl (.cons (t := 44) rfl .nil))))); clear s127
      refine cond_split s128 (.tmp rfl) (fun hc6 => ?_) (fun hc6 => ?_)
      · replace h33 := ite_t hc6 h33
        have h34 := h33; clear h33
        refine wp_skip ?_
        refine then_normal ?_
        refine hK29 _ _ ?_
        have s129 := s128.sub (.cons (t := 0) rfl (.cons (t := 5) rfl (.cons (t := 6) rfl (.cons (t := 7) rfl .nil)))); clear s128
        refine wp_seq_k fun K31 hK31 => ?_
        refine wp_block ?_
        refine wp_seq_k fun K32 hK32 => ?_
        obtain ⟨x17, e_x17, h35⟩ := bind_some h34; clear h34
        obtain ⟨x18, e_x18, h36⟩ := bind_some h35; clear h35
        obtain ⟨x19, e_x19, h37⟩ := bind_some h36; clear h36
        refine wp_goes (Fs := [((ksl k_api_Held).V y5), ((ksl k_api_Node).V p1), ((kint .i64).V y6), (ptrTo k_api_Node x17), (ptrTo (karr 32 (kint .u8)) x17.Id), ((karr 32 (kint .u8)).V x17.Id), ((ksl k_api_Node).V p1), ((kint .i64).V y6), (ptrTo k_api_Node x18), (ptrTo k_api_Op x18.Op), (k_api_Op.V x18.Op), (k_api_Held.V (⟨x17.Id, x18.Op, []⟩ : api_Held)), (tup [((ksl k_api_Held).V x19.1), ((kint .i64).V x19.2)]), (tup [((ksl k_api_Held).V x19.1), ((kint .i64).V x19.2)]), ((ksl k_api_Held).V x19.1), ((kint .i64).V x19.2), ((ksl k_api_Held).V x19.1)]) (bits := [0, 0, 0, 6, 14, 30, 0, 0, 192, 448, 960, 2046, 4095, 8191, 16383, 16383, 32767, 131071]) (m := 17) (todo := 0) mx s129 ?_; clear s129
        refine goes_last (by kernel_rfl) rfl (opsS_cons (.plain _ (Av.old (t := 6) rfl rfl Av.nil) rfl rfl (ob_move rfl (.tmp rfl))) (opsS_cons (.plain _ (Av.old (t := 0) rfl rfl Av.nil) rfl rfl (ob_move rfl (.tmp rfl))) (opsS_cons (.plain _ (Av.old (t := 7) rfl rfl Av.nil) rfl rfl (ob_move rfl (.tmp rfl))) (opsS_cons (.plain _ (Av.new (j := 1) rfl rfl rfl (Av.new (j := 2) rfl rfl rfl Av.nil)) rfl rfl (ob_indexAddrs rfl Try.underlying22 sz46 (.tmp rfl) (.tmp rfl) e_x17)) (opsS_cons (.plain _ (Av.new (j := 3) rfl rfl rfl Av.nil) rfl rfl (ob_fieldAddrr rfl Try.underlying46 rfl sz39 (by decide) (.tmp rfl) (lg_api_Node_Id x17))) (opsS_cons (.plain _ (Av.new (j := 4) rfl rfl rfl Av.nil) rfl rfl (ob_loadr rfl tk39 (.tmp rfl))) (opsS_cons (.plain _ (Av.old (t := 0) rfl rfl Av.nil) rfl rfl (ob_move rfl (.tmp rfl))) (opsS_cons (.plain _ (Av.old (t := 7) rfl rfl Av.nil) rfl rfl (ob_move rfl (.tmp rfl))) (opsS_cons (.plain _ (Av.new (j := 6) rfl rfl rfl (Av.new (j := 7) rfl rfl rfl Av.nil)) rfl rfl (ob_indexAddrs rfl Try.underlying22 sz46 (.tmp rfl) (.tmp rfl) e_x18)) (opsS_cons (.plain _ (Av.new (j := 8) rfl rfl rfl Av.nil) rfl rfl (ob_fieldAddrr rfl Try.underlying46 rfl sz44 (by decide) (.tmp rfl) (lg_api_Node_Op x18))) (opsS_cons (.plain _ (Av.new (j := 9) rfl rfl rfl Av.nil) rfl rfl (ob_loadr rfl tk44 (.tmp rfl))) (opsS_cons (.plain _ (Av.new (j := 5) rfl rfl rfl (Av.new (j := 10) rfl rfl rfl Av.nil)) rfl rfl (ob_mkStruct (K := k_api_Held) (X0 := (⟨(List.replicate 32 (0 : Int)), (⟨(0 : Int), (0 : Int), [], (0 : Int), [], (List.replicate 32 (0 : Int)), (List.replicate 32 (0 : Int)), [], []⟩ : api_Op), []⟩ : api_Held)) rfl Try.underlying91 zz91 rfl pl91 (Zr.iso (f := t_api_Held) (x := (⟨(List.replicate 32 (0 : Int)), (⟨(0 : Int), (0 : Int), [], (0 : Int), [], (List.replicate 32 (0 : Int)), (List.replicate 32 (0 : Int)), [], []⟩ : api_Op), []⟩ : api_Held)) (Zr.pair (Zr.arr 32 (Zr.int .u8)) (Zr.pair (Zr.iso (f := t_api_Op) (x := (⟨(0 : Int), (0 : Int), [], (0 : Int), [], (List.replicate 32 (0 : Int)), (List.replicate 32 (0 : Int)), [], []⟩ : api_Op)) (Zr.pair (Zr.int .i64) (Zr.pair (Zr.int .u32) (Zr.pair (Zr.sl _) (Zr.pair (Zr.int .i64) (Zr.pair (Zr.sl _) (Zr.pair (Zr.arr 32 (Zr.int .u8)) (Zr.pair (Zr.arr 32 (Zr.int .u8)) (Zr.pair Zr.str (Zr.pair (Zr.sl _) Zr.nil)))))))))) (Zr.pair (Zr.sl _) Zr.nil)))) (.cons (.tmp rfl) rfl (ls_api_Held_Id (⟨(List.replicate 32 (0 : Int)), (⟨(0 : Int), (0 : Int), [], (0 : Int), [], (List.replicate 32 (0 : Int)), (List.replicate 32 (0 : Int)), [], []⟩ : api_Op), []⟩ : api_Held) x17.Id) (.cons (.tmp rfl) rfl (ls_api_Held_Op (⟨x17.Id, (⟨(0 : Int), (0 : Int), [], (0 : Int), [], (List.replicate 32 (0 : Int)), (List.replicate 32 (0 : Int)), [], []⟩ : api_Op), []⟩ : api_Held) x18.Op) (.nil _))))) (opsS_cons (.plain _ (Av.new (j := 0) rfl rfl rfl (Av.new (j := 11) rfl rfl rfl Av.nil)) rfl rfl (ob_callD (args := [_, _]) rfl .direct hb66 (fun a w s fs gs hf hg => by obtain rfl := hf.unnil; obtain rfl := hg.unnil; exact c_queue_Put_w2 k _ _ _ e_x19 _ _ _ _ (s.arg (.tmp rfl)) (s.arg (.tmp rfl))))) (opsS_cons (.plain _ (Av.new (j := 12) rfl rfl rfl Av.nil) rfl rfl (ob_move rfl (.tmp rfl))) (opsS_cons (.plain _ (Av.new (j := 13) rfl rfl rfl Av.nil) rfl rfl (ob_extract rfl (.tmp rfl) rfl)) (opsS_cons (.plain _ (Av.new (j := 13) rfl rfl rfl Av.nil) rfl rfl (ob_extract rfl (.tmp rfl) rfl)) (opsS_cons (.plain _ (Av.new (j := 14) rfl rfl rfl Av.nil) rfl rfl (ob_assign rfl (.tmp rfl))) opsS_nil))))))))))))))))) (out_old (t := 0) rfl rfl (out_old (t := 5) rfl rfl (out_old (t := 7) rfl rfl (out_new (i := 16) (by decide) rfl rfl (out_new (i := 15) (by decide) rfl rfl out_nil))))) fun a130 w130 s130 => ?_
        refine seq_op s130 rfl rfl (of_decide_eq_true rfl) (ob_assign rfl (.tmp rfl)) fun a131 w131 s131 => ?_; clear s130
        refine wpList_nil ?_
        refine then_normal ?_
        refine hK32 _ _ ?_
        have s132 := s131.sub (.cons (t := 0) rfl (.cons (t := 5) rfl (.cons (t := 7) rfl (.cons (t := 8) rfl (.cons (t := 9) rfl .nil))))); clear s131
        refine wp_seq_k fun K33 hK33 => ?_
        refine wp_seq_k fun K34 hK34 => ?_
        refine wp_region_lit ?_
        refine seq_op s132 rfl rfl (of_decide_eq_true rfl) (ob_move rfl (.tmp rfl)) fun a133 w133 s133 => ?_; clear s132
        refine seq_op s133 rfl rfl (of_decide_eq_true rfl) (ob_neq rfl (.tmp rfl) (opd_int rfl)) fun a134 w134 s134 => ?_; clear s133
        refine wpList_nil ?_
        refine then_normal ?_
        refine hK34 _ _ ?_
        have s135 := s134.sub (.cons (t := 0) rfl (.cons (t := 5) rfl (.cons (t := 7) rfl (.cons (t := 8) rfl (.cons (t := 64) rfl .nil))))); clear s134
        refine cond_split s135 (.tmp rfl) (fun hc7 => ?_) (fun hc7 => ?_)
        · replace h37 := ite_t hc7 h37
          have h38 := h37; clear h37
          refine wp_seq_k fun K35 hK35 => ?_
          refine wp_region_lit ?_
          refine seq_op s135 rfl rfl (of_decide_eq_true rfl) (ob_assign rfl opd_bool) fun a136 w136 s136 => ?_; clear s135
          refine wpList_nil ?_
          refine then_normal ?_
          refine hK35 _ _ ?_
          have s137 := s136.sub (.cons (t := 4) rfl .nil); clear s136
          refine wp_ret ?_
          obtain rfl := Option.some.inj h38
          exact leave s137 (.inl rfl) rfl (.cons (.tmp rfl) .nil)
        · replace h37 := ite_f hc7 h37
          have h39 := h37; clear h37
          refine wp_skip ?_
          refine then_normal ?_
          refine hK33 _ _ ?_
          have s138 := s135.sub (.cons (t := 0) rfl (.cons (t := 5) rfl (.cons (t := 7) rfl (.cons (t := 8) rfl .nil)))); clear s135
          refine wp_region_lit ?_
          refine seq_op s138 rfl rfl (of_decide_eq_true rfl) (ob_move rfl (.tmp rfl)) fun a139 w139 s139 => ?_; clear s138
          refine seq_op s139 rfl rfl (of_decide_eq_true rfl) (ob_assign rfl (.tmp rfl)) fun a140 w140 s140 => ?_; clear s139
          refine wpList_nil ?_
          refine in_normal ?_
          refine then_normal ?_
          refine hK31 _ _ ?_
          have s141 := s140.sub (.cons (t := 0) rfl (.cons (t := 5) rfl (.cons (t := 6) rfl (.cons (t := 7) rfl .nil)))); clear s140
          refine wp_region_lit ?_
          refine seq_op s141 rfl rfl (of_decide_eq_true rfl) (ob_move rfl (.tmp rfl)) fun a142 w142 s142 => ?_; clear s141
          refine seq_op s142 rfl rfl (of_decide_eq_true rfl) (ob_sub rfl (.tmp rfl) (opd_int rfl)) fun a143 w143 s143 => ?_; clear s142
          refine seq_op s143 rfl rfl (of_decide_eq_true rfl) (ob_assign rfl (.tmp rfl)) fun a144 w144 s144 => ?_; clear s143
          refine wpList_nil ?_
          refine then_normal ?_
          exact hK28 (x19.1, (isub .i64 y6 (1 : Int))) _ _ h39 (s144.sub (.cons rfl (.cons rfl (.cons rfl (.cons rfl .nil)))))
      · replace h33 := ite_f hc6 h33
        have h40 := h33; clear h33
        refine wp_exit ?_
        refine (then_exit (then_exit (in_here ?_)))
        refine then_normal ?_
        exact hj1 y5 _ _ h40 (s128.sub (.cons rfl (.cons rfl (.cons rfl .nil))))

end Go.Proofs.Ytdlnfgpcnfbjiaa
