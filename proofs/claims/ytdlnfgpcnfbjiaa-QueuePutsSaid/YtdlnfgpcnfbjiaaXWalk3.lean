/- Each function's code comes to what its plain function answers. No condition. -/
import Derived.Test.YtdlnfgpcnfbjiaaXWalk2
namespace Go.Proofs.Ytdlnfgpcnfbjiaa
open Go Go.RowKit Go.Proofs.Kit Go.Proofs.Pure
set_option linter.unusedVariables false
set_option linter.unusedSimpArgs false
set_option maxRecDepth 100000
set_option maxHeartbeats 2000000

/- 60 cabal/cabalref19.Great -/
theorem c_cabalref19_Great (k : Nat) (p1 : (List api_Held)) (r : Bool) (h0 : cabalref19_Great k p1 = some r) (ok : Ok) (w0 : World) (z0 : Value) (u0 : ((ksl k_api_Held).V p1).holds ok w0 z0) :
    Gives Try.prog 60 [z0] ok w0 (resFact [kbool.V r]) := by
  unfold cabalref19_Great at h0
  refine enter (N := 28) Try.func60 rfl rfl (of_decide_eq_true rfl) (.cons u0 .nil) fun a1 s1 => ?_
  refine wp_seq_k fun K1 hK1 => ?_
  refine wp_region_lit ?_
  refine seq_op s1 rfl rfl (of_decide_eq_true rfl) (ob_assign rfl opd_bool) fun a2 w2 s2 => ?_; clear s1
  refine wpList_nil ?_
  refine then_normal ?_
  refine hK1 _ _ ?_
  have s3 := s2.sub (.cons (t := 0) rfl .nil); clear s2
  refine wp_seq_k fun K2 hK2 => ?_
  refine wp_seq_k fun K3 hK3 => ?_
  refine wp_region_lit ?_
  refine seq_op s3 rfl rfl (of_decide_eq_true rfl) (ob_move rfl (.tmp rfl)) fun a4 w4 s4 => ?_; clear s3
  refine seq_op s4 rfl rfl (of_decide_eq_true rfl) (ob_lens rfl Try.underlying85 (.tmp rfl)) fun a5 w5 s5 => ?_; clear s4
  refine seq_op s5 rfl rfl (of_decide_eq_true rfl) (ob_gtr rfl (.tmp rfl) (opd_int rfl)) fun a6 w6 s6 => ?_; clear s5
  refine wpList_nil ?_
  refine then_normal ?_
  refine hK3 _ _ ?_
  have s7 := s6.sub (.cons (t := 0) rfl (.cons (t := 6) rfl .nil)); clear s6
  refine cond_split s7 (.tmp rfl) (fun hc1 => ?_) (fun hc1 => ?_)
  · replace h0 := ite_t hc1 h0
    have h1 := h0; clear h0
    refine wp_seq_k fun K4 hK4 => ?_
    refine wp_region_lit ?_
    refine seq_op s7 rfl rfl (of_decide_eq_true rfl) (ob_assign rfl opd_bool) fun a8 w8 s8 => ?_; clear s7
    refine wpList_nil ?_
    refine then_normal ?_
    refine hK4 _ _ ?_
    have s9 := s8.sub (.cons (t := 2) rfl .nil); clear s8
    refine wp_ret ?_
    obtain rfl := Option.some.inj h1
    exact leave s9 (.inl rfl) rfl (.cons (.tmp rfl) .nil)
  · replace h0 := ite_f hc1 h0
    have h2 := h0; clear h0
    refine wp_skip ?_
    refine then_normal ?_
    refine hK2 _ _ ?_
    have s10 := s7.sub (.cons (t := 0) rfl .nil); clear s7
    refine wp_seq_k fun K5 hK5 => ?_
    refine wp_seq_k fun K6 hK6 => ?_
    refine wp_region_lit ?_
    refine seq_op s10 rfl rfl (of_decide_eq_true rfl) (ob_assign rfl (opd_int rfl)) fun a11 w11 s11 => ?_; clear s10
    refine wpList_nil ?_
    refine then_normal ?_
    refine hK6 _ _ ?_
    have s12 := s11.sub (.cons (t := 0) rfl (.cons (t := 3) rfl .nil)); clear s11
    have hj1 : ∀ (a : Act) (w : World), (cabalref19_Great.j1 k) = some r → St ⟨28, w0, ok, []⟩ [] [] a w → K5 a w := by
      intro a13 w13 h3 s13
      unfold cabalref19_Great.j1 at h3
      refine hK5 _ _ ?_
      refine wp_seq_k fun K7 hK7 => ?_
      refine wp_region_lit ?_
      refine seq_op s13 rfl rfl (of_decide_eq_true rfl) (ob_assign rfl opd_bool) fun a14 w14 s14 => ?_; clear s13
      refine wpList_nil ?_
      refine then_normal ?_
      refine hK7 _ _ ?_
      have s15 := s14.sub (.cons (t := 2) rfl .nil); clear s14
      refine wp_ret ?_
      obtain rfl := Option.some.inj h3
      exact leave s15 (.inl rfl) rfl (.cons (.tmp rfl) .nil)
    refine wp_block ?_
    refine wp_loop_fuel (fun m (q : Int) => cabalref19_Great.l1 k p1 m q) r (fun _ => rfl) (fun q a w => St ⟨28, w0, ok, []⟩ [] [(0, ((ksl k_api_Held).V p1)), (3, ((kint .i64).V q))] a w) ?_ k (0 : Int) _ _ h2 (s12.sub (.cons rfl (.cons rfl .nil)))
    rintro n1 y1 a16 w16 h4 s16 K8 hK8
    replace h4 : cabalref19_Great.l1 k p1 (n1 + 1) y1 = some r := h4; rw [cabalref19_Great.l1] at h4
    have h5 := h4; clear h4
    refine wp_seq_k fun K9 hK9 => ?_
    refine wp_seq_k fun K10 hK10 => ?_
    refine wp_region_lit ?_
    refine seq_op s16 rfl rfl (of_decide_eq_true rfl) (ob_move rfl (.tmp rfl)) fun a17 w17 s17 => ?_; clear s16
    refine seq_op s17 rfl rfl (of_decide_eq_true rfl) (ob_move rfl (.tmp rfl)) fun a18 w18 s18 => ?_; clear s17
    refine seq_op s18 rfl rfl (of_decide_eq_true rfl) (ob_lens rfl Try.underlying85 (.tmp rfl)) fun a19 w19 s19 => ?_; clear s18
    refine seq_op s19 rfl rfl (of_decide_eq_true rfl) (ob_lss rfl (.tmp rfl) (.tmp rfl)) fun a20 w20 s20 => ?_; clear s19
    refine wpList_nil ?_
    refine then_normal ?_
    refine hK10 _ _ ?_
    have s21 := s20.sub (.cons (t := 0) rfl (.cons (t := 3) rfl (.cons (t := 10) rfl .nil))); clear s20
    refine cond_split s21 (.tmp rfl) (fun hc2 => ?_) (fun hc2 => ?_)
    · replace h5 := ite_t hc2 h5
      have h6 := h5; clear h5
      refine wp_skip ?_
      refine then_normal ?_
      refine hK9 _ _ ?_
      have s22 := s21.sub (.cons (t := 0) rfl (.cons (t := 3) rfl .nil)); clear s21
      refine wp_seq_k fun K11 hK11 => ?_
      refine wp_block ?_
      refine wp_seq_k fun K12 hK12 => ?_
      refine wp_region_lit ?_
      refine seq_op s22 rfl rfl (of_decide_eq_true rfl) (ob_move rfl (.tmp rfl)) fun a23 w23 s23 => ?_; clear s22
      refine seq_op s23 rfl rfl (of_decide_eq_true rfl) (ob_move rfl (.tmp rfl)) fun a24 w24 s24 => ?_; clear s23
      obtain ⟨x1, e_x1, h7⟩ := bind_some h6; clear h6
      refine seq_op s24 rfl rfl (of_decide_eq_true rfl) (ob_indexAddrs rfl Try.underlying85 sz91 (.tmp rfl) (.tmp rfl) e_x1) fun a25 w25 s25 => ?_; clear s24
      refine seq_op s25 rfl rfl (of_decide_eq_true rfl) (ob_fieldAddrr rfl Try.underlying91 rfl sz44 (by decide) (.tmp rfl) (lg_api_Held_Op x1)) fun a26 w26 s26 => ?_; clear s25
      refine seq_op s26 rfl rfl (of_decide_eq_true rfl) (ob_loadr rfl tk44 (.tmp rfl)) fun a27 w27 s27 => ?_; clear s26
      obtain ⟨x2, e_x2, h8⟩ := bind_some h7; clear h7
      refine seq_op s27 rfl rfl (of_decide_eq_true rfl) (ob_callD (args := [_]) rfl .direct hb51 (fun a w s fs gs hf hg => by obtain rfl := hf.unnil; obtain rfl := hg.unnil; exact c_cabalref11_Great k _ _ e_x2 _ _ _ (s.arg (.tmp rfl)))) fun a28 w28 s28 => ?_; clear s27
      refine seq_op s28 rfl rfl (of_decide_eq_true rfl) (ob_move rfl (.tmp rfl)) fun a29 w29 s29 => ?_; clear s28
      refine seq_opg s29 rfl rfl rfl rfl (of_decide_eq_true rfl) (fun hb => ob_move rfl (.tmp rfl)) fun a30 w30 s30 => ?_; clear s29
      refine seq_opg s30 rfl rfl rfl rfl (of_decide_eq_true rfl) (fun hb => ob_move rfl (.tmp rfl)) fun a31 w31 s31 => ?_; clear s30
      obtain ⟨x3, e_x3, h9⟩ := bind_some h8; clear h8
      refine seq_opg s31 rfl rfl rfl rfl (of_decide_eq_true rfl) (fun hb => (Ob.uncond (t := 21) hb rfl ((Ob.uncond (t := 20) hb rfl (ob_indexAddrs rfl Try.underlying85 sz91 (.tmp rfl) (.tmp rfl) (ite_t hb e_x3)))))) fun a32 w32 s32 => ?_; clear s31
      refine seq_opg s32 rfl rfl rfl rfl (of_decide_eq_true rfl) (fun hb => (Ob.uncond (t := 22) hb rfl (ob_fieldAddrr rfl Try.underlying91 rfl sz40 (by decide) (.tmp rfl) (lg_api_Held_Got x3)))) fun a33 w33 s33 => ?_; clear s32
      refine seq_opg s33 rfl rfl rfl rfl (of_decide_eq_true rfl) (fun hb => (Ob.uncond (t := 23) hb rfl (ob_loadr rfl tk40 (.tmp rfl)))) fun a34 w34 s34 => ?_; clear s33
      refine seq_opg s34 rfl rfl rfl rfl (of_decide_eq_true rfl) (fun hb => (Ob.uncond (t := 24) hb rfl (ob_lens rfl Try.underlying40 (.tmp rfl)))) fun a35 w35 s35 => ?_; clear s34
      refine seq_opg s35 rfl rfl rfl rfl (of_decide_eq_true rfl) (fun hb => (Ob.uncond (t := 25) hb rfl (ob_gtr rfl (.tmp rfl) (opd_int rfl)))) fun a36 w36 s36 => ?_; clear s35
      refine seq_op s36 rfl rfl (of_decide_eq_true rfl) (ob_or2 rfl (.tmp rfl) opd_bool (.tmp rfl)) fun a37 w37 s37 => ?_; clear s36
      refine wpList_nil ?_
      refine then_normal ?_
      refine hK12 _ _ ?_
      have s38 := s37.sub (.cons (t := 0) rfl (.cons (t := 3) rfl (.cons (t := 27) rfl .nil))); clear s37
      refine cond_split s38 (.tmp rfl) (fun hc3 => ?_) (fun hc3 => ?_)
      · replace h9 := ite_t hc3 h9
        have h10 := h9; clear h9
        refine wp_seq_k fun K13 hK13 => ?_
        refine wp_region_lit ?_
        refine seq_op s38 rfl rfl (of_decide_eq_true rfl) (ob_assign rfl opd_bool) fun a39 w39 s39 => ?_; clear s38
        refine wpList_nil ?_
        refine then_normal ?_
        refine hK13 _ _ ?_
        have s40 := s39.sub (.cons (t := 2) rfl .nil); clear s39
        refine wp_ret ?_
        obtain rfl := Option.some.inj h10
        exact leave s40 (.inl rfl) rfl (.cons (.tmp rfl) .nil)
      · replace h9 := ite_f hc3 h9
        have h11 := h9; clear h9
        refine wp_skip ?_
        refine in_normal ?_
        refine then_normal ?_
        refine hK11 _ _ ?_
        have s41 := s38.sub (.cons (t := 0) rfl (.cons (t := 3) rfl .nil)); clear s38
        refine wp_region_lit ?_
        refine seq_op s41 rfl rfl (of_decide_eq_true rfl) (ob_move rfl (.tmp rfl)) fun a42 w42 s42 => ?_; clear s41
        refine seq_op s42 rfl rfl (of_decide_eq_true rfl) (ob_add rfl (.tmp rfl) (opd_int rfl)) fun a43 w43 s43 => ?_; clear s42
        refine seq_op s43 rfl rfl (of_decide_eq_true rfl) (ob_assign rfl (.tmp rfl)) fun a44 w44 s44 => ?_; clear s43
        refine wpList_nil ?_
        refine then_normal ?_
        exact hK8 (iadd .i64 y1 (1 : Int)) _ _ h11 (s44.sub (.cons rfl (.cons rfl .nil)))
    · replace h5 := ite_f hc2 h5
      have h12 := h5; clear h5
      refine wp_exit ?_
      refine (then_exit (then_exit (in_here ?_)))
      refine then_normal ?_
      exact hj1 _ _ h12 (s21.sub .nil)

/- 129 cabal/cabalref11.Member -/
theorem c_cabalref11_Member (k : Nat) (p1 : Int) (r : Bool) (h0 : cabalref11_Member k p1 = some r) (ok : Ok) (w0 : World) (z0 : Value) (u0 : ((kint .i64).V p1).holds ok w0 z0) :
    Gives Try.prog 129 [z0] ok w0 (resFact [kbool.V r]) := by
  unfold cabalref11_Member at h0
  refine enter (N := 9) Try.func129 rfl rfl (of_decide_eq_true rfl) (.cons u0 .nil) fun a1 s1 => ?_
  refine wp_seq_k fun K1 hK1 => ?_
  refine wp_region_lit ?_
  refine seq_op s1 rfl rfl (of_decide_eq_true rfl) (ob_assign rfl opd_bool) fun a2 w2 s2 => ?_; clear s1
  refine wpList_nil ?_
  refine then_normal ?_
  refine hK1 _ _ ?_
  have s3 := s2.sub (.cons (t := 0) rfl .nil); clear s2
  refine wp_seq_k fun K2 hK2 => ?_
  refine wp_region_lit ?_
  refine seq_op s3 rfl rfl (of_decide_eq_true rfl) (ob_move rfl (.tmp rfl)) fun a4 w4 s4 => ?_; clear s3
  refine seq_op s4 rfl rfl (of_decide_eq_true rfl) (ob_geq rfl (.tmp rfl) (opd_int rfl)) fun a5 w5 s5 => ?_; clear s4
  refine seq_op s5 rfl rfl (of_decide_eq_true rfl) (ob_move rfl (.tmp rfl)) fun a6 w6 s6 => ?_; clear s5
  refine seq_opg s6 rfl rfl rfl rfl (of_decide_eq_true rfl) (fun hb => ob_move rfl (.tmp rfl)) fun a7 w7 s7 => ?_; clear s6
  refine seq_opg s7 rfl rfl rfl rfl (of_decide_eq_true rfl) (fun hb => (Ob.uncond (t := 6) hb rfl (ob_leq rfl (.tmp rfl) (opd_int rfl)))) fun a8 w8 s8 => ?_; clear s7
  obtain ⟨x1, e_x1, h1⟩ := bind_some h0; clear h0; replace e_x1 := Option.some.inj e_x1
  refine seq_op s8 rfl rfl (of_decide_eq_true rfl) ((ob_and2 rfl (.tmp rfl) (.tmp rfl) opd_bool).nm e_x1) fun a9 w9 s9 => ?_; clear s8
  refine seq_op s9 rfl rfl (of_decide_eq_true rfl) (ob_assign rfl (.tmp rfl)) fun a10 w10 s10 => ?_; clear s9
  refine wpList_nil ?_
  refine then_normal ?_
  refine hK2 _ _ ?_
  have s11 := s10.sub (.cons (t := 2) rfl .nil); clear s10
  refine wp_ret ?_
  obtain rfl := Option.some.inj h1
  exact leave s11 (.inl rfl) rfl (.cons (.tmp rfl) .nil)

/- 108 cabal/cabalref11.Less -/
theorem c_cabalref11_Less (k : Nat) (p1 : (List Int)) (p2 : (List Int)) (r : Bool) (h0 : cabalref11_Less k p1 p2 = some r) (ok : Ok) (w0 : World) (z0 : Value) (z1 : Value) (u0 : ((karr 32 (kint .u8)).V p1).holds ok w0 z0) (u1 : ((karr 32 (kint .u8)).V p2).holds ok w0 z1) :
    Gives Try.prog 108 [z0, z1] ok w0 (resFact [kbool.V r]) := by
  unfold cabalref11_Less at h0
  refine enter (N := 24) Try.func108 rfl rfl (of_decide_eq_true rfl) (.cons u0 (.cons u1 .nil)) fun a1 s1 => ?_
  refine wp_seq_k fun K1 hK1 => ?_
  refine wp_region_lit ?_
  refine seq_opx (B' := (fun b1 : Nat => [BF b1 39 (karr 32 (kint .u8)) p1])) s1 rfl rfl (of_decide_eq_true rfl) (ob_box rfl (.tmp rfl)) fun b1 a2 w2 s2 => ?_; clear s1
  refine seq_opx (B' := (fun b2 : Nat => [BF b2 39 (karr 32 (kint .u8)) p2, BF b1 39 (karr 32 (kint .u8)) p1])) s2 rfl rfl (of_decide_eq_true rfl) (ob_box rfl (.tmp rfl)) fun b2 a3 w3 s3 => ?_; clear s2
  refine seq_op s3 rfl rfl (of_decide_eq_true rfl) (ob_assign rfl opd_bool) fun a4 w4 s4 => ?_; clear s3
  refine wpList_nil ?_
  refine then_normal ?_
  refine hK1 _ _ ?_
  have s5 := s4.sub (.cons (t := 2) rfl (.cons (t := 3) rfl .nil)); clear s4
  refine wp_seq_k fun K2 hK2 => ?_
  refine wp_seq_k fun K3 hK3 => ?_
  refine wp_region_lit ?_
  refine seq_op s5 rfl rfl (of_decide_eq_true rfl) (ob_assign rfl (opd_int rfl)) fun a6 w6 s6 => ?_; clear s5
  refine wpList_nil ?_
  refine then_normal ?_
  refine hK3 _ _ ?_
  have s7 := s6.sub (.cons (t := 2) rfl (.cons (t := 3) rfl (.cons (t := 5) rfl .nil))); clear s6
  have hj1 : ∀ (a : Act) (w : World), (cabalref11_Less.j1 k) = some r → St ⟨24, w0, ok, []⟩ [] [] a w → K2 a w := by
    intro a8 w8 h1 s8
    unfold cabalref11_Less.j1 at h1
    refine hK2 _ _ ?_
    refine wp_seq_k fun K4 hK4 => ?_
    refine wp_region_lit ?_
    refine seq_op s8 rfl rfl (of_decide_eq_true rfl) (ob_assign rfl opd_bool) fun a9 w9 s9 => ?_; clear s8
    refine wpList_nil ?_
    refine then_normal ?_
    refine hK4 _ _ ?_
    have s10 := s9.sub (.cons (t := 4) rfl .nil); clear s9
    refine wp_ret ?_
    obtain rfl := Option.some.inj h1
    exact leave s10 (.inl rfl) rfl (.cons (.tmp rfl) .nil)
  refine wp_block ?_
  have s11 := s7.perm (toFront [_] (toFront [] (List.Perm.refl _))); clear s7
  refine wp_loop_fuel (fun m (q : Int) => cabalref11_Less.l1 k p1 p2 m q) r (fun _ => rfl) (fun q a w => St ⟨24, w0, ok, []⟩ [BF b1 39 (karr 32 (kint .u8)) p1, BF b2 39 (karr 32 (kint .u8)) p2] [(2, (ptrB b1 0)), (3, (ptrB b2 0)), (5, ((kint .i64).V q))] a w) ?_ k (0 : Int) _ _ h0 (s11.sub (.cons rfl (.cons rfl (.cons rfl .nil))))
  rintro n1 y1 a12 w12 h2 s12 K5 hK5
  replace h2 : cabalref11_Less.l1 k p1 p2 (n1 + 1) y1 = some r := h2; rw [cabalref11_Less.l1] at h2
  have h3 := h2; clear h2
  refine wp_seq_k fun K6 hK6 => ?_
  refine wp_seq_k fun K7 hK7 => ?_
  refine wp_region_lit ?_
  refine seq_op s12 rfl rfl (of_decide_eq_true rfl) (ob_move rfl (.tmp rfl)) fun a13 w13 s13 => ?_; clear s12
  refine seq_op s13 rfl rfl (of_decide_eq_true rfl) (ob_lss rfl (.tmp rfl) (opd_int rfl)) fun a14 w14 s14 => ?_; clear s13
  refine wpList_nil ?_
  refine then_normal ?_
  refine hK7 _ _ ?_
  have s15 := s14.sub (.cons (t := 2) rfl (.cons (t := 3) rfl (.cons (t := 5) rfl (.cons (t := 7) rfl .nil)))); clear s14
  refine cond_split s15 (.tmp rfl) (fun hc1 => ?_) (fun hc1 => ?_)
  · replace h3 := ite_t hc1 h3
    have h4 := h3; clear h3
    refine wp_skip ?_
    refine then_normal ?_
    refine hK6 _ _ ?_
    have s16 := s15.sub (.cons (t := 2) rfl (.cons (t := 3) rfl (.cons (t := 5) rfl .nil))); clear s15
    refine wp_seq_k fun K8 hK8 => ?_
    refine wp_block ?_
    refine wp_seq_k fun K9 hK9 => ?_
    obtain ⟨g1, h5⟩ := guard_some h4; clear h4
    obtain ⟨x1, e_x1, h6⟩ := bind_some h5; clear h5
    obtain ⟨g2, h7⟩ := guard_some h6; clear h6
    obtain ⟨x2, e_x2, h8⟩ := bind_some h7; clear h7
    refine wp_goes (Fs := [((kint .i64).V y1), (ptrB b1 (y1.toNat * 1)), ((kint .u8).V x1), ((kint .i64).V y1), (ptrB b2 (y1.toNat * 1)), ((kint .u8).V x2)]) (bits := [0, 1, 3, 0, 8, 24, 63]) (m := 6) (todo := 0) mx s16 ?_; clear s16
    refine goes_last (by kernel_rfl) rfl (opsS_cons (.plain _ (Av.old (t := 5) rfl rfl Av.nil) rfl rfl (ob_move rfl (.tmp rfl))) (opsS_cons (.plain _ (Av.old (t := 2) rfl rfl (Av.new (j := 0) rfl rfl rfl Av.nil)) rfl rfl (ob_indexAddr rfl Try.underlying39 sz5 (.tmp rfl) (.tmp rfl) g1.1 g1.2 (Nat.zero_add _))) (opsS_cons (.plain _ (Av.new (j := 1) rfl rfl rfl Av.nil) rfl rfl (ob_load rfl tk5 (.tmp rfl) (.head _) (LG.arrA e_x1))) (opsS_cons (.plain _ (Av.old (t := 5) rfl rfl Av.nil) rfl rfl (ob_move rfl (.tmp rfl))) (opsS_cons (.plain _ (Av.old (t := 3) rfl rfl (Av.new (j := 3) rfl rfl rfl Av.nil)) rfl rfl (ob_indexAddr rfl Try.underlying39 sz5 (.tmp rfl) (.tmp rfl) g2.1 g2.2 (Nat.zero_add _))) (opsS_cons (.plain _ (Av.new (j := 4) rfl rfl rfl Av.nil) rfl rfl (ob_load rfl tk5 (.tmp rfl) (.tail _ (.head _)) (LG.arrA e_x2))) opsS_nil)))))) (out_old (t := 2) rfl rfl (out_old (t := 3) rfl rfl (out_old (t := 5) rfl rfl (out_new (i := 2) (by decide) rfl rfl (out_new (i := 5) (by decide) rfl rfl out_nil))))) fun a17 w17 s17 => ?_
    refine seq_op s17 rfl rfl (of_decide_eq_true rfl) (ob_neq rfl (.tmp rfl) (.tmp rfl)) fun a18 w18 s18 => ?_; clear s17
    refine wpList_nil ?_
    refine then_normal ?_
    refine hK9 _ _ ?_
    have s19 := s18.sub (.cons (t := 2) rfl (.cons (t := 3) rfl (.cons (t := 5) rfl (.cons (t := 16) rfl .nil)))); clear s18
    refine cond_split s19 (.tmp rfl) (fun hc2 => ?_) (fun hc2 => ?_)
    · replace h8 := ite_t hc2 h8
      have h9 := h8; clear h8
      refine wp_seq_k fun K10 hK10 => ?_
      obtain ⟨g3, h10⟩ := guard_some h9; clear h9
      obtain ⟨x3, e_x3, h11⟩ := bind_some h10; clear h10
      obtain ⟨g4, h12⟩ := guard_some h11; clear h11
      obtain ⟨x4, e_x4, h13⟩ := bind_some h12; clear h12
      refine wp_goes (Fs := [((kint .i64).V y1), (ptrB b1 (y1.toNat * 1)), ((kint .u8).V x3), ((kint .i64).V y1), (ptrB b2 (y1.toNat * 1)), ((kint .u8).V x4)]) (bits := [0, 1, 3, 0, 8, 24, 63, 127]) (m := 6) (todo := 0) mx s19 ?_; clear s19
      refine goes_last (by kernel_rfl) rfl (opsS_cons (.plain _ (Av.old (t := 5) rfl rfl Av.nil) rfl rfl (ob_move rfl (.tmp rfl))) (opsS_cons (.plain _ (Av.old (t := 2) rfl rfl (Av.new (j := 0) rfl rfl rfl Av.nil)) rfl rfl (ob_indexAddr rfl Try.underlying39 sz5 (.tmp rfl) (.tmp rfl) g3.1 g3.2 (Nat.zero_add _))) (opsS_cons (.plain _ (Av.new (j := 1) rfl rfl rfl Av.nil) rfl rfl (ob_load rfl tk5 (.tmp rfl) (.head _) (LG.arrA e_x3))) (opsS_cons (.plain _ (Av.old (t := 5) rfl rfl Av.nil) rfl rfl (ob_move rfl (.tmp rfl))) (opsS_cons (.plain _ (Av.old (t := 3) rfl rfl (Av.new (j := 3) rfl rfl rfl Av.nil)) rfl rfl (ob_indexAddr rfl Try.underlying39 sz5 (.tmp rfl) (.tmp rfl) g4.1 g4.2 (Nat.zero_add _))) (opsS_cons (.plain _ (Av.new (j := 4) rfl rfl rfl Av.nil) rfl rfl (ob_load rfl tk5 (.tmp rfl) (.tail _ (.head _)) (LG.arrA e_x4))) opsS_nil)))))) (out_new (i := 2) (by decide) rfl rfl (out_new (i := 5) (by decide) rfl rfl out_nil)) fun a20 w20 s20 => ?_
      refine seq_op s20 rfl rfl (of_decide_eq_true rfl) (ob_lss rfl (.tmp rfl) (.tmp rfl)) fun a21 w21 s21 => ?_; clear s20
      refine seq_op s21 rfl rfl (of_decide_eq_true rfl) (ob_assign rfl (.tmp rfl)) fun a22 w22 s22 => ?_; clear s21
      refine wpList_nil ?_
      refine then_normal ?_
      refine hK10 _ _ ?_
      have s23 := s22.sub (.cons (t := 4) rfl .nil); clear s22
      have s24 := St.drop (A := []) s23; clear s23
      have s25 := St.drop (A := []) s24; clear s24
      refine wp_ret ?_
      obtain rfl := Option.some.inj h13
      exact leave s25 (.inl rfl) rfl (.cons (.tmp rfl) .nil)
    · replace h8 := ite_f hc2 h8
      have h14 := h8; clear h8
      refine wp_skip ?_
      refine in_normal ?_
      refine then_normal ?_
      refine hK8 _ _ ?_
      have s26 := s19.sub (.cons (t := 2) rfl (.cons (t := 3) rfl (.cons (t := 5) rfl .nil))); clear s19
      refine wp_region_lit ?_
      refine seq_op s26 rfl rfl (of_decide_eq_true rfl) (ob_move rfl (.tmp rfl)) fun a27 w27 s27 => ?_; clear s26
      refine seq_op s27 rfl rfl (of_decide_eq_true rfl) (ob_add rfl (.tmp rfl) (opd_int rfl)) fun a28 w28 s28 => ?_; clear s27
      refine seq_op s28 rfl rfl (of_decide_eq_true rfl) (ob_assign rfl (.tmp rfl)) fun a29 w29 s29 => ?_; clear s28
      refine wpList_nil ?_
      refine then_normal ?_
      exact hK5 (iadd .i64 y1 (1 : Int)) _ _ h14 (s29.sub (.cons rfl (.cons rfl (.cons rfl .nil))))
  · replace h3 := ite_f hc1 h3
    have h15 := h3; clear h3
    refine wp_exit ?_
    refine (then_exit (then_exit (in_here ?_)))
    refine then_normal ?_
    have s30 := St.drop (A := []) s15; clear s15
    have s31 := St.drop (A := []) s30; clear s30
    exact hj1 _ _ h15 (s31.sub .nil)

/- 130 cabal/cabalref11.kind -/
theorem c_cabalref11_kind (k : Nat) (p1 : api_Op) (p2 : Bool) (r : Bool) (h0 : cabalref11_kind k p1 p2 = some r) (ok : Ok) (w0 : World) (z0 : Value) (z1 : Value) (u0 : (k_api_Op.V p1).holds ok w0 z0) (u1 : (kbool.V p2).holds ok w0 z1) :
    Gives Try.prog 130 [z0, z1] ok w0 (resFact [kbool.V r]) := by
  unfold cabalref11_kind at h0
  refine enter (N := 100) Try.func130 rfl rfl (of_decide_eq_true rfl) (.cons u0 (.cons u1 .nil)) fun a1 s1 => ?_
  refine wp_seq_k fun K1 hK1 => ?_
  refine wp_region_lit ?_
  refine seq_opx (B' := (fun b1 : Nat => [BF b1 44 k_api_Op p1])) s1 rfl rfl (of_decide_eq_true rfl) (ob_box rfl (.tmp rfl)) fun b1 a2 w2 s2 => ?_; clear s1
  refine seq_op s2 rfl rfl (of_decide_eq_true rfl) (ob_assign rfl opd_bool) fun a3 w3 s3 => ?_; clear s2
  refine wpList_nil ?_
  refine then_normal ?_
  refine hK1 _ _ ?_
  have s4 := s3.sub (.cons (t := 1) rfl (.cons (t := 2) rfl .nil)); clear s3
  refine wp_seq_k fun K2 hK2 => ?_
  refine wp_region_lit ?_
  obtain ⟨x1, e_x1, h1⟩ := bind_some h0; clear h0; replace e_x1 := Option.some.inj e_x1
  refine seq_op s4 rfl rfl (of_decide_eq_true rfl) (((ob_mkArr (k := (kint .u8)) rfl Try.underlying39 zz39 sz5 (Zr.arr 32 (Zr.int .u8)) (.nil _) : Ob _ _ _ _ _ ((karr 32 (kint .u8)).V ([(0 : Int), (0 : Int), (0 : Int), (0 : Int), (0 : Int), (0 : Int), (0 : Int), (0 : Int), (0 : Int), (0 : Int), (0 : Int), (0 : Int), (0 : Int), (0 : Int), (0 : Int), (0 : Int), (0 : Int), (0 : Int), (0 : Int), (0 : Int), (0 : Int), (0 : Int), (0 : Int), (0 : Int), (0 : Int), (0 : Int), (0 : Int), (0 : Int), (0 : Int), (0 : Int), (0 : Int), (0 : Int)] : (List Int))))).nm e_x1) fun a5 w5 s5 => ?_; clear s4
  refine seq_opx (B' := (fun b2 : Nat => [BF b2 39 (karr 32 (kint .u8)) (List.replicate 32 (0 : Int)), BF b1 44 k_api_Op p1])) s5 rfl rfl (of_decide_eq_true rfl) (ob_new (k := (karr 32 (kint .u8))) rfl zz39 (Zr.arr 32 (Zr.int .u8))) fun b2 a6 w6 s6 => ?_; clear s5
  refine seq_opx0 (B' := (fun _ : Unit => [BF b2 39 (karr 32 (kint .u8)) x1, BF b1 44 k_api_Op p1])) s6 rfl rfl (ob_store (A := []) rfl tk39 (.tmp rfl) (.tmp rfl) rfl (LS.refl _ _ _) rfl) fun _ a7 w7 s7 => ?_; clear s6
  refine wpList_nil ?_
  refine then_normal ?_
  refine hK2 _ _ ?_
  have s8 := s7.sub (.cons (t := 1) rfl (.cons (t := 2) rfl (.cons (t := 5) rfl .nil))); clear s7
  refine wp_seq_k fun K3 hK3 => ?_
  refine wp_seq_k fun K4 hK4 => ?_
  refine wp_region_lit ?_
  refine seq_op s8 rfl rfl (of_decide_eq_true rfl) (ob_fieldAddr (off' := 3) rfl Try.underlying44 rfl sz3 (by decide) (.tmp rfl) rfl) fun a9 w9 s9 => ?_; clear s8
  refine seq_op s9 rfl rfl (of_decide_eq_true rfl) (ob_load rfl tk3 (.tmp rfl) (.tail _ (.head _)) (lg_api_Op_Kind p1)) fun a10 w10 s10 => ?_; clear s9
  refine seq_op s10 rfl rfl (of_decide_eq_true rfl) (ob_eql rfl (.tmp rfl) (opd_int rfl)) fun a11 w11 s11 => ?_; clear s10
  refine seq_op s11 rfl rfl (of_decide_eq_true rfl) (ob_move rfl (.tmp rfl)) fun a12 w12 s12 => ?_; clear s11
  refine seq_opg s12 rfl rfl rfl rfl (of_decide_eq_true rfl) (fun hb => ob_move rfl (.tmp rfl)) fun a13 w13 s13 => ?_; clear s12
  refine seq_opg s13 rfl rfl rfl rfl (of_decide_eq_true rfl) (fun hb => (Ob.uncond (t := 11) hb rfl (ob_not rfl (.tmp rfl)))) fun a14 w14 s14 => ?_; clear s13
  refine seq_opg s14 rfl rfl rfl rfl (of_decide_eq_true rfl) (fun hb => (Ob.uncond (t := 12) hb rfl (ob_move rfl (.tmp rfl)))) fun a15 w15 s15 => ?_; clear s14
  refine seq_opg2 s15 rfl rfl rfl rfl (of_decide_eq_true rfl) (fun hb => ob_fieldAddr (off' := 2) rfl Try.underlying44 rfl sz40 (by decide) (.tmp rfl) rfl) fun a16 w16 s16 => ?_; clear s15
  refine seq_opg2 s16 rfl rfl rfl rfl (of_decide_eq_true rfl) (fun hb => (Ob.uncond (t := 14) hb rfl (ob_load rfl tk40 (.tmp rfl) (.tail _ (.head _)) (lg_api_Op_Parents p1)))) fun a17 w17 s17 => ?_; clear s16
  refine seq_opg2 s17 rfl rfl rfl rfl (of_decide_eq_true rfl) (fun hb => (Ob.uncond (t := 15) hb rfl (ob_lens rfl Try.underlying40 (.tmp rfl)))) fun a18 w18 s18 => ?_; clear s17
  refine seq_opg2 s18 rfl rfl rfl rfl (of_decide_eq_true rfl) (fun hb => (Ob.uncond (t := 16) hb rfl (ob_gtr rfl (.tmp rfl) (opd_int rfl)))) fun a19 w19 s19 => ?_; clear s18
  obtain ⟨x2, e_x2, h2⟩ := bind_some h1; clear h1; replace e_x2 := Option.some.inj e_x2
  refine seq_opg s19 rfl rfl rfl rfl (of_decide_eq_true rfl) (fun hb => (Ob.uncond (t := 13) hb rfl ((ob_or3 hb rfl (.tmp rfl) opd_bool (.tmp rfl)).nm e_x2))) fun a20 w20 s20 => ?_; clear s19
  refine seq_opg s20 rfl rfl rfl rfl (of_decide_eq_true rfl) (fun hb => (Ob.uncond (t := 18) hb rfl (ob_move rfl (.tmp rfl)))) fun a21 w21 s21 => ?_; clear s20
  refine seq_opg2 s21 rfl rfl rfl rfl (of_decide_eq_true rfl) (fun hb => ob_fieldAddr (off' := 1) rfl Try.underlying44 rfl sz25 (by decide) (.tmp rfl) rfl) fun a22 w22 s22 => ?_; clear s21
  refine seq_opg2 s22 rfl rfl rfl rfl (of_decide_eq_true rfl) (fun hb => (Ob.uncond (t := 20) hb rfl (ob_load rfl tk25 (.tmp rfl) (.tail _ (.head _)) (lg_api_Op_Seq p1)))) fun a23 w23 s23 => ?_; clear s22
  refine seq_opg2 s23 rfl rfl rfl rfl (of_decide_eq_true rfl) (fun hb => (Ob.uncond (t := 21) hb rfl (ob_neq rfl (.tmp rfl) (opd_int rfl)))) fun a24 w24 s24 => ?_; clear s23
  refine seq_opg s24 rfl rfl rfl rfl (of_decide_eq_true rfl) (fun hb => (Ob.uncond (t := 19) hb rfl (ob_or3 hb rfl (.tmp rfl) opd_bool (.tmp rfl)))) fun a25 w25 s25 => ?_; clear s24
  obtain ⟨x3, e_x3, h3⟩ := bind_some h2; clear h2; replace e_x3 := Option.some.inj e_x3
  refine seq_op s25 rfl rfl (of_decide_eq_true rfl) ((ob_and2 rfl (.tmp rfl) (.tmp rfl) opd_bool).nm e_x3) fun a26 w26 s26 => ?_; clear s25
  refine seq_op s26 rfl rfl (of_decide_eq_true rfl) (ob_move rfl (.tmp rfl)) fun a27 w27 s27 => ?_; clear s26
  refine seq_opg s27 rfl rfl rfl rfl (of_decide_eq_true rfl) (fun hb => ob_fieldAddr (off' := 3) rfl Try.underlying44 rfl sz3 (by decide) (.tmp rfl) rfl) fun a28 w28 s28 => ?_; clear s27
  refine seq_opg s28 rfl rfl rfl rfl (of_decide_eq_true rfl) (fun hb => (Ob.uncond (t := 26) hb rfl (ob_load rfl tk3 (.tmp rfl) (.tail _ (.head _)) (lg_api_Op_Kind p1)))) fun a29 w29 s29 => ?_; clear s28
  refine seq_opg s29 rfl rfl rfl rfl (of_decide_eq_true rfl) (fun hb => (Ob.uncond (t := 27) hb rfl (ob_neq rfl (.tmp rfl) (opd_int rfl)))) fun a30 w30 s30 => ?_; clear s29
  refine seq_opg s30 rfl rfl rfl rfl (of_decide_eq_true rfl) (fun hb => (Ob.uncond (t := 28) hb rfl (ob_move rfl (.tmp rfl)))) fun a31 w31 s31 => ?_; clear s30
  refine seq_opg2 s31 rfl rfl rfl rfl (of_decide_eq_true rfl) (fun hb => ob_fieldAddr (off' := 2) rfl Try.underlying44 rfl sz40 (by decide) (.tmp rfl) rfl) fun a32 w32 s32 => ?_; clear s31
  refine seq_opg2 s32 rfl rfl rfl rfl (of_decide_eq_true rfl) (fun hb => (Ob.uncond (t := 30) hb rfl (ob_load rfl tk40 (.tmp rfl) (.tail _ (.head _)) (lg_api_Op_Parents p1)))) fun a33 w33 s33 => ?_; clear s32
  refine seq_opg2 s33 rfl rfl rfl rfl (of_decide_eq_true rfl) (fun hb => (Ob.uncond (t := 31) hb rfl (ob_lens rfl Try.underlying40 (.tmp rfl)))) fun a34 w34 s34 => ?_; clear s33
  refine seq_opg2 s34 rfl rfl rfl rfl (of_decide_eq_true rfl) (fun hb => (Ob.uncond (t := 32) hb rfl (ob_eql rfl (.tmp rfl) (opd_int rfl)))) fun a35 w35 s35 => ?_; clear s34
  obtain ⟨x4, e_x4, h4⟩ := bind_some h3; clear h3; replace e_x4 := Option.some.inj e_x4
  refine seq_opg s35 rfl rfl rfl rfl (of_decide_eq_true rfl) (fun hb => (Ob.uncond (t := 29) hb rfl ((ob_and3 hb rfl (.tmp rfl) (.tmp rfl) opd_bool).nm e_x4))) fun a36 w36 s36 => ?_; clear s35
  refine seq_op s36 rfl rfl (of_decide_eq_true rfl) (ob_or2 rfl (.tmp rfl) opd_bool (.tmp rfl)) fun a37 w37 s37 => ?_; clear s36
  refine wpList_nil ?_
  refine then_normal ?_
  refine hK4 _ _ ?_
  have s38 := s37.sub (.cons (t := 1) rfl (.cons (t := 2) rfl (.cons (t := 5) rfl (.cons (t := 35) rfl .nil)))); clear s37
  refine cond_split s38 (.tmp rfl) (fun hc1 => ?_) (fun hc1 => ?_)
  · replace h4 := ite_t hc1 h4
    have h5 := h4; clear h4
    refine wp_seq_k fun K5 hK5 => ?_
    refine wp_region_lit ?_
    refine seq_op s38 rfl rfl (of_decide_eq_true rfl) (ob_assign rfl opd_bool) fun a39 w39 s39 => ?_; clear s38
    refine wpList_nil ?_
    refine then_normal ?_
    refine hK5 _ _ ?_
    have s40 := s39.sub (.cons (t := 4) rfl .nil); clear s39
    have s41 := St.drop (A := []) s40; clear s40
    have s42 := St.drop (A := []) s41; clear s41
    refine wp_ret ?_
    obtain rfl := Option.some.inj h5
    exact leave s42 (.inl rfl) rfl (.cons (.tmp rfl) .nil)
  · replace h4 := ite_f hc1 h4
    have h6 := h4; clear h4
    refine wp_skip ?_
    refine then_normal ?_
    refine hK3 _ _ ?_
    have s43 := s38.sub (.cons (t := 1) rfl (.cons (t := 2) rfl (.cons (t := 5) rfl .nil))); clear s38
    refine wp_seq_k fun K6 hK6 => ?_
    refine wp_seq_k fun K7 hK7 => ?_
    refine wp_region_lit ?_
    refine seq_op s43 rfl rfl (of_decide_eq_true rfl) (ob_fieldAddr (off' := 3) rfl Try.underlying44 rfl sz3 (by decide) (.tmp rfl) rfl) fun a44 w44 s44 => ?_; clear s43
    refine seq_op s44 rfl rfl (of_decide_eq_true rfl) (ob_load rfl tk3 (.tmp rfl) (.tail _ (.head _)) (lg_api_Op_Kind p1)) fun a45 w45 s45 => ?_; clear s44
    refine seq_op s45 rfl rfl (of_decide_eq_true rfl) (ob_eql rfl (.tmp rfl) (opd_int rfl)) fun a46 w46 s46 => ?_; clear s45
    refine seq_op s46 rfl rfl (of_decide_eq_true rfl) (ob_move rfl (.tmp rfl)) fun a47 w47 s47 => ?_; clear s46
    refine seq_opg s47 rfl rfl rfl rfl (of_decide_eq_true rfl) (fun hb => ob_fieldAddr (off' := 3) rfl Try.underlying44 rfl sz3 (by decide) (.tmp rfl) rfl) fun a48 w48 s48 => ?_; clear s47
    refine seq_opg s48 rfl rfl rfl rfl (of_decide_eq_true rfl) (fun hb => (Ob.uncond (t := 40) hb rfl (ob_load rfl tk3 (.tmp rfl) (.tail _ (.head _)) (lg_api_Op_Kind p1)))) fun a49 w49 s49 => ?_; clear s48
    refine seq_opg s49 rfl rfl rfl rfl (of_decide_eq_true rfl) (fun hb => (Ob.uncond (t := 41) hb rfl (ob_eql rfl (.tmp rfl) (opd_int rfl)))) fun a50 w50 s50 => ?_; clear s49
    refine seq_op s50 rfl rfl (of_decide_eq_true rfl) (ob_or2 rfl (.tmp rfl) opd_bool (.tmp rfl)) fun a51 w51 s51 => ?_; clear s50
    refine seq_op s51 rfl rfl (of_decide_eq_true rfl) (ob_move rfl (.tmp rfl)) fun a52 w52 s52 => ?_; clear s51
    refine seq_opg s52 rfl rfl rfl rfl (of_decide_eq_true rfl) (fun hb => ob_move rfl (.tmp rfl)) fun a53 w53 s53 => ?_; clear s52
    refine seq_opg s53 rfl rfl rfl rfl (of_decide_eq_true rfl) (fun hb => (Ob.uncond (t := 45) hb rfl (ob_move rfl (.tmp rfl)))) fun a54 w54 s54 => ?_; clear s53
    refine seq_opg2 s54 rfl rfl rfl rfl (of_decide_eq_true rfl) (fun hb => ob_fieldAddr (off' := 4) rfl Try.underlying44 rfl sz41 (by decide) (.tmp rfl) rfl) fun a55 w55 s55 => ?_; clear s54
    refine seq_opg2 s55 rfl rfl rfl rfl (of_decide_eq_true rfl) (fun hb => (Ob.uncond (t := 47) hb rfl (ob_load rfl tk41 (.tmp rfl) (.tail _ (.head _)) (lg_api_Op_Who p1)))) fun a56 w56 s56 => ?_; clear s55
    refine seq_opg2 s56 rfl rfl rfl rfl (of_decide_eq_true rfl) (fun hb => (Ob.uncond (t := 48) hb rfl (ob_lens rfl Try.underlying41 (.tmp rfl)))) fun a57 w57 s57 => ?_; clear s56
    refine seq_opg2 s57 rfl rfl rfl rfl (of_decide_eq_true rfl) (fun hb => (Ob.uncond (t := 49) hb rfl (ob_neq rfl (.tmp rfl) (opd_int rfl)))) fun a58 w58 s58 => ?_; clear s57
    refine seq_opg s58 rfl rfl rfl rfl (of_decide_eq_true rfl) (fun hb => (Ob.uncond (t := 46) hb rfl (ob_or3 hb rfl (.tmp rfl) opd_bool (.tmp rfl)))) fun a59 w59 s59 => ?_; clear s58
    obtain ⟨x5, e_x5, h7⟩ := bind_some h6; clear h6; replace e_x5 := Option.some.inj e_x5
    refine seq_op s59 rfl rfl (of_decide_eq_true rfl) ((ob_and2 rfl (.tmp rfl) (.tmp rfl) opd_bool).nm e_x5) fun a60 w60 s60 => ?_; clear s59
    refine seq_op s60 rfl rfl (of_decide_eq_true rfl) (ob_move rfl (.tmp rfl)) fun a61 w61 s61 => ?_; clear s60
    refine seq_opg s61 rfl rfl rfl rfl (of_decide_eq_true rfl) (fun hb => ob_fieldAddr (off' := 3) rfl Try.underlying44 rfl sz3 (by decide) (.tmp rfl) rfl) fun a62 w62 s62 => ?_; clear s61
    refine seq_opg s62 rfl rfl rfl rfl (of_decide_eq_true rfl) (fun hb => (Ob.uncond (t := 54) hb rfl (ob_load rfl tk3 (.tmp rfl) (.tail _ (.head _)) (lg_api_Op_Kind p1)))) fun a63 w63 s63 => ?_; clear s62
    refine seq_opg s63 rfl rfl rfl rfl (of_decide_eq_true rfl) (fun hb => (Ob.uncond (t := 55) hb rfl (ob_gtr rfl (.tmp rfl) (opd_int rfl)))) fun a64 w64 s64 => ?_; clear s63
    refine seq_opg s64 rfl rfl rfl rfl (of_decide_eq_true rfl) (fun hb => (Ob.uncond (t := 56) hb rfl (ob_move rfl (.tmp rfl)))) fun a65 w65 s65 => ?_; clear s64
    refine seq_opg2 s65 rfl rfl rfl rfl (of_decide_eq_true rfl) (fun hb => ob_fieldAddr (off' := 4) rfl Try.underlying44 rfl sz41 (by decide) (.tmp rfl) rfl) fun a66 w66 s66 => ?_; clear s65
    refine seq_opg2 s66 rfl rfl rfl rfl (of_decide_eq_true rfl) (fun hb => (Ob.uncond (t := 58) hb rfl (ob_load rfl tk41 (.tmp rfl) (.tail _ (.head _)) (lg_api_Op_Who p1)))) fun a67 w67 s67 => ?_; clear s66
    refine seq_opg2 s67 rfl rfl rfl rfl (of_decide_eq_true rfl) (fun hb => (Ob.uncond (t := 59) hb rfl (ob_lens rfl Try.underlying41 (.tmp rfl)))) fun a68 w68 s68 => ?_; clear s67
    refine seq_opg2 s68 rfl rfl rfl rfl (of_decide_eq_true rfl) (fun hb => (Ob.uncond (t := 60) hb rfl (ob_gtr rfl (.tmp rfl) (opd_int rfl)))) fun a69 w69 s69 => ?_; clear s68
    obtain ⟨x6, e_x6, h8⟩ := bind_some h7; clear h7; replace e_x6 := Option.some.inj e_x6
    refine seq_opg s69 rfl rfl rfl rfl (of_decide_eq_true rfl) (fun hb => (Ob.uncond (t := 57) hb rfl ((ob_and3 hb rfl (.tmp rfl) (.tmp rfl) opd_bool).nm e_x6))) fun a70 w70 s70 => ?_; clear s69
    refine seq_op s70 rfl rfl (of_decide_eq_true rfl) (ob_or2 rfl (.tmp rfl) opd_bool (.tmp rfl)) fun a71 w71 s71 => ?_; clear s70
    refine wpList_nil ?_
    refine then_normal ?_
    refine hK7 _ _ ?_
    have s72 := s71.sub (.cons (t := 2) rfl (.cons (t := 5) rfl (.cons (t := 63) rfl .nil))); clear s71
    refine cond_split s72 (.tmp rfl) (fun hc2 => ?_) (fun hc2 => ?_)
    · replace h8 := ite_t hc2 h8
      have h9 := h8; clear h8
      refine wp_seq_k fun K8 hK8 => ?_
      refine wp_region_lit ?_
      refine seq_op s72 rfl rfl (of_decide_eq_true rfl) (ob_assign rfl opd_bool) fun a73 w73 s73 => ?_; clear s72
      refine wpList_nil ?_
      refine then_normal ?_
      refine hK8 _ _ ?_
      have s74 := s73.sub (.cons (t := 4) rfl .nil); clear s73
      have s75 := St.drop (A := []) s74; clear s74
      have s76 := St.drop (A := []) s75; clear s75
      refine wp_ret ?_
      obtain rfl := Option.some.inj h9
      exact leave s76 (.inl rfl) rfl (.cons (.tmp rfl) .nil)
    · replace h8 := ite_f hc2 h8
      have h10 := h8; clear h8
      refine wp_skip ?_
      refine then_normal ?_
      refine hK6 _ _ ?_
      have s77 := s72.sub (.cons (t := 2) rfl (.cons (t := 5) rfl .nil)); clear s72
      refine wp_seq_k fun K9 hK9 => ?_
      refine wp_seq_k fun K10 hK10 => ?_
      refine wp_goes (Fs := [(ptrB b1 3), ((kint .i64).V p1.Kind), (kbool.V (p1.Kind == (5 : Int))), (kbool.V (p1.Kind == (5 : Int))), (Fact.when ((p1.Kind == (5 : Int)) == false) (ptrB b1 3)), (Fact.when ((p1.Kind == (5 : Int)) == false) ((kint .i64).V p1.Kind)), (Fact.when ((p1.Kind == (5 : Int)) == false) (kbool.V (p1.Kind == (6 : Int)))), (kbool.V (if (p1.Kind == (5 : Int)) then true else (p1.Kind == (6 : Int)))), (ptrB b1 5), ((karr 32 (kint .u8)).V p1.Of), ((karr 32 (kint .u8)).V x1), (kbool.V (decide (p1.Of = x1)))]) (bits := [0, 1, 3, 7, 15, 31, 63, 127, 0, 256, 0, 1792, 4095]) (m := 12) (todo := 0) mx s77 ?_; clear s77
      refine goes_last (by kernel_rfl) rfl (opsS_cons (.plain _ (Av.old (t := 2) rfl rfl Av.nil) rfl rfl (ob_fieldAddr (off' := 3) rfl Try.underlying44 rfl sz3 (by decide) (.tmp rfl) rfl)) (opsS_cons (.plain _ (Av.new (j := 0) rfl rfl rfl Av.nil) rfl rfl (ob_load rfl tk3 (.tmp rfl) (.tail _ (.head _)) (lg_api_Op_Kind p1))) (opsS_cons (.plain _ (Av.new (j := 1) rfl rfl rfl Av.nil) rfl rfl (ob_eql rfl (.tmp rfl) (opd_int rfl))) (opsS_cons (.plain _ (Av.new (j := 2) rfl rfl rfl Av.nil) rfl rfl (ob_move rfl (.tmp rfl))) (opsS_cons (.guarded _ (Av.old (t := 2) rfl rfl (Av.new (j := 3) rfl rfl rfl Av.nil)) rfl rfl rfl rfl (fun hb => ob_fieldAddr (off' := 3) rfl Try.underlying44 rfl sz3 (by decide) (.tmp rfl) rfl)) (opsS_cons (.guarded _ (Av.new (j := 3) rfl rfl rfl (Av.new (j := 4) rfl rfl rfl Av.nil)) rfl rfl rfl rfl (fun hb => (Ob.uncond (t := 68) hb rfl (ob_load rfl tk3 (.tmp rfl) (.tail _ (.head _)) (lg_api_Op_Kind p1))))) (opsS_cons (.guarded _ (Av.new (j := 3) rfl rfl rfl (Av.new (j := 5) rfl rfl rfl Av.nil)) rfl rfl rfl rfl (fun hb => (Ob.uncond (t := 69) hb rfl (ob_eql rfl (.tmp rfl) (opd_int rfl))))) (opsS_cons (.plain _ (Av.new (j := 3) rfl rfl rfl (Av.new (j := 6) rfl rfl rfl Av.nil)) rfl rfl (ob_or2 rfl (.tmp rfl) opd_bool (.tmp rfl))) (opsS_cons (.plain _ (Av.old (t := 2) rfl rfl Av.nil) rfl rfl (ob_fieldAddr (off' := 5) rfl Try.underlying44 rfl sz39 (by decide) (.tmp rfl) rfl)) (opsS_cons (.plain _ (Av.new (j := 8) rfl rfl rfl Av.nil) rfl rfl (ob_load rfl tk39 (.tmp rfl) (.tail _ (.head _)) (lg_api_Op_Of p1))) (opsS_cons (.plain _ (Av.old (t := 5) rfl rfl Av.nil) rfl rfl (ob_load rfl tk39 (.tmp rfl) (.head _) (LG.refl _ _))) (opsS_cons (.plain _ (Av.new (j := 9) rfl rfl rfl (Av.new (j := 10) rfl rfl rfl Av.nil)) rfl rfl (ob_eqAgg rfl rfl (by kernel_rfl) eq39 (by decide) (.tmp rfl) (.tmp rfl))) opsS_nil)))))))))))) (out_old (t := 2) rfl rfl (out_old (t := 5) rfl rfl (out_new (i := 7) (by decide) rfl rfl (out_new (i := 11) (by decide) rfl rfl out_nil)))) fun a78 w78 s78 => ?_
      obtain ⟨x7, e_x7, h11⟩ := bind_some h10; clear h10; replace e_x7 := Option.some.inj e_x7
      refine seq_op s78 rfl rfl (of_decide_eq_true rfl) ((ob_beql rfl Try.underlying4 (.tmp rfl) (.tmp rfl)).nm e_x7) fun a79 w79 s79 => ?_; clear s78
      refine wpList_nil ?_
      refine then_normal ?_
      refine hK10 _ _ ?_
      have s80 := s79.sub (.cons (t := 2) rfl (.cons (t := 5) rfl (.cons (t := 76) rfl .nil))); clear s79
      refine cond_split s80 (.tmp rfl) (fun hc3 => ?_) (fun hc3 => ?_)
      · replace h11 := ite_t hc3 h11
        have h12 := h11; clear h11
        refine wp_seq_k fun K11 hK11 => ?_
        refine wp_region_lit ?_
        refine seq_op s80 rfl rfl (of_decide_eq_true rfl) (ob_assign rfl opd_bool) fun a81 w81 s81 => ?_; clear s80
        refine wpList_nil ?_
        refine then_normal ?_
        refine hK11 _ _ ?_
        have s82 := s81.sub (.cons (t := 4) rfl .nil); clear s81
        have s83 := St.drop (A := []) s82; clear s82
        have s84 := St.drop (A := []) s83; clear s83
        refine wp_ret ?_
        obtain rfl := Option.some.inj h12
        exact leave s84 (.inl rfl) rfl (.cons (.tmp rfl) .nil)
      · replace h11 := ite_f hc3 h11
        have h13 := h11; clear h11
        refine wp_skip ?_
        refine then_normal ?_
        refine hK9 _ _ ?_
        have s85 := s80.sub (.cons (t := 2) rfl (.cons (t := 5) rfl .nil)); clear s80
        refine wp_seq_k fun K12 hK12 => ?_
        refine wp_seq_k fun K13 hK13 => ?_
        refine wp_region_lit ?_
        refine seq_op s85 rfl rfl (of_decide_eq_true rfl) (ob_fieldAddr (off' := 3) rfl Try.underlying44 rfl sz3 (by decide) (.tmp rfl) rfl) fun a86 w86 s86 => ?_; clear s85
        refine seq_op s86 rfl rfl (of_decide_eq_true rfl) (ob_load rfl tk3 (.tmp rfl) (.tail _ (.head _)) (lg_api_Op_Kind p1)) fun a87 w87 s87 => ?_; clear s86
        refine seq_op s87 rfl rfl (of_decide_eq_true rfl) (ob_eql rfl (.tmp rfl) (opd_int rfl)) fun a88 w88 s88 => ?_; clear s87
        refine wpList_nil ?_
        refine then_normal ?_
        refine hK13 _ _ ?_
        have s89 := s88.sub (.cons (t := 2) rfl (.cons (t := 5) rfl (.cons (t := 79) rfl .nil))); clear s88
        refine cond_split s89 (.tmp rfl) (fun hc4 => ?_) (fun hc4 => ?_)
        · replace h13 := ite_t hc4 h13
          have h14 := h13; clear h13
          refine wp_seq_k fun K14 hK14 => ?_
          refine wp_region_lit ?_
          refine seq_op s89 rfl rfl (of_decide_eq_true rfl) (ob_fieldAddr (off' := 37) rfl Try.underlying44 rfl sz39 (by decide) (.tmp rfl) rfl) fun a90 w90 s90 => ?_; clear s89
          refine seq_op s90 rfl rfl (of_decide_eq_true rfl) (ob_load rfl tk39 (.tmp rfl) (.tail _ (.head _)) (lg_api_Op_Check p1)) fun a91 w91 s91 => ?_; clear s90
          refine seq_op s91 rfl rfl (of_decide_eq_true rfl) (ob_load rfl tk39 (.tmp rfl) (.head _) (LG.refl _ _)) fun a92 w92 s92 => ?_; clear s91
          refine seq_op s92 rfl rfl (of_decide_eq_true rfl) (ob_eqAgg rfl rfl (by kernel_rfl) eq39 (by decide) (.tmp rfl) (.tmp rfl)) fun a93 w93 s93 => ?_; clear s92
          refine seq_op s93 rfl rfl (of_decide_eq_true rfl) (ob_move rfl (.tmp rfl)) fun a94 w94 s94 => ?_; clear s93
          refine seq_opg s94 rfl rfl rfl rfl (of_decide_eq_true rfl) (fun hb => ob_fieldAddr (off' := 69) rfl Try.underlying44 rfl sz9 (by decide) (.tmp rfl) rfl) fun a95 w95 s95 => ?_; clear s94
          refine seq_opg s95 rfl rfl rfl rfl (of_decide_eq_true rfl) (fun hb => (Ob.uncond (t := 85) hb rfl (ob_load rfl tk9 (.tmp rfl) (.tail _ (.head _)) (lg_api_Op_Text p1)))) fun a96 w96 s96 => ?_; clear s95
          refine seq_opg s96 rfl rfl rfl rfl (of_decide_eq_true rfl) (fun hb => (Ob.uncond (t := 86) hb rfl (ob_lenStr rfl Try.underlying9 (.tmp rfl)))) fun a97 w97 s97 => ?_; clear s96
          refine seq_opg s97 rfl rfl rfl rfl (of_decide_eq_true rfl) (fun hb => (Ob.uncond (t := 87) hb rfl (ob_gtr rfl (.tmp rfl) (opd_int rfl)))) fun a98 w98 s98 => ?_; clear s97
          obtain ⟨x8, e_x8, h15⟩ := bind_some h14; clear h14; replace e_x8 := Option.some.inj e_x8
          refine seq_op s98 rfl rfl (of_decide_eq_true rfl) ((ob_and2 rfl (.tmp rfl) (.tmp rfl) opd_bool).nm e_x8) fun a99 w99 s99 => ?_; clear s98
          refine seq_op s99 rfl rfl (of_decide_eq_true rfl) (ob_assign rfl (.tmp rfl)) fun a100 w100 s100 => ?_; clear s99
          refine wpList_nil ?_
          refine then_normal ?_
          refine hK14 _ _ ?_
          have s101 := s100.sub (.cons (t := 4) rfl .nil); clear s100
          have s102 := St.drop (A := []) s101; clear s101
          have s103 := St.drop (A := []) s102; clear s102
          refine wp_ret ?_
          obtain rfl := Option.some.inj h15
          exact leave s103 (.inl rfl) rfl (.cons (.tmp rfl) .nil)
        · replace h13 := ite_f hc4 h13
          have h16 := h13; clear h13
          refine wp_skip ?_
          refine then_normal ?_
          refine hK12 _ _ ?_
          have s104 := s89.sub (.cons (t := 2) rfl (.cons (t := 5) rfl .nil)); clear s89
          refine wp_seq_k fun K15 hK15 => ?_
          refine wp_region_lit ?_
          refine seq_op s104 rfl rfl (of_decide_eq_true rfl) (ob_fieldAddr (off' := 37) rfl Try.underlying44 rfl sz39 (by decide) (.tmp rfl) rfl) fun a105 w105 s105 => ?_; clear s104
          refine seq_op s105 rfl rfl (of_decide_eq_true rfl) (ob_load rfl tk39 (.tmp rfl) (.tail _ (.head _)) (lg_api_Op_Check p1)) fun a106 w106 s106 => ?_; clear s105
          refine seq_op s106 rfl rfl (of_decide_eq_true rfl) (ob_load rfl tk39 (.tmp rfl) (.head _) (LG.refl _ _)) fun a107 w107 s107 => ?_; clear s106
          refine seq_op s107 rfl rfl (of_decide_eq_true rfl) (ob_neqAgg rfl rfl (by kernel_rfl) eq39 (by decide) (.tmp rfl) (.tmp rfl)) fun a108 w108 s108 => ?_; clear s107
          refine seq_op s108 rfl rfl (of_decide_eq_true rfl) (ob_move rfl (.tmp rfl)) fun a109 w109 s109 => ?_; clear s108
          refine seq_opg s109 rfl rfl rfl rfl (of_decide_eq_true rfl) (fun hb => ob_fieldAddr (off' := 69) rfl Try.underlying44 rfl sz9 (by decide) (.tmp rfl) rfl) fun a110 w110 s110 => ?_; clear s109
          refine seq_opg s110 rfl rfl rfl rfl (of_decide_eq_true rfl) (fun hb => (Ob.uncond (t := 95) hb rfl (ob_load rfl tk9 (.tmp rfl) (.tail _ (.head _)) (lg_api_Op_Text p1)))) fun a111 w111 s111 => ?_; clear s110
          refine seq_opg s111 rfl rfl rfl rfl (of_decide_eq_true rfl) (fun hb => (Ob.uncond (t := 96) hb rfl (ob_lenStr rfl Try.underlying9 (.tmp rfl)))) fun a112 w112 s112 => ?_; clear s111
          refine seq_opg s112 rfl rfl rfl rfl (of_decide_eq_true rfl) (fun hb => (Ob.uncond (t := 97) hb rfl (ob_eql rfl (.tmp rfl) (opd_int rfl)))) fun a113 w113 s113 => ?_; clear s112
          obtain ⟨x9, e_x9, h17⟩ := bind_some h16; clear h16; replace e_x9 := Option.some.inj e_x9
          refine seq_op s113 rfl rfl (of_decide_eq_true rfl) ((ob_and2 rfl (.tmp rfl) (.tmp rfl) opd_bool).nm e_x9) fun a114 w114 s114 => ?_; clear s113
          refine seq_op s114 rfl rfl (of_decide_eq_true rfl) (ob_assign rfl (.tmp rfl)) fun a115 w115 s115 => ?_; clear s114
          refine wpList_nil ?_
          refine then_normal ?_
          refine hK15 _ _ ?_
          have s116 := s115.sub (.cons (t := 4) rfl .nil); clear s115
          have s117 := St.drop (A := []) s116; clear s116
          have s118 := St.drop (A := []) s117; clear s117
          refine wp_ret ?_
          obtain rfl := Option.some.inj h17
          exact leave s118 (.inl rfl) rfl (.cons (.tmp rfl) .nil)

/- 85 cabal/cabalref11.Right -/
theorem c_cabalref11_Right (k : Nat) (p1 : api_Op) (r : Bool) (h0 : cabalref11_Right k p1 = some r) (ok : Ok) (w0 : World) (z0 : Value) (u0 : (k_api_Op.V p1).holds ok w0 z0) :
    Gives Try.prog 85 [z0] ok w0 (resFact [kbool.V r]) := by
  unfold cabalref11_Right at h0
  refine enter (N := 156) Try.func85 rfl rfl (of_decide_eq_true rfl) (.cons u0 .nil) fun a1 s1 => ?_
  refine wp_seq_k fun K1 hK1 => ?_
  refine wp_region_lit ?_
  refine seq_opx (B' := (fun b1 : Nat => [BF b1 44 k_api_Op p1])) s1 rfl rfl (of_decide_eq_true rfl) (ob_box rfl (.tmp rfl)) fun b1 a2 w2 s2 => ?_; clear s1
  refine seq_op s2 rfl rfl (of_decide_eq_true rfl) (ob_assign rfl opd_bool) fun a3 w3 s3 => ?_; clear s2
  refine wpList_nil ?_
  refine then_normal ?_
  refine hK1 _ _ ?_
  have s4 := s3.sub (.cons (t := 1) rfl .nil); clear s3
  refine wp_seq_k fun K2 hK2 => ?_
  refine wp_seq_k fun K3 hK3 => ?_
  refine wp_region_lit ?_
  refine seq_op s4 rfl rfl (of_decide_eq_true rfl) (ob_fieldAddr (off' := 0) rfl Try.underlying44 rfl sz3 (by decide) (.tmp rfl) rfl) fun a5 w5 s5 => ?_; clear s4
  refine seq_op s5 rfl rfl (of_decide_eq_true rfl) (ob_load rfl tk3 (.tmp rfl) (.head _) (lg_api_Op_Author p1)) fun a6 w6 s6 => ?_; clear s5
  obtain ⟨x1, e_x1, h1⟩ := bind_some h0; clear h0
  refine seq_op s6 rfl rfl (of_decide_eq_true rfl) (ob_callD (args := [_]) rfl .direct hb129 (fun a w s fs gs hf hg => by obtain rfl := hf.unnil; obtain rfl := hg.unnil; exact c_cabalref11_Member k _ _ e_x1 _ _ _ (s.arg (.tmp rfl)))) fun a7 w7 s7 => ?_; clear s6
  refine seq_op s7 rfl rfl (of_decide_eq_true rfl) (ob_not rfl (.tmp rfl)) fun a8 w8 s8 => ?_; clear s7
  refine seq_op s8 rfl rfl (of_decide_eq_true rfl) (ob_move rfl (.tmp rfl)) fun a9 w9 s9 => ?_; clear s8
  refine seq_opg s9 rfl rfl rfl rfl (of_decide_eq_true rfl) (fun hb => ob_fieldAddr (off' := 1) rfl Try.underlying44 rfl sz25 (by decide) (.tmp rfl) rfl) fun a10 w10 s10 => ?_; clear s9
  refine seq_opg s10 rfl rfl rfl rfl (of_decide_eq_true rfl) (fun hb => (Ob.uncond (t := 13) hb rfl (ob_load rfl tk25 (.tmp rfl) (.head _) (lg_api_Op_Seq p1)))) fun a11 w11 s11 => ?_; clear s10
  refine seq_opg s11 rfl rfl rfl rfl (of_decide_eq_true rfl) (fun hb => (Ob.uncond (t := 14) hb rfl (ob_eql rfl (.tmp rfl) (opd_int rfl)))) fun a12 w12 s12 => ?_; clear s11
  refine seq_op s12 rfl rfl (of_decide_eq_true rfl) (ob_or2 rfl (.tmp rfl) opd_bool (.tmp rfl)) fun a13 w13 s13 => ?_; clear s12
  refine seq_op s13 rfl rfl (of_decide_eq_true rfl) (ob_move rfl (.tmp rfl)) fun a14 w14 s14 => ?_; clear s13
  refine seq_opg s14 rfl rfl rfl rfl (of_decide_eq_true rfl) (fun hb => ob_fieldAddr (off' := 3) rfl Try.underlying44 rfl sz3 (by decide) (.tmp rfl) rfl) fun a15 w15 s15 => ?_; clear s14
  refine seq_opg s15 rfl rfl rfl rfl (of_decide_eq_true rfl) (fun hb => (Ob.uncond (t := 18) hb rfl (ob_load rfl tk3 (.tmp rfl) (.head _) (lg_api_Op_Kind p1)))) fun a16 w16 s16 => ?_; clear s15
  refine seq_opg s16 rfl rfl rfl rfl (of_decide_eq_true rfl) (fun hb => (Ob.uncond (t := 19) hb rfl (ob_lss rfl (.tmp rfl) (opd_int rfl)))) fun a17 w17 s17 => ?_; clear s16
  obtain ⟨x2, e_x2, h2⟩ := bind_some h1; clear h1; replace e_x2 := Option.some.inj e_x2
  refine seq_op s17 rfl rfl (of_decide_eq_true rfl) ((ob_or2 rfl (.tmp rfl) opd_bool (.tmp rfl)).nm e_x2) fun a18 w18 s18 => ?_; clear s17
  refine seq_op s18 rfl rfl (of_decide_eq_true rfl) (ob_move rfl (.tmp rfl)) fun a19 w19 s19 => ?_; clear s18
  refine seq_opg s19 rfl rfl rfl rfl (of_decide_eq_true rfl) (fun hb => ob_fieldAddr (off' := 3) rfl Try.underlying44 rfl sz3 (by decide) (.tmp rfl) rfl) fun a20 w20 s20 => ?_; clear s19
  refine seq_opg s20 rfl rfl rfl rfl (of_decide_eq_true rfl) (fun hb => (Ob.uncond (t := 23) hb rfl (ob_load rfl tk3 (.tmp rfl) (.head _) (lg_api_Op_Kind p1)))) fun a21 w21 s21 => ?_; clear s20
  refine seq_opg s21 rfl rfl rfl rfl (of_decide_eq_true rfl) (fun hb => (Ob.uncond (t := 24) hb rfl (ob_gtr rfl (.tmp rfl) (opd_int rfl)))) fun a22 w22 s22 => ?_; clear s21
  refine seq_op s22 rfl rfl (of_decide_eq_true rfl) (ob_or2 rfl (.tmp rfl) opd_bool (.tmp rfl)) fun a23 w23 s23 => ?_; clear s22
  refine seq_op s23 rfl rfl (of_decide_eq_true rfl) (ob_move rfl (.tmp rfl)) fun a24 w24 s24 => ?_; clear s23
  refine seq_opg s24 rfl rfl rfl rfl (of_decide_eq_true rfl) (fun hb => ob_fieldAddr (off' := 2) rfl Try.underlying44 rfl sz40 (by decide) (.tmp rfl) rfl) fun a25 w25 s25 => ?_; clear s24
  refine seq_opg s25 rfl rfl rfl rfl (of_decide_eq_true rfl) (fun hb => (Ob.uncond (t := 28) hb rfl (ob_load rfl tk40 (.tmp rfl) (.head _) (lg_api_Op_Parents p1)))) fun a26 w26 s26 => ?_; clear s25
  refine seq_opg s26 rfl rfl rfl rfl (of_decide_eq_true rfl) (fun hb => (Ob.uncond (t := 29) hb rfl (ob_lens rfl Try.underlying40 (.tmp rfl)))) fun a27 w27 s27 => ?_; clear s26
  refine seq_opg s27 rfl rfl rfl rfl (of_decide_eq_true rfl) (fun hb => (Ob.uncond (t := 30) hb rfl (ob_gtr rfl (.tmp rfl) (opd_int rfl)))) fun a28 w28 s28 => ?_; clear s27
  obtain ⟨x3, e_x3, h3⟩ := bind_some h2; clear h2; replace e_x3 := Option.some.inj e_x3
  refine seq_op s28 rfl rfl (of_decide_eq_true rfl) ((ob_or2 rfl (.tmp rfl) opd_bool (.tmp rfl)).nm e_x3) fun a29 w29 s29 => ?_; clear s28
  refine seq_op s29 rfl rfl (of_decide_eq_true rfl) (ob_move rfl (.tmp rfl)) fun a30 w30 s30 => ?_; clear s29
  refine seq_opg s30 rfl rfl rfl rfl (of_decide_eq_true rfl) (fun hb => ob_fieldAddr (off' := 70) rfl Try.underlying44 rfl sz42 (by decide) (.tmp rfl) rfl) fun a31 w31 s31 => ?_; clear s30
  refine seq_opg s31 rfl rfl rfl rfl (of_decide_eq_true rfl) (fun hb => (Ob.uncond (t := 34) hb rfl (ob_load rfl tk42 (.tmp rfl) (.head _) (lg_api_Op_Boxes p1)))) fun a32 w32 s32 => ?_; clear s31
  refine seq_opg s32 rfl rfl rfl rfl (of_decide_eq_true rfl) (fun hb => (Ob.uncond (t := 35) hb rfl (ob_lens rfl Try.underlying42 (.tmp rfl)))) fun a33 w33 s33 => ?_; clear s32
  refine seq_opg s33 rfl rfl rfl rfl (of_decide_eq_true rfl) (fun hb => (Ob.uncond (t := 36) hb rfl (ob_gtr rfl (.tmp rfl) (opd_int rfl)))) fun a34 w34 s34 => ?_; clear s33
  refine seq_op s34 rfl rfl (of_decide_eq_true rfl) (ob_or2 rfl (.tmp rfl) opd_bool (.tmp rfl)) fun a35 w35 s35 => ?_; clear s34
  refine seq_op s35 rfl rfl (of_decide_eq_true rfl) (ob_move rfl (.tmp rfl)) fun a36 w36 s36 => ?_; clear s35
  refine seq_opg s36 rfl rfl rfl rfl (of_decide_eq_true rfl) (fun hb => ob_fieldAddr (off' := 69) rfl Try.underlying44 rfl sz9 (by decide) (.tmp rfl) rfl) fun a37 w37 s37 => ?_; clear s36
  refine seq_opg s37 rfl rfl rfl rfl (of_decide_eq_true rfl) (fun hb => (Ob.uncond (t := 40) hb rfl (ob_load rfl tk9 (.tmp rfl) (.head _) (lg_api_Op_Text p1)))) fun a38 w38 s38 => ?_; clear s37
  refine seq_opg s38 rfl rfl rfl rfl (of_decide_eq_true rfl) (fun hb => (Ob.uncond (t := 41) hb rfl (ob_lenStr rfl Try.underlying9 (.tmp rfl)))) fun a39 w39 s39 => ?_; clear s38
  refine seq_opg s39 rfl rfl rfl rfl (of_decide_eq_true rfl) (fun hb => (Ob.uncond (t := 42) hb rfl (ob_gtr rfl (.tmp rfl) (opd_int rfl)))) fun a40 w40 s40 => ?_; clear s39
  obtain ⟨x4, e_x4, h4⟩ := bind_some h3; clear h3; replace e_x4 := Option.some.inj e_x4
  refine seq_op s40 rfl rfl (of_decide_eq_true rfl) ((ob_or2 rfl (.tmp rfl) opd_bool (.tmp rfl)).nm e_x4) fun a41 w41 s41 => ?_; clear s40
  refine wpList_nil ?_
  refine then_normal ?_
  refine hK3 _ _ ?_
  have s42 := s41.sub (.cons (t := 1) rfl (.cons (t := 44) rfl .nil)); clear s41
  refine cond_split s42 (.tmp rfl) (fun hc1 => ?_) (fun hc1 => ?_)
  · replace h4 := ite_t hc1 h4
    have h5 := h4; clear h4
    refine wp_seq_k fun K4 hK4 => ?_
    refine wp_region_lit ?_
    refine seq_op s42 rfl rfl (of_decide_eq_true rfl) (ob_assign rfl opd_bool) fun a43 w43 s43 => ?_; clear s42
    refine wpList_nil ?_
    refine then_normal ?_
    refine hK4 _ _ ?_
    have s44 := s43.sub (.cons (t := 2) rfl .nil); clear s43
    have s45 := St.drop (A := []) s44; clear s44
    refine wp_ret ?_
    obtain rfl := Option.some.inj h5
    exact leave s45 (.inl rfl) rfl (.cons (.tmp rfl) .nil)
  · replace h4 := ite_f hc1 h4
    have h6 := h4; clear h4
    refine wp_skip ?_
    refine then_normal ?_
    refine hK2 _ _ ?_
    have s46 := s42.sub (.cons (t := 1) rfl .nil); clear s42
    refine wp_seq_k fun K5 hK5 => ?_
    refine wp_seq_k fun K6 hK6 => ?_
    refine wp_region_lit ?_
    refine seq_op s46 rfl rfl (of_decide_eq_true rfl) (ob_assign rfl (opd_int rfl)) fun a47 w47 s47 => ?_; clear s46
    refine wpList_nil ?_
    refine then_normal ?_
    refine hK6 _ _ ?_
    have s48 := s47.sub (.cons (t := 1) rfl (.cons (t := 3) rfl .nil)); clear s47
    have hj1 : ∀ (a : Act) (w : World), (cabalref11_Right.j1 k p1) = some r → St ⟨156, w0, ok, []⟩ [BF b1 44 k_api_Op p1] [(1, (ptrB b1 0))] a w → K5 a w := by
      intro a49 w49 h7 s49
      unfold cabalref11_Right.j1 at h7
      refine hK5 _ _ ?_
      refine wp_seq_k fun K7 hK7 => ?_
      refine wp_region_lit ?_
      refine seq_op s49 rfl rfl (of_decide_eq_true rfl) (ob_assign rfl opd_bool) fun a50 w50 s50 => ?_; clear s49
      refine wpList_nil ?_
      refine then_normal ?_
      refine hK7 _ _ ?_
      have s51 := s50.sub (.cons (t := 1) rfl (.cons (t := 4) rfl .nil)); clear s50
      refine wp_seq_k fun K8 hK8 => ?_
      refine wp_seq_k fun K9 hK9 => ?_
      refine wp_region_lit ?_
      refine seq_op s51 rfl rfl (of_decide_eq_true rfl) (ob_assign rfl (opd_int rfl)) fun a52 w52 s52 => ?_; clear s51
      refine wpList_nil ?_
      refine then_normal ?_
      refine hK9 _ _ ?_
      have s53 := s52.sub (.cons (t := 1) rfl (.cons (t := 4) rfl (.cons (t := 5) rfl .nil))); clear s52
      have hj2 : ∀ (y1 : Bool) (a : Act) (w : World), (cabalref11_Right.j2 k p1) y1 = some r → St ⟨156, w0, ok, []⟩ [BF b1 44 k_api_Op p1] [(1, (ptrB b1 0)), (4, (kbool.V y1))] a w → K8 a w := by
        intro y1 a54 w54 h8 s54
        unfold cabalref11_Right.j2 at h8
        refine hK8 _ _ ?_
        refine wp_seq_k fun K10 hK10 => ?_
        refine wp_seq_k fun K11 hK11 => ?_
        refine wp_region_lit ?_
        refine seq_op s54 rfl rfl (of_decide_eq_true rfl) (ob_assign rfl (opd_int rfl)) fun a55 w55 s55 => ?_; clear s54
        refine wpList_nil ?_
        refine then_normal ?_
        refine hK11 _ _ ?_
        have s56 := s55.sub (.cons (t := 1) rfl (.cons (t := 4) rfl (.cons (t := 6) rfl .nil))); clear s55
        have hj3 : ∀ (a : Act) (w : World), (cabalref11_Right.j3 k p1 y1) = some r → St ⟨156, w0, ok, []⟩ [BF b1 44 k_api_Op p1] [(1, (ptrB b1 0)), (4, (kbool.V y1))] a w → K10 a w := by
          intro a57 w57 h9 s57
          unfold cabalref11_Right.j3 at h9
          refine hK10 _ _ ?_
          refine wp_seq_k fun K12 hK12 => ?_
          refine wp_region_lit ?_
          refine seq_op s57 rfl rfl (of_decide_eq_true rfl) (ob_load rfl tk44 (.tmp rfl) (.head _) (LG.refl _ _)) fun a58 w58 s58 => ?_; clear s57
          refine seq_op s58 rfl rfl (of_decide_eq_true rfl) (ob_move rfl (.tmp rfl)) fun a59 w59 s59 => ?_; clear s58
          obtain ⟨x5, e_x5, h10⟩ := bind_some h9; clear h9
          refine seq_op s59 rfl rfl (of_decide_eq_true rfl) (ob_callD (args := [_, _]) rfl .direct hb130 (fun a w s fs gs hf hg => by obtain rfl := hf.unnil; obtain rfl := hg.unnil; exact c_cabalref11_kind k _ _ _ e_x5 _ _ _ _ (s.arg (.tmp rfl)) (s.arg (.tmp rfl)))) fun a60 w60 s60 => ?_; clear s59
          refine seq_op s60 rfl rfl (of_decide_eq_true rfl) (ob_assign rfl (.tmp rfl)) fun a61 w61 s61 => ?_; clear s60
          refine wpList_nil ?_
          refine then_normal ?_
          refine hK12 _ _ ?_
          have s62 := s61.sub (.cons (t := 2) rfl .nil); clear s61
          have s63 := St.drop (A := []) s62; clear s62
          refine wp_ret ?_
          obtain rfl := Option.some.inj h10
          exact leave s63 (.inl rfl) rfl (.cons (.tmp rfl) .nil)
        refine wp_block ?_
        refine wp_loop_fuel (fun m (q : Int) => cabalref11_Right.l1 k p1 y1 m q) r (fun _ => rfl) (fun q a w => St ⟨156, w0, ok, []⟩ [BF b1 44 k_api_Op p1] [(1, (ptrB b1 0)), (4, (kbool.V y1)), (6, ((kint .i64).V q))] a w) ?_ k (0 : Int) _ _ h8 (s56.sub (.cons rfl (.cons rfl (.cons rfl .nil))))
        rintro n1 y2 a64 w64 h11 s64 K13 hK13
        replace h11 : cabalref11_Right.l1 k p1 y1 (n1 + 1) y2 = some r := h11; rw [cabalref11_Right.l1] at h11
        have h12 := h11; clear h11
        refine wp_seq_k fun K14 hK14 => ?_
        refine wp_seq_k fun K15 hK15 => ?_
        refine wp_region_lit ?_
        refine seq_op s64 rfl rfl (of_decide_eq_true rfl) (ob_move rfl (.tmp rfl)) fun a65 w65 s65 => ?_; clear s64
        refine seq_op s65 rfl rfl (of_decide_eq_true rfl) (ob_fieldAddr (off' := 70) rfl Try.underlying44 rfl sz42 (by decide) (.tmp rfl) rfl) fun a66 w66 s66 => ?_; clear s65
        refine seq_op s66 rfl rfl (of_decide_eq_true rfl) (ob_load rfl tk42 (.tmp rfl) (.head _) (lg_api_Op_Boxes p1)) fun a67 w67 s67 => ?_; clear s66
        refine seq_op s67 rfl rfl (of_decide_eq_true rfl) (ob_lens rfl Try.underlying42 (.tmp rfl)) fun a68 w68 s68 => ?_; clear s67
        refine seq_op s68 rfl rfl (of_decide_eq_true rfl) (ob_lss rfl (.tmp rfl) (.tmp rfl)) fun a69 w69 s69 => ?_; clear s68
        refine wpList_nil ?_
        refine then_normal ?_
        refine hK15 _ _ ?_
        have s70 := s69.sub (.cons (t := 1) rfl (.cons (t := 4) rfl (.cons (t := 6) rfl (.cons (t := 112) rfl .nil)))); clear s69
        refine cond_split s70 (.tmp rfl) (fun hc2 => ?_) (fun hc2 => ?_)
        · replace h12 := ite_t hc2 h12
          have h13 := h12; clear h12
          refine wp_skip ?_
          refine then_normal ?_
          refine hK14 _ _ ?_
          have s71 := s70.sub (.cons (t := 1) rfl (.cons (t := 4) rfl (.cons (t := 6) rfl .nil))); clear s70
          refine wp_seq_k fun K16 hK16 => ?_
          refine wp_block ?_
          refine wp_seq_k fun K17 hK17 => ?_
          refine wp_region_lit ?_
          refine seq_op s71 rfl rfl (of_decide_eq_true rfl) (ob_fieldAddr (off' := 70) rfl Try.underlying44 rfl sz42 (by decide) (.tmp rfl) rfl) fun a72 w72 s72 => ?_; clear s71
          refine seq_op s72 rfl rfl (of_decide_eq_true rfl) (ob_load rfl tk42 (.tmp rfl) (.head _) (lg_api_Op_Boxes p1)) fun a73 w73 s73 => ?_; clear s72
          refine seq_op s73 rfl rfl (of_decide_eq_true rfl) (ob_move rfl (.tmp rfl)) fun a74 w74 s74 => ?_; clear s73
          obtain ⟨x6, e_x6, h14⟩ := bind_some h13; clear h13
          refine seq_op s74 rfl rfl (of_decide_eq_true rfl) (ob_indexAddrs rfl Try.underlying42 sz78 (.tmp rfl) (.tmp rfl) e_x6) fun a75 w75 s75 => ?_; clear s74
          refine seq_op s75 rfl rfl (of_decide_eq_true rfl) (ob_loadr rfl tk78 (.tmp rfl)) fun a76 w76 s76 => ?_; clear s75
          refine seq_opx (B' := (fun b2 : Nat => [BF b2 78 k_api_Box (⟨(0 : Int), (⟨(List.replicate 32 (0 : Int)), (0 : Int), (0 : Int)⟩ : api_Head), []⟩ : api_Box), BF b1 44 k_api_Op p1])) s76 rfl rfl (of_decide_eq_true rfl) (ob_new (k := k_api_Box) rfl zz78 (Zr.iso (f := t_api_Box) (x := (⟨(0 : Int), (⟨(List.replicate 32 (0 : Int)), (0 : Int), (0 : Int)⟩ : api_Head), []⟩ : api_Box)) (Zr.pair (Zr.int .i64) (Zr.pair (Zr.iso (f := t_api_Head) (x := (⟨(List.replicate 32 (0 : Int)), (0 : Int), (0 : Int)⟩ : api_Head)) (Zr.pair (Zr.arr 32 (Zr.int .u8)) (Zr.pair (Zr.int .u32) (Zr.pair (Zr.int .u32) Zr.nil)))) (Zr.pair Zr.str Zr.nil))))) fun b2 a77 w77 s77 => ?_; clear s76
          refine seq_opx0 (B' := (fun _ : Unit => [BF b2 78 k_api_Box x6, BF b1 44 k_api_Op p1])) s77 rfl rfl (ob_store (A := []) rfl tk78 (.tmp rfl) (.tmp rfl) rfl (LS.refl _ _ _) rfl) fun _ a78 w78 s78 => ?_; clear s77
          refine wpList_nil ?_
          refine then_normal ?_
          refine hK17 _ _ ?_
          have s79 := s78.sub (.cons (t := 1) rfl (.cons (t := 4) rfl (.cons (t := 6) rfl (.cons (t := 7) rfl .nil)))); clear s78
          refine wp_seq_k fun K18 hK18 => ?_
          obtain ⟨x7, e_x7, h15⟩ := bind_some h14; clear h14
          obtain ⟨x8, e_x8, h16⟩ := bind_some h15; clear h15; replace e_x8 := Option.some.inj e_x8
          obtain ⟨x9, e_x9, h17⟩ := bind_some h16; clear h16
          refine wp_goes (Fs := [(ptrB b2 0), ((kint .i64).V x6.To), (kbool.V x7), (kbool.V (!x7)), (kbool.V (!x7)), (Fact.when ((!x7) == false) (ptrB b2 0)), (Fact.when ((!x7) == false) ((kint .i64).V x6.To)), (Fact.when ((!x7) == false) (ptrB b1 0)), (Fact.when ((!x7) == false) ((kint .i64).V p1.Author)), (Fact.when ((!x7) == false) (kbool.V (x6.To == p1.Author))), (kbool.V (if (!x7) then true else (x6.To == p1.Author))), (kbool.V (if (!x7) then true else (x6.To == p1.Author))), (Fact.when ((if (!x7) then true else (x6.To == p1.Author)) == false) (ptrB b2 35)), (Fact.when ((if (!x7) then true else (x6.To == p1.Author)) == false) (kstr.V x6.Body)), (Fact.when ((if (!x7) then true else (x6.To == p1.Author)) == false) ((kint .i64).V (x6.Body.length : Int))), (Fact.when ((if (!x7) then true else (x6.To == p1.Author)) == false) (kbool.V (decide ((x6.Body.length : Int) > (256 : Int))))), (kbool.V x8), (kbool.V x8), (Fact.when (x8 == false) ((kint .i64).V y2)), (Fact.when (x8 == false) (kbool.V (decide (y2 > (0 : Int))))), (Fact.when (x8 == false) (kbool.V (decide (y2 > (0 : Int))))), (Fact.when ((x8 == false) && ((decide (y2 > (0 : Int))) == true)) (ptrB b1 70)), (Fact.when ((x8 == false) && ((decide (y2 > (0 : Int))) == true)) ((ksl k_api_Box).V p1.Boxes)), (Fact.when ((x8 == false) && ((decide (y2 > (0 : Int))) == true)) ((kint .i64).V y2)), (Fact.when ((x8 == false) && ((decide (y2 > (0 : Int))) == true)) ((kint .i64).V (isub .i64 y2 (1 : Int)))), (Fact.when ((x8 == false) && ((decide (y2 > (0 : Int))) == true)) (ptrTo k_api_Box x9)), (Fact.when ((x8 == false) && ((decide (y2 > (0 : Int))) == true)) (ptrTo (kint .i64) x9.To)), (Fact.when ((x8 == false) && ((decide (y2 > (0 : Int))) == true)) ((kint .i64).V x9.To)), (Fact.when ((x8 == false) && ((decide (y2 > (0 : Int))) == true)) (ptrB b2 0)), (Fact.when ((x8 == false) && ((decide (y2 > (0 : Int))) == true)) ((kint .i64).V x6.To))]) (bits := [0, 1, 3, 7, 15, 31, 63, 31, 159, 511, 1023, 2047, 4095, 8191, 16383, 32767, 65535, 131071, 262143, 524287, 1048575, 2097151, 4194303, 2097151, 10485759, 33554431, 67108863, 134217727, 2097151, 270532607, 1073741823, 2147483647, 4294967295]) (m := 30) (todo := 0) mx s79 ?_; clear s79
          refine goes_last (by kernel_rfl) rfl (opsS_cons (.plain _ (Av.old (t := 7) rfl rfl Av.nil) rfl rfl (ob_fieldAddr (off' := 0) rfl Try.underlying78 rfl sz3 (by decide) (.tmp rfl) rfl)) (opsS_cons (.plain _ (Av.new (j := 0) rfl rfl rfl Av.nil) rfl rfl (ob_load rfl tk3 (.tmp rfl) (.head _) (lg_api_Box_To x6))) (opsS_cons (.plain _ (Av.new (j := 1) rfl rfl rfl Av.nil) rfl rfl (ob_callD (args := [_]) rfl .direct hb129 (fun a w s fs gs hf hg => by obtain rfl := hf.unnil; obtain rfl := hg.unnil; exact c_cabalref11_Member k _ _ e_x7 _ _ _ (s.arg (.tmp rfl))))) (opsS_cons (.plain _ (Av.new (j := 2) rfl rfl rfl Av.nil) rfl rfl (ob_not rfl (.tmp rfl))) (opsS_cons (.plain _ (Av.new (j := 3) rfl rfl rfl Av.nil) rfl rfl (ob_move rfl (.tmp rfl))) (opsS_cons (.guarded _ (Av.old (t := 7) rfl rfl (Av.new (j := 4) rfl rfl rfl Av.nil)) rfl rfl rfl rfl (fun hb => ob_fieldAddr (off' := 0) rfl Try.underlying78 rfl sz3 (by decide) (.tmp rfl) rfl)) (opsS_cons (.guarded _ (Av.new (j := 4) rfl rfl rfl (Av.new (j := 5) rfl rfl rfl Av.nil)) rfl rfl rfl rfl (fun hb => (Ob.uncond (t := 125) hb rfl (ob_load rfl tk3 (.tmp rfl) (.head _) (lg_api_Box_To x6))))) (opsS_cons (.guarded _ (Av.old (t := 1) rfl rfl (Av.new (j := 4) rfl rfl rfl Av.nil)) rfl rfl rfl rfl (fun hb => ob_fieldAddr (off' := 0) rfl Try.underlying44 rfl sz3 (by decide) (.tmp rfl) rfl)) (opsS_cons (.guarded _ (Av.new (j := 4) rfl rfl rfl (Av.new (j := 7) rfl rfl rfl Av.nil)) rfl rfl rfl rfl (fun hb => (Ob.uncond (t := 127) hb rfl (ob_load rfl tk3 (.tmp rfl) (.tail _ (.head _)) (lg_api_Op_Author p1))))) (opsS_cons (.guarded _ (Av.new (j := 4) rfl rfl rfl (Av.new (j := 6) rfl rfl rfl (Av.new (j := 8) rfl rfl rfl Av.nil))) rfl rfl rfl rfl (fun hb => (Ob.uncond (t := 128) hb rfl ((Ob.uncond (t := 126) hb rfl (ob_eql rfl (.tmp rfl) (.tmp rfl))))))) (opsS_cons (.plain _ (Av.new (j := 4) rfl rfl rfl (Av.new (j := 9) rfl rfl rfl Av.nil)) rfl rfl (ob_or2 rfl (.tmp rfl) opd_bool (.tmp rfl))) (opsS_cons (.plain _ (Av.new (j := 10) rfl rfl rfl Av.nil) rfl rfl (ob_move rfl (.tmp rfl))) (opsS_cons (.guarded _ (Av.old (t := 7) rfl rfl (Av.new (j := 11) rfl rfl rfl Av.nil)) rfl rfl rfl rfl (fun hb => ob_fieldAddr (off' := 35) rfl Try.underlying78 rfl sz9 (by decide) (.tmp rfl) rfl)) (opsS_cons (.guarded _ (Av.new (j := 11) rfl rfl rfl (Av.new (j := 12) rfl rfl rfl Av.nil)) rfl rfl rfl rfl (fun hb => (Ob.uncond (t := 132) hb rfl (ob_load rfl tk9 (.tmp rfl) (.head _) (lg_api_Box_Body x6))))) (opsS_cons (.guarded _ (Av.new (j := 11) rfl rfl rfl (Av.new (j := 13) rfl rfl rfl Av.nil)) rfl rfl rfl rfl (fun hb => (Ob.uncond (t := 133) hb rfl (ob_lenStr rfl Try.underlying9 (.tmp rfl))))) (opsS_cons (.guarded _ (Av.new (j := 11) rfl rfl rfl (Av.new (j := 14) rfl rfl rfl Av.nil)) rfl rfl rfl rfl (fun hb => (Ob.uncond (t := 134) hb rfl (ob_gtr rfl (.tmp rfl) (opd_int rfl))))) (opsS_cons (.plain _ (Av.new (j := 11) rfl rfl rfl (Av.new (j := 15) rfl rfl rfl Av.nil)) rfl rfl ((ob_or2 rfl (.tmp rfl) opd_bool (.tmp rfl)).nm e_x8)) (opsS_cons (.plain _ (Av.new (j := 16) rfl rfl rfl Av.nil) rfl rfl (ob_move rfl (.tmp rfl))) (opsS_cons (.guarded _ (Av.old (t := 6) rfl rfl (Av.new (j := 17) rfl rfl rfl Av.nil)) rfl rfl rfl rfl (fun hb => ob_move rfl (.tmp rfl))) (opsS_cons (.guarded _ (Av.new (j := 17) rfl rfl rfl (Av.new (j := 18) rfl rfl rfl Av.nil)) rfl rfl rfl rfl (fun hb => (Ob.uncond (t := 138) hb rfl (ob_gtr rfl (.tmp rfl) (opd_int rfl))))) (opsS_cons (.guarded _ (Av.new (j := 17) rfl rfl rfl (Av.new (j := 19) rfl rfl rfl Av.nil)) rfl rfl rfl rfl (fun hb => (Ob.uncond (t := 139) hb rfl (ob_move rfl (.tmp rfl))))) (opsS_cons (.guarded2 _ (Av.old (t := 1) rfl rfl (Av.new (j := 20) rfl rfl rfl Av.nil)) rfl rfl rfl rfl (fun hb => ob_fieldAddr (off' := 70) rfl Try.underlying44 rfl sz42 (by decide) (.tmp rfl) rfl)) (opsS_cons (.guarded2 _ (Av.new (j := 20) rfl rfl rfl (Av.new (j := 21) rfl rfl rfl Av.nil)) rfl rfl rfl rfl (fun hb => (Ob.uncond (t := 141) hb rfl (ob_load rfl tk42 (.tmp rfl) (.tail _ (.head _)) (lg_api_Op_Boxes p1))))) (opsS_cons (.guarded2 _ (Av.old (t := 6) rfl rfl (Av.new (j := 20) rfl rfl rfl Av.nil)) rfl rfl rfl rfl (fun hb => ob_move rfl (.tmp rfl))) (opsS_cons (.guarded2 _ (Av.new (j := 20) rfl rfl rfl (Av.new (j := 23) rfl rfl rfl Av.nil)) rfl rfl rfl rfl (fun hb => (Ob.uncond (t := 143) hb rfl (ob_sub rfl (.tmp rfl) (opd_int rfl))))) (opsS_cons (.guarded2 _ (Av.new (j := 20) rfl rfl rfl (Av.new (j := 22) rfl rfl rfl (Av.new (j := 24) rfl rfl rfl Av.nil))) rfl rfl rfl rfl (fun hb => (Ob.uncond (t := 144) hb rfl ((Ob.uncond (t := 142) hb rfl (ob_indexAddrs rfl Try.underlying42 sz78 (.tmp rfl) (.tmp rfl) (ite_t hb e_x9))))))) (opsS_cons (.guarded2 _ (Av.new (j := 20) rfl rfl rfl (Av.new (j := 25) rfl rfl rfl Av.nil)) rfl rfl rfl rfl (fun hb => (Ob.uncond (t := 145) hb rfl (ob_fieldAddrr rfl Try.underlying78 rfl sz3 (by decide) (.tmp rfl) (lg_api_Box_To x9))))) (opsS_cons (.guarded2 _ (Av.new (j := 20) rfl rfl rfl (Av.new (j := 26) rfl rfl rfl Av.nil)) rfl rfl rfl rfl (fun hb => (Ob.uncond (t := 146) hb rfl (ob_loadr rfl tk3 (.tmp rfl))))) (opsS_cons (.guarded2 _ (Av.old (t := 7) rfl rfl (Av.new (j := 20) rfl rfl rfl Av.nil)) rfl rfl rfl rfl (fun hb => ob_fieldAddr (off' := 0) rfl Try.underlying78 rfl sz3 (by decide) (.tmp rfl) rfl)) (opsS_cons (.guarded2 _ (Av.new (j := 20) rfl rfl rfl (Av.new (j := 28) rfl rfl rfl Av.nil)) rfl rfl rfl rfl (fun hb => (Ob.uncond (t := 148) hb rfl (ob_load rfl tk3 (.tmp rfl) (.head _) (lg_api_Box_To x6))))) opsS_nil)))))))))))))))))))))))))))))) (out_old (t := 1) rfl rfl (out_old (t := 4) rfl rfl (out_old (t := 6) rfl rfl (out_new (i := 17) (by decide) rfl rfl (out_new (i := 20) (by decide) rfl rfl (out_new (i := 27) (by decide) rfl rfl (out_new (i := 29) (by decide) rfl rfl out_nil))))))) fun a80 w80 s80 => ?_
          refine seq_opg2 s80 rfl rfl rfl rfl (of_decide_eq_true rfl) (fun hb => (Ob.uncond (t := 149) hb rfl ((Ob.uncond (t := 147) hb rfl (ob_geq rfl (.tmp rfl) (.tmp rfl)))))) fun a81 w81 s81 => ?_; clear s80
          obtain ⟨x10, e_x10, h18⟩ := bind_some h17; clear h17; replace e_x10 := Option.some.inj e_x10
          refine seq_opg s81 rfl rfl rfl rfl (of_decide_eq_true rfl) (fun hb => (Ob.uncond (t := 140) hb rfl ((ob_and3 hb rfl (.tmp rfl) (.tmp rfl) opd_bool).nm e_x10))) fun a82 w82 s82 => ?_; clear s81
          refine seq_op s82 rfl rfl (of_decide_eq_true rfl) (ob_or2 rfl (.tmp rfl) opd_bool (.tmp rfl)) fun a83 w83 s83 => ?_; clear s82
          refine wpList_nil ?_
          refine then_normal ?_
          refine hK18 _ _ ?_
          have s84 := s83.sub (.cons (t := 1) rfl (.cons (t := 4) rfl (.cons (t := 6) rfl (.cons (t := 152) rfl .nil)))); clear s83
          have s85 := St.drop (A := []) s84; clear s84
          refine cond_split s85 (.tmp rfl) (fun hc3 => ?_) (fun hc3 => ?_)
          · replace h18 := ite_t hc3 h18
            have h19 := h18; clear h18
            refine wp_seq_k fun K19 hK19 => ?_
            refine wp_region_lit ?_
            refine seq_op s85 rfl rfl (of_decide_eq_true rfl) (ob_assign rfl opd_bool) fun a86 w86 s86 => ?_; clear s85
            refine wpList_nil ?_
            refine then_normal ?_
            refine hK19 _ _ ?_
            have s87 := s86.sub (.cons (t := 2) rfl .nil); clear s86
            have s88 := St.drop (A := []) s87; clear s87
            refine wp_ret ?_
            obtain rfl := Option.some.inj h19
            exact leave s88 (.inl rfl) rfl (.cons (.tmp rfl) .nil)
          · replace h18 := ite_f hc3 h18
            have h20 := h18; clear h18
            refine wp_skip ?_
            refine in_normal ?_
            refine then_normal ?_
            refine hK16 _ _ ?_
            have s89 := s85.sub (.cons (t := 1) rfl (.cons (t := 4) rfl (.cons (t := 6) rfl .nil))); clear s85
            refine wp_region_lit ?_
            refine seq_op s89 rfl rfl (of_decide_eq_true rfl) (ob_move rfl (.tmp rfl)) fun a90 w90 s90 => ?_; clear s89
            refine seq_op s90 rfl rfl (of_decide_eq_true rfl) (ob_add rfl (.tmp rfl) (opd_int rfl)) fun a91 w91 s91 => ?_; clear s90
            refine seq_op s91 rfl rfl (of_decide_eq_true rfl) (ob_assign rfl (.tmp rfl)) fun a92 w92 s92 => ?_; clear s91
            refine wpList_nil ?_
            refine then_normal ?_
            exact hK13 (iadd .i64 y2 (1 : Int)) _ _ h20 (s92.sub (.cons rfl (.cons rfl (.cons rfl .nil))))
        · replace h12 := ite_f hc2 h12
          have h21 := h12; clear h12
          refine wp_exit ?_
          refine (then_exit (then_exit (in_here ?_)))
          refine then_normal ?_
          exact hj3 _ _ h21 (s70.sub (.cons rfl (.cons rfl .nil)))
      refine wp_block ?_
      refine wp_loop_fuel (fun m (q : Bool × Int) => cabalref11_Right.l2 k p1 m q.1 q.2) r (fun _ => rfl) (fun q a w => St ⟨156, w0, ok, []⟩ [BF b1 44 k_api_Op p1] [(1, (ptrB b1 0)), (4, (kbool.V q.1)), (5, ((kint .i64).V q.2))] a w) ?_ k (false, (0 : Int)) _ _ h7 (s53.sub (.cons rfl (.cons rfl (.cons rfl .nil))))
      rintro n2 ⟨y3, y4⟩ a93 w93 h22 s93 K20 hK20
      replace h22 : cabalref11_Right.l2 k p1 (n2 + 1) y3 y4 = some r := h22; rw [cabalref11_Right.l2] at h22
      have h23 := h22; clear h22
      refine wp_seq_k fun K21 hK21 => ?_
      refine wp_seq_k fun K22 hK22 => ?_
      refine wp_region_lit ?_
      refine seq_op s93 rfl rfl (of_decide_eq_true rfl) (ob_move rfl (.tmp rfl)) fun a94 w94 s94 => ?_; clear s93
      refine seq_op s94 rfl rfl (of_decide_eq_true rfl) (ob_fieldAddr (off' := 4) rfl Try.underlying44 rfl sz41 (by decide) (.tmp rfl) rfl) fun a95 w95 s95 => ?_; clear s94
      refine seq_op s95 rfl rfl (of_decide_eq_true rfl) (ob_load rfl tk41 (.tmp rfl) (.head _) (lg_api_Op_Who p1)) fun a96 w96 s96 => ?_; clear s95
      refine seq_op s96 rfl rfl (of_decide_eq_true rfl) (ob_lens rfl Try.underlying41 (.tmp rfl)) fun a97 w97 s97 => ?_; clear s96
      refine seq_op s97 rfl rfl (of_decide_eq_true rfl) (ob_lss rfl (.tmp rfl) (.tmp rfl)) fun a98 w98 s98 => ?_; clear s97
      refine wpList_nil ?_
      refine then_normal ?_
      refine hK22 _ _ ?_
      have s99 := s98.sub (.cons (t := 1) rfl (.cons (t := 4) rfl (.cons (t := 5) rfl (.cons (t := 69) rfl .nil)))); clear s98
      refine cond_split s99 (.tmp rfl) (fun hc4 => ?_) (fun hc4 => ?_)
      · replace h23 := ite_t hc4 h23
        have h24 := h23; clear h23
        refine wp_skip ?_
        refine then_normal ?_
        refine hK21 _ _ ?_
        have s100 := s99.sub (.cons (t := 1) rfl (.cons (t := 4) rfl (.cons (t := 5) rfl .nil))); clear s99
        refine wp_seq_k fun K23 hK23 => ?_
        refine wp_block ?_
        refine wp_seq_k fun K24 hK24 => ?_
        refine wp_seq_k fun K25 hK25 => ?_
        obtain ⟨x11, e_x11, h25⟩ := bind_some h24; clear h24
        obtain ⟨x12, e_x12, h26⟩ := bind_some h25; clear h25
        obtain ⟨x13, e_x13, h27⟩ := bind_some h26; clear h26
        obtain ⟨x14, e_x14, h28⟩ := bind_some h27; clear h27
        refine wp_goes (Fs := [(ptrB b1 4), ((ksl (kint .i64)).V p1.Who), ((kint .i64).V y4), (ptrTo (kint .i64) x11), ((kint .i64).V x11), (kbool.V x12), (kbool.V (!x12)), (kbool.V (!x12)), (Fact.when ((!x12) == false) ((kint .i64).V y4)), (Fact.when ((!x12) == false) (kbool.V (decide (y4 > (0 : Int))))), (Fact.when ((!x12) == false) (kbool.V (decide (y4 > (0 : Int))))), (Fact.when (((!x12) == false) && ((decide (y4 > (0 : Int))) == true)) (ptrB b1 4)), (Fact.when (((!x12) == false) && ((decide (y4 > (0 : Int))) == true)) ((ksl (kint .i64)).V p1.Who)), (Fact.when (((!x12) == false) && ((decide (y4 > (0 : Int))) == true)) ((kint .i64).V y4)), (Fact.when (((!x12) == false) && ((decide (y4 > (0 : Int))) == true)) ((kint .i64).V (isub .i64 y4 (1 : Int)))), (Fact.when (((!x12) == false) && ((decide (y4 > (0 : Int))) == true)) (ptrTo (kint .i64) x13)), (Fact.when (((!x12) == false) && ((decide (y4 > (0 : Int))) == true)) ((kint .i64).V x13)), (Fact.when (((!x12) == false) && ((decide (y4 > (0 : Int))) == true)) (ptrB b1 4)), (Fact.when (((!x12) == false) && ((decide (y4 > (0 : Int))) == true)) ((ksl (kint .i64)).V p1.Who)), (Fact.when (((!x12) == false) && ((decide (y4 > (0 : Int))) == true)) ((kint .i64).V y4)), (Fact.when (((!x12) == false) && ((decide (y4 > (0 : Int))) == true)) (ptrTo (kint .i64) x14)), (Fact.when (((!x12) == false) && ((decide (y4 > (0 : Int))) == true)) ((kint .i64).V x14))]) (bits := [0, 1, 0, 7, 15, 31, 63, 127, 255, 511, 1023, 2047, 4095, 2047, 10239, 32767, 65535, 2047, 133119, 2047, 919551, 1968127, 4194303, 8388607, 16777215]) (m := 22) (todo := 0) mx s100 ?_; clear s100
        refine goes_last (by kernel_rfl) rfl (opsS_cons (.plain _ (Av.old (t := 1) rfl rfl Av.nil) rfl rfl (ob_fieldAddr (off' := 4) rfl Try.underlying44 rfl sz41 (by decide) (.tmp rfl) rfl)) (opsS_cons (.plain _ (Av.new (j := 0) rfl rfl rfl Av.nil) rfl rfl (ob_load rfl tk41 (.tmp rfl) (.head _) (lg_api_Op_Who p1))) (opsS_cons (.plain _ (Av.old (t := 5) rfl rfl Av.nil) rfl rfl (ob_move rfl (.tmp rfl))) (opsS_cons (.plain _ (Av.new (j := 1) rfl rfl rfl (Av.new (j := 2) rfl rfl rfl Av.nil)) rfl rfl (ob_indexAddrs rfl Try.underlying41 sz3 (.tmp rfl) (.tmp rfl) e_x11)) (opsS_cons (.plain _ (Av.new (j := 3) rfl rfl rfl Av.nil) rfl rfl (ob_loadr rfl tk3 (.tmp rfl))) (opsS_cons (.plain _ (Av.new (j := 4) rfl rfl rfl Av.nil) rfl rfl (ob_callD (args := [_]) rfl .direct hb129 (fun a w s fs gs hf hg => by obtain rfl := hf.unnil; obtain rfl := hg.unnil; exact c_cabalref11_Member k _ _ e_x12 _ _ _ (s.arg (.tmp rfl))))) (opsS_cons (.plain _ (Av.new (j := 5) rfl rfl rfl Av.nil) rfl rfl (ob_not rfl (.tmp rfl))) (opsS_cons (.plain _ (Av.new (j := 6) rfl rfl rfl Av.nil) rfl rfl (ob_move rfl (.tmp rfl))) (opsS_cons (.guarded _ (Av.old (t := 5) rfl rfl (Av.new (j := 7) rfl rfl rfl Av.nil)) rfl rfl rfl rfl (fun hb => ob_move rfl (.tmp rfl))) (opsS_cons (.guarded _ (Av.new (j := 7) rfl rfl rfl (Av.new (j := 8) rfl rfl rfl Av.nil)) rfl rfl rfl rfl (fun hb => (Ob.uncond (t := 80) hb rfl (ob_gtr rfl (.tmp rfl) (opd_int rfl))))) (opsS_cons (.guarded _ (Av.new (j := 7) rfl rfl rfl (Av.new (j := 9) rfl rfl rfl Av.nil)) rfl rfl rfl rfl (fun hb => (Ob.uncond (t := 81) hb rfl (ob_move rfl (.tmp rfl))))) (opsS_cons (.guarded2 _ (Av.old (t := 1) rfl rfl (Av.new (j := 10) rfl rfl rfl Av.nil)) rfl rfl rfl rfl (fun hb => ob_fieldAddr (off' := 4) rfl Try.underlying44 rfl sz41 (by decide) (.tmp rfl) rfl)) (opsS_cons (.guarded2 _ (Av.new (j := 10) rfl rfl rfl (Av.new (j := 11) rfl rfl rfl Av.nil)) rfl rfl rfl rfl (fun hb => (Ob.uncond (t := 83) hb rfl (ob_load rfl tk41 (.tmp rfl) (.head _) (lg_api_Op_Who p1))))) (opsS_cons (.guarded2 _ (Av.old (t := 5) rfl rfl (Av.new (j := 10) rfl rfl rfl Av.nil)) rfl rfl rfl rfl (fun hb => ob_move rfl (.tmp rfl))) (opsS_cons (.guarded2 _ (Av.new (j := 10) rfl rfl rfl (Av.new (j := 13) rfl rfl rfl Av.nil)) rfl rfl rfl rfl (fun hb => (Ob.uncond (t := 85) hb rfl (ob_sub rfl (.tmp rfl) (opd_int rfl))))) (opsS_cons (.guarded2 _ (Av.new (j := 10) rfl rfl rfl (Av.new (j := 12) rfl rfl rfl (Av.new (j := 14) rfl rfl rfl Av.nil))) rfl rfl rfl rfl (fun hb => (Ob.uncond (t := 86) hb rfl ((Ob.uncond (t := 84) hb rfl (ob_indexAddrs rfl Try.underlying41 sz3 (.tmp rfl) (.tmp rfl) (ite_t hb e_x13))))))) (opsS_cons (.guarded2 _ (Av.new (j := 10) rfl rfl rfl (Av.new (j := 15) rfl rfl rfl Av.nil)) rfl rfl rfl rfl (fun hb => (Ob.uncond (t := 87) hb rfl (ob_loadr rfl tk3 (.tmp rfl))))) (opsS_cons (.guarded2 _ (Av.old (t := 1) rfl rfl (Av.new (j := 10) rfl rfl rfl Av.nil)) rfl rfl rfl rfl (fun hb => ob_fieldAddr (off' := 4) rfl Try.underlying44 rfl sz41 (by decide) (.tmp rfl) rfl)) (opsS_cons (.guarded2 _ (Av.new (j := 10) rfl rfl rfl (Av.new (j := 17) rfl rfl rfl Av.nil)) rfl rfl rfl rfl (fun hb => (Ob.uncond (t := 89) hb rfl (ob_load rfl tk41 (.tmp rfl) (.head _) (lg_api_Op_Who p1))))) (opsS_cons (.guarded2 _ (Av.old (t := 5) rfl rfl (Av.new (j := 10) rfl rfl rfl Av.nil)) rfl rfl rfl rfl (fun hb => ob_move rfl (.tmp rfl))) (opsS_cons (.guarded2 _ (Av.new (j := 10) rfl rfl rfl (Av.new (j := 18) rfl rfl rfl (Av.new (j := 19) rfl rfl rfl Av.nil))) rfl rfl rfl rfl (fun hb => (Ob.uncond (t := 91) hb rfl ((Ob.uncond (t := 90) hb rfl (ob_indexAddrs rfl Try.underlying41 sz3 (.tmp rfl) (.tmp rfl) (ite_t hb e_x14))))))) (opsS_cons (.guarded2 _ (Av.new (j := 10) rfl rfl rfl (Av.new (j := 20) rfl rfl rfl Av.nil)) rfl rfl rfl rfl (fun hb => (Ob.uncond (t := 92) hb rfl (ob_loadr rfl tk3 (.tmp rfl))))) opsS_nil)))))))))))))))))))))) (out_old (t := 1) rfl rfl (out_old (t := 4) rfl rfl (out_old (t := 5) rfl rfl (out_new (i := 7) (by decide) rfl rfl (out_new (i := 10) (by decide) rfl rfl (out_new (i := 16) (by decide) rfl rfl (out_new (i := 21) (by decide) rfl rfl out_nil))))))) fun a101 w101 s101 => ?_
        refine seq_opg2 s101 rfl rfl rfl rfl (of_decide_eq_true rfl) (fun hb => (Ob.uncond (t := 93) hb rfl ((Ob.uncond (t := 88) hb rfl (ob_geq rfl (.tmp rfl) (.tmp rfl)))))) fun a102 w102 s102 => ?_; clear s101
        refine seq_opg s102 rfl rfl rfl rfl (of_decide_eq_true rfl) (fun hb => (Ob.uncond (t := 82) hb rfl (ob_and3 hb rfl (.tmp rfl) (.tmp rfl) opd_bool))) fun a103 w103 s103 => ?_; clear s102
        obtain ⟨x15, e_x15, h29⟩ := bind_some h28; clear h28; replace e_x15 := Option.some.inj e_x15
        refine seq_op s103 rfl rfl (of_decide_eq_true rfl) ((ob_or2 rfl (.tmp rfl) opd_bool (.tmp rfl)).nm e_x15) fun a104 w104 s104 => ?_; clear s103
        refine wpList_nil ?_
        refine then_normal ?_
        refine hK25 _ _ ?_
        have s105 := s104.sub (.cons (t := 1) rfl (.cons (t := 4) rfl (.cons (t := 5) rfl (.cons (t := 96) rfl .nil)))); clear s104
        refine cond_split s105 (.tmp rfl) (fun hc5 => ?_) (fun hc5 => ?_)
        · replace h29 := ite_t hc5 h29
          have h30 := h29; clear h29
          refine wp_seq_k fun K26 hK26 => ?_
          refine wp_region_lit ?_
          refine seq_op s105 rfl rfl (of_decide_eq_true rfl) (ob_assign rfl opd_bool) fun a106 w106 s106 => ?_; clear s105
          refine wpList_nil ?_
          refine then_normal ?_
          refine hK26 _ _ ?_
          have s107 := s106.sub (.cons (t := 2) rfl .nil); clear s106
          have s108 := St.drop (A := []) s107; clear s107
          refine wp_ret ?_
          obtain rfl := Option.some.inj h30
          exact leave s108 (.inl rfl) rfl (.cons (.tmp rfl) .nil)
        · replace h29 := ite_f hc5 h29
          have h31 := h29; clear h29
          refine wp_skip ?_
          refine then_normal ?_
          refine hK24 _ _ ?_
          have s109 := s105.sub (.cons (t := 1) rfl (.cons (t := 4) rfl (.cons (t := 5) rfl .nil))); clear s105
          obtain ⟨x16, e_x16, h32⟩ := bind_some h31; clear h31
          refine wp_goes (Fs := [(kbool.V y3), (kbool.V y3), (Fact.when (y3 == false) (ptrB b1 4)), (Fact.when (y3 == false) ((ksl (kint .i64)).V p1.Who)), (Fact.when (y3 == false) ((kint .i64).V y4)), (Fact.when (y3 == false) (ptrTo (kint .i64) x16)), (Fact.when (y3 == false) ((kint .i64).V x16)), (Fact.when (y3 == false) (ptrB b1 0)), (Fact.when (y3 == false) ((kint .i64).V p1.Author))]) (bits := [0, 1, 3, 7, 3, 31, 63, 3, 131, 511, 1023, 2047]) (m := 9) (todo := 0) mx s109 ?_; clear s109
          refine goes_last (by kernel_rfl) rfl (opsS_cons (.plain _ (Av.old (t := 4) rfl rfl Av.nil) rfl rfl (ob_move rfl (.tmp rfl))) (opsS_cons (.plain _ (Av.new (j := 0) rfl rfl rfl Av.nil) rfl rfl (ob_move rfl (.tmp rfl))) (opsS_cons (.guarded _ (Av.old (t := 1) rfl rfl (Av.new (j := 1) rfl rfl rfl Av.nil)) rfl rfl rfl rfl (fun hb => ob_fieldAddr (off' := 4) rfl Try.underlying44 rfl sz41 (by decide) (.tmp rfl) rfl)) (opsS_cons (.guarded _ (Av.new (j := 1) rfl rfl rfl (Av.new (j := 2) rfl rfl rfl Av.nil)) rfl rfl rfl rfl (fun hb => (Ob.uncond (t := 99) hb rfl (ob_load rfl tk41 (.tmp rfl) (.head _) (lg_api_Op_Who p1))))) (opsS_cons (.guarded _ (Av.old (t := 5) rfl rfl (Av.new (j := 1) rfl rfl rfl Av.nil)) rfl rfl rfl rfl (fun hb => ob_move rfl (.tmp rfl))) (opsS_cons (.guarded _ (Av.new (j := 1) rfl rfl rfl (Av.new (j := 3) rfl rfl rfl (Av.new (j := 4) rfl rfl rfl Av.nil))) rfl rfl rfl rfl (fun hb => (Ob.uncond (t := 101) hb rfl ((Ob.uncond (t := 100) hb rfl (ob_indexAddrs rfl Try.underlying41 sz3 (.tmp rfl) (.tmp rfl) (ite_t hb e_x16))))))) (opsS_cons (.guarded _ (Av.new (j := 1) rfl rfl rfl (Av.new (j := 5) rfl rfl rfl Av.nil)) rfl rfl rfl rfl (fun hb => (Ob.uncond (t := 102) hb rfl (ob_loadr rfl tk3 (.tmp rfl))))) (opsS_cons (.guarded _ (Av.old (t := 1) rfl rfl (Av.new (j := 1) rfl rfl rfl Av.nil)) rfl rfl rfl rfl (fun hb => ob_fieldAddr (off' := 0) rfl Try.underlying44 rfl sz3 (by decide) (.tmp rfl) rfl)) (opsS_cons (.guarded _ (Av.new (j := 1) rfl rfl rfl (Av.new (j := 7) rfl rfl rfl Av.nil)) rfl rfl rfl rfl (fun hb => (Ob.uncond (t := 104) hb rfl (ob_load rfl tk3 (.tmp rfl) (.head _) (lg_api_Op_Author p1))))) opsS_nil))))))))) (out_old (t := 1) rfl rfl (out_old (t := 4) rfl rfl (out_old (t := 5) rfl rfl (out_new (i := 1) (by decide) rfl rfl (out_new (i := 6) (by decide) rfl rfl (out_new (i := 8) (by decide) rfl rfl out_nil)))))) fun a110 w110 s110 => ?_
          refine seq_opg s110 rfl rfl rfl rfl (of_decide_eq_true rfl) (fun hb => (Ob.uncond (t := 105) hb rfl ((Ob.uncond (t := 103) hb rfl (ob_eql rfl (.tmp rfl) (.tmp rfl)))))) fun a111 w111 s111 => ?_; clear s110
          refine seq_op s111 rfl rfl (of_decide_eq_true rfl) (ob_or2 rfl (.tmp rfl) opd_bool (.tmp rfl)) fun a112 w112 s112 => ?_; clear s111
          refine seq_op s112 rfl rfl (of_decide_eq_true rfl) (ob_assign rfl (.tmp rfl)) fun a113 w113 s113 => ?_; clear s112
          refine wpList_nil ?_
          refine in_normal ?_
          refine then_normal ?_
          refine hK23 _ _ ?_
          have s114 := s113.sub (.cons (t := 1) rfl (.cons (t := 4) rfl (.cons (t := 5) rfl .nil))); clear s113
          refine wp_region_lit ?_
          refine seq_op s114 rfl rfl (of_decide_eq_true rfl) (ob_move rfl (.tmp rfl)) fun a115 w115 s115 => ?_; clear s114
          refine seq_op s115 rfl rfl (of_decide_eq_true rfl) (ob_add rfl (.tmp rfl) (opd_int rfl)) fun a116 w116 s116 => ?_; clear s115
          refine seq_op s116 rfl rfl (of_decide_eq_true rfl) (ob_assign rfl (.tmp rfl)) fun a117 w117 s117 => ?_; clear s116
          refine wpList_nil ?_
          refine then_normal ?_
          exact hK20 ((if y3 then true else (x16 == p1.Author)), (iadd .i64 y4 (1 : Int))) _ _ h32 (s117.sub (.cons rfl (.cons rfl (.cons rfl .nil))))
      · replace h23 := ite_f hc4 h23
        have h33 := h23; clear h23
        refine wp_exit ?_
        refine (then_exit (then_exit (in_here ?_)))
        refine then_normal ?_
        exact hj2 y3 _ _ h33 (s99.sub (.cons rfl (.cons rfl .nil)))
    refine wp_block ?_
    refine wp_loop_fuel (fun m (q : Int) => cabalref11_Right.l3 k p1 m q) r (fun _ => rfl) (fun q a w => St ⟨156, w0, ok, []⟩ [BF b1 44 k_api_Op p1] [(1, (ptrB b1 0)), (3, ((kint .i64).V q))] a w) ?_ k (1 : Int) _ _ h6 (s48.sub (.cons rfl (.cons rfl .nil)))
    rintro n3 y5 a118 w118 h34 s118 K27 hK27
    replace h34 : cabalref11_Right.l3 k p1 (n3 + 1) y5 = some r := h34; rw [cabalref11_Right.l3] at h34
    have h35 := h34; clear h34
    refine wp_seq_k fun K28 hK28 => ?_
    refine wp_seq_k fun K29 hK29 => ?_
    refine wp_region_lit ?_
    refine seq_op s118 rfl rfl (of_decide_eq_true rfl) (ob_move rfl (.tmp rfl)) fun a119 w119 s119 => ?_; clear s118
    refine seq_op s119 rfl rfl (of_decide_eq_true rfl) (ob_fieldAddr (off' := 2) rfl Try.underlying44 rfl sz40 (by decide) (.tmp rfl) rfl) fun a120 w120 s120 => ?_; clear s119
    refine seq_op s120 rfl rfl (of_decide_eq_true rfl) (ob_load rfl tk40 (.tmp rfl) (.head _) (lg_api_Op_Parents p1)) fun a121 w121 s121 => ?_; clear s120
    refine seq_op s121 rfl rfl (of_decide_eq_true rfl) (ob_lens rfl Try.underlying40 (.tmp rfl)) fun a122 w122 s122 => ?_; clear s121
    refine seq_op s122 rfl rfl (of_decide_eq_true rfl) (ob_lss rfl (.tmp rfl) (.tmp rfl)) fun a123 w123 s123 => ?_; clear s122
    refine wpList_nil ?_
    refine then_normal ?_
    refine hK29 _ _ ?_
    have s124 := s123.sub (.cons (t := 1) rfl (.cons (t := 3) rfl (.cons (t := 49) rfl .nil))); clear s123
    refine cond_split s124 (.tmp rfl) (fun hc6 => ?_) (fun hc6 => ?_)
    · replace h35 := ite_t hc6 h35
      have h36 := h35; clear h35
      refine wp_skip ?_
      refine then_normal ?_
      refine hK28 _ _ ?_
      have s125 := s124.sub (.cons (t := 1) rfl (.cons (t := 3) rfl .nil)); clear s124
      refine wp_seq_k fun K30 hK30 => ?_
      refine wp_block ?_
      refine wp_seq_k fun K31 hK31 => ?_
      obtain ⟨x17, e_x17, h37⟩ := bind_some h36; clear h36
      obtain ⟨x18, e_x18, h38⟩ := bind_some h37; clear h37
      refine wp_goes (Fs := [(ptrB b1 2), ((ksl (karr 32 (kint .u8))).V p1.Parents), ((kint .i64).V y5), ((kint .i64).V (isub .i64 y5 (1 : Int))), (ptrTo (karr 32 (kint .u8)) x17), ((karr 32 (kint .u8)).V x17), (ptrB b1 2), ((ksl (karr 32 (kint .u8))).V p1.Parents), ((kint .i64).V y5), (ptrTo (karr 32 (kint .u8)) x18), ((karr 32 (kint .u8)).V x18)]) (bits := [0, 1, 0, 4, 15, 31, 0, 64, 0, 448, 960, 2047, 4095]) (m := 11) (todo := 0) mx s125 ?_; clear s125
      refine goes_last (by kernel_rfl) rfl (opsS_cons (.plain _ (Av.old (t := 1) rfl rfl Av.nil) rfl rfl (ob_fieldAddr (off' := 2) rfl Try.underlying44 rfl sz40 (by decide) (.tmp rfl) rfl)) (opsS_cons (.plain _ (Av.new (j := 0) rfl rfl rfl Av.nil) rfl rfl (ob_load rfl tk40 (.tmp rfl) (.head _) (lg_api_Op_Parents p1))) (opsS_cons (.plain _ (Av.old (t := 3) rfl rfl Av.nil) rfl rfl (ob_move rfl (.tmp rfl))) (opsS_cons (.plain _ (Av.new (j := 2) rfl rfl rfl Av.nil) rfl rfl (ob_sub rfl (.tmp rfl) (opd_int rfl))) (opsS_cons (.plain _ (Av.new (j := 1) rfl rfl rfl (Av.new (j := 3) rfl rfl rfl Av.nil)) rfl rfl (ob_indexAddrs rfl Try.underlying40 sz39 (.tmp rfl) (.tmp rfl) e_x17)) (opsS_cons (.plain _ (Av.new (j := 4) rfl rfl rfl Av.nil) rfl rfl (ob_loadr rfl tk39 (.tmp rfl))) (opsS_cons (.plain _ (Av.old (t := 1) rfl rfl Av.nil) rfl rfl (ob_fieldAddr (off' := 2) rfl Try.underlying44 rfl sz40 (by decide) (.tmp rfl) rfl)) (opsS_cons (.plain _ (Av.new (j := 6) rfl rfl rfl Av.nil) rfl rfl (ob_load rfl tk40 (.tmp rfl) (.head _) (lg_api_Op_Parents p1))) (opsS_cons (.plain _ (Av.old (t := 3) rfl rfl Av.nil) rfl rfl (ob_move rfl (.tmp rfl))) (opsS_cons (.plain _ (Av.new (j := 7) rfl rfl rfl (Av.new (j := 8) rfl rfl rfl Av.nil)) rfl rfl (ob_indexAddrs rfl Try.underlying40 sz39 (.tmp rfl) (.tmp rfl) e_x18)) (opsS_cons (.plain _ (Av.new (j := 9) rfl rfl rfl Av.nil) rfl rfl (ob_loadr rfl tk39 (.tmp rfl))) opsS_nil))))))))))) (out_old (t := 1) rfl rfl (out_old (t := 3) rfl rfl (out_new (i := 5) (by decide) rfl rfl (out_new (i := 10) (by decide) rfl rfl out_nil)))) fun a126 w126 s126 => ?_
      obtain ⟨x19, e_x19, h39⟩ := bind_some h38; clear h38
      refine seq_op s126 rfl rfl (of_decide_eq_true rfl) (ob_callD (args := [_, _]) rfl .direct hb108 (fun a w s fs gs hf hg => by obtain rfl := hf.unnil; obtain rfl := hg.unnil; exact c_cabalref11_Less k _ _ _ e_x19 _ _ _ _ (s.arg (.tmp rfl)) (s.arg (.tmp rfl)))) fun a127 w127 s127 => ?_; clear s126
      refine seq_op s127 rfl rfl (of_decide_eq_true rfl) (ob_not rfl (.tmp rfl)) fun a128 w128 s128 => ?_; clear s127
      refine wpList_nil ?_
      refine then_normal ?_
      refine hK31 _ _ ?_
      have s129 := s128.sub (.cons (t := 1) rfl (.cons (t := 3) rfl (.cons (t := 64) rfl .nil))); clear s128
      refine cond_split s129 (.tmp rfl) (fun hc7 => ?_) (fun hc7 => ?_)
      · replace h39 := ite_t hc7 h39
        have h40 := h39; clear h39
        refine wp_seq_k fun K32 hK32 => ?_
        refine wp_region_lit ?_
        refine seq_op s129 rfl rfl (of_decide_eq_true rfl) (ob_assign rfl opd_bool) fun a130 w130 s130 => ?_; clear s129
        refine wpList_nil ?_
        refine then_normal ?_
        refine hK32 _ _ ?_
        have s131 := s130.sub (.cons (t := 2) rfl .nil); clear s130
        have s132 := St.drop (A := []) s131; clear s131
        refine wp_ret ?_
        obtain rfl := Option.some.inj h40
        exact leave s132 (.inl rfl) rfl (.cons (.tmp rfl) .nil)
      · replace h39 := ite_f hc7 h39
        have h41 := h39; clear h39
        refine wp_skip ?_
        refine in_normal ?_
        refine then_normal ?_
        refine hK30 _ _ ?_
        have s133 := s129.sub (.cons (t := 1) rfl (.cons (t := 3) rfl .nil)); clear s129
        refine wp_region_lit ?_
        refine seq_op s133 rfl rfl (of_decide_eq_true rfl) (ob_move rfl (.tmp rfl)) fun a134 w134 s134 => ?_; clear s133
        refine seq_op s134 rfl rfl (of_decide_eq_true rfl) (ob_add rfl (.tmp rfl) (opd_int rfl)) fun a135 w135 s135 => ?_; clear s134
        refine seq_op s135 rfl rfl (of_decide_eq_true rfl) (ob_assign rfl (.tmp rfl)) fun a136 w136 s136 => ?_; clear s135
        refine wpList_nil ?_
        refine then_normal ?_
        exact hK27 (iadd .i64 y5 (1 : Int)) _ _ h41 (s136.sub (.cons rfl (.cons rfl .nil)))
    · replace h35 := ite_f hc6 h35
      have h42 := h35; clear h35
      refine wp_exit ?_
      refine (then_exit (then_exit (in_here ?_)))
      refine then_normal ?_
      exact hj1 _ _ h42 (s124.sub (.cons rfl .nil))

/- 73 cabal/cabalref19.Find -/
theorem c_cabalref19_Find (k : Nat) (p1 : (List api_Held)) (p2 : (List Int)) (r : Int) (h0 : cabalref19_Find k p1 p2 = some r) (ok : Ok) (w0 : World) (z0 : Value) (z1 : Value) (u0 : ((ksl k_api_Held).V p1).holds ok w0 z0) (u1 : ((karr 32 (kint .u8)).V p2).holds ok w0 z1) :
    Gives Try.prog 73 [z0, z1] ok w0 (resFact [(kint .i64).V r]) := by
  unfold cabalref19_Find at h0
  refine enter (N := 20) Try.func73 rfl rfl (of_decide_eq_true rfl) (.cons u0 (.cons u1 .nil)) fun a1 s1 => ?_
  refine wp_seq_k fun K1 hK1 => ?_
  refine wp_region_lit ?_
  refine seq_opx (B' := (fun b1 : Nat => [BF b1 39 (karr 32 (kint .u8)) p2])) s1 rfl rfl (of_decide_eq_true rfl) (ob_box rfl (.tmp rfl)) fun b1 a2 w2 s2 => ?_; clear s1
  refine seq_op s2 rfl rfl (of_decide_eq_true rfl) (ob_assign rfl (opd_int rfl)) fun a3 w3 s3 => ?_; clear s2
  refine wpList_nil ?_
  refine then_normal ?_
  refine hK1 _ _ ?_
  have s4 := s3.sub (.cons (t := 0) rfl (.cons (t := 3) rfl .nil)); clear s3
  refine wp_seq_k fun K2 hK2 => ?_
  refine wp_seq_k fun K3 hK3 => ?_
  refine wp_region_lit ?_
  refine seq_op s4 rfl rfl (of_decide_eq_true rfl) (ob_assign rfl (opd_int rfl)) fun a5 w5 s5 => ?_; clear s4
  refine wpList_nil ?_
  refine then_normal ?_
  refine hK3 _ _ ?_
  have s6 := s5.sub (.cons (t := 0) rfl (.cons (t := 3) rfl (.cons (t := 5) rfl .nil))); clear s5
  have hj1 : ∀ (a : Act) (w : World), (cabalref19_Find.j1 k) = some r → St ⟨20, w0, ok, []⟩ [] [] a w → K2 a w := by
    intro a7 w7 h1 s7
    unfold cabalref19_Find.j1 at h1
    refine hK2 _ _ ?_
    refine wp_seq_k fun K4 hK4 => ?_
    refine wp_region_lit ?_
    refine seq_op s7 rfl rfl (of_decide_eq_true rfl) (ob_assign rfl (opd_int rfl)) fun a8 w8 s8 => ?_; clear s7
    refine wpList_nil ?_
    refine then_normal ?_
    refine hK4 _ _ ?_
    have s9 := s8.sub (.cons (t := 4) rfl .nil); clear s8
    refine wp_ret ?_
    obtain rfl := Option.some.inj h1
    exact leave s9 (.inl rfl) rfl (.cons (.tmp rfl) .nil)
  refine wp_block ?_
  refine wp_loop_fuel (fun m (q : Int) => cabalref19_Find.l1 k p1 p2 m q) r (fun _ => rfl) (fun q a w => St ⟨20, w0, ok, []⟩ [BF b1 39 (karr 32 (kint .u8)) p2] [(0, ((ksl k_api_Held).V p1)), (3, (ptrB b1 0)), (5, ((kint .i64).V q))] a w) ?_ k (0 : Int) _ _ h0 (s6.sub (.cons rfl (.cons rfl (.cons rfl .nil))))
  rintro n1 y1 a10 w10 h2 s10 K5 hK5
  replace h2 : cabalref19_Find.l1 k p1 p2 (n1 + 1) y1 = some r := h2; rw [cabalref19_Find.l1] at h2
  have h3 := h2; clear h2
  refine wp_seq_k fun K6 hK6 => ?_
  refine wp_seq_k fun K7 hK7 => ?_
  refine wp_region_lit ?_
  refine seq_op s10 rfl rfl (of_decide_eq_true rfl) (ob_move rfl (.tmp rfl)) fun a11 w11 s11 => ?_; clear s10
  refine seq_op s11 rfl rfl (of_decide_eq_true rfl) (ob_move rfl (.tmp rfl)) fun a12 w12 s12 => ?_; clear s11
  refine seq_op s12 rfl rfl (of_decide_eq_true rfl) (ob_lens rfl Try.underlying85 (.tmp rfl)) fun a13 w13 s13 => ?_; clear s12
  refine seq_op s13 rfl rfl (of_decide_eq_true rfl) (ob_lss rfl (.tmp rfl) (.tmp rfl)) fun a14 w14 s14 => ?_; clear s13
  refine wpList_nil ?_
  refine then_normal ?_
  refine hK7 _ _ ?_
  have s15 := s14.sub (.cons (t := 0) rfl (.cons (t := 3) rfl (.cons (t := 5) rfl (.cons (t := 9) rfl .nil)))); clear s14
  refine cond_split s15 (.tmp rfl) (fun hc1 => ?_) (fun hc1 => ?_)
  · replace h3 := ite_t hc1 h3
    have h4 := h3; clear h3
    refine wp_skip ?_
    refine then_normal ?_
    refine hK6 _ _ ?_
    have s16 := s15.sub (.cons (t := 0) rfl (.cons (t := 3) rfl (.cons (t := 5) rfl .nil))); clear s15
    refine wp_seq_k fun K8 hK8 => ?_
    refine wp_block ?_
    refine wp_seq_k fun K9 hK9 => ?_
    obtain ⟨x1, e_x1, h5⟩ := bind_some h4; clear h4
    refine wp_goes (Fs := [((ksl k_api_Held).V p1), ((kint .i64).V y1), (ptrTo k_api_Held x1), (ptrTo (karr 32 (kint .u8)) x1.Id), ((karr 32 (kint .u8)).V x1.Id), ((karr 32 (kint .u8)).V p2)]) (bits := [0, 0, 3, 7, 15, 0, 63]) (m := 6) (todo := 0) mx s16 ?_; clear s16
    refine goes_last (by kernel_rfl) rfl (opsS_cons (.plain _ (Av.old (t := 0) rfl rfl Av.nil) rfl rfl (ob_move rfl (.tmp rfl))) (opsS_cons (.plain _ (Av.old (t := 5) rfl rfl Av.nil) rfl rfl (ob_move rfl (.tmp rfl))) (opsS_cons (.plain _ (Av.new (j := 0) rfl rfl rfl (Av.new (j := 1) rfl rfl rfl Av.nil)) rfl rfl (ob_indexAddrs rfl Try.underlying85 sz91 (.tmp rfl) (.tmp rfl) e_x1)) (opsS_cons (.plain _ (Av.new (j := 2) rfl rfl rfl Av.nil) rfl rfl (ob_fieldAddrr rfl Try.underlying91 rfl sz39 (by decide) (.tmp rfl) (lg_api_Held_Id x1))) (opsS_cons (.plain _ (Av.new (j := 3) rfl rfl rfl Av.nil) rfl rfl (ob_loadr rfl tk39 (.tmp rfl))) (opsS_cons (.plain _ (Av.old (t := 3) rfl rfl Av.nil) rfl rfl (ob_load rfl tk39 (.tmp rfl) (.head _) (LG.refl _ _))) opsS_nil)))))) (out_old (t := 0) rfl rfl (out_old (t := 3) rfl rfl (out_old (t := 5) rfl rfl (out_new (i := 4) (by decide) rfl rfl (out_new (i := 5) (by decide) rfl rfl out_nil))))) fun a17 w17 s17 => ?_
    refine seq_op s17 rfl rfl (of_decide_eq_true rfl) (ob_eqAgg rfl rfl (by kernel_rfl) eq39 (by decide) (.tmp rfl) (.tmp rfl)) fun a18 w18 s18 => ?_; clear s17
    refine wpList_nil ?_
    refine then_normal ?_
    refine hK9 _ _ ?_
    have s19 := s18.sub (.cons (t := 0) rfl (.cons (t := 3) rfl (.cons (t := 5) rfl (.cons (t := 18) rfl .nil)))); clear s18
    refine cond_split s19 (.tmp rfl) (fun hc2 => ?_) (fun hc2 => ?_)
    · replace h5 := ite_t hc2 h5
      have h6 := h5; clear h5
      refine wp_seq_k fun K10 hK10 => ?_
      refine wp_region_lit ?_
      refine seq_op s19 rfl rfl (of_decide_eq_true rfl) (ob_move rfl (.tmp rfl)) fun a20 w20 s20 => ?_; clear s19
      refine seq_op s20 rfl rfl (of_decide_eq_true rfl) (ob_assign rfl (.tmp rfl)) fun a21 w21 s21 => ?_; clear s20
      refine wpList_nil ?_
      refine then_normal ?_
      refine hK10 _ _ ?_
      have s22 := s21.sub (.cons (t := 4) rfl .nil); clear s21
      have s23 := St.drop (A := []) s22; clear s22
      refine wp_ret ?_
      obtain rfl := Option.some.inj h6
      exact leave s23 (.inl rfl) rfl (.cons (.tmp rfl) .nil)
    · replace h5 := ite_f hc2 h5
      have h7 := h5; clear h5
      refine wp_skip ?_
      refine in_normal ?_
      refine then_normal ?_
      refine hK8 _ _ ?_
      have s24 := s19.sub (.cons (t := 0) rfl (.cons (t := 3) rfl (.cons (t := 5) rfl .nil))); clear s19
      refine wp_region_lit ?_
      refine seq_op s24 rfl rfl (of_decide_eq_true rfl) (ob_move rfl (.tmp rfl)) fun a25 w25 s25 => ?_; clear s24
      refine seq_op s25 rfl rfl (of_decide_eq_true rfl) (ob_add rfl (.tmp rfl) (opd_int rfl)) fun a26 w26 s26 => ?_; clear s25
      refine seq_op s26 rfl rfl (of_decide_eq_true rfl) (ob_assign rfl (.tmp rfl)) fun a27 w27 s27 => ?_; clear s26
      refine wpList_nil ?_
      refine then_normal ?_
      exact hK5 (iadd .i64 y1 (1 : Int)) _ _ h7 (s27.sub (.cons rfl (.cons rfl (.cons rfl .nil))))
  · replace h3 := ite_f hc1 h3
    have h8 := h3; clear h3
    refine wp_exit ?_
    refine (then_exit (then_exit (in_here ?_)))
    refine then_normal ?_
    have s28 := St.drop (A := []) s15; clear s15
    exact hj1 _ _ h8 (s28.sub .nil)

/- 63 cabal/cabalref19.Right -/
theorem c_cabalref19_Right (k : Nat) (p1 : (List api_Held)) (r : Bool) (h0 : cabalref19_Right k p1 = some r) (ok : Ok) (w0 : World) (z0 : Value) (u0 : ((ksl k_api_Held).V p1).holds ok w0 z0) :
    Gives Try.prog 63 [z0] ok w0 (resFact [kbool.V r]) := by
  unfold cabalref19_Right at h0
  refine enter (N := 31) Try.func63 rfl rfl (of_decide_eq_true rfl) (.cons u0 .nil) fun a1 s1 => ?_
  refine wp_seq_k fun K1 hK1 => ?_
  refine wp_region_lit ?_
  refine seq_op s1 rfl rfl (of_decide_eq_true rfl) (ob_assign rfl opd_bool) fun a2 w2 s2 => ?_; clear s1
  refine wpList_nil ?_
  refine then_normal ?_
  refine hK1 _ _ ?_
  have s3 := s2.sub (.cons (t := 0) rfl .nil); clear s2
  refine wp_seq_k fun K2 hK2 => ?_
  refine wp_seq_k fun K3 hK3 => ?_
  refine wp_region_lit ?_
  refine seq_op s3 rfl rfl (of_decide_eq_true rfl) (ob_assign rfl (opd_int rfl)) fun a4 w4 s4 => ?_; clear s3
  refine wpList_nil ?_
  refine then_normal ?_
  refine hK3 _ _ ?_
  have s5 := s4.sub (.cons (t := 0) rfl (.cons (t := 3) rfl .nil)); clear s4
  have hj1 : ∀ (a : Act) (w : World), (cabalref19_Right.j1 k p1) = some r → St ⟨31, w0, ok, []⟩ [] [(0, ((ksl k_api_Held).V p1))] a w → K2 a w := by
    intro a6 w6 h1 s6
    unfold cabalref19_Right.j1 at h1
    refine hK2 _ _ ?_
    refine wp_seq_k fun K4 hK4 => ?_
    refine wp_region_lit ?_
    refine seq_op s6 rfl rfl (of_decide_eq_true rfl) (ob_move rfl (.tmp rfl)) fun a7 w7 s7 => ?_; clear s6
    refine seq_op s7 rfl rfl (of_decide_eq_true rfl) (ob_lens rfl Try.underlying85 (.tmp rfl)) fun a8 w8 s8 => ?_; clear s7
    refine seq_op s8 rfl rfl (of_decide_eq_true rfl) (ob_leq rfl (.tmp rfl) (opd_int rfl)) fun a9 w9 s9 => ?_; clear s8
    refine seq_op s9 rfl rfl (of_decide_eq_true rfl) (ob_assign rfl (.tmp rfl)) fun a10 w10 s10 => ?_; clear s9
    refine wpList_nil ?_
    refine then_normal ?_
    refine hK4 _ _ ?_
    have s11 := s10.sub (.cons (t := 2) rfl .nil); clear s10
    refine wp_ret ?_
    obtain rfl := Option.some.inj h1
    exact leave s11 (.inl rfl) rfl (.cons (.tmp rfl) .nil)
  refine wp_block ?_
  refine wp_loop_fuel (fun m (q : Int) => cabalref19_Right.l1 k p1 m q) r (fun _ => rfl) (fun q a w => St ⟨31, w0, ok, []⟩ [] [(0, ((ksl k_api_Held).V p1)), (3, ((kint .i64).V q))] a w) ?_ k (0 : Int) _ _ h0 (s5.sub (.cons rfl (.cons rfl .nil)))
  rintro n1 y1 a12 w12 h2 s12 K5 hK5
  replace h2 : cabalref19_Right.l1 k p1 (n1 + 1) y1 = some r := h2; rw [cabalref19_Right.l1] at h2
  have h3 := h2; clear h2
  refine wp_seq_k fun K6 hK6 => ?_
  refine wp_seq_k fun K7 hK7 => ?_
  refine wp_region_lit ?_
  refine seq_op s12 rfl rfl (of_decide_eq_true rfl) (ob_move rfl (.tmp rfl)) fun a13 w13 s13 => ?_; clear s12
  refine seq_op s13 rfl rfl (of_decide_eq_true rfl) (ob_move rfl (.tmp rfl)) fun a14 w14 s14 => ?_; clear s13
  refine seq_op s14 rfl rfl (of_decide_eq_true rfl) (ob_lens rfl Try.underlying85 (.tmp rfl)) fun a15 w15 s15 => ?_; clear s14
  refine seq_op s15 rfl rfl (of_decide_eq_true rfl) (ob_lss rfl (.tmp rfl) (.tmp rfl)) fun a16 w16 s16 => ?_; clear s15
  refine wpList_nil ?_
  refine then_normal ?_
  refine hK7 _ _ ?_
  have s17 := s16.sub (.cons (t := 0) rfl (.cons (t := 3) rfl (.cons (t := 7) rfl .nil))); clear s16
  refine cond_split s17 (.tmp rfl) (fun hc1 => ?_) (fun hc1 => ?_)
  · replace h3 := ite_t hc1 h3
    have h4 := h3; clear h3
    refine wp_skip ?_
    refine then_normal ?_
    refine hK6 _ _ ?_
    have s18 := s17.sub (.cons (t := 0) rfl (.cons (t := 3) rfl .nil)); clear s17
    refine wp_seq_k fun K8 hK8 => ?_
    refine wp_block ?_
    refine wp_seq_k fun K9 hK9 => ?_
    refine wp_region_lit ?_
    refine seq_op s18 rfl rfl (of_decide_eq_true rfl) (ob_move rfl (.tmp rfl)) fun a19 w19 s19 => ?_; clear s18
    refine seq_op s19 rfl rfl (of_decide_eq_true rfl) (ob_move rfl (.tmp rfl)) fun a20 w20 s20 => ?_; clear s19
    obtain ⟨x1, e_x1, h5⟩ := bind_some h4; clear h4
    refine seq_op s20 rfl rfl (of_decide_eq_true rfl) (ob_indexAddrs rfl Try.underlying85 sz91 (.tmp rfl) (.tmp rfl) e_x1) fun a21 w21 s21 => ?_; clear s20
    refine seq_op s21 rfl rfl (of_decide_eq_true rfl) (ob_fieldAddrr rfl Try.underlying91 rfl sz44 (by decide) (.tmp rfl) (lg_api_Held_Op x1)) fun a22 w22 s22 => ?_; clear s21
    refine seq_op s22 rfl rfl (of_decide_eq_true rfl) (ob_loadr rfl tk44 (.tmp rfl)) fun a23 w23 s23 => ?_; clear s22
    obtain ⟨x2, e_x2, h6⟩ := bind_some h5; clear h5
    refine seq_op s23 rfl rfl (of_decide_eq_true rfl) (ob_callD (args := [_]) rfl .direct hb85 (fun a w s fs gs hf hg => by obtain rfl := hf.unnil; obtain rfl := hg.unnil; exact c_cabalref11_Right k _ _ e_x2 _ _ _ (s.arg (.tmp rfl)))) fun a24 w24 s24 => ?_; clear s23
    refine seq_op s24 rfl rfl (of_decide_eq_true rfl) (ob_not rfl (.tmp rfl)) fun a25 w25 s25 => ?_; clear s24
    refine seq_op s25 rfl rfl (of_decide_eq_true rfl) (ob_move rfl (.tmp rfl)) fun a26 w26 s26 => ?_; clear s25
    refine seq_opg s26 rfl rfl rfl rfl (of_decide_eq_true rfl) (fun hb => ob_move rfl (.tmp rfl)) fun a27 w27 s27 => ?_; clear s26
    refine seq_opg s27 rfl rfl rfl rfl (of_decide_eq_true rfl) (fun hb => ob_move rfl (.tmp rfl)) fun a28 w28 s28 => ?_; clear s27
    refine seq_opg s28 rfl rfl rfl rfl (of_decide_eq_true rfl) (fun hb => ob_move rfl (.tmp rfl)) fun a29 w29 s29 => ?_; clear s28
    obtain ⟨x3, e_x3, h7⟩ := bind_some h6; clear h6
    refine seq_opg s29 rfl rfl rfl rfl (of_decide_eq_true rfl) (fun hb => (Ob.uncond (t := 20) hb rfl ((Ob.uncond (t := 19) hb rfl (ob_indexAddrs rfl Try.underlying85 sz91 (.tmp rfl) (.tmp rfl) (ite_t hb e_x3)))))) fun a30 w30 s30 => ?_; clear s29
    refine seq_opg s30 rfl rfl rfl rfl (of_decide_eq_true rfl) (fun hb => (Ob.uncond (t := 21) hb rfl (ob_fieldAddrr rfl Try.underlying91 rfl sz39 (by decide) (.tmp rfl) (lg_api_Held_Id x3)))) fun a31 w31 s31 => ?_; clear s30
    refine seq_opg s31 rfl rfl rfl rfl (of_decide_eq_true rfl) (fun hb => (Ob.uncond (t := 22) hb rfl (ob_loadr rfl tk39 (.tmp rfl)))) fun a32 w32 s32 => ?_; clear s31
    obtain ⟨x4, e_x4, h8⟩ := bind_some h7; clear h7
    refine seq_opg s32 rfl rfl rfl rfl (of_decide_eq_true rfl) (fun hb => (Ob.uncond (t := 23) hb rfl ((Ob.uncond (t := 18) hb rfl (ob_callD (args := [_, _]) rfl .direct hb73 (fun a w s fs gs hf hg => by obtain rfl := hf.unnil; obtain rfl := hg.unnil; exact c_cabalref19_Find k _ _ _ (ite_t hb e_x4) _ _ _ _ (s.arg (.tmp rfl)) (s.arg (.tmp rfl)))))))) fun a33 w33 s33 => ?_; clear s32
    refine seq_opg s33 rfl rfl rfl rfl (of_decide_eq_true rfl) (fun hb => ob_move rfl (.tmp rfl)) fun a34 w34 s34 => ?_; clear s33
    refine seq_opg s34 rfl rfl rfl rfl (of_decide_eq_true rfl) (fun hb => (Ob.uncond (t := 25) hb rfl ((Ob.uncond (t := 24) hb rfl (ob_neq rfl (.tmp rfl) (.tmp rfl)))))) fun a35 w35 s35 => ?_; clear s34
    refine seq_op s35 rfl rfl (of_decide_eq_true rfl) (ob_or2 rfl (.tmp rfl) opd_bool (.tmp rfl)) fun a36 w36 s36 => ?_; clear s35
    refine wpList_nil ?_
    refine then_normal ?_
    refine hK9 _ _ ?_
    have s37 := s36.sub (.cons (t := 0) rfl (.cons (t := 3) rfl (.cons (t := 27) rfl .nil))); clear s36
    refine cond_split s37 (.tmp rfl) (fun hc2 => ?_) (fun hc2 => ?_)
    · replace h8 := ite_t hc2 h8
      have h9 := h8; clear h8
      refine wp_seq_k fun K10 hK10 => ?_
      refine wp_region_lit ?_
      refine seq_op s37 rfl rfl (of_decide_eq_true rfl) (ob_assign rfl opd_bool) fun a38 w38 s38 => ?_; clear s37
      refine wpList_nil ?_
      refine then_normal ?_
      refine hK10 _ _ ?_
      have s39 := s38.sub (.cons (t := 2) rfl .nil); clear s38
      refine wp_ret ?_
      obtain rfl := Option.some.inj h9
      exact leave s39 (.inl rfl) rfl (.cons (.tmp rfl) .nil)
    · replace h8 := ite_f hc2 h8
      have h10 := h8; clear h8
      refine wp_skip ?_
      refine in_normal ?_
      refine then_normal ?_
      refine hK8 _ _ ?_
      have s40 := s37.sub (.cons (t := 0) rfl (.cons (t := 3) rfl .nil)); clear s37
      refine wp_region_lit ?_
      refine seq_op s40 rfl rfl (of_decide_eq_true rfl) (ob_move rfl (.tmp rfl)) fun a41 w41 s41 => ?_; clear s40
      refine seq_op s41 rfl rfl (of_decide_eq_true rfl) (ob_add rfl (.tmp rfl) (opd_int rfl)) fun a42 w42 s42 => ?_; clear s41
      refine seq_op s42 rfl rfl (of_decide_eq_true rfl) (ob_assign rfl (.tmp rfl)) fun a43 w43 s43 => ?_; clear s42
      refine wpList_nil ?_
      refine then_normal ?_
      exact hK5 (iadd .i64 y1 (1 : Int)) _ _ h10 (s43.sub (.cons rfl (.cons rfl .nil)))
  · replace h3 := ite_f hc1 h3
    have h11 := h3; clear h3
    refine wp_exit ?_
    refine (then_exit (then_exit (in_here ?_)))
    refine then_normal ?_
    exact hj1 _ _ h11 (s17.sub (.cons rfl .nil))

/- 67 cabal/cabalref19.Put -/
theorem c_cabalref19_Put (k : Nat) (p1 : (List api_Held)) (p2 : api_Held) (r : ((List api_Held) × Int)) (h0 : cabalref19_Put k p1 p2 = some r) (ok : Ok) (w0 : World) (z0 : Value) (z1 : Value) (u0 : ((ksl k_api_Held).V p1).holds ok w0 z0) (u1 : (k_api_Held.V p2).holds ok w0 z1) :
    GivesX Try.prog 67 [z0, z1] ok w0 [] (fun g : Value => resFact [is g, (kint .i64).V r.2]) (fun g : Value => [RowF (g) 91 k_api_Held r.1]) := by
  unfold cabalref19_Put at h0
  refine enterX (N := 31) Try.func67 rfl rfl (of_decide_eq_true rfl) (.cons u0 (.cons u1 .nil)) List.nodup_nil (fun _ h => by cases h) (fun _ h => by cases h) fun a1 s1 => ?_
  refine wp_seq_k fun K1 hK1 => ?_
  refine wp_region_lit ?_
  refine seq_opx (B' := (fun b1 : Nat => [BF b1 91 k_api_Held p2])) s1 rfl rfl (of_decide_eq_true rfl) (ob_box rfl (.tmp rfl)) fun b1 a2 w2 s2 => ?_; clear s1
  refine seq_op s2 rfl rfl (of_decide_eq_true rfl) (ob_assign rfl opd_is) fun a3 w3 s3 => ?_; clear s2
  have s4 := St.adopt s3 (G := RowF (nilRow 24) 91 k_api_Held []) rfl (rowNilN _ _ _ _ _); clear s3
  refine seq_op s4 rfl rfl (of_decide_eq_true rfl) (ob_assign rfl (opd_int rfl)) fun a5 w5 s5 => ?_; clear s4
  refine wpList_nil ?_
  refine then_normal ?_
  refine hK1 _ _ ?_
  have s6 := s5.sub (.cons (t := 0) rfl (.cons (t := 3) rfl .nil)); clear s5
  have s7 := St.drop (A := []) s6; clear s6
  refine wp_seq_k fun K2 hK2 => ?_
  refine wp_seq_k fun K3 hK3 => ?_
  refine wp_region_lit ?_
  refine seq_op s7 rfl rfl (of_decide_eq_true rfl) (ob_move rfl (.tmp rfl)) fun a8 w8 s8 => ?_; clear s7
  obtain ⟨x1, e_x1, h1⟩ := bind_some h0; clear h0
  refine seq_op s8 rfl rfl (of_decide_eq_true rfl) (ob_callD (args := [_]) rfl .direct hb63 (fun a w s fs gs hf hg => by obtain rfl := hf.unnil; obtain rfl := hg.unnil; exact c_cabalref19_Right k _ _ e_x1 _ _ _ (s.arg (.tmp rfl)))) fun a9 w9 s9 => ?_; clear s8
  refine seq_op s9 rfl rfl (of_decide_eq_true rfl) (ob_not rfl (.tmp rfl)) fun a10 w10 s10 => ?_; clear s9
  refine seq_op s10 rfl rfl (of_decide_eq_true rfl) (ob_move rfl (.tmp rfl)) fun a11 w11 s11 => ?_; clear s10
  refine seq_opg s11 rfl rfl rfl rfl (of_decide_eq_true rfl) (fun hb => ob_fieldAddr (off' := 32) rfl Try.underlying91 rfl sz44 (by decide) (.tmp rfl) rfl) fun a12 w12 s12 => ?_; clear s11
  refine seq_opg s12 rfl rfl rfl rfl (of_decide_eq_true rfl) (fun hb => (Ob.uncond (t := 11) hb rfl (ob_load rfl tk44 (.tmp rfl) (.head _) (lg_api_Held_Op p2)))) fun a13 w13 s13 => ?_; clear s12
  obtain ⟨x2, e_x2, h2⟩ := bind_some h1; clear h1
  refine seq_opg s13 rfl rfl rfl rfl (of_decide_eq_true rfl) (fun hb => (Ob.uncond (t := 12) hb rfl (ob_callD (args := [_]) rfl .direct hb85 (fun a w s fs gs hf hg => by obtain rfl := hf.unnil; obtain rfl := hg.unnil; exact c_cabalref11_Right k _ _ (ite_t hb e_x2) _ _ _ (s.arg (.tmp rfl)))))) fun a14 w14 s14 => ?_; clear s13
  refine seq_opg s14 rfl rfl rfl rfl (of_decide_eq_true rfl) (fun hb => (Ob.uncond (t := 13) hb rfl (ob_not rfl (.tmp rfl)))) fun a15 w15 s15 => ?_; clear s14
  refine seq_op s15 rfl rfl (of_decide_eq_true rfl) (ob_or2 rfl (.tmp rfl) opd_bool (.tmp rfl)) fun a16 w16 s16 => ?_; clear s15
  refine wpList_nil ?_
  refine then_normal ?_
  refine hK3 _ _ ?_
  have s17 := s16.sub (.cons (t := 0) rfl (.cons (t := 3) rfl (.cons (t := 15) rfl .nil))); clear s16
  refine cond_split s17 (.tmp rfl) (fun hc1 => ?_) (fun hc1 => ?_)
  · replace h2 := ite_t hc1 h2
    have h3 := h2; clear h2
    refine wp_seq_k fun K4 hK4 => ?_
    refine wp_region_lit ?_
    refine seq_op s17 rfl rfl (of_decide_eq_true rfl) (ob_assign rfl opd_is) fun a18 w18 s18 => ?_; clear s17
    have s19 := St.adopt s18 (G := RowF (nilRow 25) 91 k_api_Held []) rfl (rowNilN _ _ _ _ _); clear s18
    refine seq_op s19 rfl rfl (of_decide_eq_true rfl) (ob_assign rfl (opd_int rfl)) fun a20 w20 s20 => ?_; clear s19
    refine wpList_nil ?_
    refine then_normal ?_
    refine hK4 _ _ ?_
    have s21 := s20.sub (.cons (t := 4) rfl (.cons (t := 5) rfl .nil)); clear s20
    have s22 := St.drop (A := [_]) s21; clear s21
    refine wp_ret ?_
    obtain rfl := Option.some.inj h3
    exact leaveXD (D := []) (nilRow 25) s22 rfl (.inl rfl) rfl (.cons (.tmp rfl) (.cons (.tmp rfl) .nil)) rfl
  · replace h2 := ite_f hc1 h2
    have h4 := h2; clear h2
    refine wp_skip ?_
    refine then_normal ?_
    refine hK2 _ _ ?_
    have s23 := s17.sub (.cons (t := 0) rfl (.cons (t := 3) rfl .nil)); clear s17
    refine wp_seq_k fun K5 hK5 => ?_
    refine wp_seq_k fun K6 hK6 => ?_
    refine wp_region_lit ?_
    refine seq_op s23 rfl rfl (of_decide_eq_true rfl) (ob_move rfl (.tmp rfl)) fun a24 w24 s24 => ?_; clear s23
    refine seq_op s24 rfl rfl (of_decide_eq_true rfl) (ob_fieldAddr (off' := 0) rfl Try.underlying91 rfl sz39 (by decide) (.tmp rfl) rfl) fun a25 w25 s25 => ?_; clear s24
    refine seq_op s25 rfl rfl (of_decide_eq_true rfl) (ob_load rfl tk39 (.tmp rfl) (.head _) (lg_api_Held_Id p2)) fun a26 w26 s26 => ?_; clear s25
    obtain ⟨x3, e_x3, h5⟩ := bind_some h4; clear h4
    refine seq_op s26 rfl rfl (of_decide_eq_true rfl) (ob_callD (args := [_, _]) rfl .direct hb73 (fun a w s fs gs hf hg => by obtain rfl := hf.unnil; obtain rfl := hg.unnil; exact c_cabalref19_Find k _ _ _ e_x3 _ _ _ _ (s.arg (.tmp rfl)) (s.arg (.tmp rfl)))) fun a27 w27 s27 => ?_; clear s26
    refine seq_op s27 rfl rfl (of_decide_eq_true rfl) (ob_geq rfl (.tmp rfl) (opd_int rfl)) fun a28 w28 s28 => ?_; clear s27
    refine wpList_nil ?_
    refine then_normal ?_
    refine hK6 _ _ ?_
    have s29 := s28.sub (.cons (t := 0) rfl (.cons (t := 3) rfl (.cons (t := 20) rfl .nil))); clear s28
    refine cond_split s29 (.tmp rfl) (fun hc2 => ?_) (fun hc2 => ?_)
    · replace h5 := ite_t hc2 h5
      have h6 := h5; clear h5
      refine wp_seq_k fun K7 hK7 => ?_
      refine wp_region_lit ?_
      refine seq_op s29 rfl rfl (of_decide_eq_true rfl) (ob_assign rfl opd_is) fun a30 w30 s30 => ?_; clear s29
      have s31 := St.adopt s30 (G := RowF (nilRow 26) 91 k_api_Held []) rfl (rowNilN _ _ _ _ _); clear s30
      refine seq_op s31 rfl rfl (of_decide_eq_true rfl) (ob_assign rfl (opd_int rfl)) fun a32 w32 s32 => ?_; clear s31
      refine wpList_nil ?_
      refine then_normal ?_
      refine hK7 _ _ ?_
      have s33 := s32.sub (.cons (t := 4) rfl (.cons (t := 5) rfl .nil)); clear s32
      have s34 := St.drop (A := [_]) s33; clear s33
      refine wp_ret ?_
      obtain rfl := Option.some.inj h6
      exact leaveXD (D := []) (nilRow 26) s34 rfl (.inl rfl) rfl (.cons (.tmp rfl) (.cons (.tmp rfl) .nil)) rfl
    · replace h5 := ite_f hc2 h5
      have h7 := h5; clear h5
      refine wp_skip ?_
      refine then_normal ?_
      refine hK5 _ _ ?_
      have s35 := s29.sub (.cons (t := 0) rfl (.cons (t := 3) rfl .nil)); clear s29
      refine wp_seq_k fun K8 hK8 => ?_
      refine wp_seq_k fun K9 hK9 => ?_
      refine wp_region_lit ?_
      refine seq_op s35 rfl rfl (of_decide_eq_true rfl) (ob_move rfl (.tmp rfl)) fun a36 w36 s36 => ?_; clear s35
      refine seq_op s36 rfl rfl (of_decide_eq_true rfl) (ob_lens rfl Try.underlying85 (.tmp rfl)) fun a37 w37 s37 => ?_; clear s36
      refine seq_op s37 rfl rfl (of_decide_eq_true rfl) (ob_eql rfl (.tmp rfl) (opd_int rfl)) fun a38 w38 s38 => ?_; clear s37
      refine wpList_nil ?_
      refine then_normal ?_
      refine hK9 _ _ ?_
      have s39 := s38.sub (.cons (t := 0) rfl (.cons (t := 3) rfl (.cons (t := 23) rfl .nil))); clear s38
      refine cond_split s39 (.tmp rfl) (fun hc3 => ?_) (fun hc3 => ?_)
      · replace h7 := ite_t hc3 h7
        have h8 := h7; clear h7
        refine wp_seq_k fun K10 hK10 => ?_
        refine wp_region_lit ?_
        refine seq_op s39 rfl rfl (of_decide_eq_true rfl) (ob_assign rfl opd_is) fun a40 w40 s40 => ?_; clear s39
        have s41 := St.adopt s40 (G := RowF (nilRow 27) 91 k_api_Held []) rfl (rowNilN _ _ _ _ _); clear s40
        refine seq_op s41 rfl rfl (of_decide_eq_true rfl) (ob_assign rfl (opd_int rfl)) fun a42 w42 s42 => ?_; clear s41
        refine wpList_nil ?_
        refine then_normal ?_
        refine hK10 _ _ ?_
        have s43 := s42.sub (.cons (t := 4) rfl (.cons (t := 5) rfl .nil)); clear s42
        have s44 := St.drop (A := [_]) s43; clear s43
        refine wp_ret ?_
        obtain rfl := Option.some.inj h8
        exact leaveXD (D := []) (nilRow 27) s44 rfl (.inl rfl) rfl (.cons (.tmp rfl) (.cons (.tmp rfl) .nil)) rfl
      · replace h7 := ite_f hc3 h7
        have h9 := h7; clear h7
        refine wp_skip ?_
        refine then_normal ?_
        refine hK8 _ _ ?_
        have s45 := s39.sub (.cons (t := 0) rfl (.cons (t := 3) rfl .nil)); clear s39
        refine wp_seq_k fun K11 hK11 => ?_
        refine wp_region_lit ?_
        refine seq_op s45 rfl rfl (of_decide_eq_true rfl) (ob_assign rfl opd_is) fun a46 w46 s46 => ?_; clear s45
        have s47 := St.adopt s46 (G := RowF (nilRow 28) 91 k_api_Held []) rfl (rowNilN _ _ _ _ _); clear s46
        refine wpList_nil ?_
        refine then_normal ?_
        refine hK11 _ _ ?_
        have s48 := s47.sub (.cons (t := 0) rfl (.cons (t := 3) rfl (.cons (t := 6) rfl .nil))); clear s47
        refine wp_seq_k fun K12 hK12 => ?_
        refine wp_region_lit ?_
        refine seq_op s48 rfl rfl (of_decide_eq_true rfl) (ob_move rfl (.tmp rfl)) fun a49 w49 s49 => ?_; clear s48
        refine seq_op s49 rfl rfl (of_decide_eq_true rfl) (ob_move rfl (.tmp rfl)) fun a50 w50 s50 => ?_; clear s49
        obtain ⟨g1, h10⟩ := guard_some h9; clear h9
        refine seq_opx (B' := (fun v1 : Value => [RowF v1 91 k_api_Held (([] : (List api_Held)) ++ p1), BF b1 91 k_api_Held p2])) s50 rfl rfl (of_decide_eq_true rfl) (ob_appendL2 (A := []) rfl Try.underlying85 ap91 (Zr.iso (f := t_api_Held) (x := (⟨(List.replicate 32 (0 : Int)), (⟨(0 : Int), (0 : Int), [], (0 : Int), [], (List.replicate 32 (0 : Int)), (List.replicate 32 (0 : Int)), [], []⟩ : api_Op), []⟩ : api_Held)) (Zr.pair (Zr.arr 32 (Zr.int .u8)) (Zr.pair (Zr.iso (f := t_api_Op) (x := (⟨(0 : Int), (0 : Int), [], (0 : Int), [], (List.replicate 32 (0 : Int)), (List.replicate 32 (0 : Int)), [], []⟩ : api_Op)) (Zr.pair (Zr.int .i64) (Zr.pair (Zr.int .u32) (Zr.pair (Zr.sl _) (Zr.pair (Zr.int .i64) (Zr.pair (Zr.sl _) (Zr.pair (Zr.arr 32 (Zr.int .u8)) (Zr.pair (Zr.arr 32 (Zr.int .u8)) (Zr.pair Zr.str (Zr.pair (Zr.sl _) Zr.nil)))))))))) (Zr.pair (Zr.sl _) Zr.nil)))) (by decide) (.tmp rfl) (.tmp rfl) rfl g1) fun v1 a51 w51 s51 => ?_; clear s50
        refine seq_op s51 rfl rfl (of_decide_eq_true rfl) (ob_assign rfl (.tmp rfl)) fun a52 w52 s52 => ?_; clear s51
        refine wpList_nil ?_
        refine then_normal ?_
        refine hK12 _ _ ?_
        have s53 := s52.sub (.cons (t := 3) rfl (.cons (t := 6) rfl .nil)); clear s52
        refine wp_seq_k fun K13 hK13 => ?_
        refine wp_region_lit ?_
        refine seq_op s53 rfl rfl (of_decide_eq_true rfl) (ob_move rfl (.tmp rfl)) fun a54 w54 s54 => ?_; clear s53
        refine seq_op s54 rfl rfl (of_decide_eq_true rfl) (ob_load rfl tk91 (.tmp rfl) (.tail _ (.head _)) (LG.refl _ _)) fun a55 w55 s55 => ?_; clear s54
        refine seq_op s55 rfl rfl (of_decide_eq_true rfl) (ob_mkSlice (k := k_api_Held) (xs := ([p2] : (List api_Held))) rfl Try.underlying85 zz91 sz91 (Zr.iso (f := t_api_Held) (x := (⟨(List.replicate 32 (0 : Int)), (⟨(0 : Int), (0 : Int), [], (0 : Int), [], (List.replicate 32 (0 : Int)), (List.replicate 32 (0 : Int)), [], []⟩ : api_Op), []⟩ : api_Held)) (Zr.pair (Zr.arr 32 (Zr.int .u8)) (Zr.pair (Zr.iso (f := t_api_Op) (x := (⟨(0 : Int), (0 : Int), [], (0 : Int), [], (List.replicate 32 (0 : Int)), (List.replicate 32 (0 : Int)), [], []⟩ : api_Op)) (Zr.pair (Zr.int .i64) (Zr.pair (Zr.int .u32) (Zr.pair (Zr.sl _) (Zr.pair (Zr.int .i64) (Zr.pair (Zr.sl _) (Zr.pair (Zr.arr 32 (Zr.int .u8)) (Zr.pair (Zr.arr 32 (Zr.int .u8)) (Zr.pair Zr.str (Zr.pair (Zr.sl _) Zr.nil)))))))))) (Zr.pair (Zr.sl _) Zr.nil)))) (by decide) (by decide) (.cons (.tmp rfl) rfl (LS.arr' (i := 0) (ys := ([p2] : (List api_Held))) (by simp) (by rfl)) (.nil _))) fun a56 w56 s56 => ?_; clear s55
        obtain ⟨g2, h11⟩ := guard_some h10; clear h10
        refine seq_opx (B' := (fun v2 : Value => [RowF v2 91 k_api_Held ((([] : (List api_Held)) ++ p1) ++ ([p2] : (List api_Held))), BF b1 91 k_api_Held p2])) s56 rfl rfl (of_decide_eq_true rfl) (ob_appendL2 (A := []) rfl Try.underlying85 ap91 (Zr.iso (f := t_api_Held) (x := (⟨(List.replicate 32 (0 : Int)), (⟨(0 : Int), (0 : Int), [], (0 : Int), [], (List.replicate 32 (0 : Int)), (List.replicate 32 (0 : Int)), [], []⟩ : api_Op), []⟩ : api_Held)) (Zr.pair (Zr.arr 32 (Zr.int .u8)) (Zr.pair (Zr.iso (f := t_api_Op) (x := (⟨(0 : Int), (0 : Int), [], (0 : Int), [], (List.replicate 32 (0 : Int)), (List.replicate 32 (0 : Int)), [], []⟩ : api_Op)) (Zr.pair (Zr.int .i64) (Zr.pair (Zr.int .u32) (Zr.pair (Zr.sl _) (Zr.pair (Zr.int .i64) (Zr.pair (Zr.sl _) (Zr.pair (Zr.arr 32 (Zr.int .u8)) (Zr.pair (Zr.arr 32 (Zr.int .u8)) (Zr.pair Zr.str (Zr.pair (Zr.sl _) Zr.nil)))))))))) (Zr.pair (Zr.sl _) Zr.nil)))) (by decide) (.tmp rfl) (.tmp rfl) rfl g2) fun v2 a57 w57 s57 => ?_; clear s56
        refine seq_op s57 rfl rfl (of_decide_eq_true rfl) (ob_assign rfl (.tmp rfl)) fun a58 w58 s58 => ?_; clear s57
        refine seq_op s58 rfl rfl (of_decide_eq_true rfl) (ob_assign rfl (opd_int rfl)) fun a59 w59 s59 => ?_; clear s58
        refine wpList_nil ?_
        refine then_normal ?_
        refine hK13 _ _ ?_
        have s60 := s59.sub (.cons (t := 4) rfl (.cons (t := 5) rfl .nil)); clear s59
        have s61 := St.drop (A := [_]) s60; clear s60
        refine wp_ret ?_
        obtain rfl := Option.some.inj h11
        exact leaveXD (D := []) v2 s61 rfl (.inl rfl) rfl (.cons (.tmp rfl) (.cons (.tmp rfl) .nil)) rfl

/- 70 cabal/cabalref19.Without -/
theorem c_cabalref19_Without (k : Nat) (p1 : (List api_Held)) (p2 : Int) (r : ((List api_Held) × Int)) (h0 : cabalref19_Without k p1 p2 = some r) (ok : Ok) (w0 : World) (z0 : Value) (z1 : Value) (u0 : ((ksl k_api_Held).V p1).holds ok w0 z0) (u1 : ((kint .i64).V p2).holds ok w0 z1) :
    GivesX Try.prog 70 [z0, z1] ok w0 [] (fun g : Value => resFact [is g, (kint .i64).V r.2]) (fun g : Value => [RowF (g) 91 k_api_Held r.1]) := by
  unfold cabalref19_Without at h0
  refine enterX (N := 29) Try.func70 rfl rfl (of_decide_eq_true rfl) (.cons u0 (.cons u1 .nil)) List.nodup_nil (fun _ h => by cases h) (fun _ h => by cases h) fun a1 s1 => ?_
  refine wp_seq_k fun K1 hK1 => ?_
  refine wp_region_lit ?_
  refine seq_op s1 rfl rfl (of_decide_eq_true rfl) (ob_assign rfl opd_is) fun a2 w2 s2 => ?_; clear s1
  have s3 := St.adopt s2 (G := RowF (nilRow 29) 91 k_api_Held []) rfl (rowNilN _ _ _ _ _); clear s2
  refine seq_op s3 rfl rfl (of_decide_eq_true rfl) (ob_assign rfl (opd_int rfl)) fun a4 w4 s4 => ?_; clear s3
  refine wpList_nil ?_
  refine then_normal ?_
  refine hK1 _ _ ?_
  have s5 := s4.sub (.cons (t := 0) rfl (.cons (t := 1) rfl .nil)); clear s4
  have s6 := St.drop (A := []) s5; clear s5
  refine wp_seq_k fun K2 hK2 => ?_
  refine wp_seq_k fun K3 hK3 => ?_
  refine wp_region_lit ?_
  refine seq_op s6 rfl rfl (of_decide_eq_true rfl) (ob_move rfl (.tmp rfl)) fun a7 w7 s7 => ?_; clear s6
  obtain ⟨x1, e_x1, h1⟩ := bind_some h0; clear h0
  refine seq_op s7 rfl rfl (of_decide_eq_true rfl) (ob_callD (args := [_]) rfl .direct hb63 (fun a w s fs gs hf hg => by obtain rfl := hf.unnil; obtain rfl := hg.unnil; exact c_cabalref19_Right k _ _ e_x1 _ _ _ (s.arg (.tmp rfl)))) fun a8 w8 s8 => ?_; clear s7
  refine seq_op s8 rfl rfl (of_decide_eq_true rfl) (ob_not rfl (.tmp rfl)) fun a9 w9 s9 => ?_; clear s8
  refine wpList_nil ?_
  refine then_normal ?_
  refine hK3 _ _ ?_
  have s10 := s9.sub (.cons (t := 0) rfl (.cons (t := 1) rfl (.cons (t := 9) rfl .nil))); clear s9
  refine cond_split s10 (.tmp rfl) (fun hc1 => ?_) (fun hc1 => ?_)
  · replace h1 := ite_t hc1 h1
    have h2 := h1; clear h1
    refine wp_seq_k fun K4 hK4 => ?_
    refine wp_region_lit ?_
    refine seq_op s10 rfl rfl (of_decide_eq_true rfl) (ob_assign rfl opd_is) fun a11 w11 s11 => ?_; clear s10
    have s12 := St.adopt s11 (G := RowF (nilRow 30) 91 k_api_Held []) rfl (rowNilN _ _ _ _ _); clear s11
    refine seq_op s12 rfl rfl (of_decide_eq_true rfl) (ob_assign rfl (opd_int rfl)) fun a13 w13 s13 => ?_; clear s12
    refine wpList_nil ?_
    refine then_normal ?_
    refine hK4 _ _ ?_
    have s14 := s13.sub (.cons (t := 4) rfl (.cons (t := 5) rfl .nil)); clear s13
    refine wp_ret ?_
    obtain rfl := Option.some.inj h2
    exact leaveXD (D := []) (nilRow 30) s14 rfl (.inl rfl) rfl (.cons (.tmp rfl) (.cons (.tmp rfl) .nil)) rfl
  · replace h1 := ite_f hc1 h1
    have h3 := h1; clear h1
    refine wp_skip ?_
    refine then_normal ?_
    refine hK2 _ _ ?_
    have s15 := s10.sub (.cons (t := 0) rfl (.cons (t := 1) rfl .nil)); clear s10
    refine wp_seq_k fun K5 hK5 => ?_
    refine wp_seq_k fun K6 hK6 => ?_
    refine wp_region_lit ?_
    refine seq_op s15 rfl rfl (of_decide_eq_true rfl) (ob_move rfl (.tmp rfl)) fun a16 w16 s16 => ?_; clear s15
    refine seq_op s16 rfl rfl (of_decide_eq_true rfl) (ob_lss rfl (.tmp rfl) (opd_int rfl)) fun a17 w17 s17 => ?_; clear s16
    refine seq_op s17 rfl rfl (of_decide_eq_true rfl) (ob_move rfl (.tmp rfl)) fun a18 w18 s18 => ?_; clear s17
    refine seq_opg s18 rfl rfl rfl rfl (of_decide_eq_true rfl) (fun hb => ob_move rfl (.tmp rfl)) fun a19 w19 s19 => ?_; clear s18
    refine seq_opg s19 rfl rfl rfl rfl (of_decide_eq_true rfl) (fun hb => ob_move rfl (.tmp rfl)) fun a20 w20 s20 => ?_; clear s19
    refine seq_opg s20 rfl rfl rfl rfl (of_decide_eq_true rfl) (fun hb => (Ob.uncond (t := 14) hb rfl (ob_lens rfl Try.underlying85 (.tmp rfl)))) fun a21 w21 s21 => ?_; clear s20
    refine seq_opg s21 rfl rfl rfl rfl (of_decide_eq_true rfl) (fun hb => (Ob.uncond (t := 15) hb rfl ((Ob.uncond (t := 13) hb rfl (ob_geq rfl (.tmp rfl) (.tmp rfl)))))) fun a22 w22 s22 => ?_; clear s21
    obtain ⟨x2, e_x2, h4⟩ := bind_some h3; clear h3; replace e_x2 := Option.some.inj e_x2
    refine seq_op s22 rfl rfl (of_decide_eq_true rfl) ((ob_or2 rfl (.tmp rfl) opd_bool (.tmp rfl)).nm e_x2) fun a23 w23 s23 => ?_; clear s22
    refine wpList_nil ?_
    refine then_normal ?_
    refine hK6 _ _ ?_
    have s24 := s23.sub (.cons (t := 0) rfl (.cons (t := 1) rfl (.cons (t := 17) rfl .nil))); clear s23
    refine cond_split s24 (.tmp rfl) (fun hc2 => ?_) (fun hc2 => ?_)
    · replace h4 := ite_t hc2 h4
      have h5 := h4; clear h4
      refine wp_seq_k fun K7 hK7 => ?_
      refine wp_region_lit ?_
      refine seq_op s24 rfl rfl (of_decide_eq_true rfl) (ob_assign rfl opd_is) fun a25 w25 s25 => ?_; clear s24
      have s26 := St.adopt s25 (G := RowF (nilRow 31) 91 k_api_Held []) rfl (rowNilN _ _ _ _ _); clear s25
      refine seq_op s26 rfl rfl (of_decide_eq_true rfl) (ob_assign rfl (opd_int rfl)) fun a27 w27 s27 => ?_; clear s26
      refine wpList_nil ?_
      refine then_normal ?_
      refine hK7 _ _ ?_
      have s28 := s27.sub (.cons (t := 4) rfl (.cons (t := 5) rfl .nil)); clear s27
      refine wp_ret ?_
      obtain rfl := Option.some.inj h5
      exact leaveXD (D := []) (nilRow 31) s28 rfl (.inl rfl) rfl (.cons (.tmp rfl) (.cons (.tmp rfl) .nil)) rfl
    · replace h4 := ite_f hc2 h4
      have h6 := h4; clear h4
      refine wp_skip ?_
      refine then_normal ?_
      refine hK5 _ _ ?_
      have s29 := s24.sub (.cons (t := 0) rfl (.cons (t := 1) rfl .nil)); clear s24
      refine wp_seq_k fun K8 hK8 => ?_
      refine wp_region_lit ?_
      refine seq_op s29 rfl rfl (of_decide_eq_true rfl) (ob_assign rfl opd_is) fun a30 w30 s30 => ?_; clear s29
      have s31 := St.adopt s30 (G := RowF (nilRow 32) 91 k_api_Held []) rfl (rowNilN _ _ _ _ _); clear s30
      refine wpList_nil ?_
      refine then_normal ?_
      refine hK8 _ _ ?_
      have s32 := s31.sub (.cons (t := 0) rfl (.cons (t := 1) rfl (.cons (t := 6) rfl .nil))); clear s31
      refine wp_seq_k fun K9 hK9 => ?_
      refine wp_region_lit ?_
      refine seq_op s32 rfl rfl (of_decide_eq_true rfl) (ob_move rfl (.tmp rfl)) fun a33 w33 s33 => ?_; clear s32
      refine seq_op s33 rfl rfl (of_decide_eq_true rfl) (ob_move rfl (.tmp rfl)) fun a34 w34 s34 => ?_; clear s33
      refine seq_op s34 rfl rfl (of_decide_eq_true rfl) (ob_move rfl (.tmp rfl)) fun a35 w35 s35 => ?_; clear s34
      obtain ⟨x3, e_x3, h7⟩ := bind_some h6; clear h6
      refine seq_op s35 rfl rfl (of_decide_eq_true rfl) (ob_cuts rfl Try.underlying85 sz91 (.tmp rfl) .none (.some (.tmp rfl)) e_x3) fun a36 w36 s36 => ?_; clear s35
      obtain ⟨g1, h8⟩ := guard_some h7; clear h7
      refine seq_opx (B' := (fun v1 : Value => [RowF v1 91 k_api_Held (([] : (List api_Held)) ++ x3)])) s36 rfl rfl (of_decide_eq_true rfl) (ob_appendL2 (A := []) rfl Try.underlying85 ap91 (Zr.iso (f := t_api_Held) (x := (⟨(List.replicate 32 (0 : Int)), (⟨(0 : Int), (0 : Int), [], (0 : Int), [], (List.replicate 32 (0 : Int)), (List.replicate 32 (0 : Int)), [], []⟩ : api_Op), []⟩ : api_Held)) (Zr.pair (Zr.arr 32 (Zr.int .u8)) (Zr.pair (Zr.iso (f := t_api_Op) (x := (⟨(0 : Int), (0 : Int), [], (0 : Int), [], (List.replicate 32 (0 : Int)), (List.replicate 32 (0 : Int)), [], []⟩ : api_Op)) (Zr.pair (Zr.int .i64) (Zr.pair (Zr.int .u32) (Zr.pair (Zr.sl _) (Zr.pair (Zr.int .i64) (Zr.pair (Zr.sl _) (Zr.pair (Zr.arr 32 (Zr.int .u8)) (Zr.pair (Zr.arr 32 (Zr.int .u8)) (Zr.pair Zr.str (Zr.pair (Zr.sl _) Zr.nil)))))))))) (Zr.pair (Zr.sl _) Zr.nil)))) (by decide) (.tmp rfl) (.tmp rfl) rfl g1) fun v1 a37 w37 s37 => ?_; clear s36
      refine seq_op s37 rfl rfl (of_decide_eq_true rfl) (ob_assign rfl (.tmp rfl)) fun a38 w38 s38 => ?_; clear s37
      refine wpList_nil ?_
      refine then_normal ?_
      refine hK9 _ _ ?_
      have s39 := s38.sub (.cons (t := 0) rfl (.cons (t := 1) rfl (.cons (t := 6) rfl .nil))); clear s38
      refine wp_seq_k fun K10 hK10 => ?_
      refine wp_region_lit ?_
      refine seq_op s39 rfl rfl (of_decide_eq_true rfl) (ob_move rfl (.tmp rfl)) fun a40 w40 s40 => ?_; clear s39
      refine seq_op s40 rfl rfl (of_decide_eq_true rfl) (ob_move rfl (.tmp rfl)) fun a41 w41 s41 => ?_; clear s40
      refine seq_op s41 rfl rfl (of_decide_eq_true rfl) (ob_move rfl (.tmp rfl)) fun a42 w42 s42 => ?_; clear s41
      refine seq_op s42 rfl rfl (of_decide_eq_true rfl) (ob_add rfl (.tmp rfl) (opd_int rfl)) fun a43 w43 s43 => ?_; clear s42
      obtain ⟨x4, e_x4, h9⟩ := bind_some h8; clear h8
      refine seq_op s43 rfl rfl (of_decide_eq_true rfl) (ob_cuts rfl Try.underlying85 sz91 (.tmp rfl) (.some (.tmp rfl)) .none e_x4) fun a44 w44 s44 => ?_; clear s43
      obtain ⟨g2, h10⟩ := guard_some h9; clear h9
      refine seq_opx (B' := (fun v2 : Value => [RowF v2 91 k_api_Held ((([] : (List api_Held)) ++ x3) ++ x4)])) s44 rfl rfl (of_decide_eq_true rfl) (ob_appendL2 (A := []) rfl Try.underlying85 ap91 (Zr.iso (f := t_api_Held) (x := (⟨(List.replicate 32 (0 : Int)), (⟨(0 : Int), (0 : Int), [], (0 : Int), [], (List.replicate 32 (0 : Int)), (List.replicate 32 (0 : Int)), [], []⟩ : api_Op), []⟩ : api_Held)) (Zr.pair (Zr.arr 32 (Zr.int .u8)) (Zr.pair (Zr.iso (f := t_api_Op) (x := (⟨(0 : Int), (0 : Int), [], (0 : Int), [], (List.replicate 32 (0 : Int)), (List.replicate 32 (0 : Int)), [], []⟩ : api_Op)) (Zr.pair (Zr.int .i64) (Zr.pair (Zr.int .u32) (Zr.pair (Zr.sl _) (Zr.pair (Zr.int .i64) (Zr.pair (Zr.sl _) (Zr.pair (Zr.arr 32 (Zr.int .u8)) (Zr.pair (Zr.arr 32 (Zr.int .u8)) (Zr.pair Zr.str (Zr.pair (Zr.sl _) Zr.nil)))))))))) (Zr.pair (Zr.sl _) Zr.nil)))) (by decide) (.tmp rfl) (.tmp rfl) rfl g2) fun v2 a45 w45 s45 => ?_; clear s44
      refine seq_op s45 rfl rfl (of_decide_eq_true rfl) (ob_assign rfl (.tmp rfl)) fun a46 w46 s46 => ?_; clear s45
      refine seq_op s46 rfl rfl (of_decide_eq_true rfl) (ob_assign rfl (opd_int rfl)) fun a47 w47 s47 => ?_; clear s46
      refine wpList_nil ?_
      refine then_normal ?_
      refine hK10 _ _ ?_
      have s48 := s47.sub (.cons (t := 4) rfl (.cons (t := 5) rfl .nil)); clear s47
      refine wp_ret ?_
      obtain rfl := Option.some.inj h10
      exact leaveXD (D := []) v2 s48 rfl (.inl rfl) rfl (.cons (.tmp rfl) (.cons (.tmp rfl) .nil)) rfl

/- 122 slices.Equal[[]cabal/api.Key,cabal/api.Key] -/
theorem c_slices_Equal_api_Key_api_Key (k : Nat) (p1 : (List (List Int))) (p2 : (List (List Int))) (r : Bool) (h0 : slices_Equal_api_Key_api_Key k p1 p2 = some r) (ok : Ok) (w0 : World) (z0 : Value) (z1 : Value) (u0 : ((ksl (karr 32 (kint .u8))).V p1).holds ok w0 z0) (u1 : ((ksl (karr 32 (kint .u8))).V p2).holds ok w0 z1) :
    Gives Try.prog 122 [z0, z1] ok w0 (resFact [kbool.V r]) := by
  unfold slices_Equal_api_Key_api_Key at h0
  refine enter (N := 26) Try.func122 rfl rfl (of_decide_eq_true rfl) (.cons u0 (.cons u1 .nil)) fun a1 s1 => ?_
  refine wp_seq_k fun K1 hK1 => ?_
  refine wp_region_lit ?_
  refine seq_op s1 rfl rfl (of_decide_eq_true rfl) (ob_assign rfl opd_bool) fun a2 w2 s2 => ?_; clear s1
  refine wpList_nil ?_
  refine then_normal ?_
  refine hK1 _ _ ?_
  have s3 := s2.sub (.cons (t := 0) rfl (.cons (t := 1) rfl .nil)); clear s2
  refine wp_seq_k fun K2 hK2 => ?_
  refine wp_seq_k fun K3 hK3 => ?_
  refine wp_region_lit ?_
  refine seq_op s3 rfl rfl (of_decide_eq_true rfl) (ob_move rfl (.tmp rfl)) fun a4 w4 s4 => ?_; clear s3
  refine seq_op s4 rfl rfl (of_decide_eq_true rfl) (ob_lens rfl Try.underlying40 (.tmp rfl)) fun a5 w5 s5 => ?_; clear s4
  refine seq_op s5 rfl rfl (of_decide_eq_true rfl) (ob_move rfl (.tmp rfl)) fun a6 w6 s6 => ?_; clear s5
  refine seq_op s6 rfl rfl (of_decide_eq_true rfl) (ob_lens rfl Try.underlying40 (.tmp rfl)) fun a7 w7 s7 => ?_; clear s6
  refine seq_op s7 rfl rfl (of_decide_eq_true rfl) (ob_neq rfl (.tmp rfl) (.tmp rfl)) fun a8 w8 s8 => ?_; clear s7
  refine wpList_nil ?_
  refine then_normal ?_
  refine hK3 _ _ ?_
  have s9 := s8.sub (.cons (t := 0) rfl (.cons (t := 1) rfl (.cons (t := 10) rfl .nil))); clear s8
  refine cond_split s9 (.tmp rfl) (fun hc1 => ?_) (fun hc1 => ?_)
  · replace h0 := ite_t hc1 h0
    have h1 := h0; clear h0
    refine wp_seq_k fun K4 hK4 => ?_
    refine wp_region_lit ?_
    refine seq_op s9 rfl rfl (of_decide_eq_true rfl) (ob_assign rfl opd_bool) fun a10 w10 s10 => ?_; clear s9
    refine wpList_nil ?_
    refine then_normal ?_
    refine hK4 _ _ ?_
    have s11 := s10.sub (.cons (t := 4) rfl .nil); clear s10
    refine wp_ret ?_
    obtain rfl := Option.some.inj h1
    exact leave s11 (.inl rfl) rfl (.cons (.tmp rfl) .nil)
  · replace h0 := ite_f hc1 h0
    have h2 := h0; clear h0
    refine wp_skip ?_
    refine then_normal ?_
    refine hK2 _ _ ?_
    have s12 := s9.sub (.cons (t := 0) rfl (.cons (t := 1) rfl .nil)); clear s9
    refine wp_seq_k fun K5 hK5 => ?_
    refine wp_seq_k fun K6 hK6 => ?_
    refine wp_region_lit ?_
    refine seq_op s12 rfl rfl (of_decide_eq_true rfl) (ob_move rfl (.tmp rfl)) fun a13 w13 s13 => ?_; clear s12
    refine seq_op s13 rfl rfl (of_decide_eq_true rfl) (ob_lens rfl Try.underlying40 (.tmp rfl)) fun a14 w14 s14 => ?_; clear s13
    refine seq_op s14 rfl rfl (of_decide_eq_true rfl) (ob_move rfl (opd_int rfl)) fun a15 w15 s15 => ?_; clear s14
    refine wpList_nil ?_
    refine then_normal ?_
    refine hK6 _ _ ?_
    have s16 := s15.sub (.cons (t := 0) rfl (.cons (t := 1) rfl (.cons (t := 12) rfl (.cons (t := 13) rfl .nil)))); clear s15
    have hj1 : ∀ (a : Act) (w : World), (slices_Equal_api_Key_api_Key.j1 k) = some r → St ⟨26, w0, ok, []⟩ [] [] a w → K5 a w := by
      intro a17 w17 h3 s17
      unfold slices_Equal_api_Key_api_Key.j1 at h3
      refine hK5 _ _ ?_
      refine wp_seq_k fun K7 hK7 => ?_
      refine wp_region_lit ?_
      refine seq_op s17 rfl rfl (of_decide_eq_true rfl) (ob_assign rfl opd_bool) fun a18 w18 s18 => ?_; clear s17
      refine wpList_nil ?_
      refine then_normal ?_
      refine hK7 _ _ ?_
      have s19 := s18.sub (.cons (t := 4) rfl .nil); clear s18
      refine wp_ret ?_
      obtain rfl := Option.some.inj h3
      exact leave s19 (.inl rfl) rfl (.cons (.tmp rfl) .nil)
    refine wp_block ?_
    refine wp_loop_fuel (fun m (q : Int) => slices_Equal_api_Key_api_Key.l1 k p1 p2 m q) r (fun _ => rfl) (fun q a w => St ⟨26, w0, ok, []⟩ [] [(0, ((ksl (karr 32 (kint .u8))).V p1)), (1, ((ksl (karr 32 (kint .u8))).V p2)), (12, ((kint .i64).V (p1.length : Int))), (13, ((kint .i64).V q))] a w) ?_ k (0 : Int) _ _ h2 (s16.sub (.cons rfl (.cons rfl (.cons rfl (.cons rfl .nil)))))
    rintro n1 y1 a20 w20 h4 s20 K8 hK8
    replace h4 : slices_Equal_api_Key_api_Key.l1 k p1 p2 (n1 + 1) y1 = some r := h4; rw [slices_Equal_api_Key_api_Key.l1] at h4
    have h5 := h4; clear h4
    refine wp_seq_k fun K9 hK9 => ?_
    refine wp_region_lit ?_
    refine seq_op s20 rfl rfl (of_decide_eq_true rfl) (ob_lss rfl (.tmp rfl) (.tmp rfl)) fun a21 w21 s21 => ?_; clear s20
    refine wpList_nil ?_
    refine then_normal ?_
    refine hK9 _ _ ?_
    have s22 := s21.sub (.cons (t := 0) rfl (.cons (t := 1) rfl (.cons (t := 12) rfl (.cons (t := 13) rfl (.cons (t := 14) rfl .nil))))); clear s21
    refine wp_seq_k fun K10 hK10 => ?_
    refine cond_split s22 (.tmp rfl) (fun hc2 => ?_) (fun hc2 => ?_)
    · replace h5 := ite_t hc2 h5
      have h6 := h5; clear h5
      refine wp_skip ?_
      refine then_normal ?_
      refine hK10 _ _ ?_
      have s23 := s22.sub (.cons (t := 0) rfl (.cons (t := 1) rfl (.cons (t := 12) rfl (.cons (t := 13) rfl .nil)))); clear s22
      refine wp_seq_k fun K11 hK11 => ?_
      refine wp_block ?_
      refine wp_seq_k fun K12 hK12 => ?_
      refine wp_region_lit ?_
      refine seq_op s23 rfl rfl (of_decide_eq_true rfl) (ob_move rfl (.tmp rfl)) fun a24 w24 s24 => ?_; clear s23
      refine seq_op s24 rfl rfl (of_decide_eq_true rfl) (ob_assign rfl (.tmp rfl)) fun a25 w25 s25 => ?_; clear s24
      refine wpList_nil ?_
      refine then_normal ?_
      refine hK12 _ _ ?_
      have s26 := s25.sub (.cons (t := 0) rfl (.cons (t := 1) rfl (.cons (t := 5) rfl (.cons (t := 12) rfl (.cons (t := 13) rfl .nil))))); clear s25
      refine wp_seq_k fun K13 hK13 => ?_
      obtain ⟨x1, e_x1, h7⟩ := bind_some h6; clear h6
      obtain ⟨x2, e_x2, h8⟩ := bind_some h7; clear h7
      refine wp_goes (Fs := [((ksl (karr 32 (kint .u8))).V p1), ((kint .i64).V y1), (ptrTo (karr 32 (kint .u8)) x1), ((karr 32 (kint .u8)).V x1), ((ksl (karr 32 (kint .u8))).V p2), ((kint .i64).V y1), (ptrTo (karr 32 (kint .u8)) x2), ((karr 32 (kint .u8)).V x2)]) (bits := [0, 0, 3, 7, 0, 0, 48, 112, 255]) (m := 8) (todo := 0) mx s26 ?_; clear s26
      refine goes_last (by kernel_rfl) rfl (opsS_cons (.plain _ (Av.old (t := 0) rfl rfl Av.nil) rfl rfl (ob_move rfl (.tmp rfl))) (opsS_cons (.plain _ (Av.old (t := 5) rfl rfl Av.nil) rfl rfl (ob_move rfl (.tmp rfl))) (opsS_cons (.plain _ (Av.new (j := 0) rfl rfl rfl (Av.new (j := 1) rfl rfl rfl Av.nil)) rfl rfl (ob_indexAddrs rfl Try.underlying40 sz39 (.tmp rfl) (.tmp rfl) e_x1)) (opsS_cons (.plain _ (Av.new (j := 2) rfl rfl rfl Av.nil) rfl rfl (ob_loadr rfl tk39 (.tmp rfl))) (opsS_cons (.plain _ (Av.old (t := 1) rfl rfl Av.nil) rfl rfl (ob_move rfl (.tmp rfl))) (opsS_cons (.plain _ (Av.old (t := 5) rfl rfl Av.nil) rfl rfl (ob_move rfl (.tmp rfl))) (opsS_cons (.plain _ (Av.new (j := 4) rfl rfl rfl (Av.new (j := 5) rfl rfl rfl Av.nil)) rfl rfl (ob_indexAddrs rfl Try.underlying40 sz39 (.tmp rfl) (.tmp rfl) e_x2)) (opsS_cons (.plain _ (Av.new (j := 6) rfl rfl rfl Av.nil) rfl rfl (ob_loadr rfl tk39 (.tmp rfl))) opsS_nil)))))))) (out_old (t := 0) rfl rfl (out_old (t := 1) rfl rfl (out_old (t := 12) rfl rfl (out_old (t := 13) rfl rfl (out_new (i := 3) (by decide) rfl rfl (out_new (i := 7) (by decide) rfl rfl out_nil)))))) fun a27 w27 s27 => ?_
      refine seq_op s27 rfl rfl (of_decide_eq_true rfl) (ob_neqAgg rfl rfl (by kernel_rfl) eq39 (by decide) (.tmp rfl) (.tmp rfl)) fun a28 w28 s28 => ?_; clear s27
      refine wpList_nil ?_
      refine then_normal ?_
      refine hK13 _ _ ?_
      have s29 := s28.sub (.cons (t := 0) rfl (.cons (t := 1) rfl (.cons (t := 12) rfl (.cons (t := 13) rfl (.cons (t := 24) rfl .nil))))); clear s28
      refine cond_split s29 (.tmp rfl) (fun hc3 => ?_) (fun hc3 => ?_)
      · replace h8 := ite_t hc3 h8
        have h9 := h8; clear h8
        refine wp_seq_k fun K14 hK14 => ?_
        refine wp_region_lit ?_
        refine seq_op s29 rfl rfl (of_decide_eq_true rfl) (ob_assign rfl opd_bool) fun a30 w30 s30 => ?_; clear s29
        refine wpList_nil ?_
        refine then_normal ?_
        refine hK14 _ _ ?_
        have s31 := s30.sub (.cons (t := 4) rfl .nil); clear s30
        refine wp_ret ?_
        obtain rfl := Option.some.inj h9
        exact leave s31 (.inl rfl) rfl (.cons (.tmp rfl) .nil)
      · replace h8 := ite_f hc3 h8
        have h10 := h8; clear h8
        refine wp_skip ?_
        refine in_normal ?_
        refine then_normal ?_
        refine hK11 _ _ ?_
        have s32 := s29.sub (.cons (t := 0) rfl (.cons (t := 1) rfl (.cons (t := 12) rfl (.cons (t := 13) rfl .nil)))); clear s29
        refine wp_region_lit ?_
        refine seq_op s32 rfl rfl (of_decide_eq_true rfl) (ob_add rfl (.tmp rfl) (opd_int rfl)) fun a33 w33 s33 => ?_; clear s32
        refine seq_op s33 rfl rfl (of_decide_eq_true rfl) (ob_move rfl (.tmp rfl)) fun a34 w34 s34 => ?_; clear s33
        refine wpList_nil ?_
        refine then_normal ?_
        exact hK8 (iadd .i64 y1 (1 : Int)) _ _ h10 (s34.sub (.cons rfl (.cons rfl (.cons rfl (.cons rfl .nil)))))
    · replace h5 := ite_f hc2 h5
      have h11 := h5; clear h5
      refine wp_exit ?_
      refine (then_exit (then_exit (in_here ?_)))
      refine then_normal ?_
      exact hj1 _ _ h11 (s22.sub .nil)

/- 175 slices.Equal[[]cabal/api.Box,cabal/api.Box] -/
theorem c_slices_Equal_api_Box_api_Box (k : Nat) (p1 : (List api_Box)) (p2 : (List api_Box)) (r : Bool) (h0 : slices_Equal_api_Box_api_Box k p1 p2 = some r) (ok : Ok) (w0 : World) (z0 : Value) (z1 : Value) (u0 : ((ksl k_api_Box).V p1).holds ok w0 z0) (u1 : ((ksl k_api_Box).V p2).holds ok w0 z1) :
    Gives Try.prog 175 [z0, z1] ok w0 (resFact [kbool.V r]) := by
  unfold slices_Equal_api_Box_api_Box at h0
  refine enter (N := 26) Try.func175 rfl rfl (of_decide_eq_true rfl) (.cons u0 (.cons u1 .nil)) fun a1 s1 => ?_
  refine wp_seq_k fun K1 hK1 => ?_
  refine wp_region_lit ?_
  refine seq_op s1 rfl rfl (of_decide_eq_true rfl) (ob_assign rfl opd_bool) fun a2 w2 s2 => ?_; clear s1
  refine wpList_nil ?_
  refine then_normal ?_
  refine hK1 _ _ ?_
  have s3 := s2.sub (.cons (t := 0) rfl (.cons (t := 1) rfl .nil)); clear s2
  refine wp_seq_k fun K2 hK2 => ?_
  refine wp_seq_k fun K3 hK3 => ?_
  refine wp_region_lit ?_
  refine seq_op s3 rfl rfl (of_decide_eq_true rfl) (ob_move rfl (.tmp rfl)) fun a4 w4 s4 => ?_; clear s3
  refine seq_op s4 rfl rfl (of_decide_eq_true rfl) (ob_lens rfl Try.underlying42 (.tmp rfl)) fun a5 w5 s5 => ?_; clear s4
  refine seq_op s5 rfl rfl (of_decide_eq_true rfl) (ob_move rfl (.tmp rfl)) fun a6 w6 s6 => ?_; clear s5
  refine seq_op s6 rfl rfl (of_decide_eq_true rfl) (ob_lens rfl Try.underlying42 (.tmp rfl)) fun a7 w7 s7 => ?_; clear s6
  refine seq_op s7 rfl rfl (of_decide_eq_true rfl) (ob_neq rfl (.tmp rfl) (.tmp rfl)) fun a8 w8 s8 => ?_; clear s7
  refine wpList_nil ?_
  refine then_normal ?_
  refine hK3 _ _ ?_
  have s9 := s8.sub (.cons (t := 0) rfl (.cons (t := 1) rfl (.cons (t := 10) rfl .nil))); clear s8
  refine cond_split s9 (.tmp rfl) (fun hc1 => ?_) (fun hc1 => ?_)
  · replace h0 := ite_t hc1 h0
    have h1 := h0; clear h0
    refine wp_seq_k fun K4 hK4 => ?_
    refine wp_region_lit ?_
    refine seq_op s9 rfl rfl (of_decide_eq_true rfl) (ob_assign rfl opd_bool) fun a10 w10 s10 => ?_; clear s9
    refine wpList_nil ?_
    refine then_normal ?_
    refine hK4 _ _ ?_
    have s11 := s10.sub (.cons (t := 4) rfl .nil); clear s10
    refine wp_ret ?_
    obtain rfl := Option.some.inj h1
    exact leave s11 (.inl rfl) rfl (.cons (.tmp rfl) .nil)
  · replace h0 := ite_f hc1 h0
    have h2 := h0; clear h0
    refine wp_skip ?_
    refine then_normal ?_
    refine hK2 _ _ ?_
    have s12 := s9.sub (.cons (t := 0) rfl (.cons (t := 1) rfl .nil)); clear s9
    refine wp_seq_k fun K5 hK5 => ?_
    refine wp_seq_k fun K6 hK6 => ?_
    refine wp_region_lit ?_
    refine seq_op s12 rfl rfl (of_decide_eq_true rfl) (ob_move rfl (.tmp rfl)) fun a13 w13 s13 => ?_; clear s12
    refine seq_op s13 rfl rfl (of_decide_eq_true rfl) (ob_lens rfl Try.underlying42 (.tmp rfl)) fun a14 w14 s14 => ?_; clear s13
    refine seq_op s14 rfl rfl (of_decide_eq_true rfl) (ob_move rfl (opd_int rfl)) fun a15 w15 s15 => ?_; clear s14
    refine wpList_nil ?_
    refine then_normal ?_
    refine hK6 _ _ ?_
    have s16 := s15.sub (.cons (t := 0) rfl (.cons (t := 1) rfl (.cons (t := 12) rfl (.cons (t := 13) rfl .nil)))); clear s15
    have hj1 : ∀ (a : Act) (w : World), (slices_Equal_api_Box_api_Box.j1 k) = some r → St ⟨26, w0, ok, []⟩ [] [] a w → K5 a w := by
      intro a17 w17 h3 s17
      unfold slices_Equal_api_Box_api_Box.j1 at h3
      refine hK5 _ _ ?_
      refine wp_seq_k fun K7 hK7 => ?_
      refine wp_region_lit ?_
      refine seq_op s17 rfl rfl (of_decide_eq_true rfl) (ob_assign rfl opd_bool) fun a18 w18 s18 => ?_; clear s17
      refine wpList_nil ?_
      refine then_normal ?_
      refine hK7 _ _ ?_
      have s19 := s18.sub (.cons (t := 4) rfl .nil); clear s18
      refine wp_ret ?_
      obtain rfl := Option.some.inj h3
      exact leave s19 (.inl rfl) rfl (.cons (.tmp rfl) .nil)
    refine wp_block ?_
    refine wp_loop_fuel (fun m (q : Int) => slices_Equal_api_Box_api_Box.l1 k p1 p2 m q) r (fun _ => rfl) (fun q a w => St ⟨26, w0, ok, []⟩ [] [(0, ((ksl k_api_Box).V p1)), (1, ((ksl k_api_Box).V p2)), (12, ((kint .i64).V (p1.length : Int))), (13, ((kint .i64).V q))] a w) ?_ k (0 : Int) _ _ h2 (s16.sub (.cons rfl (.cons rfl (.cons rfl (.cons rfl .nil)))))
    rintro n1 y1 a20 w20 h4 s20 K8 hK8
    replace h4 : slices_Equal_api_Box_api_Box.l1 k p1 p2 (n1 + 1) y1 = some r := h4; rw [slices_Equal_api_Box_api_Box.l1] at h4
    have h5 := h4; clear h4
    refine wp_seq_k fun K9 hK9 => ?_
    refine wp_region_lit ?_
    refine seq_op s20 rfl rfl (of_decide_eq_true rfl) (ob_lss rfl (.tmp rfl) (.tmp rfl)) fun a21 w21 s21 => ?_; clear s20
    refine wpList_nil ?_
    refine then_normal ?_
    refine hK9 _ _ ?_
    have s22 := s21.sub (.cons (t := 0) rfl (.cons (t := 1) rfl (.cons (t := 12) rfl (.cons (t := 13) rfl (.cons (t := 14) rfl .nil))))); clear s21
    refine wp_seq_k fun K10 hK10 => ?_
    refine cond_split s22 (.tmp rfl) (fun hc2 => ?_) (fun hc2 => ?_)
    · replace h5 := ite_t hc2 h5
      have h6 := h5; clear h5
      refine wp_skip ?_
      refine then_normal ?_
      refine hK10 _ _ ?_
      have s23 := s22.sub (.cons (t := 0) rfl (.cons (t := 1) rfl (.cons (t := 12) rfl (.cons (t := 13) rfl .nil)))); clear s22
      refine wp_seq_k fun K11 hK11 => ?_
      refine wp_block ?_
      refine wp_seq_k fun K12 hK12 => ?_
      refine wp_region_lit ?_
      refine seq_op s23 rfl rfl (of_decide_eq_true rfl) (ob_move rfl (.tmp rfl)) fun a24 w24 s24 => ?_; clear s23
      refine seq_op s24 rfl rfl (of_decide_eq_true rfl) (ob_assign rfl (.tmp rfl)) fun a25 w25 s25 => ?_; clear s24
      refine wpList_nil ?_
      refine then_normal ?_
      refine hK12 _ _ ?_
      have s26 := s25.sub (.cons (t := 0) rfl (.cons (t := 1) rfl (.cons (t := 5) rfl (.cons (t := 12) rfl (.cons (t := 13) rfl .nil))))); clear s25
      refine wp_seq_k fun K13 hK13 => ?_
      obtain ⟨x1, e_x1, h7⟩ := bind_some h6; clear h6
      obtain ⟨x2, e_x2, h8⟩ := bind_some h7; clear h7
      refine wp_goes (Fs := [((ksl k_api_Box).V p1), ((kint .i64).V y1), (ptrTo k_api_Box x1), (k_api_Box.V x1), ((ksl k_api_Box).V p2), ((kint .i64).V y1), (ptrTo k_api_Box x2), (k_api_Box.V x2)]) (bits := [0, 0, 3, 7, 0, 0, 48, 112, 255]) (m := 8) (todo := 0) mx s26 ?_; clear s26
      refine goes_last (by kernel_rfl) rfl (opsS_cons (.plain _ (Av.old (t := 0) rfl rfl Av.nil) rfl rfl (ob_move rfl (.tmp rfl))) (opsS_cons (.plain _ (Av.old (t := 5) rfl rfl Av.nil) rfl rfl (ob_move rfl (.tmp rfl))) (opsS_cons (.plain _ (Av.new (j := 0) rfl rfl rfl (Av.new (j := 1) rfl rfl rfl Av.nil)) rfl rfl (ob_indexAddrs rfl Try.underlying42 sz78 (.tmp rfl) (.tmp rfl) e_x1)) (opsS_cons (.plain _ (Av.new (j := 2) rfl rfl rfl Av.nil) rfl rfl (ob_loadr rfl tk78 (.tmp rfl))) (opsS_cons (.plain _ (Av.old (t := 1) rfl rfl Av.nil) rfl rfl (ob_move rfl (.tmp rfl))) (opsS_cons (.plain _ (Av.old (t := 5) rfl rfl Av.nil) rfl rfl (ob_move rfl (.tmp rfl))) (opsS_cons (.plain _ (Av.new (j := 4) rfl rfl rfl (Av.new (j := 5) rfl rfl rfl Av.nil)) rfl rfl (ob_indexAddrs rfl Try.underlying42 sz78 (.tmp rfl) (.tmp rfl) e_x2)) (opsS_cons (.plain _ (Av.new (j := 6) rfl rfl rfl Av.nil) rfl rfl (ob_loadr rfl tk78 (.tmp rfl))) opsS_nil)))))))) (out_old (t := 0) rfl rfl (out_old (t := 1) rfl rfl (out_old (t := 12) rfl rfl (out_old (t := 13) rfl rfl (out_new (i := 3) (by decide) rfl rfl (out_new (i := 7) (by decide) rfl rfl out_nil)))))) fun a27 w27 s27 => ?_
      refine seq_op s27 rfl rfl (of_decide_eq_true rfl) (ob_neqAgg rfl rfl (by kernel_rfl) eq78 (by decide) (.tmp rfl) (.tmp rfl)) fun a28 w28 s28 => ?_; clear s27
      refine wpList_nil ?_
      refine then_normal ?_
      refine hK13 _ _ ?_
      have s29 := s28.sub (.cons (t := 0) rfl (.cons (t := 1) rfl (.cons (t := 12) rfl (.cons (t := 13) rfl (.cons (t := 24) rfl .nil))))); clear s28
      refine cond_split s29 (.tmp rfl) (fun hc3 => ?_) (fun hc3 => ?_)
      · replace h8 := ite_t hc3 h8
        have h9 := h8; clear h8
        refine wp_seq_k fun K14 hK14 => ?_
        refine wp_region_lit ?_
        refine seq_op s29 rfl rfl (of_decide_eq_true rfl) (ob_assign rfl opd_bool) fun a30 w30 s30 => ?_; clear s29
        refine wpList_nil ?_
        refine then_normal ?_
        refine hK14 _ _ ?_
        have s31 := s30.sub (.cons (t := 4) rfl .nil); clear s30
        refine wp_ret ?_
        obtain rfl := Option.some.inj h9
        exact leave s31 (.inl rfl) rfl (.cons (.tmp rfl) .nil)
      · replace h8 := ite_f hc3 h8
        have h10 := h8; clear h8
        refine wp_skip ?_
        refine in_normal ?_
        refine then_normal ?_
        refine hK11 _ _ ?_
        have s32 := s29.sub (.cons (t := 0) rfl (.cons (t := 1) rfl (.cons (t := 12) rfl (.cons (t := 13) rfl .nil)))); clear s29
        refine wp_region_lit ?_
        refine seq_op s32 rfl rfl (of_decide_eq_true rfl) (ob_add rfl (.tmp rfl) (opd_int rfl)) fun a33 w33 s33 => ?_; clear s32
        refine seq_op s33 rfl rfl (of_decide_eq_true rfl) (ob_move rfl (.tmp rfl)) fun a34 w34 s34 => ?_; clear s33
        refine wpList_nil ?_
        refine then_normal ?_
        exact hK8 (iadd .i64 y1 (1 : Int)) _ _ h10 (s34.sub (.cons rfl (.cons rfl (.cons rfl (.cons rfl .nil)))))
    · replace h5 := ite_f hc2 h5
      have h11 := h5; clear h5
      refine wp_exit ?_
      refine (then_exit (then_exit (in_here ?_)))
      refine then_normal ?_
      exact hj1 _ _ h11 (s22.sub .nil)

/- 148 cabal/frame.same -/
theorem c_frame_same (k : Nat) (p1 : api_Op) (p2 : api_Op) (r : Bool) (h0 : frame_same k p1 p2 = some r) (ok : Ok) (w0 : World) (z0 : Value) (z1 : Value) (u0 : (k_api_Op.V p1).holds ok w0 z0) (u1 : (k_api_Op.V p2).holds ok w0 z1) :
    Gives Try.prog 148 [z0, z1] ok w0 (resFact [kbool.V r]) := by
  unfold frame_same at h0
  refine enter (N := 66) Try.func148 rfl rfl (of_decide_eq_true rfl) (.cons u0 (.cons u1 .nil)) fun a1 s1 => ?_
  refine wp_seq_k fun K1 hK1 => ?_
  refine wp_region_lit ?_
  refine seq_opx (B' := (fun b1 : Nat => [BF b1 44 k_api_Op p1])) s1 rfl rfl (of_decide_eq_true rfl) (ob_box rfl (.tmp rfl)) fun b1 a2 w2 s2 => ?_; clear s1
  refine seq_opx (B' := (fun b2 : Nat => [BF b2 44 k_api_Op p2, BF b1 44 k_api_Op p1])) s2 rfl rfl (of_decide_eq_true rfl) (ob_box rfl (.tmp rfl)) fun b2 a3 w3 s3 => ?_; clear s2
  refine seq_op s3 rfl rfl (of_decide_eq_true rfl) (ob_assign rfl opd_bool) fun a4 w4 s4 => ?_; clear s3
  refine wpList_nil ?_
  refine then_normal ?_
  refine hK1 _ _ ?_
  have s5 := s4.sub (.cons (t := 2) rfl (.cons (t := 3) rfl .nil)); clear s4
  refine wp_seq_k fun K2 hK2 => ?_
  refine wp_region_lit ?_
  refine seq_op s5 rfl rfl (of_decide_eq_true rfl) (ob_fieldAddr (off' := 0) rfl Try.underlying44 rfl sz3 (by decide) (.tmp rfl) rfl) fun a6 w6 s6 => ?_; clear s5
  refine seq_op s6 rfl rfl (of_decide_eq_true rfl) (ob_load rfl tk3 (.tmp rfl) (.tail _ (.head _)) (lg_api_Op_Author p1)) fun a7 w7 s7 => ?_; clear s6
  refine seq_op s7 rfl rfl (of_decide_eq_true rfl) (ob_fieldAddr (off' := 0) rfl Try.underlying44 rfl sz3 (by decide) (.tmp rfl) rfl) fun a8 w8 s8 => ?_; clear s7
  refine seq_op s8 rfl rfl (of_decide_eq_true rfl) (ob_load rfl tk3 (.tmp rfl) (.head _) (lg_api_Op_Author p2)) fun a9 w9 s9 => ?_; clear s8
  refine seq_op s9 rfl rfl (of_decide_eq_true rfl) (ob_eql rfl (.tmp rfl) (.tmp rfl)) fun a10 w10 s10 => ?_; clear s9
  refine seq_op s10 rfl rfl (of_decide_eq_true rfl) (ob_move rfl (.tmp rfl)) fun a11 w11 s11 => ?_; clear s10
  refine seq_opg s11 rfl rfl rfl rfl (of_decide_eq_true rfl) (fun hb => ob_fieldAddr (off' := 1) rfl Try.underlying44 rfl sz25 (by decide) (.tmp rfl) rfl) fun a12 w12 s12 => ?_; clear s11
  refine seq_opg s12 rfl rfl rfl rfl (of_decide_eq_true rfl) (fun hb => (Ob.uncond (t := 11) hb rfl (ob_load rfl tk25 (.tmp rfl) (.tail _ (.head _)) (lg_api_Op_Seq p1)))) fun a13 w13 s13 => ?_; clear s12
  refine seq_opg s13 rfl rfl rfl rfl (of_decide_eq_true rfl) (fun hb => ob_fieldAddr (off' := 1) rfl Try.underlying44 rfl sz25 (by decide) (.tmp rfl) rfl) fun a14 w14 s14 => ?_; clear s13
  refine seq_opg s14 rfl rfl rfl rfl (of_decide_eq_true rfl) (fun hb => (Ob.uncond (t := 13) hb rfl (ob_load rfl tk25 (.tmp rfl) (.head _) (lg_api_Op_Seq p2)))) fun a15 w15 s15 => ?_; clear s14
  refine seq_opg s15 rfl rfl rfl rfl (of_decide_eq_true rfl) (fun hb => (Ob.uncond (t := 14) hb rfl ((Ob.uncond (t := 12) hb rfl (ob_eql rfl (.tmp rfl) (.tmp rfl)))))) fun a16 w16 s16 => ?_; clear s15
  refine seq_op s16 rfl rfl (of_decide_eq_true rfl) (ob_and2 rfl (.tmp rfl) (.tmp rfl) opd_bool) fun a17 w17 s17 => ?_; clear s16
  refine seq_op s17 rfl rfl (of_decide_eq_true rfl) (ob_move rfl (.tmp rfl)) fun a18 w18 s18 => ?_; clear s17
  refine seq_opg s18 rfl rfl rfl rfl (of_decide_eq_true rfl) (fun hb => ob_fieldAddr (off' := 3) rfl Try.underlying44 rfl sz3 (by decide) (.tmp rfl) rfl) fun a19 w19 s19 => ?_; clear s18
  refine seq_opg s19 rfl rfl rfl rfl (of_decide_eq_true rfl) (fun hb => (Ob.uncond (t := 18) hb rfl (ob_load rfl tk3 (.tmp rfl) (.tail _ (.head _)) (lg_api_Op_Kind p1)))) fun a20 w20 s20 => ?_; clear s19
  refine seq_opg s20 rfl rfl rfl rfl (of_decide_eq_true rfl) (fun hb => ob_fieldAddr (off' := 3) rfl Try.underlying44 rfl sz3 (by decide) (.tmp rfl) rfl) fun a21 w21 s21 => ?_; clear s20
  refine seq_opg s21 rfl rfl rfl rfl (of_decide_eq_true rfl) (fun hb => (Ob.uncond (t := 20) hb rfl (ob_load rfl tk3 (.tmp rfl) (.head _) (lg_api_Op_Kind p2)))) fun a22 w22 s22 => ?_; clear s21
  refine seq_opg s22 rfl rfl rfl rfl (of_decide_eq_true rfl) (fun hb => (Ob.uncond (t := 21) hb rfl ((Ob.uncond (t := 19) hb rfl (ob_eql rfl (.tmp rfl) (.tmp rfl)))))) fun a23 w23 s23 => ?_; clear s22
  obtain ⟨x1, e_x1, h1⟩ := bind_some h0; clear h0; replace e_x1 := Option.some.inj e_x1
  refine seq_op s23 rfl rfl (of_decide_eq_true rfl) ((ob_and2 rfl (.tmp rfl) (.tmp rfl) opd_bool).nm e_x1) fun a24 w24 s24 => ?_; clear s23
  refine seq_op s24 rfl rfl (of_decide_eq_true rfl) (ob_move rfl (.tmp rfl)) fun a25 w25 s25 => ?_; clear s24
  refine seq_opg s25 rfl rfl rfl rfl (of_decide_eq_true rfl) (fun hb => ob_fieldAddr (off' := 5) rfl Try.underlying44 rfl sz39 (by decide) (.tmp rfl) rfl) fun a26 w26 s26 => ?_; clear s25
  refine seq_opg s26 rfl rfl rfl rfl (of_decide_eq_true rfl) (fun hb => (Ob.uncond (t := 25) hb rfl (ob_load rfl tk39 (.tmp rfl) (.tail _ (.head _)) (lg_api_Op_Of p1)))) fun a27 w27 s27 => ?_; clear s26
  refine seq_opg s27 rfl rfl rfl rfl (of_decide_eq_true rfl) (fun hb => ob_fieldAddr (off' := 5) rfl Try.underlying44 rfl sz39 (by decide) (.tmp rfl) rfl) fun a28 w28 s28 => ?_; clear s27
  refine seq_opg s28 rfl rfl rfl rfl (of_decide_eq_true rfl) (fun hb => (Ob.uncond (t := 27) hb rfl (ob_load rfl tk39 (.tmp rfl) (.head _) (lg_api_Op_Of p2)))) fun a29 w29 s29 => ?_; clear s28
  refine seq_opg s29 rfl rfl rfl rfl (of_decide_eq_true rfl) (fun hb => (Ob.uncond (t := 28) hb rfl ((Ob.uncond (t := 26) hb rfl (ob_eqAgg rfl rfl (by kernel_rfl) eq39 (by decide) (.tmp rfl) (.tmp rfl)))))) fun a30 w30 s30 => ?_; clear s29
  refine seq_op s30 rfl rfl (of_decide_eq_true rfl) (ob_and2 rfl (.tmp rfl) (.tmp rfl) opd_bool) fun a31 w31 s31 => ?_; clear s30
  refine seq_op s31 rfl rfl (of_decide_eq_true rfl) (ob_move rfl (.tmp rfl)) fun a32 w32 s32 => ?_; clear s31
  refine seq_opg s32 rfl rfl rfl rfl (of_decide_eq_true rfl) (fun hb => ob_fieldAddr (off' := 37) rfl Try.underlying44 rfl sz39 (by decide) (.tmp rfl) rfl) fun a33 w33 s33 => ?_; clear s32
  refine seq_opg s33 rfl rfl rfl rfl (of_decide_eq_true rfl) (fun hb => (Ob.uncond (t := 32) hb rfl (ob_load rfl tk39 (.tmp rfl) (.tail _ (.head _)) (lg_api_Op_Check p1)))) fun a34 w34 s34 => ?_; clear s33
  refine seq_opg s34 rfl rfl rfl rfl (of_decide_eq_true rfl) (fun hb => ob_fieldAddr (off' := 37) rfl Try.underlying44 rfl sz39 (by decide) (.tmp rfl) rfl) fun a35 w35 s35 => ?_; clear s34
  refine seq_opg s35 rfl rfl rfl rfl (of_decide_eq_true rfl) (fun hb => (Ob.uncond (t := 34) hb rfl (ob_load rfl tk39 (.tmp rfl) (.head _) (lg_api_Op_Check p2)))) fun a36 w36 s36 => ?_; clear s35
  refine seq_opg s36 rfl rfl rfl rfl (of_decide_eq_true rfl) (fun hb => (Ob.uncond (t := 35) hb rfl ((Ob.uncond (t := 33) hb rfl (ob_eqAgg rfl rfl (by kernel_rfl) eq39 (by decide) (.tmp rfl) (.tmp rfl)))))) fun a37 w37 s37 => ?_; clear s36
  obtain ⟨x2, e_x2, h2⟩ := bind_some h1; clear h1; replace e_x2 := Option.some.inj e_x2
  refine seq_op s37 rfl rfl (of_decide_eq_true rfl) ((ob_and2 rfl (.tmp rfl) (.tmp rfl) opd_bool).nm e_x2) fun a38 w38 s38 => ?_; clear s37
  refine seq_op s38 rfl rfl (of_decide_eq_true rfl) (ob_move rfl (.tmp rfl)) fun a39 w39 s39 => ?_; clear s38
  refine seq_opg s39 rfl rfl rfl rfl (of_decide_eq_true rfl) (fun hb => ob_fieldAddr (off' := 69) rfl Try.underlying44 rfl sz9 (by decide) (.tmp rfl) rfl) fun a40 w40 s40 => ?_; clear s39
  refine seq_opg s40 rfl rfl rfl rfl (of_decide_eq_true rfl) (fun hb => (Ob.uncond (t := 39) hb rfl (ob_load rfl tk9 (.tmp rfl) (.tail _ (.head _)) (lg_api_Op_Text p1)))) fun a41 w41 s41 => ?_; clear s40
  refine seq_opg s41 rfl rfl rfl rfl (of_decide_eq_true rfl) (fun hb => ob_fieldAddr (off' := 69) rfl Try.underlying44 rfl sz9 (by decide) (.tmp rfl) rfl) fun a42 w42 s42 => ?_; clear s41
  refine seq_opg s42 rfl rfl rfl rfl (of_decide_eq_true rfl) (fun hb => (Ob.uncond (t := 41) hb rfl (ob_load rfl tk9 (.tmp rfl) (.head _) (lg_api_Op_Text p2)))) fun a43 w43 s43 => ?_; clear s42
  refine seq_opg s43 rfl rfl rfl rfl (of_decide_eq_true rfl) (fun hb => (Ob.uncond (t := 42) hb rfl ((Ob.uncond (t := 40) hb rfl (ob_seql rfl (.tmp rfl) (.tmp rfl)))))) fun a44 w44 s44 => ?_; clear s43
  refine seq_op s44 rfl rfl (of_decide_eq_true rfl) (ob_and2 rfl (.tmp rfl) (.tmp rfl) opd_bool) fun a45 w45 s45 => ?_; clear s44
  refine seq_op s45 rfl rfl (of_decide_eq_true rfl) (ob_move rfl (.tmp rfl)) fun a46 w46 s46 => ?_; clear s45
  refine seq_opg s46 rfl rfl rfl rfl (of_decide_eq_true rfl) (fun hb => ob_fieldAddr (off' := 2) rfl Try.underlying44 rfl sz40 (by decide) (.tmp rfl) rfl) fun a47 w47 s47 => ?_; clear s46
  refine seq_opg s47 rfl rfl rfl rfl (of_decide_eq_true rfl) (fun hb => (Ob.uncond (t := 46) hb rfl (ob_load rfl tk40 (.tmp rfl) (.tail _ (.head _)) (lg_api_Op_Parents p1)))) fun a48 w48 s48 => ?_; clear s47
  refine seq_opg s48 rfl rfl rfl rfl (of_decide_eq_true rfl) (fun hb => ob_fieldAddr (off' := 2) rfl Try.underlying44 rfl sz40 (by decide) (.tmp rfl) rfl) fun a49 w49 s49 => ?_; clear s48
  refine seq_opg s49 rfl rfl rfl rfl (of_decide_eq_true rfl) (fun hb => (Ob.uncond (t := 48) hb rfl (ob_load rfl tk40 (.tmp rfl) (.head _) (lg_api_Op_Parents p2)))) fun a50 w50 s50 => ?_; clear s49
  obtain ⟨x3, e_x3, h3⟩ := bind_some h2; clear h2
  refine seq_opg s50 rfl rfl rfl rfl (of_decide_eq_true rfl) (fun hb => (Ob.uncond (t := 49) hb rfl ((Ob.uncond (t := 47) hb rfl (ob_callD (args := [_, _]) rfl .direct hb122 (fun a w s fs gs hf hg => by obtain rfl := hf.unnil; obtain rfl := hg.unnil; exact c_slices_Equal_api_Key_api_Key k _ _ _ (ite_t hb e_x3) _ _ _ _ (s.arg (.tmp rfl)) (s.arg (.tmp rfl)))))))) fun a51 w51 s51 => ?_; clear s50
  obtain ⟨x4, e_x4, h4⟩ := bind_some h3; clear h3; replace e_x4 := Option.some.inj e_x4
  refine seq_op s51 rfl rfl (of_decide_eq_true rfl) ((ob_and2 rfl (.tmp rfl) (.tmp rfl) opd_bool).nm e_x4) fun a52 w52 s52 => ?_; clear s51
  refine seq_op s52 rfl rfl (of_decide_eq_true rfl) (ob_move rfl (.tmp rfl)) fun a53 w53 s53 => ?_; clear s52
  refine seq_opg s53 rfl rfl rfl rfl (of_decide_eq_true rfl) (fun hb => ob_fieldAddr (off' := 4) rfl Try.underlying44 rfl sz41 (by decide) (.tmp rfl) rfl) fun a54 w54 s54 => ?_; clear s53
  refine seq_opg s54 rfl rfl rfl rfl (of_decide_eq_true rfl) (fun hb => (Ob.uncond (t := 53) hb rfl (ob_load rfl tk41 (.tmp rfl) (.tail _ (.head _)) (lg_api_Op_Who p1)))) fun a55 w55 s55 => ?_; clear s54
  refine seq_opg s55 rfl rfl rfl rfl (of_decide_eq_true rfl) (fun hb => ob_fieldAddr (off' := 4) rfl Try.underlying44 rfl sz41 (by decide) (.tmp rfl) rfl) fun a56 w56 s56 => ?_; clear s55
  refine seq_opg s56 rfl rfl rfl rfl (of_decide_eq_true rfl) (fun hb => (Ob.uncond (t := 55) hb rfl (ob_load rfl tk41 (.tmp rfl) (.head _) (lg_api_Op_Who p2)))) fun a57 w57 s57 => ?_; clear s56
  obtain ⟨x5, e_x5, h5⟩ := bind_some h4; clear h4
  refine seq_opg s57 rfl rfl rfl rfl (of_decide_eq_true rfl) (fun hb => (Ob.uncond (t := 56) hb rfl ((Ob.uncond (t := 54) hb rfl (ob_callD (args := [_, _]) rfl .direct hb106 (fun a w s fs gs hf hg => by obtain rfl := hf.unnil; obtain rfl := hg.unnil; exact c_slices_Equal_int_int k _ _ _ (ite_t hb e_x5) _ _ _ _ (s.arg (.tmp rfl)) (s.arg (.tmp rfl)))))))) fun a58 w58 s58 => ?_; clear s57
  refine seq_op s58 rfl rfl (of_decide_eq_true rfl) (ob_and2 rfl (.tmp rfl) (.tmp rfl) opd_bool) fun a59 w59 s59 => ?_; clear s58
  refine seq_op s59 rfl rfl (of_decide_eq_true rfl) (ob_move rfl (.tmp rfl)) fun a60 w60 s60 => ?_; clear s59
  refine seq_opg s60 rfl rfl rfl rfl (of_decide_eq_true rfl) (fun hb => ob_fieldAddr (off' := 70) rfl Try.underlying44 rfl sz42 (by decide) (.tmp rfl) rfl) fun a61 w61 s61 => ?_; clear s60
  refine seq_opg s61 rfl rfl rfl rfl (of_decide_eq_true rfl) (fun hb => (Ob.uncond (t := 60) hb rfl (ob_load rfl tk42 (.tmp rfl) (.tail _ (.head _)) (lg_api_Op_Boxes p1)))) fun a62 w62 s62 => ?_; clear s61
  refine seq_opg s62 rfl rfl rfl rfl (of_decide_eq_true rfl) (fun hb => ob_fieldAddr (off' := 70) rfl Try.underlying44 rfl sz42 (by decide) (.tmp rfl) rfl) fun a63 w63 s63 => ?_; clear s62
  refine seq_opg s63 rfl rfl rfl rfl (of_decide_eq_true rfl) (fun hb => (Ob.uncond (t := 62) hb rfl (ob_load rfl tk42 (.tmp rfl) (.head _) (lg_api_Op_Boxes p2)))) fun a64 w64 s64 => ?_; clear s63
  obtain ⟨x6, e_x6, h6⟩ := bind_some h5; clear h5
  refine seq_opg s64 rfl rfl rfl rfl (of_decide_eq_true rfl) (fun hb => (Ob.uncond (t := 63) hb rfl ((Ob.uncond (t := 61) hb rfl (ob_callD (args := [_, _]) rfl .direct hb175 (fun a w s fs gs hf hg => by obtain rfl := hf.unnil; obtain rfl := hg.unnil; exact c_slices_Equal_api_Box_api_Box k _ _ _ (ite_t hb e_x6) _ _ _ _ (s.arg (.tmp rfl)) (s.arg (.tmp rfl)))))))) fun a65 w65 s65 => ?_; clear s64
  refine seq_op s65 rfl rfl (of_decide_eq_true rfl) (ob_and2 rfl (.tmp rfl) (.tmp rfl) opd_bool) fun a66 w66 s66 => ?_; clear s65
  refine seq_op s66 rfl rfl (of_decide_eq_true rfl) (ob_assign rfl (.tmp rfl)) fun a67 w67 s67 => ?_; clear s66
  refine wpList_nil ?_
  refine then_normal ?_
  refine hK2 _ _ ?_
  have s68 := s67.sub (.cons (t := 4) rfl .nil); clear s67
  have s69 := St.drop (A := []) s68; clear s68
  have s70 := St.drop (A := []) s69; clear s69
  refine wp_ret ?_
  obtain rfl := Option.some.inj h6
  exact leave s70 (.inl rfl) rfl (.cons (.tmp rfl) .nil)

/- 107 cabal/frame.Same -/
theorem c_frame_Same (k : Nat) (p1 : api_Frame) (p2 : api_Frame) (r : Bool) (h0 : frame_Same k p1 p2 = some r) (ok : Ok) (w0 : World) (z0 : Value) (z1 : Value) (u0 : (k_api_Frame.V p1).holds ok w0 z0) (u1 : (k_api_Frame.V p2).holds ok w0 z1) :
    Gives Try.prog 107 [z0, z1] ok w0 (resFact [kbool.V r]) := by
  unfold frame_Same at h0
  refine enter (N := 31) Try.func107 rfl rfl (of_decide_eq_true rfl) (.cons u0 (.cons u1 .nil)) fun a1 s1 => ?_
  refine wp_seq_k fun K1 hK1 => ?_
  refine wp_region_lit ?_
  refine seq_opx (B' := (fun b1 : Nat => [BF b1 130 k_api_Frame p1])) s1 rfl rfl (of_decide_eq_true rfl) (ob_box rfl (.tmp rfl)) fun b1 a2 w2 s2 => ?_; clear s1
  refine seq_opx (B' := (fun b2 : Nat => [BF b2 130 k_api_Frame p2, BF b1 130 k_api_Frame p1])) s2 rfl rfl (of_decide_eq_true rfl) (ob_box rfl (.tmp rfl)) fun b2 a3 w3 s3 => ?_; clear s2
  refine seq_op s3 rfl rfl (of_decide_eq_true rfl) (ob_assign rfl opd_bool) fun a4 w4 s4 => ?_; clear s3
  refine wpList_nil ?_
  refine then_normal ?_
  refine hK1 _ _ ?_
  have s5 := s4.sub (.cons (t := 2) rfl (.cons (t := 3) rfl .nil)); clear s4
  refine wp_seq_k fun K2 hK2 => ?_
  refine wp_region_lit ?_
  refine seq_op s5 rfl rfl (of_decide_eq_true rfl) (ob_fieldAddr (off' := 0) rfl Try.underlying130 rfl sz3 (by decide) (.tmp rfl) rfl) fun a6 w6 s6 => ?_; clear s5
  refine seq_op s6 rfl rfl (of_decide_eq_true rfl) (ob_load rfl tk3 (.tmp rfl) (.tail _ (.head _)) (lg_api_Frame_Kind p1)) fun a7 w7 s7 => ?_; clear s6
  refine seq_op s7 rfl rfl (of_decide_eq_true rfl) (ob_fieldAddr (off' := 0) rfl Try.underlying130 rfl sz3 (by decide) (.tmp rfl) rfl) fun a8 w8 s8 => ?_; clear s7
  refine seq_op s8 rfl rfl (of_decide_eq_true rfl) (ob_load rfl tk3 (.tmp rfl) (.head _) (lg_api_Frame_Kind p2)) fun a9 w9 s9 => ?_; clear s8
  refine seq_op s9 rfl rfl (of_decide_eq_true rfl) (ob_eql rfl (.tmp rfl) (.tmp rfl)) fun a10 w10 s10 => ?_; clear s9
  refine seq_op s10 rfl rfl (of_decide_eq_true rfl) (ob_move rfl (.tmp rfl)) fun a11 w11 s11 => ?_; clear s10
  refine seq_opg s11 rfl rfl rfl rfl (of_decide_eq_true rfl) (fun hb => ob_fieldAddr (off' := 1) rfl Try.underlying130 rfl sz3 (by decide) (.tmp rfl) rfl) fun a12 w12 s12 => ?_; clear s11
  refine seq_opg s12 rfl rfl rfl rfl (of_decide_eq_true rfl) (fun hb => (Ob.uncond (t := 11) hb rfl (ob_load rfl tk3 (.tmp rfl) (.tail _ (.head _)) (lg_api_Frame_From p1)))) fun a13 w13 s13 => ?_; clear s12
  refine seq_opg s13 rfl rfl rfl rfl (of_decide_eq_true rfl) (fun hb => ob_fieldAddr (off' := 1) rfl Try.underlying130 rfl sz3 (by decide) (.tmp rfl) rfl) fun a14 w14 s14 => ?_; clear s13
  refine seq_opg s14 rfl rfl rfl rfl (of_decide_eq_true rfl) (fun hb => (Ob.uncond (t := 13) hb rfl (ob_load rfl tk3 (.tmp rfl) (.head _) (lg_api_Frame_From p2)))) fun a15 w15 s15 => ?_; clear s14
  refine seq_opg s15 rfl rfl rfl rfl (of_decide_eq_true rfl) (fun hb => (Ob.uncond (t := 14) hb rfl ((Ob.uncond (t := 12) hb rfl (ob_eql rfl (.tmp rfl) (.tmp rfl)))))) fun a16 w16 s16 => ?_; clear s15
  refine seq_op s16 rfl rfl (of_decide_eq_true rfl) (ob_and2 rfl (.tmp rfl) (.tmp rfl) opd_bool) fun a17 w17 s17 => ?_; clear s16
  refine seq_op s17 rfl rfl (of_decide_eq_true rfl) (ob_move rfl (.tmp rfl)) fun a18 w18 s18 => ?_; clear s17
  refine seq_opg s18 rfl rfl rfl rfl (of_decide_eq_true rfl) (fun hb => ob_fieldAddr (off' := 2) rfl Try.underlying130 rfl sz44 (by decide) (.tmp rfl) rfl) fun a19 w19 s19 => ?_; clear s18
  refine seq_opg s19 rfl rfl rfl rfl (of_decide_eq_true rfl) (fun hb => (Ob.uncond (t := 18) hb rfl (ob_load rfl tk44 (.tmp rfl) (.tail _ (.head _)) (lg_api_Frame_Op p1)))) fun a20 w20 s20 => ?_; clear s19
  refine seq_opg s20 rfl rfl rfl rfl (of_decide_eq_true rfl) (fun hb => ob_fieldAddr (off' := 2) rfl Try.underlying130 rfl sz44 (by decide) (.tmp rfl) rfl) fun a21 w21 s21 => ?_; clear s20
  refine seq_opg s21 rfl rfl rfl rfl (of_decide_eq_true rfl) (fun hb => (Ob.uncond (t := 20) hb rfl (ob_load rfl tk44 (.tmp rfl) (.head _) (lg_api_Frame_Op p2)))) fun a22 w22 s22 => ?_; clear s21
  obtain ⟨x1, e_x1, h1⟩ := bind_some h0; clear h0
  refine seq_opg s22 rfl rfl rfl rfl (of_decide_eq_true rfl) (fun hb => (Ob.uncond (t := 21) hb rfl ((Ob.uncond (t := 19) hb rfl (ob_callD (args := [_, _]) rfl .direct hb148 (fun a w s fs gs hf hg => by obtain rfl := hf.unnil; obtain rfl := hg.unnil; exact c_frame_same k _ _ _ (ite_t hb e_x1) _ _ _ _ (s.arg (.tmp rfl)) (s.arg (.tmp rfl)))))))) fun a23 w23 s23 => ?_; clear s22
  obtain ⟨x2, e_x2, h2⟩ := bind_some h1; clear h1; replace e_x2 := Option.some.inj e_x2
  refine seq_op s23 rfl rfl (of_decide_eq_true rfl) ((ob_and2 rfl (.tmp rfl) (.tmp rfl) opd_bool).nm e_x2) fun a24 w24 s24 => ?_; clear s23
  refine seq_op s24 rfl rfl (of_decide_eq_true rfl) (ob_move rfl (.tmp rfl)) fun a25 w25 s25 => ?_; clear s24
  refine seq_opg s25 rfl rfl rfl rfl (of_decide_eq_true rfl) (fun hb => ob_fieldAddr (off' := 73) rfl Try.underlying130 rfl sz40 (by decide) (.tmp rfl) rfl) fun a26 w26 s26 => ?_; clear s25
  refine seq_opg s26 rfl rfl rfl rfl (of_decide_eq_true rfl) (fun hb => (Ob.uncond (t := 25) hb rfl (ob_load rfl tk40 (.tmp rfl) (.tail _ (.head _)) (lg_api_Frame_Ids p1)))) fun a27 w27 s27 => ?_; clear s26
  refine seq_opg s27 rfl rfl rfl rfl (of_decide_eq_true rfl) (fun hb => ob_fieldAddr (off' := 73) rfl Try.underlying130 rfl sz40 (by decide) (.tmp rfl) rfl) fun a28 w28 s28 => ?_; clear s27
  refine seq_opg s28 rfl rfl rfl rfl (of_decide_eq_true rfl) (fun hb => (Ob.uncond (t := 27) hb rfl (ob_load rfl tk40 (.tmp rfl) (.head _) (lg_api_Frame_Ids p2)))) fun a29 w29 s29 => ?_; clear s28
  obtain ⟨x3, e_x3, h3⟩ := bind_some h2; clear h2
  refine seq_opg s29 rfl rfl rfl rfl (of_decide_eq_true rfl) (fun hb => (Ob.uncond (t := 28) hb rfl ((Ob.uncond (t := 26) hb rfl (ob_callD (args := [_, _]) rfl .direct hb122 (fun a w s fs gs hf hg => by obtain rfl := hf.unnil; obtain rfl := hg.unnil; exact c_slices_Equal_api_Key_api_Key k _ _ _ (ite_t hb e_x3) _ _ _ _ (s.arg (.tmp rfl)) (s.arg (.tmp rfl)))))))) fun a30 w30 s30 => ?_; clear s29
  refine seq_op s30 rfl rfl (of_decide_eq_true rfl) (ob_and2 rfl (.tmp rfl) (.tmp rfl) opd_bool) fun a31 w31 s31 => ?_; clear s30
  refine seq_op s31 rfl rfl (of_decide_eq_true rfl) (ob_assign rfl (.tmp rfl)) fun a32 w32 s32 => ?_; clear s31
  refine wpList_nil ?_
  refine then_normal ?_
  refine hK2 _ _ ?_
  have s33 := s32.sub (.cons (t := 4) rfl .nil); clear s32
  have s34 := St.drop (A := []) s33; clear s33
  have s35 := St.drop (A := []) s34; clear s34
  refine wp_ret ?_
  obtain rfl := Option.some.inj h3
  exact leave s35 (.inl rfl) rfl (.cons (.tmp rfl) .nil)

/- 121 cabal/queue.Same$1 -/
theorem c_queue_Same_1 (k : Nat) (p1 : api_Held) (p2 : api_Held) (r : Bool) (h0 : queue_Same_1 k p1 p2 = some r) (ok : Ok) (w0 : World) (z0 : Value) (z1 : Value) (u0 : (k_api_Held.V p1).holds ok w0 z0) (u1 : (k_api_Held.V p2).holds ok w0 z1) :
    Gives Try.prog 121 [z0, z1] ok w0 (resFact [kbool.V r]) := by
  unfold queue_Same_1 at h0
  refine enter (N := 26) Try.func121 rfl rfl (of_decide_eq_true rfl) (.cons u0 (.cons u1 .nil)) fun a1 s1 => ?_
  refine wp_seq_k fun K1 hK1 => ?_
  refine wp_region_lit ?_
  refine seq_opx (B' := (fun b1 : Nat => [BF b1 91 k_api_Held p1])) s1 rfl rfl (of_decide_eq_true rfl) (ob_box rfl (.tmp rfl)) fun b1 a2 w2 s2 => ?_; clear s1
  refine seq_opx (B' := (fun b2 : Nat => [BF b2 91 k_api_Held p2, BF b1 91 k_api_Held p1])) s2 rfl rfl (of_decide_eq_true rfl) (ob_box rfl (.tmp rfl)) fun b2 a3 w3 s3 => ?_; clear s2
  refine seq_op s3 rfl rfl (of_decide_eq_true rfl) (ob_assign rfl opd_bool) fun a4 w4 s4 => ?_; clear s3
  refine wpList_nil ?_
  refine then_normal ?_
  refine hK1 _ _ ?_
  have s5 := s4.sub (.cons (t := 2) rfl (.cons (t := 3) rfl .nil)); clear s4
  refine wp_seq_k fun K2 hK2 => ?_
  refine wp_region_lit ?_
  refine seq_op s5 rfl rfl (of_decide_eq_true rfl) (ob_fieldAddr (off' := 0) rfl Try.underlying91 rfl sz39 (by decide) (.tmp rfl) rfl) fun a6 w6 s6 => ?_; clear s5
  refine seq_op s6 rfl rfl (of_decide_eq_true rfl) (ob_load rfl tk39 (.tmp rfl) (.tail _ (.head _)) (lg_api_Held_Id p1)) fun a7 w7 s7 => ?_; clear s6
  refine seq_op s7 rfl rfl (of_decide_eq_true rfl) (ob_fieldAddr (off' := 0) rfl Try.underlying91 rfl sz39 (by decide) (.tmp rfl) rfl) fun a8 w8 s8 => ?_; clear s7
  refine seq_op s8 rfl rfl (of_decide_eq_true rfl) (ob_load rfl tk39 (.tmp rfl) (.head _) (lg_api_Held_Id p2)) fun a9 w9 s9 => ?_; clear s8
  refine seq_op s9 rfl rfl (of_decide_eq_true rfl) (ob_eqAgg rfl rfl (by kernel_rfl) eq39 (by decide) (.tmp rfl) (.tmp rfl)) fun a10 w10 s10 => ?_; clear s9
  refine seq_op s10 rfl rfl (of_decide_eq_true rfl) (ob_move rfl (.tmp rfl)) fun a11 w11 s11 => ?_; clear s10
  refine seq_opg s11 rfl rfl rfl rfl (of_decide_eq_true rfl) (fun hb => ob_fieldAddr (off' := 103) rfl Try.underlying91 rfl sz40 (by decide) (.tmp rfl) rfl) fun a12 w12 s12 => ?_; clear s11
  refine seq_opg s12 rfl rfl rfl rfl (of_decide_eq_true rfl) (fun hb => (Ob.uncond (t := 11) hb rfl (ob_load rfl tk40 (.tmp rfl) (.tail _ (.head _)) (lg_api_Held_Got p1)))) fun a13 w13 s13 => ?_; clear s12
  refine seq_opg s13 rfl rfl rfl rfl (of_decide_eq_true rfl) (fun hb => ob_fieldAddr (off' := 103) rfl Try.underlying91 rfl sz40 (by decide) (.tmp rfl) rfl) fun a14 w14 s14 => ?_; clear s13
  refine seq_opg s14 rfl rfl rfl rfl (of_decide_eq_true rfl) (fun hb => (Ob.uncond (t := 13) hb rfl (ob_load rfl tk40 (.tmp rfl) (.head _) (lg_api_Held_Got p2)))) fun a15 w15 s15 => ?_; clear s14
  obtain ⟨x1, e_x1, h1⟩ := bind_some h0; clear h0
  refine seq_opg s15 rfl rfl rfl rfl (of_decide_eq_true rfl) (fun hb => (Ob.uncond (t := 14) hb rfl ((Ob.uncond (t := 12) hb rfl (ob_callD (args := [_, _]) rfl .direct hb122 (fun a w s fs gs hf hg => by obtain rfl := hf.unnil; obtain rfl := hg.unnil; exact c_slices_Equal_api_Key_api_Key k _ _ _ (ite_t hb e_x1) _ _ _ _ (s.arg (.tmp rfl)) (s.arg (.tmp rfl)))))))) fun a16 w16 s16 => ?_; clear s15
  refine seq_op s16 rfl rfl (of_decide_eq_true rfl) (ob_and2 rfl (.tmp rfl) (.tmp rfl) opd_bool) fun a17 w17 s17 => ?_; clear s16
  refine seq_op s17 rfl rfl (of_decide_eq_true rfl) (ob_move rfl (.tmp rfl)) fun a18 w18 s18 => ?_; clear s17
  refine seq_opg s18 rfl rfl rfl rfl (of_decide_eq_true rfl) (fun hb => ob_fieldAddr (off' := 32) rfl Try.underlying91 rfl sz44 (by decide) (.tmp rfl) rfl) fun a19 w19 s19 => ?_; clear s18
  refine seq_opg s19 rfl rfl rfl rfl (of_decide_eq_true rfl) (fun hb => (Ob.uncond (t := 18) hb rfl (ob_load rfl tk44 (.tmp rfl) (.tail _ (.head _)) (lg_api_Held_Op p1)))) fun a20 w20 s20 => ?_; clear s19
  refine seq_opg s20 rfl rfl rfl rfl (of_decide_eq_true rfl) (fun hb => (Ob.uncond (t := 19) hb rfl (ob_mkStruct (K := k_api_Frame) (X0 := (⟨(0 : Int), (0 : Int), (⟨(0 : Int), (0 : Int), [], (0 : Int), [], (List.replicate 32 (0 : Int)), (List.replicate 32 (0 : Int)), [], []⟩ : api_Op), []⟩ : api_Frame)) rfl Try.underlying130 zz130 rfl pl130 (Zr.iso (f := t_api_Frame) (x := (⟨(0 : Int), (0 : Int), (⟨(0 : Int), (0 : Int), [], (0 : Int), [], (List.replicate 32 (0 : Int)), (List.replicate 32 (0 : Int)), [], []⟩ : api_Op), []⟩ : api_Frame)) (Zr.pair (Zr.int .i64) (Zr.pair (Zr.int .i64) (Zr.pair (Zr.iso (f := t_api_Op) (x := (⟨(0 : Int), (0 : Int), [], (0 : Int), [], (List.replicate 32 (0 : Int)), (List.replicate 32 (0 : Int)), [], []⟩ : api_Op)) (Zr.pair (Zr.int .i64) (Zr.pair (Zr.int .u32) (Zr.pair (Zr.sl _) (Zr.pair (Zr.int .i64) (Zr.pair (Zr.sl _) (Zr.pair (Zr.arr 32 (Zr.int .u8)) (Zr.pair (Zr.arr 32 (Zr.int .u8)) (Zr.pair Zr.str (Zr.pair (Zr.sl _) Zr.nil)))))))))) (Zr.pair (Zr.sl _) Zr.nil))))) (.cons (.tmp rfl) rfl (ls_api_Frame_Op (⟨(0 : Int), (0 : Int), (⟨(0 : Int), (0 : Int), [], (0 : Int), [], (List.replicate 32 (0 : Int)), (List.replicate 32 (0 : Int)), [], []⟩ : api_Op), []⟩ : api_Frame) p1.Op) (.nil _))))) fun a21 w21 s21 => ?_; clear s20
  refine seq_opg s21 rfl rfl rfl rfl (of_decide_eq_true rfl) (fun hb => ob_fieldAddr (off' := 32) rfl Try.underlying91 rfl sz44 (by decide) (.tmp rfl) rfl) fun a22 w22 s22 => ?_; clear s21
  refine seq_opg s22 rfl rfl rfl rfl (of_decide_eq_true rfl) (fun hb => (Ob.uncond (t := 21) hb rfl (ob_load rfl tk44 (.tmp rfl) (.head _) (lg_api_Held_Op p2)))) fun a23 w23 s23 => ?_; clear s22
  refine seq_opg s23 rfl rfl rfl rfl (of_decide_eq_true rfl) (fun hb => (Ob.uncond (t := 22) hb rfl (ob_mkStruct (K := k_api_Frame) (X0 := (⟨(0 : Int), (0 : Int), (⟨(0 : Int), (0 : Int), [], (0 : Int), [], (List.replicate 32 (0 : Int)), (List.replicate 32 (0 : Int)), [], []⟩ : api_Op), []⟩ : api_Frame)) rfl Try.underlying130 zz130 rfl pl130 (Zr.iso (f := t_api_Frame) (x := (⟨(0 : Int), (0 : Int), (⟨(0 : Int), (0 : Int), [], (0 : Int), [], (List.replicate 32 (0 : Int)), (List.replicate 32 (0 : Int)), [], []⟩ : api_Op), []⟩ : api_Frame)) (Zr.pair (Zr.int .i64) (Zr.pair (Zr.int .i64) (Zr.pair (Zr.iso (f := t_api_Op) (x := (⟨(0 : Int), (0 : Int), [], (0 : Int), [], (List.replicate 32 (0 : Int)), (List.replicate 32 (0 : Int)), [], []⟩ : api_Op)) (Zr.pair (Zr.int .i64) (Zr.pair (Zr.int .u32) (Zr.pair (Zr.sl _) (Zr.pair (Zr.int .i64) (Zr.pair (Zr.sl _) (Zr.pair (Zr.arr 32 (Zr.int .u8)) (Zr.pair (Zr.arr 32 (Zr.int .u8)) (Zr.pair Zr.str (Zr.pair (Zr.sl _) Zr.nil)))))))))) (Zr.pair (Zr.sl _) Zr.nil))))) (.cons (.tmp rfl) rfl (ls_api_Frame_Op (⟨(0 : Int), (0 : Int), (⟨(0 : Int), (0 : Int), [], (0 : Int), [], (List.replicate 32 (0 : Int)), (List.replicate 32 (0 : Int)), [], []⟩ : api_Op), []⟩ : api_Frame) p2.Op) (.nil _))))) fun a24 w24 s24 => ?_; clear s23
  obtain ⟨x2, e_x2, h2⟩ := bind_some h1; clear h1
  refine seq_opg s24 rfl rfl rfl rfl (of_decide_eq_true rfl) (fun hb => (Ob.uncond (t := 23) hb rfl ((Ob.uncond (t := 20) hb rfl (ob_callD (args := [_, _]) rfl .direct hb107 (fun a w s fs gs hf hg => by obtain rfl := hf.unnil; obtain rfl := hg.unnil; exact c_frame_Same k _ _ _ (ite_t hb e_x2) _ _ _ _ (s.arg (.tmp rfl)) (s.arg (.tmp rfl)))))))) fun a25 w25 s25 => ?_; clear s24
  obtain ⟨x3, e_x3, h3⟩ := bind_some h2; clear h2; replace e_x3 := Option.some.inj e_x3
  refine seq_op s25 rfl rfl (of_decide_eq_true rfl) ((ob_and2 rfl (.tmp rfl) (.tmp rfl) opd_bool).nm e_x3) fun a26 w26 s26 => ?_; clear s25
  refine seq_op s26 rfl rfl (of_decide_eq_true rfl) (ob_assign rfl (.tmp rfl)) fun a27 w27 s27 => ?_; clear s26
  refine wpList_nil ?_
  refine then_normal ?_
  refine hK2 _ _ ?_
  have s28 := s27.sub (.cons (t := 4) rfl .nil); clear s27
  have s29 := St.drop (A := []) s28; clear s28
  have s30 := St.drop (A := []) s29; clear s29
  refine wp_ret ?_
  obtain rfl := Option.some.inj h3
  exact leave s30 (.inl rfl) rfl (.cons (.tmp rfl) .nil)

/- 120 slices.EqualFunc[[]cabal/api.Held,[]cabal/api.Held,cabal/api.Held,cabal/api.Held] -/
theorem c_slices_EqualFunc_api_Held_api_Held_api_Held_api_Held_queue_Same_1 (k : Nat) (p1 : (List api_Held)) (p2 : (List api_Held)) (r : Bool) (h0 : slices_EqualFunc_api_Held_api_Held_api_Held_api_Held_queue_Same_1 k p1 p2 = some r) (ok : Ok) (w0 : World) (z0 : Value) (z1 : Value) (z2 : Value) (u0 : ((ksl k_api_Held).V p1).holds ok w0 z0) (u1 : ((ksl k_api_Held).V p2).holds ok w0 z1) (u2 : (is (.func (.func 121) #[] #[])).holds ok w0 z2) :
    Gives Try.prog 120 [z0, z1, z2] ok w0 (resFact [kbool.V r]) := by
  unfold slices_EqualFunc_api_Held_api_Held_api_Held_api_Held_queue_Same_1 at h0
  refine enter (N := 32) Try.func120 rfl rfl (of_decide_eq_true rfl) (.cons u0 (.cons u1 (.cons u2 .nil))) fun a1 s1 => ?_
  refine wp_seq_k fun K1 hK1 => ?_
  refine wp_region_lit ?_
  refine seq_op s1 rfl rfl (of_decide_eq_true rfl) (ob_assign rfl opd_bool) fun a2 w2 s2 => ?_; clear s1
  refine wpList_nil ?_
  refine then_normal ?_
  refine hK1 _ _ ?_
  have s3 := s2.sub (.cons (t := 0) rfl (.cons (t := 1) rfl (.cons (t := 2) rfl .nil))); clear s2
  refine wp_seq_k fun K2 hK2 => ?_
  refine wp_seq_k fun K3 hK3 => ?_
  refine wp_region_lit ?_
  refine seq_op s3 rfl rfl (of_decide_eq_true rfl) (ob_move rfl (.tmp rfl)) fun a4 w4 s4 => ?_; clear s3
  refine seq_op s4 rfl rfl (of_decide_eq_true rfl) (ob_lens rfl Try.underlying85 (.tmp rfl)) fun a5 w5 s5 => ?_; clear s4
  refine seq_op s5 rfl rfl (of_decide_eq_true rfl) (ob_move rfl (.tmp rfl)) fun a6 w6 s6 => ?_; clear s5
  refine seq_op s6 rfl rfl (of_decide_eq_true rfl) (ob_lens rfl Try.underlying85 (.tmp rfl)) fun a7 w7 s7 => ?_; clear s6
  refine seq_op s7 rfl rfl (of_decide_eq_true rfl) (ob_neq rfl (.tmp rfl) (.tmp rfl)) fun a8 w8 s8 => ?_; clear s7
  refine wpList_nil ?_
  refine then_normal ?_
  refine hK3 _ _ ?_
  have s9 := s8.sub (.cons (t := 0) rfl (.cons (t := 1) rfl (.cons (t := 2) rfl (.cons (t := 14) rfl .nil)))); clear s8
  refine cond_split s9 (.tmp rfl) (fun hc1 => ?_) (fun hc1 => ?_)
  · replace h0 := ite_t hc1 h0
    have h1 := h0; clear h0
    refine wp_seq_k fun K4 hK4 => ?_
    refine wp_region_lit ?_
    refine seq_op s9 rfl rfl (of_decide_eq_true rfl) (ob_assign rfl opd_bool) fun a10 w10 s10 => ?_; clear s9
    refine wpList_nil ?_
    refine then_normal ?_
    refine hK4 _ _ ?_
    have s11 := s10.sub (.cons (t := 6) rfl .nil); clear s10
    refine wp_ret ?_
    obtain rfl := Option.some.inj h1
    exact leave s11 (.inl rfl) rfl (.cons (.tmp rfl) .nil)
  · replace h0 := ite_f hc1 h0
    have h2 := h0; clear h0
    refine wp_skip ?_
    refine then_normal ?_
    refine hK2 _ _ ?_
    have s12 := s9.sub (.cons (t := 0) rfl (.cons (t := 1) rfl (.cons (t := 2) rfl .nil))); clear s9
    refine wp_seq_k fun K5 hK5 => ?_
    refine wp_seq_k fun K6 hK6 => ?_
    refine wp_region_lit ?_
    refine seq_op s12 rfl rfl (of_decide_eq_true rfl) (ob_move rfl (.tmp rfl)) fun a13 w13 s13 => ?_; clear s12
    refine seq_op s13 rfl rfl (of_decide_eq_true rfl) (ob_lens rfl Try.underlying85 (.tmp rfl)) fun a14 w14 s14 => ?_; clear s13
    refine seq_op s14 rfl rfl (of_decide_eq_true rfl) (ob_move rfl (opd_int rfl)) fun a15 w15 s15 => ?_; clear s14
    refine wpList_nil ?_
    refine then_normal ?_
    refine hK6 _ _ ?_
    have s16 := s15.sub (.cons (t := 1) rfl (.cons (t := 2) rfl (.cons (t := 15) rfl (.cons (t := 16) rfl (.cons (t := 17) rfl .nil))))); clear s15
    have hj1 : ∀ (a : Act) (w : World), (slices_EqualFunc_api_Held_api_Held_api_Held_api_Held_queue_Same_1.j1 k) = some r → St ⟨32, w0, ok, []⟩ [] [] a w → K5 a w := by
      intro a17 w17 h3 s17
      unfold slices_EqualFunc_api_Held_api_Held_api_Held_api_Held_queue_Same_1.j1 at h3
      refine hK5 _ _ ?_
      refine wp_seq_k fun K7 hK7 => ?_
      refine wp_region_lit ?_
      refine seq_op s17 rfl rfl (of_decide_eq_true rfl) (ob_assign rfl opd_bool) fun a18 w18 s18 => ?_; clear s17
      refine wpList_nil ?_
      refine then_normal ?_
      refine hK7 _ _ ?_
      have s19 := s18.sub (.cons (t := 6) rfl .nil); clear s18
      refine wp_ret ?_
      obtain rfl := Option.some.inj h3
      exact leave s19 (.inl rfl) rfl (.cons (.tmp rfl) .nil)
    refine wp_block ?_
    refine wp_loop_fuel (fun m (q : Int) => slices_EqualFunc_api_Held_api_Held_api_Held_api_Held_queue_Same_1.l1 k p1 p2 m q) r (fun _ => rfl) (fun q a w => St ⟨32, w0, ok, []⟩ [] [(1, ((ksl k_api_Held).V p2)), (2, (is (.func (.func 121) #[] #[]))), (15, ((ksl k_api_Held).V p1)), (16, ((kint .i64).V (p1.length : Int))), (17, ((kint .i64).V q))] a w) ?_ k (0 : Int) _ _ h2 (s16.sub (.cons rfl (.cons rfl (.cons rfl (.cons rfl (.cons rfl .nil))))))
    rintro n1 y1 a20 w20 h4 s20 K8 hK8
    replace h4 : slices_EqualFunc_api_Held_api_Held_api_Held_api_Held_queue_Same_1.l1 k p1 p2 (n1 + 1) y1 = some r := h4; rw [slices_EqualFunc_api_Held_api_Held_api_Held_api_Held_queue_Same_1.l1] at h4
    have h5 := h4; clear h4
    refine wp_seq_k fun K9 hK9 => ?_
    refine wp_region_lit ?_
    refine seq_op s20 rfl rfl (of_decide_eq_true rfl) (ob_lss rfl (.tmp rfl) (.tmp rfl)) fun a21 w21 s21 => ?_; clear s20
    refine wpList_nil ?_
    refine then_normal ?_
    refine hK9 _ _ ?_
    have s22 := s21.sub (.cons (t := 1) rfl (.cons (t := 2) rfl (.cons (t := 15) rfl (.cons (t := 16) rfl (.cons (t := 17) rfl (.cons (t := 18) rfl .nil)))))); clear s21
    refine wp_seq_k fun K10 hK10 => ?_
    refine cond_split s22 (.tmp rfl) (fun hc2 => ?_) (fun hc2 => ?_)
    · replace h5 := ite_t hc2 h5
      have h6 := h5; clear h5
      refine wp_skip ?_
      refine then_normal ?_
      refine hK10 _ _ ?_
      have s23 := s22.sub (.cons (t := 1) rfl (.cons (t := 2) rfl (.cons (t := 15) rfl (.cons (t := 16) rfl (.cons (t := 17) rfl .nil))))); clear s22
      refine wp_seq_k fun K11 hK11 => ?_
      refine wp_block ?_
      refine wp_seq_k fun K12 hK12 => ?_
      refine wp_region_lit ?_
      refine seq_op s23 rfl rfl (of_decide_eq_true rfl) (ob_move rfl (.tmp rfl)) fun a24 w24 s24 => ?_; clear s23
      obtain ⟨x1, e_x1, h7⟩ := bind_some h6; clear h6
      refine seq_op s24 rfl rfl (of_decide_eq_true rfl) (ob_indexAddrs rfl Try.underlying85 sz91 (.tmp rfl) (.tmp rfl) e_x1) fun a25 w25 s25 => ?_; clear s24
      refine seq_op s25 rfl rfl (of_decide_eq_true rfl) (ob_loadr rfl tk91 (.tmp rfl)) fun a26 w26 s26 => ?_; clear s25
      refine seq_opx (B' := (fun b1 : Nat => [BF b1 91 k_api_Held (⟨(List.replicate 32 (0 : Int)), (⟨(0 : Int), (0 : Int), [], (0 : Int), [], (List.replicate 32 (0 : Int)), (List.replicate 32 (0 : Int)), [], []⟩ : api_Op), []⟩ : api_Held)])) s26 rfl rfl (of_decide_eq_true rfl) (ob_new (k := k_api_Held) rfl zz91 (Zr.iso (f := t_api_Held) (x := (⟨(List.replicate 32 (0 : Int)), (⟨(0 : Int), (0 : Int), [], (0 : Int), [], (List.replicate 32 (0 : Int)), (List.replicate 32 (0 : Int)), [], []⟩ : api_Op), []⟩ : api_Held)) (Zr.pair (Zr.arr 32 (Zr.int .u8)) (Zr.pair (Zr.iso (f := t_api_Op) (x := (⟨(0 : Int), (0 : Int), [], (0 : Int), [], (List.replicate 32 (0 : Int)), (List.replicate 32 (0 : Int)), [], []⟩ : api_Op)) (Zr.pair (Zr.int .i64) (Zr.pair (Zr.int .u32) (Zr.pair (Zr.sl _) (Zr.pair (Zr.int .i64) (Zr.pair (Zr.sl _) (Zr.pair (Zr.arr 32 (Zr.int .u8)) (Zr.pair (Zr.arr 32 (Zr.int .u8)) (Zr.pair Zr.str (Zr.pair (Zr.sl _) Zr.nil)))))))))) (Zr.pair (Zr.sl _) Zr.nil))))) fun b1 a27 w27 s27 => ?_; clear s26
      refine seq_op s27 rfl rfl (of_decide_eq_true rfl) (ob_assign rfl (.tmp rfl)) fun a28 w28 s28 => ?_; clear s27
      refine seq_opx0 (B' := (fun _ : Unit => [BF b1 91 k_api_Held x1])) s28 rfl rfl (ob_store (A := []) rfl tk91 (.tmp rfl) (.tmp rfl) rfl (LS.refl _ _ _) rfl) fun _ a29 w29 s29 => ?_; clear s28
      refine wpList_nil ?_
      refine then_normal ?_
      refine hK12 _ _ ?_
      have s30 := s29.sub (.cons (t := 1) rfl (.cons (t := 2) rfl (.cons (t := 7) rfl (.cons (t := 8) rfl (.cons (t := 15) rfl (.cons (t := 16) rfl (.cons (t := 17) rfl .nil))))))); clear s29
      refine wp_seq_k fun K13 hK13 => ?_
      refine wp_region_lit ?_
      refine seq_op s30 rfl rfl (of_decide_eq_true rfl) (ob_move rfl (.tmp rfl)) fun a31 w31 s31 => ?_; clear s30
      refine seq_op s31 rfl rfl (of_decide_eq_true rfl) (ob_move rfl (.tmp rfl)) fun a32 w32 s32 => ?_; clear s31
      obtain ⟨x2, e_x2, h8⟩ := bind_some h7; clear h7
      refine seq_op s32 rfl rfl (of_decide_eq_true rfl) (ob_indexAddrs rfl Try.underlying85 sz91 (.tmp rfl) (.tmp rfl) e_x2) fun a33 w33 s33 => ?_; clear s32
      refine seq_op s33 rfl rfl (of_decide_eq_true rfl) (ob_loadr rfl tk91 (.tmp rfl)) fun a34 w34 s34 => ?_; clear s33
      refine seq_opx (B' := (fun b2 : Nat => [BF b2 91 k_api_Held (⟨(List.replicate 32 (0 : Int)), (⟨(0 : Int), (0 : Int), [], (0 : Int), [], (List.replicate 32 (0 : Int)), (List.replicate 32 (0 : Int)), [], []⟩ : api_Op), []⟩ : api_Held), BF b1 91 k_api_Held x1])) s34 rfl rfl (of_decide_eq_true rfl) (ob_new (k := k_api_Held) rfl zz91 (Zr.iso (f := t_api_Held) (x := (⟨(List.replicate 32 (0 : Int)), (⟨(0 : Int), (0 : Int), [], (0 : Int), [], (List.replicate 32 (0 : Int)), (List.replicate 32 (0 : Int)), [], []⟩ : api_Op), []⟩ : api_Held)) (Zr.pair (Zr.arr 32 (Zr.int .u8)) (Zr.pair (Zr.iso (f := t_api_Op) (x := (⟨(0 : Int), (0 : Int), [], (0 : Int), [], (List.replicate 32 (0 : Int)), (List.replicate 32 (0 : Int)), [], []⟩ : api_Op)) (Zr.pair (Zr.int .i64) (Zr.pair (Zr.int .u32) (Zr.pair (Zr.sl _) (Zr.pair (Zr.int .i64) (Zr.pair (Zr.sl _) (Zr.pair (Zr.arr 32 (Zr.int .u8)) (Zr.pair (Zr.arr 32 (Zr.int .u8)) (Zr.pair Zr.str (Zr.pair (Zr.sl _) Zr.nil)))))))))) (Zr.pair (Zr.sl _) Zr.nil))))) fun b2 a35 w35 s35 => ?_; clear s34
      refine seq_opx0 (B' := (fun _ : Unit => [BF b2 91 k_api_Held x2, BF b1 91 k_api_Held x1])) s35 rfl rfl (ob_store (A := []) rfl tk91 (.tmp rfl) (.tmp rfl) rfl (LS.refl _ _ _) rfl) fun _ a36 w36 s36 => ?_; clear s35
      refine wpList_nil ?_
      refine then_normal ?_
      refine hK13 _ _ ?_
      have s37 := s36.sub (.cons (t := 1) rfl (.cons (t := 2) rfl (.cons (t := 8) rfl (.cons (t := 9) rfl (.cons (t := 15) rfl (.cons (t := 16) rfl (.cons (t := 17) rfl .nil))))))); clear s36
      refine wp_seq_k fun K14 hK14 => ?_
      refine wp_region_lit ?_
      refine seq_op s37 rfl rfl (of_decide_eq_true rfl) (ob_move rfl (.tmp rfl)) fun a38 w38 s38 => ?_; clear s37
      refine seq_op s38 rfl rfl (of_decide_eq_true rfl) (ob_load rfl tk91 (.tmp rfl) (.tail _ (.head _)) (LG.refl _ _)) fun a39 w39 s39 => ?_; clear s38
      refine seq_op s39 rfl rfl (of_decide_eq_true rfl) (ob_load rfl tk91 (.tmp rfl) (.head _) (LG.refl _ _)) fun a40 w40 s40 => ?_; clear s39
      obtain ⟨x3, e_x3, h9⟩ := bind_some h8; clear h8
      refine seq_op s40 rfl rfl (of_decide_eq_true rfl) (ob_callD (args := [_, _]) rfl (.fn (.tmp rfl)) hb121 (fun a w s fs gs hf hg => by obtain rfl := hf.unnil; obtain rfl := hg.unnil; exact c_queue_Same_1 k _ _ _ e_x3 _ _ _ _ (s.arg (.tmp rfl)) (s.arg (.tmp rfl)))) fun a41 w41 s41 => ?_; clear s40
      refine seq_op s41 rfl rfl (of_decide_eq_true rfl) (ob_not rfl (.tmp rfl)) fun a42 w42 s42 => ?_; clear s41
      refine wpList_nil ?_
      refine then_normal ?_
      refine hK14 _ _ ?_
      have s43 := s42.sub (.cons (t := 1) rfl (.cons (t := 2) rfl (.cons (t := 15) rfl (.cons (t := 16) rfl (.cons (t := 17) rfl (.cons (t := 30) rfl .nil)))))); clear s42
      have s44 := St.drop (A := []) s43; clear s43
      have s45 := St.drop (A := []) s44; clear s44
      refine cond_split s45 (.tmp rfl) (fun hc3 => ?_) (fun hc3 => ?_)
      · replace h9 := ite_t hc3 h9
        have h10 := h9; clear h9
        refine wp_seq_k fun K15 hK15 => ?_
        refine wp_region_lit ?_
        refine seq_op s45 rfl rfl (of_decide_eq_true rfl) (ob_assign rfl opd_bool) fun a46 w46 s46 => ?_; clear s45
        refine wpList_nil ?_
        refine then_normal ?_
        refine hK15 _ _ ?_
        have s47 := s46.sub (.cons (t := 6) rfl .nil); clear s46
        refine wp_ret ?_
        obtain rfl := Option.some.inj h10
        exact leave s47 (.inl rfl) rfl (.cons (.tmp rfl) .nil)
      · replace h9 := ite_f hc3 h9
        have h11 := h9; clear h9
        refine wp_skip ?_
        refine in_normal ?_
        refine then_normal ?_
        refine hK11 _ _ ?_
        have s48 := s45.sub (.cons (t := 1) rfl (.cons (t := 2) rfl (.cons (t := 15) rfl (.cons (t := 16) rfl (.cons (t := 17) rfl .nil))))); clear s45
        refine wp_region_lit ?_
        refine seq_op s48 rfl rfl (of_decide_eq_true rfl) (ob_add rfl (.tmp rfl) (opd_int rfl)) fun a49 w49 s49 => ?_; clear s48
        refine seq_op s49 rfl rfl (of_decide_eq_true rfl) (ob_move rfl (.tmp rfl)) fun a50 w50 s50 => ?_; clear s49
        refine wpList_nil ?_
        refine then_normal ?_
        exact hK8 (iadd .i64 y1 (1 : Int)) _ _ h11 (s50.sub (.cons rfl (.cons rfl (.cons rfl (.cons rfl (.cons rfl .nil))))))
    · replace h5 := ite_f hc2 h5
      have h12 := h5; clear h5
      refine wp_exit ?_
      refine (then_exit (then_exit (in_here ?_)))
      refine then_normal ?_
      exact hj1 _ _ h12 (s22.sub .nil)

/- 74 cabal/queue.Same -/
theorem c_queue_Same (k : Nat) (p1 : (List api_Held)) (p2 : (List api_Held)) (r : Bool) (h0 : queue_Same k p1 p2 = some r) (ok : Ok) (w0 : World) (z0 : Value) (z1 : Value) (u0 : ((ksl k_api_Held).V p1).holds ok w0 z0) (u1 : ((ksl k_api_Held).V p2).holds ok w0 z1) :
    Gives Try.prog 74 [z0, z1] ok w0 (resFact [kbool.V r]) := by
  unfold queue_Same at h0
  refine enter (N := 8) Try.func74 rfl rfl (of_decide_eq_true rfl) (.cons u0 (.cons u1 .nil)) fun a1 s1 => ?_
  refine wp_seq_k fun K1 hK1 => ?_
  refine wp_region_lit ?_
  refine seq_op s1 rfl rfl (of_decide_eq_true rfl) (ob_assign rfl opd_bool) fun a2 w2 s2 => ?_; clear s1
  refine wpList_nil ?_
  refine then_normal ?_
  refine hK1 _ _ ?_
  have s3 := s2.sub (.cons (t := 0) rfl (.cons (t := 1) rfl .nil)); clear s2
  refine wp_seq_k fun K2 hK2 => ?_
  refine wp_region_lit ?_
  refine seq_op s3 rfl rfl (of_decide_eq_true rfl) (ob_move rfl (.tmp rfl)) fun a4 w4 s4 => ?_; clear s3
  refine seq_op s4 rfl rfl (of_decide_eq_true rfl) (ob_move rfl (.tmp rfl)) fun a5 w5 s5 => ?_; clear s4
  obtain ⟨x1, e_x1, h1⟩ := bind_some h0; clear h0
  refine seq_op s5 rfl rfl (of_decide_eq_true rfl) (ob_callD (args := [_, _, _]) rfl .direct hb120 (fun a w s fs gs hf hg => by obtain rfl := hf.unnil; obtain rfl := hg.unnil; exact c_slices_EqualFunc_api_Held_api_Held_api_Held_api_Held_queue_Same_1 k _ _ _ e_x1 _ _ _ _ _ (s.arg (.tmp rfl)) (s.arg (.tmp rfl)) (s.arg .func))) fun a6 w6 s6 => ?_; clear s5
  refine seq_op s6 rfl rfl (of_decide_eq_true rfl) (ob_assign rfl (.tmp rfl)) fun a7 w7 s7 => ?_; clear s6
  refine wpList_nil ?_
  refine then_normal ?_
  refine hK2 _ _ ?_
  have s8 := s7.sub (.cons (t := 4) rfl .nil); clear s7
  refine wp_ret ?_
  obtain rfl := Option.some.inj h1
  exact leave s8 (.inl rfl) rfl (.cons (.tmp rfl) .nil)

/- 103 cabal/cabalref11.SameOp -/
theorem c_cabalref11_SameOp (k : Nat) (p1 : api_Op) (p2 : api_Op) (r : Bool) (h0 : cabalref11_SameOp k p1 p2 = some r) (ok : Ok) (w0 : World) (z0 : Value) (z1 : Value) (u0 : (k_api_Op.V p1).holds ok w0 z0) (u1 : (k_api_Op.V p2).holds ok w0 z1) :
    Gives Try.prog 103 [z0, z1] ok w0 (resFact [kbool.V r]) := by
  unfold cabalref11_SameOp at h0
  refine enter (N := 129) Try.func103 rfl rfl (of_decide_eq_true rfl) (.cons u0 (.cons u1 .nil)) fun a1 s1 => ?_
  refine wp_seq_k fun K1 hK1 => ?_
  refine wp_region_lit ?_
  refine seq_opx (B' := (fun b1 : Nat => [BF b1 44 k_api_Op p1])) s1 rfl rfl (of_decide_eq_true rfl) (ob_box rfl (.tmp rfl)) fun b1 a2 w2 s2 => ?_; clear s1
  refine seq_opx (B' := (fun b2 : Nat => [BF b2 44 k_api_Op p2, BF b1 44 k_api_Op p1])) s2 rfl rfl (of_decide_eq_true rfl) (ob_box rfl (.tmp rfl)) fun b2 a3 w3 s3 => ?_; clear s2
  refine seq_op s3 rfl rfl (of_decide_eq_true rfl) (ob_assign rfl opd_bool) fun a4 w4 s4 => ?_; clear s3
  refine wpList_nil ?_
  refine then_normal ?_
  refine hK1 _ _ ?_
  have s5 := s4.sub (.cons (t := 2) rfl (.cons (t := 3) rfl .nil)); clear s4
  refine wp_seq_k fun K2 hK2 => ?_
  refine wp_seq_k fun K3 hK3 => ?_
  refine wp_region_lit ?_
  refine seq_op s5 rfl rfl (of_decide_eq_true rfl) (ob_fieldAddr (off' := 0) rfl Try.underlying44 rfl sz3 (by decide) (.tmp rfl) rfl) fun a6 w6 s6 => ?_; clear s5
  refine seq_op s6 rfl rfl (of_decide_eq_true rfl) (ob_load rfl tk3 (.tmp rfl) (.tail _ (.head _)) (lg_api_Op_Author p1)) fun a7 w7 s7 => ?_; clear s6
  refine seq_op s7 rfl rfl (of_decide_eq_true rfl) (ob_fieldAddr (off' := 0) rfl Try.underlying44 rfl sz3 (by decide) (.tmp rfl) rfl) fun a8 w8 s8 => ?_; clear s7
  refine seq_op s8 rfl rfl (of_decide_eq_true rfl) (ob_load rfl tk3 (.tmp rfl) (.head _) (lg_api_Op_Author p2)) fun a9 w9 s9 => ?_; clear s8
  refine seq_op s9 rfl rfl (of_decide_eq_true rfl) (ob_neq rfl (.tmp rfl) (.tmp rfl)) fun a10 w10 s10 => ?_; clear s9
  refine seq_op s10 rfl rfl (of_decide_eq_true rfl) (ob_move rfl (.tmp rfl)) fun a11 w11 s11 => ?_; clear s10
  refine seq_opg s11 rfl rfl rfl rfl (of_decide_eq_true rfl) (fun hb => ob_fieldAddr (off' := 1) rfl Try.underlying44 rfl sz25 (by decide) (.tmp rfl) rfl) fun a12 w12 s12 => ?_; clear s11
  refine seq_opg s12 rfl rfl rfl rfl (of_decide_eq_true rfl) (fun hb => (Ob.uncond (t := 14) hb rfl (ob_load rfl tk25 (.tmp rfl) (.tail _ (.head _)) (lg_api_Op_Seq p1)))) fun a13 w13 s13 => ?_; clear s12
  refine seq_opg s13 rfl rfl rfl rfl (of_decide_eq_true rfl) (fun hb => ob_fieldAddr (off' := 1) rfl Try.underlying44 rfl sz25 (by decide) (.tmp rfl) rfl) fun a14 w14 s14 => ?_; clear s13
  refine seq_opg s14 rfl rfl rfl rfl (of_decide_eq_true rfl) (fun hb => (Ob.uncond (t := 16) hb rfl (ob_load rfl tk25 (.tmp rfl) (.head _) (lg_api_Op_Seq p2)))) fun a15 w15 s15 => ?_; clear s14
  refine seq_opg s15 rfl rfl rfl rfl (of_decide_eq_true rfl) (fun hb => (Ob.uncond (t := 17) hb rfl ((Ob.uncond (t := 15) hb rfl (ob_neq rfl (.tmp rfl) (.tmp rfl)))))) fun a16 w16 s16 => ?_; clear s15
  refine seq_op s16 rfl rfl (of_decide_eq_true rfl) (ob_or2 rfl (.tmp rfl) opd_bool (.tmp rfl)) fun a17 w17 s17 => ?_; clear s16
  refine seq_op s17 rfl rfl (of_decide_eq_true rfl) (ob_move rfl (.tmp rfl)) fun a18 w18 s18 => ?_; clear s17
  refine seq_opg s18 rfl rfl rfl rfl (of_decide_eq_true rfl) (fun hb => ob_fieldAddr (off' := 3) rfl Try.underlying44 rfl sz3 (by decide) (.tmp rfl) rfl) fun a19 w19 s19 => ?_; clear s18
  refine seq_opg s19 rfl rfl rfl rfl (of_decide_eq_true rfl) (fun hb => (Ob.uncond (t := 21) hb rfl (ob_load rfl tk3 (.tmp rfl) (.tail _ (.head _)) (lg_api_Op_Kind p1)))) fun a20 w20 s20 => ?_; clear s19
  refine seq_opg s20 rfl rfl rfl rfl (of_decide_eq_true rfl) (fun hb => ob_fieldAddr (off' := 3) rfl Try.underlying44 rfl sz3 (by decide) (.tmp rfl) rfl) fun a21 w21 s21 => ?_; clear s20
  refine seq_opg s21 rfl rfl rfl rfl (of_decide_eq_true rfl) (fun hb => (Ob.uncond (t := 23) hb rfl (ob_load rfl tk3 (.tmp rfl) (.head _) (lg_api_Op_Kind p2)))) fun a22 w22 s22 => ?_; clear s21
  refine seq_opg s22 rfl rfl rfl rfl (of_decide_eq_true rfl) (fun hb => (Ob.uncond (t := 24) hb rfl ((Ob.uncond (t := 22) hb rfl (ob_neq rfl (.tmp rfl) (.tmp rfl)))))) fun a23 w23 s23 => ?_; clear s22
  obtain ⟨x1, e_x1, h1⟩ := bind_some h0; clear h0; replace e_x1 := Option.some.inj e_x1
  refine seq_op s23 rfl rfl (of_decide_eq_true rfl) ((ob_or2 rfl (.tmp rfl) opd_bool (.tmp rfl)).nm e_x1) fun a24 w24 s24 => ?_; clear s23
  refine seq_op s24 rfl rfl (of_decide_eq_true rfl) (ob_move rfl (.tmp rfl)) fun a25 w25 s25 => ?_; clear s24
  refine seq_opg s25 rfl rfl rfl rfl (of_decide_eq_true rfl) (fun hb => ob_fieldAddr (off' := 5) rfl Try.underlying44 rfl sz39 (by decide) (.tmp rfl) rfl) fun a26 w26 s26 => ?_; clear s25
  refine seq_opg s26 rfl rfl rfl rfl (of_decide_eq_true rfl) (fun hb => (Ob.uncond (t := 28) hb rfl (ob_load rfl tk39 (.tmp rfl) (.tail _ (.head _)) (lg_api_Op_Of p1)))) fun a27 w27 s27 => ?_; clear s26
  refine seq_opg s27 rfl rfl rfl rfl (of_decide_eq_true rfl) (fun hb => ob_fieldAddr (off' := 5) rfl Try.underlying44 rfl sz39 (by decide) (.tmp rfl) rfl) fun a28 w28 s28 => ?_; clear s27
  refine seq_opg s28 rfl rfl rfl rfl (of_decide_eq_true rfl) (fun hb => (Ob.uncond (t := 30) hb rfl (ob_load rfl tk39 (.tmp rfl) (.head _) (lg_api_Op_Of p2)))) fun a29 w29 s29 => ?_; clear s28
  refine seq_opg s29 rfl rfl rfl rfl (of_decide_eq_true rfl) (fun hb => (Ob.uncond (t := 31) hb rfl ((Ob.uncond (t := 29) hb rfl (ob_neqAgg rfl rfl (by kernel_rfl) eq39 (by decide) (.tmp rfl) (.tmp rfl)))))) fun a30 w30 s30 => ?_; clear s29
  refine seq_op s30 rfl rfl (of_decide_eq_true rfl) (ob_or2 rfl (.tmp rfl) opd_bool (.tmp rfl)) fun a31 w31 s31 => ?_; clear s30
  refine seq_op s31 rfl rfl (of_decide_eq_true rfl) (ob_move rfl (.tmp rfl)) fun a32 w32 s32 => ?_; clear s31
  refine seq_opg s32 rfl rfl rfl rfl (of_decide_eq_true rfl) (fun hb => ob_fieldAddr (off' := 37) rfl Try.underlying44 rfl sz39 (by decide) (.tmp rfl) rfl) fun a33 w33 s33 => ?_; clear s32
  refine seq_opg s33 rfl rfl rfl rfl (of_decide_eq_true rfl) (fun hb => (Ob.uncond (t := 35) hb rfl (ob_load rfl tk39 (.tmp rfl) (.tail _ (.head _)) (lg_api_Op_Check p1)))) fun a34 w34 s34 => ?_; clear s33
  refine seq_opg s34 rfl rfl rfl rfl (of_decide_eq_true rfl) (fun hb => ob_fieldAddr (off' := 37) rfl Try.underlying44 rfl sz39 (by decide) (.tmp rfl) rfl) fun a35 w35 s35 => ?_; clear s34
  refine seq_opg s35 rfl rfl rfl rfl (of_decide_eq_true rfl) (fun hb => (Ob.uncond (t := 37) hb rfl (ob_load rfl tk39 (.tmp rfl) (.head _) (lg_api_Op_Check p2)))) fun a36 w36 s36 => ?_; clear s35
  refine seq_opg s36 rfl rfl rfl rfl (of_decide_eq_true rfl) (fun hb => (Ob.uncond (t := 38) hb rfl ((Ob.uncond (t := 36) hb rfl (ob_neqAgg rfl rfl (by kernel_rfl) eq39 (by decide) (.tmp rfl) (.tmp rfl)))))) fun a37 w37 s37 => ?_; clear s36
  obtain ⟨x2, e_x2, h2⟩ := bind_some h1; clear h1; replace e_x2 := Option.some.inj e_x2
  refine seq_op s37 rfl rfl (of_decide_eq_true rfl) ((ob_or2 rfl (.tmp rfl) opd_bool (.tmp rfl)).nm e_x2) fun a38 w38 s38 => ?_; clear s37
  refine seq_op s38 rfl rfl (of_decide_eq_true rfl) (ob_move rfl (.tmp rfl)) fun a39 w39 s39 => ?_; clear s38
  refine seq_opg s39 rfl rfl rfl rfl (of_decide_eq_true rfl) (fun hb => ob_fieldAddr (off' := 69) rfl Try.underlying44 rfl sz9 (by decide) (.tmp rfl) rfl) fun a40 w40 s40 => ?_; clear s39
  refine seq_opg s40 rfl rfl rfl rfl (of_decide_eq_true rfl) (fun hb => (Ob.uncond (t := 42) hb rfl (ob_load rfl tk9 (.tmp rfl) (.tail _ (.head _)) (lg_api_Op_Text p1)))) fun a41 w41 s41 => ?_; clear s40
  refine seq_opg s41 rfl rfl rfl rfl (of_decide_eq_true rfl) (fun hb => ob_fieldAddr (off' := 69) rfl Try.underlying44 rfl sz9 (by decide) (.tmp rfl) rfl) fun a42 w42 s42 => ?_; clear s41
  refine seq_opg s42 rfl rfl rfl rfl (of_decide_eq_true rfl) (fun hb => (Ob.uncond (t := 44) hb rfl (ob_load rfl tk9 (.tmp rfl) (.head _) (lg_api_Op_Text p2)))) fun a43 w43 s43 => ?_; clear s42
  refine seq_opg s43 rfl rfl rfl rfl (of_decide_eq_true rfl) (fun hb => (Ob.uncond (t := 45) hb rfl ((Ob.uncond (t := 43) hb rfl (ob_sneq rfl (.tmp rfl) (.tmp rfl)))))) fun a44 w44 s44 => ?_; clear s43
  refine seq_op s44 rfl rfl (of_decide_eq_true rfl) (ob_or2 rfl (.tmp rfl) opd_bool (.tmp rfl)) fun a45 w45 s45 => ?_; clear s44
  refine seq_op s45 rfl rfl (of_decide_eq_true rfl) (ob_move rfl (.tmp rfl)) fun a46 w46 s46 => ?_; clear s45
  refine seq_opg s46 rfl rfl rfl rfl (of_decide_eq_true rfl) (fun hb => ob_fieldAddr (off' := 2) rfl Try.underlying44 rfl sz40 (by decide) (.tmp rfl) rfl) fun a47 w47 s47 => ?_; clear s46
  refine seq_opg s47 rfl rfl rfl rfl (of_decide_eq_true rfl) (fun hb => (Ob.uncond (t := 49) hb rfl (ob_load rfl tk40 (.tmp rfl) (.tail _ (.head _)) (lg_api_Op_Parents p1)))) fun a48 w48 s48 => ?_; clear s47
  refine seq_opg s48 rfl rfl rfl rfl (of_decide_eq_true rfl) (fun hb => (Ob.uncond (t := 50) hb rfl (ob_lens rfl Try.underlying40 (.tmp rfl)))) fun a49 w49 s49 => ?_; clear s48
  refine seq_opg s49 rfl rfl rfl rfl (of_decide_eq_true rfl) (fun hb => ob_fieldAddr (off' := 2) rfl Try.underlying44 rfl sz40 (by decide) (.tmp rfl) rfl) fun a50 w50 s50 => ?_; clear s49
  refine seq_opg s50 rfl rfl rfl rfl (of_decide_eq_true rfl) (fun hb => (Ob.uncond (t := 52) hb rfl (ob_load rfl tk40 (.tmp rfl) (.head _) (lg_api_Op_Parents p2)))) fun a51 w51 s51 => ?_; clear s50
  refine seq_opg s51 rfl rfl rfl rfl (of_decide_eq_true rfl) (fun hb => (Ob.uncond (t := 53) hb rfl (ob_lens rfl Try.underlying40 (.tmp rfl)))) fun a52 w52 s52 => ?_; clear s51
  refine seq_opg s52 rfl rfl rfl rfl (of_decide_eq_true rfl) (fun hb => (Ob.uncond (t := 54) hb rfl ((Ob.uncond (t := 51) hb rfl (ob_neq rfl (.tmp rfl) (.tmp rfl)))))) fun a53 w53 s53 => ?_; clear s52
  obtain ⟨x3, e_x3, h3⟩ := bind_some h2; clear h2; replace e_x3 := Option.some.inj e_x3
  refine seq_op s53 rfl rfl (of_decide_eq_true rfl) ((ob_or2 rfl (.tmp rfl) opd_bool (.tmp rfl)).nm e_x3) fun a54 w54 s54 => ?_; clear s53
  refine seq_op s54 rfl rfl (of_decide_eq_true rfl) (ob_move rfl (.tmp rfl)) fun a55 w55 s55 => ?_; clear s54
  refine seq_opg s55 rfl rfl rfl rfl (of_decide_eq_true rfl) (fun hb => ob_fieldAddr (off' := 4) rfl Try.underlying44 rfl sz41 (by decide) (.tmp rfl) rfl) fun a56 w56 s56 => ?_; clear s55
  refine seq_opg s56 rfl rfl rfl rfl (of_decide_eq_true rfl) (fun hb => (Ob.uncond (t := 58) hb rfl (ob_load rfl tk41 (.tmp rfl) (.tail _ (.head _)) (lg_api_Op_Who p1)))) fun a57 w57 s57 => ?_; clear s56
  refine seq_opg s57 rfl rfl rfl rfl (of_decide_eq_true rfl) (fun hb => (Ob.uncond (t := 59) hb rfl (ob_lens rfl Try.underlying41 (.tmp rfl)))) fun a58 w58 s58 => ?_; clear s57
  refine seq_opg s58 rfl rfl rfl rfl (of_decide_eq_true rfl) (fun hb => ob_fieldAddr (off' := 4) rfl Try.underlying44 rfl sz41 (by decide) (.tmp rfl) rfl) fun a59 w59 s59 => ?_; clear s58
  refine seq_opg s59 rfl rfl rfl rfl (of_decide_eq_true rfl) (fun hb => (Ob.uncond (t := 61) hb rfl (ob_load rfl tk41 (.tmp rfl) (.head _) (lg_api_Op_Who p2)))) fun a60 w60 s60 => ?_; clear s59
  refine seq_opg s60 rfl rfl rfl rfl (of_decide_eq_true rfl) (fun hb => (Ob.uncond (t := 62) hb rfl (ob_lens rfl Try.underlying41 (.tmp rfl)))) fun a61 w61 s61 => ?_; clear s60
  refine seq_opg s61 rfl rfl rfl rfl (of_decide_eq_true rfl) (fun hb => (Ob.uncond (t := 63) hb rfl ((Ob.uncond (t := 60) hb rfl (ob_neq rfl (.tmp rfl) (.tmp rfl)))))) fun a62 w62 s62 => ?_; clear s61
  obtain ⟨x4, e_x4, h4⟩ := bind_some h3; clear h3; replace e_x4 := Option.some.inj e_x4
  refine seq_op s62 rfl rfl (of_decide_eq_true rfl) ((ob_or2 rfl (.tmp rfl) opd_bool (.tmp rfl)).nm e_x4) fun a63 w63 s63 => ?_; clear s62
  refine seq_op s63 rfl rfl (of_decide_eq_true rfl) (ob_move rfl (.tmp rfl)) fun a64 w64 s64 => ?_; clear s63
  refine seq_opg s64 rfl rfl rfl rfl (of_decide_eq_true rfl) (fun hb => ob_fieldAddr (off' := 70) rfl Try.underlying44 rfl sz42 (by decide) (.tmp rfl) rfl) fun a65 w65 s65 => ?_; clear s64
  refine seq_opg s65 rfl rfl rfl rfl (of_decide_eq_true rfl) (fun hb => (Ob.uncond (t := 67) hb rfl (ob_load rfl tk42 (.tmp rfl) (.tail _ (.head _)) (lg_api_Op_Boxes p1)))) fun a66 w66 s66 => ?_; clear s65
  refine seq_opg s66 rfl rfl rfl rfl (of_decide_eq_true rfl) (fun hb => (Ob.uncond (t := 68) hb rfl (ob_lens rfl Try.underlying42 (.tmp rfl)))) fun a67 w67 s67 => ?_; clear s66
  refine seq_opg s67 rfl rfl rfl rfl (of_decide_eq_true rfl) (fun hb => ob_fieldAddr (off' := 70) rfl Try.underlying44 rfl sz42 (by decide) (.tmp rfl) rfl) fun a68 w68 s68 => ?_; clear s67
  refine seq_opg s68 rfl rfl rfl rfl (of_decide_eq_true rfl) (fun hb => (Ob.uncond (t := 70) hb rfl (ob_load rfl tk42 (.tmp rfl) (.head _) (lg_api_Op_Boxes p2)))) fun a69 w69 s69 => ?_; clear s68
  refine seq_opg s69 rfl rfl rfl rfl (of_decide_eq_true rfl) (fun hb => (Ob.uncond (t := 71) hb rfl (ob_lens rfl Try.underlying42 (.tmp rfl)))) fun a70 w70 s70 => ?_; clear s69
  refine seq_opg s70 rfl rfl rfl rfl (of_decide_eq_true rfl) (fun hb => (Ob.uncond (t := 72) hb rfl ((Ob.uncond (t := 69) hb rfl (ob_neq rfl (.tmp rfl) (.tmp rfl)))))) fun a71 w71 s71 => ?_; clear s70
  obtain ⟨x5, e_x5, h5⟩ := bind_some h4; clear h4; replace e_x5 := Option.some.inj e_x5
  refine seq_op s71 rfl rfl (of_decide_eq_true rfl) ((ob_or2 rfl (.tmp rfl) opd_bool (.tmp rfl)).nm e_x5) fun a72 w72 s72 => ?_; clear s71
  refine wpList_nil ?_
  refine then_normal ?_
  refine hK3 _ _ ?_
  have s73 := s72.sub (.cons (t := 2) rfl (.cons (t := 3) rfl (.cons (t := 74) rfl .nil))); clear s72
  refine cond_split s73 (.tmp rfl) (fun hc1 => ?_) (fun hc1 => ?_)
  · replace h5 := ite_t hc1 h5
    have h6 := h5; clear h5
    refine wp_seq_k fun K4 hK4 => ?_
    refine wp_region_lit ?_
    refine seq_op s73 rfl rfl (of_decide_eq_true rfl) (ob_assign rfl opd_bool) fun a74 w74 s74 => ?_; clear s73
    refine wpList_nil ?_
    refine then_normal ?_
    refine hK4 _ _ ?_
    have s75 := s74.sub (.cons (t := 4) rfl .nil); clear s74
    have s76 := St.drop (A := []) s75; clear s75
    have s77 := St.drop (A := []) s76; clear s76
    refine wp_ret ?_
    obtain rfl := Option.some.inj h6
    exact leave s77 (.inl rfl) rfl (.cons (.tmp rfl) .nil)
  · replace h5 := ite_f hc1 h5
    have h7 := h5; clear h5
    refine wp_skip ?_
    refine then_normal ?_
    refine hK2 _ _ ?_
    have s78 := s73.sub (.cons (t := 2) rfl (.cons (t := 3) rfl .nil)); clear s73
    refine wp_seq_k fun K5 hK5 => ?_
    refine wp_seq_k fun K6 hK6 => ?_
    refine wp_region_lit ?_
    refine seq_op s78 rfl rfl (of_decide_eq_true rfl) (ob_assign rfl (opd_int rfl)) fun a79 w79 s79 => ?_; clear s78
    refine wpList_nil ?_
    refine then_normal ?_
    refine hK6 _ _ ?_
    have s80 := s79.sub (.cons (t := 2) rfl (.cons (t := 3) rfl (.cons (t := 5) rfl .nil))); clear s79
    have hj1 : ∀ (a : Act) (w : World), (cabalref11_SameOp.j1 k p1 p2) = some r → St ⟨129, w0, ok, []⟩ [BF b1 44 k_api_Op p1, BF b2 44 k_api_Op p2] [(2, (ptrB b1 0)), (3, (ptrB b2 0))] a w → K5 a w := by
      intro a81 w81 h8 s81
      unfold cabalref11_SameOp.j1 at h8
      refine hK5 _ _ ?_
      refine wp_seq_k fun K7 hK7 => ?_
      refine wp_seq_k fun K8 hK8 => ?_
      refine wp_region_lit ?_
      refine seq_op s81 rfl rfl (of_decide_eq_true rfl) (ob_assign rfl (opd_int rfl)) fun a82 w82 s82 => ?_; clear s81
      refine wpList_nil ?_
      refine then_normal ?_
      refine hK8 _ _ ?_
      have s83 := s82.sub (.cons (t := 2) rfl (.cons (t := 3) rfl (.cons (t := 6) rfl .nil))); clear s82
      have hj2 : ∀ (a : Act) (w : World), (cabalref11_SameOp.j2 k p1 p2) = some r → St ⟨129, w0, ok, []⟩ [BF b1 44 k_api_Op p1, BF b2 44 k_api_Op p2] [(2, (ptrB b1 0)), (3, (ptrB b2 0))] a w → K7 a w := by
        intro a84 w84 h9 s84
        unfold cabalref11_SameOp.j2 at h9
        refine hK7 _ _ ?_
        refine wp_seq_k fun K9 hK9 => ?_
        refine wp_seq_k fun K10 hK10 => ?_
        refine wp_region_lit ?_
        refine seq_op s84 rfl rfl (of_decide_eq_true rfl) (ob_assign rfl (opd_int rfl)) fun a85 w85 s85 => ?_; clear s84
        refine wpList_nil ?_
        refine then_normal ?_
        refine hK10 _ _ ?_
        have s86 := s85.sub (.cons (t := 2) rfl (.cons (t := 3) rfl (.cons (t := 7) rfl .nil))); clear s85
        have hj3 : ∀ (a : Act) (w : World), (cabalref11_SameOp.j3 k) = some r → St ⟨129, w0, ok, []⟩ [] [] a w → K9 a w := by
          intro a87 w87 h10 s87
          unfold cabalref11_SameOp.j3 at h10
          refine hK9 _ _ ?_
          refine wp_seq_k fun K11 hK11 => ?_
          refine wp_region_lit ?_
          refine seq_op s87 rfl rfl (of_decide_eq_true rfl) (ob_assign rfl opd_bool) fun a88 w88 s88 => ?_; clear s87
          refine wpList_nil ?_
          refine then_normal ?_
          refine hK11 _ _ ?_
          have s89 := s88.sub (.cons (t := 4) rfl .nil); clear s88
          refine wp_ret ?_
          obtain rfl := Option.some.inj h10
          exact leave s89 (.inl rfl) rfl (.cons (.tmp rfl) .nil)
        refine wp_block ?_
        refine wp_loop_fuel (fun m (q : Int) => cabalref11_SameOp.l1 k p1 p2 m q) r (fun _ => rfl) (fun q a w => St ⟨129, w0, ok, []⟩ [BF b1 44 k_api_Op p1, BF b2 44 k_api_Op p2] [(2, (ptrB b1 0)), (3, (ptrB b2 0)), (7, ((kint .i64).V q))] a w) ?_ k (0 : Int) _ _ h9 (s86.sub (.cons rfl (.cons rfl (.cons rfl .nil))))
        rintro n1 y1 a90 w90 h11 s90 K12 hK12
        replace h11 : cabalref11_SameOp.l1 k p1 p2 (n1 + 1) y1 = some r := h11; rw [cabalref11_SameOp.l1] at h11
        have h12 := h11; clear h11
        refine wp_seq_k fun K13 hK13 => ?_
        refine wp_seq_k fun K14 hK14 => ?_
        refine wp_region_lit ?_
        refine seq_op s90 rfl rfl (of_decide_eq_true rfl) (ob_move rfl (.tmp rfl)) fun a91 w91 s91 => ?_; clear s90
        refine seq_op s91 rfl rfl (of_decide_eq_true rfl) (ob_fieldAddr (off' := 70) rfl Try.underlying44 rfl sz42 (by decide) (.tmp rfl) rfl) fun a92 w92 s92 => ?_; clear s91
        refine seq_op s92 rfl rfl (of_decide_eq_true rfl) (ob_load rfl tk42 (.tmp rfl) (.head _) (lg_api_Op_Boxes p1)) fun a93 w93 s93 => ?_; clear s92
        refine seq_op s93 rfl rfl (of_decide_eq_true rfl) (ob_lens rfl Try.underlying42 (.tmp rfl)) fun a94 w94 s94 => ?_; clear s93
        refine seq_op s94 rfl rfl (of_decide_eq_true rfl) (ob_lss rfl (.tmp rfl) (.tmp rfl)) fun a95 w95 s95 => ?_; clear s94
        refine wpList_nil ?_
        refine then_normal ?_
        refine hK14 _ _ ?_
        have s96 := s95.sub (.cons (t := 2) rfl (.cons (t := 3) rfl (.cons (t := 7) rfl (.cons (t := 115) rfl .nil)))); clear s95
        refine cond_split s96 (.tmp rfl) (fun hc2 => ?_) (fun hc2 => ?_)
        · replace h12 := ite_t hc2 h12
          have h13 := h12; clear h12
          refine wp_skip ?_
          refine then_normal ?_
          refine hK13 _ _ ?_
          have s97 := s96.sub (.cons (t := 2) rfl (.cons (t := 3) rfl (.cons (t := 7) rfl .nil))); clear s96
          refine wp_seq_k fun K15 hK15 => ?_
          refine wp_block ?_
          refine wp_seq_k fun K16 hK16 => ?_
          obtain ⟨x6, e_x6, h14⟩ := bind_some h13; clear h13
          obtain ⟨x7, e_x7, h15⟩ := bind_some h14; clear h14
          refine wp_goes (Fs := [(ptrB b1 70), ((ksl k_api_Box).V p1.Boxes), ((kint .i64).V y1), (ptrTo k_api_Box x6), (k_api_Box.V x6), (ptrB b2 70), ((ksl k_api_Box).V p2.Boxes), ((kint .i64).V y1), (ptrTo k_api_Box x7), (k_api_Box.V x7)]) (bits := [0, 1, 0, 7, 15, 0, 32, 0, 224, 480, 1023]) (m := 10) (todo := 0) mx s97 ?_; clear s97
          refine goes_last (by kernel_rfl) rfl (opsS_cons (.plain _ (Av.old (t := 2) rfl rfl Av.nil) rfl rfl (ob_fieldAddr (off' := 70) rfl Try.underlying44 rfl sz42 (by decide) (.tmp rfl) rfl)) (opsS_cons (.plain _ (Av.new (j := 0) rfl rfl rfl Av.nil) rfl rfl (ob_load rfl tk42 (.tmp rfl) (.head _) (lg_api_Op_Boxes p1))) (opsS_cons (.plain _ (Av.old (t := 7) rfl rfl Av.nil) rfl rfl (ob_move rfl (.tmp rfl))) (opsS_cons (.plain _ (Av.new (j := 1) rfl rfl rfl (Av.new (j := 2) rfl rfl rfl Av.nil)) rfl rfl (ob_indexAddrs rfl Try.underlying42 sz78 (.tmp rfl) (.tmp rfl) e_x6)) (opsS_cons (.plain _ (Av.new (j := 3) rfl rfl rfl Av.nil) rfl rfl (ob_loadr rfl tk78 (.tmp rfl))) (opsS_cons (.plain _ (Av.old (t := 3) rfl rfl Av.nil) rfl rfl (ob_fieldAddr (off' := 70) rfl Try.underlying44 rfl sz42 (by decide) (.tmp rfl) rfl)) (opsS_cons (.plain _ (Av.new (j := 5) rfl rfl rfl Av.nil) rfl rfl (ob_load rfl tk42 (.tmp rfl) (.tail _ (.head _)) (lg_api_Op_Boxes p2))) (opsS_cons (.plain _ (Av.old (t := 7) rfl rfl Av.nil) rfl rfl (ob_move rfl (.tmp rfl))) (opsS_cons (.plain _ (Av.new (j := 6) rfl rfl rfl (Av.new (j := 7) rfl rfl rfl Av.nil)) rfl rfl (ob_indexAddrs rfl Try.underlying42 sz78 (.tmp rfl) (.tmp rfl) e_x7)) (opsS_cons (.plain _ (Av.new (j := 8) rfl rfl rfl Av.nil) rfl rfl (ob_loadr rfl tk78 (.tmp rfl))) opsS_nil)))))))))) (out_old (t := 2) rfl rfl (out_old (t := 3) rfl rfl (out_old (t := 7) rfl rfl (out_new (i := 4) (by decide) rfl rfl (out_new (i := 9) (by decide) rfl rfl out_nil))))) fun a98 w98 s98 => ?_
          refine seq_op s98 rfl rfl (of_decide_eq_true rfl) (ob_neqAgg rfl rfl (by kernel_rfl) eq78 (by decide) (.tmp rfl) (.tmp rfl)) fun a99 w99 s99 => ?_; clear s98
          refine wpList_nil ?_
          refine then_normal ?_
          refine hK16 _ _ ?_
          have s100 := s99.sub (.cons (t := 2) rfl (.cons (t := 3) rfl (.cons (t := 7) rfl (.cons (t := 128) rfl .nil)))); clear s99
          refine cond_split s100 (.tmp rfl) (fun hc3 => ?_) (fun hc3 => ?_)
          · replace h15 := ite_t hc3 h15
            have h16 := h15; clear h15
            refine wp_seq_k fun K17 hK17 => ?_
            refine wp_region_lit ?_
            refine seq_op s100 rfl rfl (of_decide_eq_true rfl) (ob_assign rfl opd_bool) fun a101 w101 s101 => ?_; clear s100
            refine wpList_nil ?_
            refine then_normal ?_
            refine hK17 _ _ ?_
            have s102 := s101.sub (.cons (t := 4) rfl .nil); clear s101
            have s103 := St.drop (A := []) s102; clear s102
            have s104 := St.drop (A := []) s103; clear s103
            refine wp_ret ?_
            obtain rfl := Option.some.inj h16
            exact leave s104 (.inl rfl) rfl (.cons (.tmp rfl) .nil)
          · replace h15 := ite_f hc3 h15
            have h17 := h15; clear h15
            refine wp_skip ?_
            refine in_normal ?_
            refine then_normal ?_
            refine hK15 _ _ ?_
            have s105 := s100.sub (.cons (t := 2) rfl (.cons (t := 3) rfl (.cons (t := 7) rfl .nil))); clear s100
            refine wp_region_lit ?_
            refine seq_op s105 rfl rfl (of_decide_eq_true rfl) (ob_move rfl (.tmp rfl)) fun a106 w106 s106 => ?_; clear s105
            refine seq_op s106 rfl rfl (of_decide_eq_true rfl) (ob_add rfl (.tmp rfl) (opd_int rfl)) fun a107 w107 s107 => ?_; clear s106
            refine seq_op s107 rfl rfl (of_decide_eq_true rfl) (ob_assign rfl (.tmp rfl)) fun a108 w108 s108 => ?_; clear s107
            refine wpList_nil ?_
            refine then_normal ?_
            exact hK12 (iadd .i64 y1 (1 : Int)) _ _ h17 (s108.sub (.cons rfl (.cons rfl (.cons rfl .nil))))
        · replace h12 := ite_f hc2 h12
          have h18 := h12; clear h12
          refine wp_exit ?_
          refine (then_exit (then_exit (in_here ?_)))
          refine then_normal ?_
          have s109 := St.drop (A := []) s96; clear s96
          have s110 := St.drop (A := []) s109; clear s109
          exact hj3 _ _ h18 (s110.sub .nil)
      refine wp_block ?_
      refine wp_loop_fuel (fun m (q : Int) => cabalref11_SameOp.l2 k p1 p2 m q) r (fun _ => rfl) (fun q a w => St ⟨129, w0, ok, []⟩ [BF b1 44 k_api_Op p1, BF b2 44 k_api_Op p2] [(2, (ptrB b1 0)), (3, (ptrB b2 0)), (6, ((kint .i64).V q))] a w) ?_ k (0 : Int) _ _ h8 (s83.sub (.cons rfl (.cons rfl (.cons rfl .nil))))
      rintro n2 y2 a111 w111 h19 s111 K18 hK18
      replace h19 : cabalref11_SameOp.l2 k p1 p2 (n2 + 1) y2 = some r := h19; rw [cabalref11_SameOp.l2] at h19
      have h20 := h19; clear h19
      refine wp_seq_k fun K19 hK19 => ?_
      refine wp_seq_k fun K20 hK20 => ?_
      refine wp_region_lit ?_
      refine seq_op s111 rfl rfl (of_decide_eq_true rfl) (ob_move rfl (.tmp rfl)) fun a112 w112 s112 => ?_; clear s111
      refine seq_op s112 rfl rfl (of_decide_eq_true rfl) (ob_fieldAddr (off' := 4) rfl Try.underlying44 rfl sz41 (by decide) (.tmp rfl) rfl) fun a113 w113 s113 => ?_; clear s112
      refine seq_op s113 rfl rfl (of_decide_eq_true rfl) (ob_load rfl tk41 (.tmp rfl) (.head _) (lg_api_Op_Who p1)) fun a114 w114 s114 => ?_; clear s113
      refine seq_op s114 rfl rfl (of_decide_eq_true rfl) (ob_lens rfl Try.underlying41 (.tmp rfl)) fun a115 w115 s115 => ?_; clear s114
      refine seq_op s115 rfl rfl (of_decide_eq_true rfl) (ob_lss rfl (.tmp rfl) (.tmp rfl)) fun a116 w116 s116 => ?_; clear s115
      refine wpList_nil ?_
      refine then_normal ?_
      refine hK20 _ _ ?_
      have s117 := s116.sub (.cons (t := 2) rfl (.cons (t := 3) rfl (.cons (t := 6) rfl (.cons (t := 97) rfl .nil)))); clear s116
      refine cond_split s117 (.tmp rfl) (fun hc4 => ?_) (fun hc4 => ?_)
      · replace h20 := ite_t hc4 h20
        have h21 := h20; clear h20
        refine wp_skip ?_
        refine then_normal ?_
        refine hK19 _ _ ?_
        have s118 := s117.sub (.cons (t := 2) rfl (.cons (t := 3) rfl (.cons (t := 6) rfl .nil))); clear s117
        refine wp_seq_k fun K21 hK21 => ?_
        refine wp_block ?_
        refine wp_seq_k fun K22 hK22 => ?_
        obtain ⟨x8, e_x8, h22⟩ := bind_some h21; clear h21
        obtain ⟨x9, e_x9, h23⟩ := bind_some h22; clear h22
        refine wp_goes (Fs := [(ptrB b1 4), ((ksl (kint .i64)).V p1.Who), ((kint .i64).V y2), (ptrTo (kint .i64) x8), ((kint .i64).V x8), (ptrB b2 4), ((ksl (kint .i64)).V p2.Who), ((kint .i64).V y2), (ptrTo (kint .i64) x9), ((kint .i64).V x9)]) (bits := [0, 1, 0, 7, 15, 0, 32, 0, 224, 480, 1023]) (m := 10) (todo := 0) mx s118 ?_; clear s118
        refine goes_last (by kernel_rfl) rfl (opsS_cons (.plain _ (Av.old (t := 2) rfl rfl Av.nil) rfl rfl (ob_fieldAddr (off' := 4) rfl Try.underlying44 rfl sz41 (by decide) (.tmp rfl) rfl)) (opsS_cons (.plain _ (Av.new (j := 0) rfl rfl rfl Av.nil) rfl rfl (ob_load rfl tk41 (.tmp rfl) (.head _) (lg_api_Op_Who p1))) (opsS_cons (.plain _ (Av.old (t := 6) rfl rfl Av.nil) rfl rfl (ob_move rfl (.tmp rfl))) (opsS_cons (.plain _ (Av.new (j := 1) rfl rfl rfl (Av.new (j := 2) rfl rfl rfl Av.nil)) rfl rfl (ob_indexAddrs rfl Try.underlying41 sz3 (.tmp rfl) (.tmp rfl) e_x8)) (opsS_cons (.plain _ (Av.new (j := 3) rfl rfl rfl Av.nil) rfl rfl (ob_loadr rfl tk3 (.tmp rfl))) (opsS_cons (.plain _ (Av.old (t := 3) rfl rfl Av.nil) rfl rfl (ob_fieldAddr (off' := 4) rfl Try.underlying44 rfl sz41 (by decide) (.tmp rfl) rfl)) (opsS_cons (.plain _ (Av.new (j := 5) rfl rfl rfl Av.nil) rfl rfl (ob_load rfl tk41 (.tmp rfl) (.tail _ (.head _)) (lg_api_Op_Who p2))) (opsS_cons (.plain _ (Av.old (t := 6) rfl rfl Av.nil) rfl rfl (ob_move rfl (.tmp rfl))) (opsS_cons (.plain _ (Av.new (j := 6) rfl rfl rfl (Av.new (j := 7) rfl rfl rfl Av.nil)) rfl rfl (ob_indexAddrs rfl Try.underlying41 sz3 (.tmp rfl) (.tmp rfl) e_x9)) (opsS_cons (.plain _ (Av.new (j := 8) rfl rfl rfl Av.nil) rfl rfl (ob_loadr rfl tk3 (.tmp rfl))) opsS_nil)))))))))) (out_old (t := 2) rfl rfl (out_old (t := 3) rfl rfl (out_old (t := 6) rfl rfl (out_new (i := 4) (by decide) rfl rfl (out_new (i := 9) (by decide) rfl rfl out_nil))))) fun a119 w119 s119 => ?_
        refine seq_op s119 rfl rfl (of_decide_eq_true rfl) (ob_neq rfl (.tmp rfl) (.tmp rfl)) fun a120 w120 s120 => ?_; clear s119
        refine wpList_nil ?_
        refine then_normal ?_
        refine hK22 _ _ ?_
        have s121 := s120.sub (.cons (t := 2) rfl (.cons (t := 3) rfl (.cons (t := 6) rfl (.cons (t := 110) rfl .nil)))); clear s120
        refine cond_split s121 (.tmp rfl) (fun hc5 => ?_) (fun hc5 => ?_)
        · replace h23 := ite_t hc5 h23
          have h24 := h23; clear h23
          refine wp_seq_k fun K23 hK23 => ?_
          refine wp_region_lit ?_
          refine seq_op s121 rfl rfl (of_decide_eq_true rfl) (ob_assign rfl opd_bool) fun a122 w122 s122 => ?_; clear s121
          refine wpList_nil ?_
          refine then_normal ?_
          refine hK23 _ _ ?_
          have s123 := s122.sub (.cons (t := 4) rfl .nil); clear s122
          have s124 := St.drop (A := []) s123; clear s123
          have s125 := St.drop (A := []) s124; clear s124
          refine wp_ret ?_
          obtain rfl := Option.some.inj h24
          exact leave s125 (.inl rfl) rfl (.cons (.tmp rfl) .nil)
        · replace h23 := ite_f hc5 h23
          have h25 := h23; clear h23
          refine wp_skip ?_
          refine in_normal ?_
          refine then_normal ?_
          refine hK21 _ _ ?_
          have s126 := s121.sub (.cons (t := 2) rfl (.cons (t := 3) rfl (.cons (t := 6) rfl .nil))); clear s121
          refine wp_region_lit ?_
          refine seq_op s126 rfl rfl (of_decide_eq_true rfl) (ob_move rfl (.tmp rfl)) fun a127 w127 s127 => ?_; clear s126
          refine seq_op s127 rfl rfl (of_decide_eq_true rfl) (ob_add rfl (.tmp rfl) (opd_int rfl)) fun a128 w128 s128 => ?_; clear s127
          refine seq_op s128 rfl rfl (of_decide_eq_true rfl) (ob_assign rfl (.tmp rfl)) fun a129 w129 s129 => ?_; clear s128
          refine wpList_nil ?_
          refine then_normal ?_
          exact hK18 (iadd .i64 y2 (1 : Int)) _ _ h25 (s129.sub (.cons rfl (.cons rfl (.cons rfl .nil))))
      · replace h20 := ite_f hc4 h20
        have h26 := h20; clear h20
        refine wp_exit ?_
        refine (then_exit (then_exit (in_here ?_)))
        refine then_normal ?_
        exact hj2 _ _ h26 (s117.sub (.cons rfl (.cons rfl .nil)))
    refine wp_block ?_
    have s130 := s80.perm (toFront [_] (toFront [] (List.Perm.refl _))); clear s80
    refine wp_loop_fuel (fun m (q : Int) => cabalref11_SameOp.l3 k p1 p2 m q) r (fun _ => rfl) (fun q a w => St ⟨129, w0, ok, []⟩ [BF b1 44 k_api_Op p1, BF b2 44 k_api_Op p2] [(2, (ptrB b1 0)), (3, (ptrB b2 0)), (5, ((kint .i64).V q))] a w) ?_ k (0 : Int) _ _ h7 (s130.sub (.cons rfl (.cons rfl (.cons rfl .nil))))
    rintro n3 y3 a131 w131 h27 s131 K24 hK24
    replace h27 : cabalref11_SameOp.l3 k p1 p2 (n3 + 1) y3 = some r := h27; rw [cabalref11_SameOp.l3] at h27
    have h28 := h27; clear h27
    refine wp_seq_k fun K25 hK25 => ?_
    refine wp_seq_k fun K26 hK26 => ?_
    refine wp_region_lit ?_
    refine seq_op s131 rfl rfl (of_decide_eq_true rfl) (ob_move rfl (.tmp rfl)) fun a132 w132 s132 => ?_; clear s131
    refine seq_op s132 rfl rfl (of_decide_eq_true rfl) (ob_fieldAddr (off' := 2) rfl Try.underlying44 rfl sz40 (by decide) (.tmp rfl) rfl) fun a133 w133 s133 => ?_; clear s132
    refine seq_op s133 rfl rfl (of_decide_eq_true rfl) (ob_load rfl tk40 (.tmp rfl) (.head _) (lg_api_Op_Parents p1)) fun a134 w134 s134 => ?_; clear s133
    refine seq_op s134 rfl rfl (of_decide_eq_true rfl) (ob_lens rfl Try.underlying40 (.tmp rfl)) fun a135 w135 s135 => ?_; clear s134
    refine seq_op s135 rfl rfl (of_decide_eq_true rfl) (ob_lss rfl (.tmp rfl) (.tmp rfl)) fun a136 w136 s136 => ?_; clear s135
    refine wpList_nil ?_
    refine then_normal ?_
    refine hK26 _ _ ?_
    have s137 := s136.sub (.cons (t := 2) rfl (.cons (t := 3) rfl (.cons (t := 5) rfl (.cons (t := 79) rfl .nil)))); clear s136
    refine cond_split s137 (.tmp rfl) (fun hc6 => ?_) (fun hc6 => ?_)
    · replace h28 := ite_t hc6 h28
      have h29 := h28; clear h28
      refine wp_skip ?_
      refine then_normal ?_
      refine hK25 _ _ ?_
      have s138 := s137.sub (.cons (t := 2) rfl (.cons (t := 3) rfl (.cons (t := 5) rfl .nil))); clear s137
      refine wp_seq_k fun K27 hK27 => ?_
      refine wp_block ?_
      refine wp_seq_k fun K28 hK28 => ?_
      obtain ⟨x10, e_x10, h30⟩ := bind_some h29; clear h29
      obtain ⟨x11, e_x11, h31⟩ := bind_some h30; clear h30
      refine wp_goes (Fs := [(ptrB b1 2), ((ksl (karr 32 (kint .u8))).V p1.Parents), ((kint .i64).V y3), (ptrTo (karr 32 (kint .u8)) x10), ((karr 32 (kint .u8)).V x10), (ptrB b2 2), ((ksl (karr 32 (kint .u8))).V p2.Parents), ((kint .i64).V y3), (ptrTo (karr 32 (kint .u8)) x11), ((karr 32 (kint .u8)).V x11)]) (bits := [0, 1, 0, 7, 15, 0, 32, 0, 224, 480, 1023]) (m := 10) (todo := 0) mx s138 ?_; clear s138
      refine goes_last (by kernel_rfl) rfl (opsS_cons (.plain _ (Av.old (t := 2) rfl rfl Av.nil) rfl rfl (ob_fieldAddr (off' := 2) rfl Try.underlying44 rfl sz40 (by decide) (.tmp rfl) rfl)) (opsS_cons (.plain _ (Av.new (j := 0) rfl rfl rfl Av.nil) rfl rfl (ob_load rfl tk40 (.tmp rfl) (.head _) (lg_api_Op_Parents p1))) (opsS_cons (.plain _ (Av.old (t := 5) rfl rfl Av.nil) rfl rfl (ob_move rfl (.tmp rfl))) (opsS_cons (.plain _ (Av.new (j := 1) rfl rfl rfl (Av.new (j := 2) rfl rfl rfl Av.nil)) rfl rfl (ob_indexAddrs rfl Try.underlying40 sz39 (.tmp rfl) (.tmp rfl) e_x10)) (opsS_cons (.plain _ (Av.new (j := 3) rfl rfl rfl Av.nil) rfl rfl (ob_loadr rfl tk39 (.tmp rfl))) (opsS_cons (.plain _ (Av.old (t := 3) rfl rfl Av.nil) rfl rfl (ob_fieldAddr (off' := 2) rfl Try.underlying44 rfl sz40 (by decide) (.tmp rfl) rfl)) (opsS_cons (.plain _ (Av.new (j := 5) rfl rfl rfl Av.nil) rfl rfl (ob_load rfl tk40 (.tmp rfl) (.tail _ (.head _)) (lg_api_Op_Parents p2))) (opsS_cons (.plain _ (Av.old (t := 5) rfl rfl Av.nil) rfl rfl (ob_move rfl (.tmp rfl))) (opsS_cons (.plain _ (Av.new (j := 6) rfl rfl rfl (Av.new (j := 7) rfl rfl rfl Av.nil)) rfl rfl (ob_indexAddrs rfl Try.underlying40 sz39 (.tmp rfl) (.tmp rfl) e_x11)) (opsS_cons (.plain _ (Av.new (j := 8) rfl rfl rfl Av.nil) rfl rfl (ob_loadr rfl tk39 (.tmp rfl))) opsS_nil)))))))))) (out_old (t := 2) rfl rfl (out_old (t := 3) rfl rfl (out_old (t := 5) rfl rfl (out_new (i := 4) (by decide) rfl rfl (out_new (i := 9) (by decide) rfl rfl out_nil))))) fun a139 w139 s139 => ?_
      refine seq_op s139 rfl rfl (of_decide_eq_true rfl) (ob_neqAgg rfl rfl (by kernel_rfl) eq39 (by decide) (.tmp rfl) (.tmp rfl)) fun a140 w140 s140 => ?_; clear s139
      refine wpList_nil ?_
      refine then_normal ?_
      refine hK28 _ _ ?_
      have s141 := s140.sub (.cons (t := 2) rfl (.cons (t := 3) rfl (.cons (t := 5) rfl (.cons (t := 92) rfl .nil)))); clear s140
      refine cond_split s141 (.tmp rfl) (fun hc7 => ?_) (fun hc7 => ?_)
      · replace h31 := ite_t hc7 h31
        have h32 := h31; clear h31
        refine wp_seq_k fun K29 hK29 => ?_
        refine wp_region_lit ?_
        refine seq_op s141 rfl rfl (of_decide_eq_true rfl) (ob_assign rfl opd_bool) fun a142 w142 s142 => ?_; clear s141
        refine wpList_nil ?_
        refine then_normal ?_
        refine hK29 _ _ ?_
        have s143 := s142.sub (.cons (t := 4) rfl .nil); clear s142
        have s144 := St.drop (A := []) s143; clear s143
        have s145 := St.drop (A := []) s144; clear s144
        refine wp_ret ?_
        obtain rfl := Option.some.inj h32
        exact leave s145 (.inl rfl) rfl (.cons (.tmp rfl) .nil)
      · replace h31 := ite_f hc7 h31
        have h33 := h31; clear h31
        refine wp_skip ?_
        refine in_normal ?_
        refine then_normal ?_
        refine hK27 _ _ ?_
        have s146 := s141.sub (.cons (t := 2) rfl (.cons (t := 3) rfl (.cons (t := 5) rfl .nil))); clear s141
        refine wp_region_lit ?_
        refine seq_op s146 rfl rfl (of_decide_eq_true rfl) (ob_move rfl (.tmp rfl)) fun a147 w147 s147 => ?_; clear s146
        refine seq_op s147 rfl rfl (of_decide_eq_true rfl) (ob_add rfl (.tmp rfl) (opd_int rfl)) fun a148 w148 s148 => ?_; clear s147
        refine seq_op s148 rfl rfl (of_decide_eq_true rfl) (ob_assign rfl (.tmp rfl)) fun a149 w149 s149 => ?_; clear s148
        refine wpList_nil ?_
        refine then_normal ?_
        exact hK24 (iadd .i64 y3 (1 : Int)) _ _ h33 (s149.sub (.cons rfl (.cons rfl (.cons rfl .nil))))
    · replace h28 := ite_f hc6 h28
      have h34 := h28; clear h28
      refine wp_exit ?_
      refine (then_exit (then_exit (in_here ?_)))
      refine then_normal ?_
      exact hj1 _ _ h34 (s137.sub (.cons rfl (.cons rfl .nil)))

end Go.Proofs.Ytdlnfgpcnfbjiaa
