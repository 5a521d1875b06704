/- Several parts of this proof in one file. No condition. -/
import Derived.Test.YtdlnfgpcnfbjiaaDyWalk4
namespace Go.Proofs.Ytdlnfgpcnfbjiaa
open Go Go.RowKit Go.Proofs.Kit Go.Proofs.Pure
set_option linter.unusedVariables false
set_option linter.unusedSimpArgs false
set_option maxRecDepth 100000
set_option maxHeartbeats 2000000
theorem c_slices_Equal_api_Key_api_Key (k : Nat) (p1 : (List (List Int))) (p2 : (List (List Int))) (r : Bool) (h0 : slices_Equal_api_Key_api_Key k p1 p2 = some r) (ok : Ok) (w0 : World) (z0 : Value) (z1 : Value) (u0 : ((ksl (karr 32 (kint .u8))).V p1).holds ok w0 z0) (u1 : ((ksl (karr 32 (kint .u8))).V p2).holds ok w0 z1) :
 Gives Try.prog 122 [z0, z1] ok w0 (resFact [kbool.V r]) := by
 unfold slices_Equal_api_Key_api_Key at h0
 refine enter (N := 26) Try.func122 rfl rfl (of_decide_eq_true rfl) (.cons u0 (.cons u1 .nil)) fun a1 s1 => ?_
 refine wp_seq_k fun K1 hK1 => wp_region_lit (qs s1 (.c1 rfl (ob_assign rfl opd_bool) (.ce (u 0 rfl (u 1 rfl .nil)))) fun _ _ s3 => wn hK1 ?_); clear s1
 refine wp_seq_k fun K2 hK2 => wp_seq_k fun K3 hK3 => ?_
 refine wp_region_lit (qs s3 (.c1 rfl (mv rfl rfl) (.c1 rfl (ob_lens rfl Try.underlying40 (.tmp rfl)) (.c1 rfl (mv rfl rfl) (.c1 rfl (ob_lens rfl Try.underlying40 (.tmp rfl)) (.c1 rfl (ob_neq rfl (.tmp rfl) (.tmp rfl)) (.ce (u 0 rfl (u 1 rfl (u 10 rfl .nil))))))))) fun _ _ s9 => wn hK3 ?_); clear s3
 refine cond_split s9 (.tmp rfl) (fun hc1 => ?_) (fun hc1 => ?_)
 ·have h1 := ite_t hc1 h0; clear h0
  refine wp_seq_k fun K4 hK4 => wp_region_lit (qs s9 (.c1 rfl (ob_assign rfl opd_bool) (.ce (u 4 rfl .nil))) fun _ _ s11 => wn hK4 ?_); clear s9
  refine wp_ret ?_
  obtain rfl := Option.some.inj h1
  exact leave s11 (.inl rfl) rfl (.cons (.tmp rfl) .nil)
 ·have h2 := ite_f hc1 h0; clear h0
  refine wp_skip ?_
  refine then_normal (hK2 _ _ ?_)
  have s12 := s9.sub (u 0 rfl (u 1 rfl .nil)); clear s9
  refine wp_seq_k fun K5 hK5 => wp_seq_k fun K6 hK6 => ?_
  refine wp_region_lit (qs s12 (.c1 rfl (mv rfl rfl) (.c1 rfl (ob_lens rfl Try.underlying40 (.tmp rfl)) (.c1 rfl (ob_move rfl (opd_int rfl)) (.ce (u 0 rfl (u 1 rfl (u 12 rfl (u 13 rfl .nil)))))))) fun _ _ s16 => wn hK6 ?_); clear s12
  have hj1 : ∀ (a : Act) (w : World), (slices_Equal_api_Key_api_Key.j1 k) = some r → St ⟨26, w0, ok, []⟩ [] [] a w → K5 a w := by
   intro a17 w17 h3 s17
   unfold slices_Equal_api_Key_api_Key.j1 at h3
   refine hK5 _ _ ?_
   refine wp_seq_k fun K7 hK7 => wp_region_lit (qs s17 (.c1 rfl (ob_assign rfl opd_bool) (.ce (u 4 rfl .nil))) fun _ _ s19 => wn hK7 ?_); clear s17
   refine wp_ret ?_
   obtain rfl := Option.some.inj h3
   exact leave s19 (.inl rfl) rfl (.cons (.tmp rfl) .nil)
  refine wp_block ?_
  refine wp_loop_fuel (fun m (q : Int) => slices_Equal_api_Key_api_Key.l1 k p1 p2 m q) r (fun _ => rfl) (fun q a w => St ⟨26, w0, ok, []⟩ [] [(0, ((ksl (karr 32 (kint .u8))).V p1)), (1, ((ksl (karr 32 (kint .u8))).V p2)), (12, ((kint .i64).V (p1.length : Int))), (13, ((kint .i64).V q))] a w) ?_ k (0 : Int) _ _ h2 (s16.sub (.cons rfl (.cons rfl (.cons rfl (.cons rfl .nil)))))
  rintro n1 y1 a20 w20 h4 s20 K8 hK8
  replace h4 : slices_Equal_api_Key_api_Key.l1 k p1 p2 (n1 + 1) y1 = some r := h4; rw [slices_Equal_api_Key_api_Key.l1] at h4
  have h5 := h4; clear h4
  refine wp_seq_k fun K9 hK9 => wp_region_lit (qs s20 (.c1 rfl (ob_lss rfl (.tmp rfl) (.tmp rfl)) (.ce (u 0 rfl (u 1 rfl (u 12 rfl (u 13 rfl (u 14 rfl .nil))))))) fun _ _ s22 => wn hK9 ?_); clear s20
  refine wp_seq_k fun K10 hK10 => ?_
  refine cond_split s22 (.tmp rfl) (fun hc2 => ?_) (fun hc2 => ?_)
  ·have h6 := ite_t hc2 h5; clear h5
   refine wp_skip ?_
   refine then_normal (hK10 _ _ ?_)
   have s23 := s22.sub (u 0 rfl (u 1 rfl (u 12 rfl (u 13 rfl .nil)))); clear s22
   refine wp_seq_k fun K11 hK11 => wp_block ?_
   refine wp_seq_k fun K12 hK12 => wp_region_lit (qs s23 (.c1 rfl (mv rfl rfl) (.c1 rfl (ob_assign rfl (.tmp rfl)) (.ce (u 0 rfl (u 1 rfl (u 5 rfl (u 12 rfl (u 13 rfl .nil)))))))) fun _ _ s26 => wn hK12 ?_); clear s23
   refine wp_seq_k fun K13 hK13 => ?_
   obtain ⟨x1, e_x1, h7⟩ := bind_some h6; clear h6
   obtain ⟨x2, e_x2, h8⟩ := bind_some h7; clear h7
   refine wp_goes (Fs := [((ksl (karr 32 (kint .u8))).V p1), ((kint .i64).V y1), (ptrTo (karr 32 (kint .u8)) x1), ((karr 32 (kint .u8)).V x1), ((ksl (karr 32 (kint .u8))).V p2), ((kint .i64).V y1), (ptrTo (karr 32 (kint .u8)) x2), ((karr 32 (kint .u8)).V x2)]) (bits := [0, 0, 3, 7, 0, 0, 48, 112, 255]) (m := 8) (todo := 0) mx s26 ?_; clear s26
   refine goes_last (by kernel_rfl) rfl (oc (av 0 rfl rfl Av.nil) rfl rfl (mv rfl rfl) (oc (av 5 rfl rfl Av.nil) rfl rfl (mv rfl rfl) (oc (an 0 rfl rfl rfl (an 1 rfl rfl rfl Av.nil)) rfl rfl (ob_indexAddrs rfl Try.underlying40 sz39 (.tmp rfl) (.tmp rfl) e_x1) (oc (an 2 rfl rfl rfl Av.nil) rfl rfl (ob_loadr rfl tk39 (.tmp rfl)) (oc (av 1 rfl rfl Av.nil) rfl rfl (mv rfl rfl) (oc (av 5 rfl rfl Av.nil) rfl rfl (mv rfl rfl) (oc (an 4 rfl rfl rfl (an 5 rfl rfl rfl Av.nil)) rfl rfl (ob_indexAddrs rfl Try.underlying40 sz39 (.tmp rfl) (.tmp rfl) e_x2) (oc (an 6 rfl rfl rfl Av.nil) rfl rfl (ob_loadr rfl tk39 (.tmp rfl)) opsS_nil)))))))) (out_old (t := 0) rfl rfl (out_old (t := 1) rfl rfl (out_old (t := 12) rfl rfl (out_old (t := 13) rfl rfl (out_new (i := 3) (by decide) rfl rfl (out_new (i := 7) (by decide) rfl rfl out_nil)))))) fun _ _ s27 => ?_
   refine qs s27 (.c1 rfl (ob_neqAgg rfl rfl (by kernel_rfl) eq39 (by decide) (.tmp rfl) (.tmp rfl)) (.ce (u 0 rfl (u 1 rfl (u 12 rfl (u 13 rfl (u 24 rfl .nil))))))) fun _ _ s29 => wn hK13 ?_; clear s27
   refine cond_split s29 (.tmp rfl) (fun hc3 => ?_) (fun hc3 => ?_)
   ·have h9 := ite_t hc3 h8; clear h8
    refine wp_seq_k fun K14 hK14 => wp_region_lit (qs s29 (.c1 rfl (ob_assign rfl opd_bool) (.ce (u 4 rfl .nil))) fun _ _ s31 => wn hK14 ?_); clear s29
    refine wp_ret ?_
    obtain rfl := Option.some.inj h9
    exact leave s31 (.inl rfl) rfl (.cons (.tmp rfl) .nil)
   ·have h10 := ite_f hc3 h8; clear h8
    refine wp_skip ?_
    refine in_normal ?_
    refine then_normal (hK11 _ _ ?_)
    have s32 := s29.sub (u 0 rfl (u 1 rfl (u 12 rfl (u 13 rfl .nil)))); clear s29
    refine wp_region_lit (qs s32 (.c1 rfl (ob_add rfl (.tmp rfl) (opd_int rfl)) (.c1 rfl (mv rfl rfl) .cz)) fun _ _ s34 => ?_); clear s32
    refine wpList_nil ?_
    refine then_normal ?_
    exact hK8 (iadd .i64 y1 (1 : Int)) _ _ h10 (s34.sub (.cons rfl (.cons rfl (.cons rfl (.cons rfl .nil)))))
  ·have h11 := ite_f hc2 h5; clear h5
   refine wp_exit ?_
   refine (then_exit (then_exit (in_here ?_)))
   refine then_normal ?_
   exact hj1 _ _ h11 (s22.sub .nil)
theorem c_slices_Equal_api_Box_api_Box (k : Nat) (p1 : (List api_Box)) (p2 : (List api_Box)) (r : Bool) (h0 : slices_Equal_api_Box_api_Box k p1 p2 = some r) (ok : Ok) (w0 : World) (z0 : Value) (z1 : Value) (u0 : ((ksl k_api_Box).V p1).holds ok w0 z0) (u1 : ((ksl k_api_Box).V p2).holds ok w0 z1) :
 Gives Try.prog 175 [z0, z1] ok w0 (resFact [kbool.V r]) := by
 unfold slices_Equal_api_Box_api_Box at h0
 refine enter (N := 26) Try.func175 rfl rfl (of_decide_eq_true rfl) (.cons u0 (.cons u1 .nil)) fun a1 s1 => ?_
 refine wp_seq_k fun K1 hK1 => wp_region_lit (qs s1 (.c1 rfl (ob_assign rfl opd_bool) (.ce (u 0 rfl (u 1 rfl .nil)))) fun _ _ s3 => wn hK1 ?_); clear s1
 refine wp_seq_k fun K2 hK2 => wp_seq_k fun K3 hK3 => ?_
 refine wp_region_lit (qs s3 (.c1 rfl (mv rfl rfl) (.c1 rfl (ob_lens rfl Try.underlying42 (.tmp rfl)) (.c1 rfl (mv rfl rfl) (.c1 rfl (ob_lens rfl Try.underlying42 (.tmp rfl)) (.c1 rfl (ob_neq rfl (.tmp rfl) (.tmp rfl)) (.ce (u 0 rfl (u 1 rfl (u 10 rfl .nil))))))))) fun _ _ s9 => wn hK3 ?_); clear s3
 refine cond_split s9 (.tmp rfl) (fun hc1 => ?_) (fun hc1 => ?_)
 ·have h1 := ite_t hc1 h0; clear h0
  refine wp_seq_k fun K4 hK4 => wp_region_lit (qs s9 (.c1 rfl (ob_assign rfl opd_bool) (.ce (u 4 rfl .nil))) fun _ _ s11 => wn hK4 ?_); clear s9
  refine wp_ret ?_
  obtain rfl := Option.some.inj h1
  exact leave s11 (.inl rfl) rfl (.cons (.tmp rfl) .nil)
 ·have h2 := ite_f hc1 h0; clear h0
  refine wp_skip ?_
  refine then_normal (hK2 _ _ ?_)
  have s12 := s9.sub (u 0 rfl (u 1 rfl .nil)); clear s9
  refine wp_seq_k fun K5 hK5 => wp_seq_k fun K6 hK6 => ?_
  refine wp_region_lit (qs s12 (.c1 rfl (mv rfl rfl) (.c1 rfl (ob_lens rfl Try.underlying42 (.tmp rfl)) (.c1 rfl (ob_move rfl (opd_int rfl)) (.ce (u 0 rfl (u 1 rfl (u 12 rfl (u 13 rfl .nil)))))))) fun _ _ s16 => wn hK6 ?_); clear s12
  have hj1 : ∀ (a : Act) (w : World), (slices_Equal_api_Box_api_Box.j1 k) = some r → St ⟨26, w0, ok, []⟩ [] [] a w → K5 a w := by
   intro a17 w17 h3 s17
   unfold slices_Equal_api_Box_api_Box.j1 at h3
   refine hK5 _ _ ?_
   refine wp_seq_k fun K7 hK7 => wp_region_lit (qs s17 (.c1 rfl (ob_assign rfl opd_bool) (.ce (u 4 rfl .nil))) fun _ _ s19 => wn hK7 ?_); clear s17
   refine wp_ret ?_
   obtain rfl := Option.some.inj h3
   exact leave s19 (.inl rfl) rfl (.cons (.tmp rfl) .nil)
  refine wp_block ?_
  refine wp_loop_fuel (fun m (q : Int) => slices_Equal_api_Box_api_Box.l1 k p1 p2 m q) r (fun _ => rfl) (fun q a w => St ⟨26, w0, ok, []⟩ [] [(0, ((ksl k_api_Box).V p1)), (1, ((ksl k_api_Box).V p2)), (12, ((kint .i64).V (p1.length : Int))), (13, ((kint .i64).V q))] a w) ?_ k (0 : Int) _ _ h2 (s16.sub (.cons rfl (.cons rfl (.cons rfl (.cons rfl .nil)))))
  rintro n1 y1 a20 w20 h4 s20 K8 hK8
  replace h4 : slices_Equal_api_Box_api_Box.l1 k p1 p2 (n1 + 1) y1 = some r := h4; rw [slices_Equal_api_Box_api_Box.l1] at h4
  have h5 := h4; clear h4
  refine wp_seq_k fun K9 hK9 => wp_region_lit (qs s20 (.c1 rfl (ob_lss rfl (.tmp rfl) (.tmp rfl)) (.ce (u 0 rfl (u 1 rfl (u 12 rfl (u 13 rfl (u 14 rfl .nil))))))) fun _ _ s22 => wn hK9 ?_); clear s20
  refine wp_seq_k fun K10 hK10 => ?_
  refine cond_split s22 (.tmp rfl) (fun hc2 => ?_) (fun hc2 => ?_)
  ·have h6 := ite_t hc2 h5; clear h5
   refine wp_skip ?_
   refine then_normal (hK10 _ _ ?_)
   have s23 := s22.sub (u 0 rfl (u 1 rfl (u 12 rfl (u 13 rfl .nil)))); clear s22
   refine wp_seq_k fun K11 hK11 => wp_block ?_
   refine wp_seq_k fun K12 hK12 => wp_region_lit (qs s23 (.c1 rfl (mv rfl rfl) (.c1 rfl (ob_assign rfl (.tmp rfl)) (.ce (u 0 rfl (u 1 rfl (u 5 rfl (u 12 rfl (u 13 rfl .nil)))))))) fun _ _ s26 => wn hK12 ?_); clear s23
   refine wp_seq_k fun K13 hK13 => ?_
   obtain ⟨x1, e_x1, h7⟩ := bind_some h6; clear h6
   obtain ⟨x2, e_x2, h8⟩ := bind_some h7; clear h7
   refine wp_goes (Fs := [((ksl k_api_Box).V p1), ((kint .i64).V y1), (ptrTo k_api_Box x1), (k_api_Box.V x1), ((ksl k_api_Box).V p2), ((kint .i64).V y1), (ptrTo k_api_Box x2), (k_api_Box.V x2)]) (bits := [0, 0, 3, 7, 0, 0, 48, 112, 255]) (m := 8) (todo := 0) mx s26 ?_; clear s26
   refine goes_last (by kernel_rfl) rfl (oc (av 0 rfl rfl Av.nil) rfl rfl (mv rfl rfl) (oc (av 5 rfl rfl Av.nil) rfl rfl (mv rfl rfl) (oc (an 0 rfl rfl rfl (an 1 rfl rfl rfl Av.nil)) rfl rfl (ob_indexAddrs rfl Try.underlying42 sz78 (.tmp rfl) (.tmp rfl) e_x1) (oc (an 2 rfl rfl rfl Av.nil) rfl rfl (ob_loadr rfl tk78 (.tmp rfl)) (oc (av 1 rfl rfl Av.nil) rfl rfl (mv rfl rfl) (oc (av 5 rfl rfl Av.nil) rfl rfl (mv rfl rfl) (oc (an 4 rfl rfl rfl (an 5 rfl rfl rfl Av.nil)) rfl rfl (ob_indexAddrs rfl Try.underlying42 sz78 (.tmp rfl) (.tmp rfl) e_x2) (oc (an 6 rfl rfl rfl Av.nil) rfl rfl (ob_loadr rfl tk78 (.tmp rfl)) opsS_nil)))))))) (out_old (t := 0) rfl rfl (out_old (t := 1) rfl rfl (out_old (t := 12) rfl rfl (out_old (t := 13) rfl rfl (out_new (i := 3) (by decide) rfl rfl (out_new (i := 7) (by decide) rfl rfl out_nil)))))) fun _ _ s27 => ?_
   refine qs s27 (.c1 rfl (ob_neqAgg rfl rfl (by kernel_rfl) eq78 (by decide) (.tmp rfl) (.tmp rfl)) (.ce (u 0 rfl (u 1 rfl (u 12 rfl (u 13 rfl (u 24 rfl .nil))))))) fun _ _ s29 => wn hK13 ?_; clear s27
   refine cond_split s29 (.tmp rfl) (fun hc3 => ?_) (fun hc3 => ?_)
   ·have h9 := ite_t hc3 h8; clear h8
    refine wp_seq_k fun K14 hK14 => wp_region_lit (qs s29 (.c1 rfl (ob_assign rfl opd_bool) (.ce (u 4 rfl .nil))) fun _ _ s31 => wn hK14 ?_); clear s29
    refine wp_ret ?_
    obtain rfl := Option.some.inj h9
    exact leave s31 (.inl rfl) rfl (.cons (.tmp rfl) .nil)
   ·have h10 := ite_f hc3 h8; clear h8
    refine wp_skip ?_
    refine in_normal ?_
    refine then_normal (hK11 _ _ ?_)
    have s32 := s29.sub (u 0 rfl (u 1 rfl (u 12 rfl (u 13 rfl .nil)))); clear s29
    refine wp_region_lit (qs s32 (.c1 rfl (ob_add rfl (.tmp rfl) (opd_int rfl)) (.c1 rfl (mv rfl rfl) .cz)) fun _ _ s34 => ?_); clear s32
    refine wpList_nil ?_
    refine then_normal ?_
    exact hK8 (iadd .i64 y1 (1 : Int)) _ _ h10 (s34.sub (.cons rfl (.cons rfl (.cons rfl (.cons rfl .nil)))))
  ·have h11 := ite_f hc2 h5; clear h5
   refine wp_exit ?_
   refine (then_exit (then_exit (in_here ?_)))
   refine then_normal ?_
   exact hj1 _ _ h11 (s22.sub .nil)
theorem c_frame_same (k : Nat) (p1 : api_Op) (p2 : api_Op) (r : Bool) (h0 : frame_same k p1 p2 = some r) (ok : Ok) (w0 : World) (z0 : Value) (z1 : Value) (u0 : (k_api_Op.V p1).holds ok w0 z0) (u1 : (k_api_Op.V p2).holds ok w0 z1) :
 Gives Try.prog 148 [z0, z1] ok w0 (resFact [kbool.V r]) := by
 unfold frame_same at h0
 refine enter (N := 66) Try.func148 rfl rfl (of_decide_eq_true rfl) (.cons u0 (.cons u1 .nil)) fun a1 s1 => ?_
 refine wp_seq_k fun K1 hK1 => wp_region_lit ?_
 refine qx (B' := (fun b1 : Nat => [BF b1 44 k_api_Op p1])) s1 rfl (ob_box rfl (.tmp rfl)) fun b1 _ _ s2 => ?_; clear s1
 refine qx (B' := (fun b2 : Nat => [BF b2 44 k_api_Op p2, BF b1 44 k_api_Op p1])) s2 rfl (ob_box rfl (.tmp rfl)) fun b2 _ _ s3 => ?_; clear s2
 refine qs s3 (.c1 rfl (ob_assign rfl opd_bool) (.ce (u 2 rfl (u 3 rfl .nil)))) fun _ _ s5 => wn hK1 ?_; clear s3
 obtain ⟨x1, e_x1, h1⟩ := bind_some h0; clear h0; replace e_x1 := Option.some.inj e_x1
 obtain ⟨x2, e_x2, h2⟩ := bind_some h1; clear h1; replace e_x2 := Option.some.inj e_x2
 obtain ⟨x3, e_x3, h3⟩ := bind_some h2; clear h2
 obtain ⟨x4, e_x4, h4⟩ := bind_some h3; clear h3; replace e_x4 := Option.some.inj e_x4
 obtain ⟨x5, e_x5, h5⟩ := bind_some h4; clear h4
 obtain ⟨x6, e_x6, h6⟩ := bind_some h5; clear h5
 refine wp_seq_k fun K2 hK2 => wp_region_lit (qs s5 (.c1 rfl (ob_fieldAddr (off' := 0) rfl Try.underlying44 rfl sz3 (by decide) (.tmp rfl) rfl) (.c1 rfl (ob_load rfl tk3 (.tmp rfl) (.tail _ (.head _)) (lg_api_Op_Author p1)) (.c1 rfl (ob_fieldAddr (off' := 0) rfl Try.underlying44 rfl sz3 (by decide) (.tmp rfl) rfl) (.c1 rfl (ob_load rfl tk3 (.tmp rfl) (.head _) (lg_api_Op_Author p2)) (.c1 rfl (ob_eql rfl (.tmp rfl) (.tmp rfl)) (.c1 rfl (mv rfl rfl) (.cg rfl rfl rfl rfl (fun hb => ob_fieldAddr (off' := 1) rfl Try.underlying44 rfl sz25 (by decide) (.tmp rfl) rfl) (.cg rfl rfl rfl rfl (fun hb => (Ob.uncond (t := 11) hb rfl (ob_load rfl tk25 (.tmp rfl) (.tail _ (.head _)) (lg_api_Op_Seq p1)))) (.cg rfl rfl rfl rfl (fun hb => ob_fieldAddr (off' := 1) rfl Try.underlying44 rfl sz25 (by decide) (.tmp rfl) rfl) (.cg rfl rfl rfl rfl (fun hb => (Ob.uncond (t := 13) hb rfl (ob_load rfl tk25 (.tmp rfl) (.head _) (lg_api_Op_Seq p2)))) (.cg rfl rfl rfl rfl (fun hb => (Ob.uncond (t := 14) hb rfl ((Ob.uncond (t := 12) hb rfl (ob_eql rfl (.tmp rfl) (.tmp rfl)))))) (.c1 rfl (ob_and2 rfl (.tmp rfl) (.tmp rfl) opd_bool) (.c1 rfl (mv rfl rfl) (.cg rfl rfl rfl rfl (fun hb => ob_fieldAddr (off' := 3) rfl Try.underlying44 rfl sz3 (by decide) (.tmp rfl) rfl) (.cg rfl rfl rfl rfl (fun hb => (Ob.uncond (t := 18) hb rfl (ob_load rfl tk3 (.tmp rfl) (.tail _ (.head _)) (lg_api_Op_Kind p1)))) (.cg rfl rfl rfl rfl (fun hb => ob_fieldAddr (off' := 3) rfl Try.underlying44 rfl sz3 (by decide) (.tmp rfl) rfl) (.cg rfl rfl rfl rfl (fun hb => (Ob.uncond (t := 20) hb rfl (ob_load rfl tk3 (.tmp rfl) (.head _) (lg_api_Op_Kind p2)))) (.cg rfl rfl rfl rfl (fun hb => (Ob.uncond (t := 21) hb rfl ((Ob.uncond (t := 19) hb rfl (ob_eql rfl (.tmp rfl) (.tmp rfl)))))) (.c1 rfl ((ob_and2 rfl (.tmp rfl) (.tmp rfl) opd_bool).nm e_x1) (.c1 rfl (mv rfl rfl) (.cg rfl rfl rfl rfl (fun hb => ob_fieldAddr (off' := 5) rfl Try.underlying44 rfl sz39 (by decide) (.tmp rfl) rfl) (.cg rfl rfl rfl rfl (fun hb => (Ob.uncond (t := 25) hb rfl (ob_load rfl tk39 (.tmp rfl) (.tail _ (.head _)) (lg_api_Op_Of p1)))) (.cg rfl rfl rfl rfl (fun hb => ob_fieldAddr (off' := 5) rfl Try.underlying44 rfl sz39 (by decide) (.tmp rfl) rfl) (.cg rfl rfl rfl rfl (fun hb => (Ob.uncond (t := 27) hb rfl (ob_load rfl tk39 (.tmp rfl) (.head _) (lg_api_Op_Of p2)))) (.cg rfl rfl rfl rfl (fun hb => (Ob.uncond (t := 28) hb rfl ((Ob.uncond (t := 26) hb rfl (ob_eqAgg rfl rfl (by kernel_rfl) eq39 (by decide) (.tmp rfl) (.tmp rfl)))))) (.c1 rfl (ob_and2 rfl (.tmp rfl) (.tmp rfl) opd_bool) (.c1 rfl (mv rfl rfl) (.cg rfl rfl rfl rfl (fun hb => ob_fieldAddr (off' := 37) rfl Try.underlying44 rfl sz39 (by decide) (.tmp rfl) rfl) (.cg rfl rfl rfl rfl (fun hb => (Ob.uncond (t := 32) hb rfl (ob_load rfl tk39 (.tmp rfl) (.tail _ (.head _)) (lg_api_Op_Check p1)))) (.cg rfl rfl rfl rfl (fun hb => ob_fieldAddr (off' := 37) rfl Try.underlying44 rfl sz39 (by decide) (.tmp rfl) rfl) (.cg rfl rfl rfl rfl (fun hb => (Ob.uncond (t := 34) hb rfl (ob_load rfl tk39 (.tmp rfl) (.head _) (lg_api_Op_Check p2)))) (.cg rfl rfl rfl rfl (fun hb => (Ob.uncond (t := 35) hb rfl ((Ob.uncond (t := 33) hb rfl (ob_eqAgg rfl rfl (by kernel_rfl) eq39 (by decide) (.tmp rfl) (.tmp rfl)))))) (.c1 rfl ((ob_and2 rfl (.tmp rfl) (.tmp rfl) opd_bool).nm e_x2) (.c1 rfl (mv rfl rfl) (.cg rfl rfl rfl rfl (fun hb => ob_fieldAddr (off' := 69) rfl Try.underlying44 rfl sz9 (by decide) (.tmp rfl) rfl) (.cg rfl rfl rfl rfl (fun hb => (Ob.uncond (t := 39) hb rfl (ob_load rfl tk9 (.tmp rfl) (.tail _ (.head _)) (lg_api_Op_Text p1)))) (.cg rfl rfl rfl rfl (fun hb => ob_fieldAddr (off' := 69) rfl Try.underlying44 rfl sz9 (by decide) (.tmp rfl) rfl) (.cg rfl rfl rfl rfl (fun hb => (Ob.uncond (t := 41) hb rfl (ob_load rfl tk9 (.tmp rfl) (.head _) (lg_api_Op_Text p2)))) (.cg rfl rfl rfl rfl (fun hb => (Ob.uncond (t := 42) hb rfl ((Ob.uncond (t := 40) hb rfl (ob_seql rfl (.tmp rfl) (.tmp rfl)))))) (.c1 rfl (ob_and2 rfl (.tmp rfl) (.tmp rfl) opd_bool) (.c1 rfl (mv rfl rfl) (.cg rfl rfl rfl rfl (fun hb => ob_fieldAddr (off' := 2) rfl Try.underlying44 rfl sz40 (by decide) (.tmp rfl) rfl) (.cg rfl rfl rfl rfl (fun hb => (Ob.uncond (t := 46) hb rfl (ob_load rfl tk40 (.tmp rfl) (.tail _ (.head _)) (lg_api_Op_Parents p1)))) (.cg rfl rfl rfl rfl (fun hb => ob_fieldAddr (off' := 2) rfl Try.underlying44 rfl sz40 (by decide) (.tmp rfl) rfl) (.cg rfl rfl rfl rfl (fun hb => (Ob.uncond (t := 48) hb rfl (ob_load rfl tk40 (.tmp rfl) (.head _) (lg_api_Op_Parents p2)))) (.cg rfl rfl rfl rfl (fun hb => (Ob.uncond (t := 49) hb rfl ((Ob.uncond (t := 47) hb rfl (ob_callD0 (args := [_, _]) rfl .direct hb122 (fun a w s => by exact c_slices_Equal_api_Key_api_Key k _ _ _ (ite_t hb e_x3) _ _ _ _ (s.arg (.tmp rfl)) (s.arg (.tmp rfl)))))))) (.c1 rfl ((ob_and2 rfl (.tmp rfl) (.tmp rfl) opd_bool).nm e_x4) (.c1 rfl (mv rfl rfl) (.cg rfl rfl rfl rfl (fun hb => ob_fieldAddr (off' := 4) rfl Try.underlying44 rfl sz41 (by decide) (.tmp rfl) rfl) (.cg rfl rfl rfl rfl (fun hb => (Ob.uncond (t := 53) hb rfl (ob_load rfl tk41 (.tmp rfl) (.tail _ (.head _)) (lg_api_Op_Who p1)))) (.cg rfl rfl rfl rfl (fun hb => ob_fieldAddr (off' := 4) rfl Try.underlying44 rfl sz41 (by decide) (.tmp rfl) rfl) (.cg rfl rfl rfl rfl (fun hb => (Ob.uncond (t := 55) hb rfl (ob_load rfl tk41 (.tmp rfl) (.head _) (lg_api_Op_Who p2)))) (.cg rfl rfl rfl rfl (fun hb => (Ob.uncond (t := 56) hb rfl ((Ob.uncond (t := 54) hb rfl (ob_callD0 (args := [_, _]) rfl .direct hb106 (fun a w s => by exact c_slices_Equal_int_int k _ _ _ (ite_t hb e_x5) _ _ _ _ (s.arg (.tmp rfl)) (s.arg (.tmp rfl)))))))) (.c1 rfl (ob_and2 rfl (.tmp rfl) (.tmp rfl) opd_bool) (.c1 rfl (mv rfl rfl) (.cg rfl rfl rfl rfl (fun hb => ob_fieldAddr (off' := 70) rfl Try.underlying44 rfl sz42 (by decide) (.tmp rfl) rfl) (.cg rfl rfl rfl rfl (fun hb => (Ob.uncond (t := 60) hb rfl (ob_load rfl tk42 (.tmp rfl) (.tail _ (.head _)) (lg_api_Op_Boxes p1)))) (.cg rfl rfl rfl rfl (fun hb => ob_fieldAddr (off' := 70) rfl Try.underlying44 rfl sz42 (by decide) (.tmp rfl) rfl) (.cg rfl rfl rfl rfl (fun hb => (Ob.uncond (t := 62) hb rfl (ob_load rfl tk42 (.tmp rfl) (.head _) (lg_api_Op_Boxes p2)))) (.cg rfl rfl rfl rfl (fun hb => (Ob.uncond (t := 63) hb rfl ((Ob.uncond (t := 61) hb rfl (ob_callD0 (args := [_, _]) rfl .direct hb175 (fun a w s => by exact c_slices_Equal_api_Box_api_Box k _ _ _ (ite_t hb e_x6) _ _ _ _ (s.arg (.tmp rfl)) (s.arg (.tmp rfl)))))))) (.c1 rfl (ob_and2 rfl (.tmp rfl) (.tmp rfl) opd_bool) (.c1 rfl (ob_assign rfl (.tmp rfl)) (.ce (u 4 rfl .nil)))))))))))))))))))))))))))))))))))))))))))))))))))))))))))))))) fun _ _ s68 => wn hK2 ?_); clear s5
 have s69 := St.drop (A := []) s68; clear s68
 have s70 := St.drop (A := []) s69; clear s69
 refine wp_ret ?_
 obtain rfl := Option.some.inj h6
 exact leave s70 (.inl rfl) rfl (.cons (.tmp rfl) .nil)
theorem c_frame_Same (k : Nat) (p1 : api_Frame) (p2 : api_Frame) (r : Bool) (h0 : frame_Same k p1 p2 = some r) (ok : Ok) (w0 : World) (z0 : Value) (z1 : Value) (u0 : (k_api_Frame.V p1).holds ok w0 z0) (u1 : (k_api_Frame.V p2).holds ok w0 z1) :
 Gives Try.prog 107 [z0, z1] ok w0 (resFact [kbool.V r]) := by
 unfold frame_Same at h0
 refine enter (N := 31) Try.func107 rfl rfl (of_decide_eq_true rfl) (.cons u0 (.cons u1 .nil)) fun a1 s1 => ?_
 refine wp_seq_k fun K1 hK1 => wp_region_lit ?_
 refine qx (B' := (fun b1 : Nat => [BF b1 130 k_api_Frame p1])) s1 rfl (ob_box rfl (.tmp rfl)) fun b1 _ _ s2 => ?_; clear s1
 refine qx (B' := (fun b2 : Nat => [BF b2 130 k_api_Frame p2, BF b1 130 k_api_Frame p1])) s2 rfl (ob_box rfl (.tmp rfl)) fun b2 _ _ s3 => ?_; clear s2
 refine qs s3 (.c1 rfl (ob_assign rfl opd_bool) (.ce (u 2 rfl (u 3 rfl .nil)))) fun _ _ s5 => wn hK1 ?_; clear s3
 obtain ⟨x1, e_x1, h1⟩ := bind_some h0; clear h0
 obtain ⟨x2, e_x2, h2⟩ := bind_some h1; clear h1; replace e_x2 := Option.some.inj e_x2
 obtain ⟨x3, e_x3, h3⟩ := bind_some h2; clear h2
 refine wp_seq_k fun K2 hK2 => wp_region_lit (qs s5 (.c1 rfl (ob_fieldAddr (off' := 0) rfl Try.underlying130 rfl sz3 (by decide) (.tmp rfl) rfl) (.c1 rfl (ob_load rfl tk3 (.tmp rfl) (.tail _ (.head _)) (lg_api_Frame_Kind p1)) (.c1 rfl (ob_fieldAddr (off' := 0) rfl Try.underlying130 rfl sz3 (by decide) (.tmp rfl) rfl) (.c1 rfl (ob_load rfl tk3 (.tmp rfl) (.head _) (lg_api_Frame_Kind p2)) (.c1 rfl (ob_eql rfl (.tmp rfl) (.tmp rfl)) (.c1 rfl (mv rfl rfl) (.cg rfl rfl rfl rfl (fun hb => ob_fieldAddr (off' := 1) rfl Try.underlying130 rfl sz3 (by decide) (.tmp rfl) rfl) (.cg rfl rfl rfl rfl (fun hb => (Ob.uncond (t := 11) hb rfl (ob_load rfl tk3 (.tmp rfl) (.tail _ (.head _)) (lg_api_Frame_From p1)))) (.cg rfl rfl rfl rfl (fun hb => ob_fieldAddr (off' := 1) rfl Try.underlying130 rfl sz3 (by decide) (.tmp rfl) rfl) (.cg rfl rfl rfl rfl (fun hb => (Ob.uncond (t := 13) hb rfl (ob_load rfl tk3 (.tmp rfl) (.head _) (lg_api_Frame_From p2)))) (.cg rfl rfl rfl rfl (fun hb => (Ob.uncond (t := 14) hb rfl ((Ob.uncond (t := 12) hb rfl (ob_eql rfl (.tmp rfl) (.tmp rfl)))))) (.c1 rfl (ob_and2 rfl (.tmp rfl) (.tmp rfl) opd_bool) (.c1 rfl (mv rfl rfl) (.cg rfl rfl rfl rfl (fun hb => ob_fieldAddr (off' := 2) rfl Try.underlying130 rfl sz44 (by decide) (.tmp rfl) rfl) (.cg rfl rfl rfl rfl (fun hb => (Ob.uncond (t := 18) hb rfl (ob_load rfl tk44 (.tmp rfl) (.tail _ (.head _)) (lg_api_Frame_Op p1)))) (.cg rfl rfl rfl rfl (fun hb => ob_fieldAddr (off' := 2) rfl Try.underlying130 rfl sz44 (by decide) (.tmp rfl) rfl) (.cg rfl rfl rfl rfl (fun hb => (Ob.uncond (t := 20) hb rfl (ob_load rfl tk44 (.tmp rfl) (.head _) (lg_api_Frame_Op p2)))) (.cg rfl rfl rfl rfl (fun hb => (Ob.uncond (t := 21) hb rfl ((Ob.uncond (t := 19) hb rfl (ob_callD0 (args := [_, _]) rfl .direct hb148 (fun a w s => by exact c_frame_same k _ _ _ (ite_t hb e_x1) _ _ _ _ (s.arg (.tmp rfl)) (s.arg (.tmp rfl)))))))) (.c1 rfl ((ob_and2 rfl (.tmp rfl) (.tmp rfl) opd_bool).nm e_x2) (.c1 rfl (mv rfl rfl) (.cg rfl rfl rfl rfl (fun hb => ob_fieldAddr (off' := 73) rfl Try.underlying130 rfl sz40 (by decide) (.tmp rfl) rfl) (.cg rfl rfl rfl rfl (fun hb => (Ob.uncond (t := 25) hb rfl (ob_load rfl tk40 (.tmp rfl) (.tail _ (.head _)) (lg_api_Frame_Ids p1)))) (.cg rfl rfl rfl rfl (fun hb => ob_fieldAddr (off' := 73) rfl Try.underlying130 rfl sz40 (by decide) (.tmp rfl) rfl) (.cg rfl rfl rfl rfl (fun hb => (Ob.uncond (t := 27) hb rfl (ob_load rfl tk40 (.tmp rfl) (.head _) (lg_api_Frame_Ids p2)))) (.cg rfl rfl rfl rfl (fun hb => (Ob.uncond (t := 28) hb rfl ((Ob.uncond (t := 26) hb rfl (ob_callD0 (args := [_, _]) rfl .direct hb122 (fun a w s => by exact c_slices_Equal_api_Key_api_Key k _ _ _ (ite_t hb e_x3) _ _ _ _ (s.arg (.tmp rfl)) (s.arg (.tmp rfl)))))))) (.c1 rfl (ob_and2 rfl (.tmp rfl) (.tmp rfl) opd_bool) (.c1 rfl (ob_assign rfl (.tmp rfl)) (.ce (u 4 rfl .nil))))))))))))))))))))))))))))) fun _ _ s33 => wn hK2 ?_); clear s5
 have s34 := St.drop (A := []) s33; clear s33
 have s35 := St.drop (A := []) s34; clear s34
 refine wp_ret ?_
 obtain rfl := Option.some.inj h3
 exact leave s35 (.inl rfl) rfl (.cons (.tmp rfl) .nil)
theorem c_queue_Same_1 (k : Nat) (p1 : api_Held) (p2 : api_Held) (r : Bool) (h0 : queue_Same_1 k p1 p2 = some r) (ok : Ok) (w0 : World) (z0 : Value) (z1 : Value) (u0 : (k_api_Held.V p1).holds ok w0 z0) (u1 : (k_api_Held.V p2).holds ok w0 z1) :
 Gives Try.prog 121 [z0, z1] ok w0 (resFact [kbool.V r]) := by
 unfold queue_Same_1 at h0
 refine enter (N := 26) Try.func121 rfl rfl (of_decide_eq_true rfl) (.cons u0 (.cons u1 .nil)) fun a1 s1 => ?_
 refine wp_seq_k fun K1 hK1 => wp_region_lit ?_
 refine qx (B' := (fun b1 : Nat => [BF b1 91 k_api_Held p1])) s1 rfl (ob_box rfl (.tmp rfl)) fun b1 _ _ s2 => ?_; clear s1
 refine qx (B' := (fun b2 : Nat => [BF b2 91 k_api_Held p2, BF b1 91 k_api_Held p1])) s2 rfl (ob_box rfl (.tmp rfl)) fun b2 _ _ s3 => ?_; clear s2
 refine qs s3 (.c1 rfl (ob_assign rfl opd_bool) (.ce (u 2 rfl (u 3 rfl .nil)))) fun _ _ s5 => wn hK1 ?_; clear s3
 obtain ⟨x1, e_x1, h1⟩ := bind_some h0; clear h0
 obtain ⟨x2, e_x2, h2⟩ := bind_some h1; clear h1
 obtain ⟨x3, e_x3, h3⟩ := bind_some h2; clear h2; replace e_x3 := Option.some.inj e_x3
 refine wp_seq_k fun K2 hK2 => wp_region_lit (qs s5 (.c1 rfl (ob_fieldAddr (off' := 0) rfl Try.underlying91 rfl sz39 (by decide) (.tmp rfl) rfl) (.c1 rfl (ob_load rfl tk39 (.tmp rfl) (.tail _ (.head _)) (lg_api_Held_Id p1)) (.c1 rfl (ob_fieldAddr (off' := 0) rfl Try.underlying91 rfl sz39 (by decide) (.tmp rfl) rfl) (.c1 rfl (ob_load rfl tk39 (.tmp rfl) (.head _) (lg_api_Held_Id p2)) (.c1 rfl (ob_eqAgg rfl rfl (by kernel_rfl) eq39 (by decide) (.tmp rfl) (.tmp rfl)) (.c1 rfl (mv rfl rfl) (.cg rfl rfl rfl rfl (fun hb => ob_fieldAddr (off' := 103) rfl Try.underlying91 rfl sz40 (by decide) (.tmp rfl) rfl) (.cg rfl rfl rfl rfl (fun hb => (Ob.uncond (t := 11) hb rfl (ob_load rfl tk40 (.tmp rfl) (.tail _ (.head _)) (lg_api_Held_Got p1)))) (.cg rfl rfl rfl rfl (fun hb => ob_fieldAddr (off' := 103) rfl Try.underlying91 rfl sz40 (by decide) (.tmp rfl) rfl) (.cg rfl rfl rfl rfl (fun hb => (Ob.uncond (t := 13) hb rfl (ob_load rfl tk40 (.tmp rfl) (.head _) (lg_api_Held_Got p2)))) (.cg rfl rfl rfl rfl (fun hb => (Ob.uncond (t := 14) hb rfl ((Ob.uncond (t := 12) hb rfl (ob_callD0 (args := [_, _]) rfl .direct hb122 (fun a w s => by exact c_slices_Equal_api_Key_api_Key k _ _ _ (ite_t hb e_x1) _ _ _ _ (s.arg (.tmp rfl)) (s.arg (.tmp rfl)))))))) (.c1 rfl (ob_and2 rfl (.tmp rfl) (.tmp rfl) opd_bool) (.c1 rfl (mv rfl rfl) (.cg rfl rfl rfl rfl (fun hb => ob_fieldAddr (off' := 32) rfl Try.underlying91 rfl sz44 (by decide) (.tmp rfl) rfl) (.cg rfl rfl rfl rfl (fun hb => (Ob.uncond (t := 18) hb rfl (ob_load rfl tk44 (.tmp rfl) (.tail _ (.head _)) (lg_api_Held_Op p1)))) (.cg rfl rfl rfl rfl (fun hb => (Ob.uncond (t := 19) hb rfl (ob_mkStruct (K := k_api_Frame) (X0 := (⟨(0 : Int), (0 : Int), (⟨(0 : Int), (0 : Int), [], (0 : Int), [], (List.replicate 32 (0 : Int)), (List.replicate 32 (0 : Int)), [], []⟩ : api_Op), []⟩ : api_Frame)) rfl Try.underlying130 zz130 rfl pl130 (Zr.iso (f := t_api_Frame) (x := (⟨(0 : Int), (0 : Int), (⟨(0 : Int), (0 : Int), [], (0 : Int), [], (List.replicate 32 (0 : Int)), (List.replicate 32 (0 : Int)), [], []⟩ : api_Op), []⟩ : api_Frame)) (Zr.pair (Zr.int .i64) (Zr.pair (Zr.int .i64) (Zr.pair (Zr.iso (f := t_api_Op) (x := (⟨(0 : Int), (0 : Int), [], (0 : Int), [], (List.replicate 32 (0 : Int)), (List.replicate 32 (0 : Int)), [], []⟩ : api_Op)) (Zr.pair (Zr.int .i64) (Zr.pair (Zr.int .u32) (Zr.pair (Zr.sl _) (Zr.pair (Zr.int .i64) (Zr.pair (Zr.sl _) (Zr.pair (Zr.arr 32 (Zr.int .u8)) (Zr.pair (Zr.arr 32 (Zr.int .u8)) (Zr.pair Zr.str (Zr.pair (Zr.sl _) Zr.nil)))))))))) (Zr.pair (Zr.sl _) Zr.nil))))) (.cons (.tmp rfl) rfl (ls_api_Frame_Op (⟨(0 : Int), (0 : Int), (⟨(0 : Int), (0 : Int), [], (0 : Int), [], (List.replicate 32 (0 : Int)), (List.replicate 32 (0 : Int)), [], []⟩ : api_Op), []⟩ : api_Frame) p1.Op) (.nil _))))) (.cg rfl rfl rfl rfl (fun hb => ob_fieldAddr (off' := 32) rfl Try.underlying91 rfl sz44 (by decide) (.tmp rfl) rfl) (.cg rfl rfl rfl rfl (fun hb => (Ob.uncond (t := 21) hb rfl (ob_load rfl tk44 (.tmp rfl) (.head _) (lg_api_Held_Op p2)))) (.cg rfl rfl rfl rfl (fun hb => (Ob.uncond (t := 22) hb rfl (ob_mkStruct (K := k_api_Frame) (X0 := (⟨(0 : Int), (0 : Int), (⟨(0 : Int), (0 : Int), [], (0 : Int), [], (List.replicate 32 (0 : Int)), (List.replicate 32 (0 : Int)), [], []⟩ : api_Op), []⟩ : api_Frame)) rfl Try.underlying130 zz130 rfl pl130 (Zr.iso (f := t_api_Frame) (x := (⟨(0 : Int), (0 : Int), (⟨(0 : Int), (0 : Int), [], (0 : Int), [], (List.replicate 32 (0 : Int)), (List.replicate 32 (0 : Int)), [], []⟩ : api_Op), []⟩ : api_Frame)) (Zr.pair (Zr.int .i64) (Zr.pair (Zr.int .i64) (Zr.pair (Zr.iso (f := t_api_Op) (x := (⟨(0 : Int), (0 : Int), [], (0 : Int), [], (List.replicate 32 (0 : Int)), (List.replicate 32 (0 : Int)), [], []⟩ : api_Op)) (Zr.pair (Zr.int .i64) (Zr.pair (Zr.int .u32) (Zr.pair (Zr.sl _) (Zr.pair (Zr.int .i64) (Zr.pair (Zr.sl _) (Zr.pair (Zr.arr 32 (Zr.int .u8)) (Zr.pair (Zr.arr 32 (Zr.int .u8)) (Zr.pair Zr.str (Zr.pair (Zr.sl _) Zr.nil)))))))))) (Zr.pair (Zr.sl _) Zr.nil))))) (.cons (.tmp rfl) rfl (ls_api_Frame_Op (⟨(0 : Int), (0 : Int), (⟨(0 : Int), (0 : Int), [], (0 : Int), [], (List.replicate 32 (0 : Int)), (List.replicate 32 (0 : Int)), [], []⟩ : api_Op), []⟩ : api_Frame) p2.Op) (.nil _))))) (.cg rfl rfl rfl rfl (fun hb => (Ob.uncond (t := 23) hb rfl ((Ob.uncond (t := 20) hb rfl (ob_callD0 (args := [_, _]) rfl .direct hb107 (fun a w s => by exact c_frame_Same k _ _ _ (ite_t hb e_x2) _ _ _ _ (s.arg (.tmp rfl)) (s.arg (.tmp rfl)))))))) (.c1 rfl ((ob_and2 rfl (.tmp rfl) (.tmp rfl) opd_bool).nm e_x3) (.c1 rfl (ob_assign rfl (.tmp rfl)) (.ce (u 4 rfl .nil)))))))))))))))))))))))) fun _ _ s28 => wn hK2 ?_); clear s5
 have s29 := St.drop (A := []) s28; clear s28
 have s30 := St.drop (A := []) s29; clear s29
 refine wp_ret ?_
 obtain rfl := Option.some.inj h3
 exact leave s30 (.inl rfl) rfl (.cons (.tmp rfl) .nil)
theorem c_slices_EqualFunc_api_Held_api_Held_api_Held_api_Held_queue_Same_1 (k : Nat) (p1 : (List api_Held)) (p2 : (List api_Held)) (r : Bool) (h0 : slices_EqualFunc_api_Held_api_Held_api_Held_api_Held_queue_Same_1 k p1 p2 = some r) (ok : Ok) (w0 : World) (z0 : Value) (z1 : Value) (z2 : Value) (u0 : ((ksl k_api_Held).V p1).holds ok w0 z0) (u1 : ((ksl k_api_Held).V p2).holds ok w0 z1) (u2 : (is (.func (.func 121) #[] #[])).holds ok w0 z2) :
 Gives Try.prog 120 [z0, z1, z2] ok w0 (resFact [kbool.V r]) := by
 unfold slices_EqualFunc_api_Held_api_Held_api_Held_api_Held_queue_Same_1 at h0
 refine enter (N := 32) Try.func120 rfl rfl (of_decide_eq_true rfl) (.cons u0 (.cons u1 (.cons u2 .nil))) fun a1 s1 => ?_
 refine wp_seq_k fun K1 hK1 => wp_region_lit (qs s1 (.c1 rfl (ob_assign rfl opd_bool) (.ce (u 0 rfl (u 1 rfl (u 2 rfl .nil))))) fun _ _ s3 => wn hK1 ?_); clear s1
 refine wp_seq_k fun K2 hK2 => wp_seq_k fun K3 hK3 => ?_
 refine wp_region_lit (qs s3 (.c1 rfl (mv rfl rfl) (.c1 rfl (ob_lens rfl Try.underlying85 (.tmp rfl)) (.c1 rfl (mv rfl rfl) (.c1 rfl (ob_lens rfl Try.underlying85 (.tmp rfl)) (.c1 rfl (ob_neq rfl (.tmp rfl) (.tmp rfl)) (.ce (u 0 rfl (u 1 rfl (u 2 rfl (u 14 rfl .nil)))))))))) fun _ _ s9 => wn hK3 ?_); clear s3
 refine cond_split s9 (.tmp rfl) (fun hc1 => ?_) (fun hc1 => ?_)
 ·have h1 := ite_t hc1 h0; clear h0
  refine wp_seq_k fun K4 hK4 => wp_region_lit (qs s9 (.c1 rfl (ob_assign rfl opd_bool) (.ce (u 6 rfl .nil))) fun _ _ s11 => wn hK4 ?_); clear s9
  refine wp_ret ?_
  obtain rfl := Option.some.inj h1
  exact leave s11 (.inl rfl) rfl (.cons (.tmp rfl) .nil)
 ·have h2 := ite_f hc1 h0; clear h0
  refine wp_skip ?_
  refine then_normal (hK2 _ _ ?_)
  have s12 := s9.sub (u 0 rfl (u 1 rfl (u 2 rfl .nil))); clear s9
  refine wp_seq_k fun K5 hK5 => wp_seq_k fun K6 hK6 => ?_
  refine wp_region_lit (qs s12 (.c1 rfl (mv rfl rfl) (.c1 rfl (ob_lens rfl Try.underlying85 (.tmp rfl)) (.c1 rfl (ob_move rfl (opd_int rfl)) (.ce (u 1 rfl (u 2 rfl (u 15 rfl (u 16 rfl (u 17 rfl .nil))))))))) fun _ _ s16 => wn hK6 ?_); clear s12
  have hj1 : ∀ (a : Act) (w : World), (slices_EqualFunc_api_Held_api_Held_api_Held_api_Held_queue_Same_1.j1 k) = some r → St ⟨32, w0, ok, []⟩ [] [] a w → K5 a w := by
   intro a17 w17 h3 s17
   unfold slices_EqualFunc_api_Held_api_Held_api_Held_api_Held_queue_Same_1.j1 at h3
   refine hK5 _ _ ?_
   refine wp_seq_k fun K7 hK7 => wp_region_lit (qs s17 (.c1 rfl (ob_assign rfl opd_bool) (.ce (u 6 rfl .nil))) fun _ _ s19 => wn hK7 ?_); clear s17
   refine wp_ret ?_
   obtain rfl := Option.some.inj h3
   exact leave s19 (.inl rfl) rfl (.cons (.tmp rfl) .nil)
  refine wp_block ?_
  refine wp_loop_fuel (fun m (q : Int) => slices_EqualFunc_api_Held_api_Held_api_Held_api_Held_queue_Same_1.l1 k p1 p2 m q) r (fun _ => rfl) (fun q a w => St ⟨32, w0, ok, []⟩ [] [(1, ((ksl k_api_Held).V p2)), (2, (is (.func (.func 121) #[] #[]))), (15, ((ksl k_api_Held).V p1)), (16, ((kint .i64).V (p1.length : Int))), (17, ((kint .i64).V q))] a w) ?_ k (0 : Int) _ _ h2 (s16.sub (.cons rfl (.cons rfl (.cons rfl (.cons rfl (.cons rfl .nil))))))
  rintro n1 y1 a20 w20 h4 s20 K8 hK8
  replace h4 : slices_EqualFunc_api_Held_api_Held_api_Held_api_Held_queue_Same_1.l1 k p1 p2 (n1 + 1) y1 = some r := h4; rw [slices_EqualFunc_api_Held_api_Held_api_Held_api_Held_queue_Same_1.l1] at h4
  have h5 := h4; clear h4
  refine wp_seq_k fun K9 hK9 => wp_region_lit (qs s20 (.c1 rfl (ob_lss rfl (.tmp rfl) (.tmp rfl)) (.ce (u 1 rfl (u 2 rfl (u 15 rfl (u 16 rfl (u 17 rfl (u 18 rfl .nil)))))))) fun _ _ s22 => wn hK9 ?_); clear s20
  refine wp_seq_k fun K10 hK10 => ?_
  refine cond_split s22 (.tmp rfl) (fun hc2 => ?_) (fun hc2 => ?_)
  ·have h6 := ite_t hc2 h5; clear h5
   refine wp_skip ?_
   refine then_normal (hK10 _ _ ?_)
   have s23 := s22.sub (u 1 rfl (u 2 rfl (u 15 rfl (u 16 rfl (u 17 rfl .nil))))); clear s22
   refine wp_seq_k fun K11 hK11 => wp_block ?_
   obtain ⟨x1, e_x1, h7⟩ := bind_some h6; clear h6
   refine wp_seq_k fun K12 hK12 => wp_region_lit (qs s23 (.c1 rfl (mv rfl rfl) (.c1 rfl (ob_indexAddrs rfl Try.underlying85 sz91 (.tmp rfl) (.tmp rfl) e_x1) (.c1 rfl (ob_loadr rfl tk91 (.tmp rfl)) .cz))) fun _ _ s26 => ?_); clear s23
   refine qx (B' := (fun b1 : Nat => [BF b1 91 k_api_Held (⟨(List.replicate 32 (0 : Int)), (⟨(0 : Int), (0 : Int), [], (0 : Int), [], (List.replicate 32 (0 : Int)), (List.replicate 32 (0 : Int)), [], []⟩ : api_Op), []⟩ : api_Held)])) s26 rfl (ob_new (k := k_api_Held) rfl zz91 (Zr.iso (f := t_api_Held) (x := (⟨(List.replicate 32 (0 : Int)), (⟨(0 : Int), (0 : Int), [], (0 : Int), [], (List.replicate 32 (0 : Int)), (List.replicate 32 (0 : Int)), [], []⟩ : api_Op), []⟩ : api_Held)) (Zr.pair (Zr.arr 32 (Zr.int .u8)) (Zr.pair (Zr.iso (f := t_api_Op) (x := (⟨(0 : Int), (0 : Int), [], (0 : Int), [], (List.replicate 32 (0 : Int)), (List.replicate 32 (0 : Int)), [], []⟩ : api_Op)) (Zr.pair (Zr.int .i64) (Zr.pair (Zr.int .u32) (Zr.pair (Zr.sl _) (Zr.pair (Zr.int .i64) (Zr.pair (Zr.sl _) (Zr.pair (Zr.arr 32 (Zr.int .u8)) (Zr.pair (Zr.arr 32 (Zr.int .u8)) (Zr.pair Zr.str (Zr.pair (Zr.sl _) Zr.nil)))))))))) (Zr.pair (Zr.sl _) Zr.nil))))) fun b1 _ _ s27 => ?_; clear s26
   refine qs s27 (.c1 rfl (ob_assign rfl (.tmp rfl)) .cz) fun _ _ s28 => ?_; clear s27
   refine seq_opx0 (B' := (fun _ : Unit => [BF b1 91 k_api_Held x1])) s28 rfl rfl (ob_store (A := []) rfl tk91 (.tmp rfl) (.tmp rfl) rfl (LS.refl _ _ _) rfl) fun _ a29 w29 s29 => ?_; clear s28
   refine wn hK12 ?_
   have s30 := s29.sub (u 1 rfl (u 2 rfl (u 7 rfl (u 8 rfl (u 15 rfl (u 16 rfl (u 17 rfl .nil))))))); clear s29
   obtain ⟨x2, e_x2, h8⟩ := bind_some h7; clear h7
   refine wp_seq_k fun K13 hK13 => wp_region_lit (qs s30 (.c1 rfl (mv rfl rfl) (.c1 rfl (mv rfl rfl) (.c1 rfl (ob_indexAddrs rfl Try.underlying85 sz91 (.tmp rfl) (.tmp rfl) e_x2) (.c1 rfl (ob_loadr rfl tk91 (.tmp rfl)) .cz)))) fun _ _ s34 => ?_); clear s30
   refine qx (B' := (fun b2 : Nat => [BF b2 91 k_api_Held (⟨(List.replicate 32 (0 : Int)), (⟨(0 : Int), (0 : Int), [], (0 : Int), [], (List.replicate 32 (0 : Int)), (List.replicate 32 (0 : Int)), [], []⟩ : api_Op), []⟩ : api_Held), BF b1 91 k_api_Held x1])) s34 rfl (ob_new (k := k_api_Held) rfl zz91 (Zr.iso (f := t_api_Held) (x := (⟨(List.replicate 32 (0 : Int)), (⟨(0 : Int), (0 : Int), [], (0 : Int), [], (List.replicate 32 (0 : Int)), (List.replicate 32 (0 : Int)), [], []⟩ : api_Op), []⟩ : api_Held)) (Zr.pair (Zr.arr 32 (Zr.int .u8)) (Zr.pair (Zr.iso (f := t_api_Op) (x := (⟨(0 : Int), (0 : Int), [], (0 : Int), [], (List.replicate 32 (0 : Int)), (List.replicate 32 (0 : Int)), [], []⟩ : api_Op)) (Zr.pair (Zr.int .i64) (Zr.pair (Zr.int .u32) (Zr.pair (Zr.sl _) (Zr.pair (Zr.int .i64) (Zr.pair (Zr.sl _) (Zr.pair (Zr.arr 32 (Zr.int .u8)) (Zr.pair (Zr.arr 32 (Zr.int .u8)) (Zr.pair Zr.str (Zr.pair (Zr.sl _) Zr.nil)))))))))) (Zr.pair (Zr.sl _) Zr.nil))))) fun b2 _ _ s35 => ?_; clear s34
   refine seq_opx0 (B' := (fun _ : Unit => [BF b2 91 k_api_Held x2, BF b1 91 k_api_Held x1])) s35 rfl rfl (ob_store (A := []) rfl tk91 (.tmp rfl) (.tmp rfl) rfl (LS.refl _ _ _) rfl) fun _ a36 w36 s36 => ?_; clear s35
   refine wn hK13 ?_
   have s37 := s36.sub (u 1 rfl (u 2 rfl (u 8 rfl (u 9 rfl (u 15 rfl (u 16 rfl (u 17 rfl .nil))))))); clear s36
   obtain ⟨x3, e_x3, h9⟩ := bind_some h8; clear h8
   refine wp_seq_k fun K14 hK14 => wp_region_lit (qs s37 (.c1 rfl (mv rfl rfl) (.c1 rfl (ob_load rfl tk91 (.tmp rfl) (.tail _ (.head _)) (LG.refl _ _)) (.c1 rfl (ob_load rfl tk91 (.tmp rfl) (.head _) (LG.refl _ _)) (.c1 rfl (ob_callD0 (args := [_, _]) rfl (.fn (.tmp rfl)) hb121 (fun a w s => by exact c_queue_Same_1 k _ _ _ e_x3 _ _ _ _ (s.arg (.tmp rfl)) (s.arg (.tmp rfl)))) (.c1 rfl (ob_not rfl (.tmp rfl)) (.ce (u 1 rfl (u 2 rfl (u 15 rfl (u 16 rfl (u 17 rfl (u 30 rfl .nil)))))))))))) fun _ _ s43 => wn hK14 ?_); clear s37
   have s44 := St.drop (A := []) s43; clear s43
   have s45 := St.drop (A := []) s44; clear s44
   refine cond_split s45 (.tmp rfl) (fun hc3 => ?_) (fun hc3 => ?_)
   ·have h10 := ite_t hc3 h9; clear h9
    refine wp_seq_k fun K15 hK15 => wp_region_lit (qs s45 (.c1 rfl (ob_assign rfl opd_bool) (.ce (u 6 rfl .nil))) fun _ _ s47 => wn hK15 ?_); clear s45
    refine wp_ret ?_
    obtain rfl := Option.some.inj h10
    exact leave s47 (.inl rfl) rfl (.cons (.tmp rfl) .nil)
   ·have h11 := ite_f hc3 h9; clear h9
    refine wp_skip ?_
    refine in_normal ?_
    refine then_normal (hK11 _ _ ?_)
    have s48 := s45.sub (u 1 rfl (u 2 rfl (u 15 rfl (u 16 rfl (u 17 rfl .nil))))); clear s45
    refine wp_region_lit (qs s48 (.c1 rfl (ob_add rfl (.tmp rfl) (opd_int rfl)) (.c1 rfl (mv rfl rfl) .cz)) fun _ _ s50 => ?_); clear s48
    refine wpList_nil ?_
    refine then_normal ?_
    exact hK8 (iadd .i64 y1 (1 : Int)) _ _ h11 (s50.sub (.cons rfl (.cons rfl (.cons rfl (.cons rfl (.cons rfl .nil))))))
  ·have h12 := ite_f hc2 h5; clear h5
   refine wp_exit ?_
   refine (then_exit (then_exit (in_here ?_)))
   refine then_normal ?_
   exact hj1 _ _ h12 (s22.sub .nil)
theorem c_queue_Same (k : Nat) (p1 : (List api_Held)) (p2 : (List api_Held)) (r : Bool) (h0 : queue_Same k p1 p2 = some r) (ok : Ok) (w0 : World) (z0 : Value) (z1 : Value) (u0 : ((ksl k_api_Held).V p1).holds ok w0 z0) (u1 : ((ksl k_api_Held).V p2).holds ok w0 z1) :
 Gives Try.prog 74 [z0, z1] ok w0 (resFact [kbool.V r]) := by
 unfold queue_Same at h0
 refine enter (N := 8) Try.func74 rfl rfl (of_decide_eq_true rfl) (.cons u0 (.cons u1 .nil)) fun a1 s1 => ?_
 refine wp_seq_k fun K1 hK1 => wp_region_lit (qs s1 (.c1 rfl (ob_assign rfl opd_bool) (.ce (u 0 rfl (u 1 rfl .nil)))) fun _ _ s3 => wn hK1 ?_); clear s1
 obtain ⟨x1, e_x1, h1⟩ := bind_some h0; clear h0
 refine wp_seq_k fun K2 hK2 => wp_region_lit (qs s3 (.c1 rfl (mv rfl rfl) (.c1 rfl (mv rfl rfl) (.c1 rfl (ob_callD0 (args := [_, _, _]) rfl .direct hb120 (fun a w s => by exact c_slices_EqualFunc_api_Held_api_Held_api_Held_api_Held_queue_Same_1 k _ _ _ e_x1 _ _ _ _ _ (s.arg (.tmp rfl)) (s.arg (.tmp rfl)) (s.arg .func))) (.c1 rfl (ob_assign rfl (.tmp rfl)) (.ce (u 4 rfl .nil)))))) fun _ _ s8 => wn hK2 ?_); clear s3
 refine wp_ret ?_
 obtain rfl := Option.some.inj h1
 exact leave s8 (.inl rfl) rfl (.cons (.tmp rfl) .nil)
theorem c_cabalref11_SameOp (k : Nat) (p1 : api_Op) (p2 : api_Op) (r : Bool) (h0 : cabalref11_SameOp k p1 p2 = some r) (ok : Ok) (w0 : World) (z0 : Value) (z1 : Value) (u0 : (k_api_Op.V p1).holds ok w0 z0) (u1 : (k_api_Op.V p2).holds ok w0 z1) :
 Gives Try.prog 103 [z0, z1] ok w0 (resFact [kbool.V r]) := by
 unfold cabalref11_SameOp at h0
 refine enter (N := 129) Try.func103 rfl rfl (of_decide_eq_true rfl) (.cons u0 (.cons u1 .nil)) fun a1 s1 => ?_
 refine wp_seq_k fun K1 hK1 => wp_region_lit ?_
 refine qx (B' := (fun b1 : Nat => [BF b1 44 k_api_Op p1])) s1 rfl (ob_box rfl (.tmp rfl)) fun b1 _ _ s2 => ?_; clear s1
 refine qx (B' := (fun b2 : Nat => [BF b2 44 k_api_Op p2, BF b1 44 k_api_Op p1])) s2 rfl (ob_box rfl (.tmp rfl)) fun b2 _ _ s3 => ?_; clear s2
 refine qs s3 (.c1 rfl (ob_assign rfl opd_bool) (.ce (u 2 rfl (u 3 rfl .nil)))) fun _ _ s5 => wn hK1 ?_; clear s3
 refine wp_seq_k fun K2 hK2 => wp_seq_k fun K3 hK3 => ?_
 obtain ⟨x1, e_x1, h1⟩ := bind_some h0; clear h0; replace e_x1 := Option.some.inj e_x1
 obtain ⟨x2, e_x2, h2⟩ := bind_some h1; clear h1; replace e_x2 := Option.some.inj e_x2
 obtain ⟨x3, e_x3, h3⟩ := bind_some h2; clear h2; replace e_x3 := Option.some.inj e_x3
 obtain ⟨x4, e_x4, h4⟩ := bind_some h3; clear h3; replace e_x4 := Option.some.inj e_x4
 obtain ⟨x5, e_x5, h5⟩ := bind_some h4; clear h4; replace e_x5 := Option.some.inj e_x5
 refine wp_region_lit (qs s5 (.c1 rfl (ob_fieldAddr (off' := 0) rfl Try.underlying44 rfl sz3 (by decide) (.tmp rfl) rfl) (.c1 rfl (ob_load rfl tk3 (.tmp rfl) (.tail _ (.head _)) (lg_api_Op_Author p1)) (.c1 rfl (ob_fieldAddr (off' := 0) rfl Try.underlying44 rfl sz3 (by decide) (.tmp rfl) rfl) (.c1 rfl (ob_load rfl tk3 (.tmp rfl) (.head _) (lg_api_Op_Author p2)) (.c1 rfl (ob_neq rfl (.tmp rfl) (.tmp rfl)) (.c1 rfl (mv rfl rfl) (.cg rfl rfl rfl rfl (fun hb => ob_fieldAddr (off' := 1) rfl Try.underlying44 rfl sz25 (by decide) (.tmp rfl) rfl) (.cg rfl rfl rfl rfl (fun hb => (Ob.uncond (t := 14) hb rfl (ob_load rfl tk25 (.tmp rfl) (.tail _ (.head _)) (lg_api_Op_Seq p1)))) (.cg rfl rfl rfl rfl (fun hb => ob_fieldAddr (off' := 1) rfl Try.underlying44 rfl sz25 (by decide) (.tmp rfl) rfl) (.cg rfl rfl rfl rfl (fun hb => (Ob.uncond (t := 16) hb rfl (ob_load rfl tk25 (.tmp rfl) (.head _) (lg_api_Op_Seq p2)))) (.cg rfl rfl rfl rfl (fun hb => (Ob.uncond (t := 17) hb rfl ((Ob.uncond (t := 15) hb rfl (ob_neq rfl (.tmp rfl) (.tmp rfl)))))) (.c1 rfl (ob_or2 rfl (.tmp rfl) opd_bool (.tmp rfl)) (.c1 rfl (mv rfl rfl) (.cg rfl rfl rfl rfl (fun hb => ob_fieldAddr (off' := 3) rfl Try.underlying44 rfl sz3 (by decide) (.tmp rfl) rfl) (.cg rfl rfl rfl rfl (fun hb => (Ob.uncond (t := 21) hb rfl (ob_load rfl tk3 (.tmp rfl) (.tail _ (.head _)) (lg_api_Op_Kind p1)))) (.cg rfl rfl rfl rfl (fun hb => ob_fieldAddr (off' := 3) rfl Try.underlying44 rfl sz3 (by decide) (.tmp rfl) rfl) (.cg rfl rfl rfl rfl (fun hb => (Ob.uncond (t := 23) hb rfl (ob_load rfl tk3 (.tmp rfl) (.head _) (lg_api_Op_Kind p2)))) (.cg rfl rfl rfl rfl (fun hb => (Ob.uncond (t := 24) hb rfl ((Ob.uncond (t := 22) hb rfl (ob_neq rfl (.tmp rfl) (.tmp rfl)))))) (.c1 rfl ((ob_or2 rfl (.tmp rfl) opd_bool (.tmp rfl)).nm e_x1) (.c1 rfl (mv rfl rfl) (.cg rfl rfl rfl rfl (fun hb => ob_fieldAddr (off' := 5) rfl Try.underlying44 rfl sz39 (by decide) (.tmp rfl) rfl) (.cg rfl rfl rfl rfl (fun hb => (Ob.uncond (t := 28) hb rfl (ob_load rfl tk39 (.tmp rfl) (.tail _ (.head _)) (lg_api_Op_Of p1)))) (.cg rfl rfl rfl rfl (fun hb => ob_fieldAddr (off' := 5) rfl Try.underlying44 rfl sz39 (by decide) (.tmp rfl) rfl) (.cg rfl rfl rfl rfl (fun hb => (Ob.uncond (t := 30) hb rfl (ob_load rfl tk39 (.tmp rfl) (.head _) (lg_api_Op_Of p2)))) (.cg rfl rfl rfl rfl (fun hb => (Ob.uncond (t := 31) hb rfl ((Ob.uncond (t := 29) hb rfl (ob_neqAgg rfl rfl (by kernel_rfl) eq39 (by decide) (.tmp rfl) (.tmp rfl)))))) (.c1 rfl (ob_or2 rfl (.tmp rfl) opd_bool (.tmp rfl)) (.c1 rfl (mv rfl rfl) (.cg rfl rfl rfl rfl (fun hb => ob_fieldAddr (off' := 37) rfl Try.underlying44 rfl sz39 (by decide) (.tmp rfl) rfl) (.cg rfl rfl rfl rfl (fun hb => (Ob.uncond (t := 35) hb rfl (ob_load rfl tk39 (.tmp rfl) (.tail _ (.head _)) (lg_api_Op_Check p1)))) (.cg rfl rfl rfl rfl (fun hb => ob_fieldAddr (off' := 37) rfl Try.underlying44 rfl sz39 (by decide) (.tmp rfl) rfl) (.cg rfl rfl rfl rfl (fun hb => (Ob.uncond (t := 37) hb rfl (ob_load rfl tk39 (.tmp rfl) (.head _) (lg_api_Op_Check p2)))) (.cg rfl rfl rfl rfl (fun hb => (Ob.uncond (t := 38) hb rfl ((Ob.uncond (t := 36) hb rfl (ob_neqAgg rfl rfl (by kernel_rfl) eq39 (by decide) (.tmp rfl) (.tmp rfl)))))) (.c1 rfl ((ob_or2 rfl (.tmp rfl) opd_bool (.tmp rfl)).nm e_x2) (.c1 rfl (mv rfl rfl) (.cg rfl rfl rfl rfl (fun hb => ob_fieldAddr (off' := 69) rfl Try.underlying44 rfl sz9 (by decide) (.tmp rfl) rfl) (.cg rfl rfl rfl rfl (fun hb => (Ob.uncond (t := 42) hb rfl (ob_load rfl tk9 (.tmp rfl) (.tail _ (.head _)) (lg_api_Op_Text p1)))) (.cg rfl rfl rfl rfl (fun hb => ob_fieldAddr (off' := 69) rfl Try.underlying44 rfl sz9 (by decide) (.tmp rfl) rfl) (.cg rfl rfl rfl rfl (fun hb => (Ob.uncond (t := 44) hb rfl (ob_load rfl tk9 (.tmp rfl) (.head _) (lg_api_Op_Text p2)))) (.cg rfl rfl rfl rfl (fun hb => (Ob.uncond (t := 45) hb rfl ((Ob.uncond (t := 43) hb rfl (ob_sneq rfl (.tmp rfl) (.tmp rfl)))))) (.c1 rfl (ob_or2 rfl (.tmp rfl) opd_bool (.tmp rfl)) (.c1 rfl (mv rfl rfl) (.cg rfl rfl rfl rfl (fun hb => ob_fieldAddr (off' := 2) rfl Try.underlying44 rfl sz40 (by decide) (.tmp rfl) rfl) (.cg rfl rfl rfl rfl (fun hb => (Ob.uncond (t := 49) hb rfl (ob_load rfl tk40 (.tmp rfl) (.tail _ (.head _)) (lg_api_Op_Parents p1)))) (.cg rfl rfl rfl rfl (fun hb => (Ob.uncond (t := 50) hb rfl (ob_lens rfl Try.underlying40 (.tmp rfl)))) (.cg rfl rfl rfl rfl (fun hb => ob_fieldAddr (off' := 2) rfl Try.underlying44 rfl sz40 (by decide) (.tmp rfl) rfl) (.cg rfl rfl rfl rfl (fun hb => (Ob.uncond (t := 52) hb rfl (ob_load rfl tk40 (.tmp rfl) (.head _) (lg_api_Op_Parents p2)))) (.cg rfl rfl rfl rfl (fun hb => (Ob.uncond (t := 53) hb rfl (ob_lens rfl Try.underlying40 (.tmp rfl)))) (.cg rfl rfl rfl rfl (fun hb => (Ob.uncond (t := 54) hb rfl ((Ob.uncond (t := 51) hb rfl (ob_neq rfl (.tmp rfl) (.tmp rfl)))))) (.c1 rfl ((ob_or2 rfl (.tmp rfl) opd_bool (.tmp rfl)).nm e_x3) (.c1 rfl (mv rfl rfl) (.cg rfl rfl rfl rfl (fun hb => ob_fieldAddr (off' := 4) rfl Try.underlying44 rfl sz41 (by decide) (.tmp rfl) rfl) (.cg rfl rfl rfl rfl (fun hb => (Ob.uncond (t := 58) hb rfl (ob_load rfl tk41 (.tmp rfl) (.tail _ (.head _)) (lg_api_Op_Who p1)))) (.cg rfl rfl rfl rfl (fun hb => (Ob.uncond (t := 59) hb rfl (ob_lens rfl Try.underlying41 (.tmp rfl)))) (.cg rfl rfl rfl rfl (fun hb => ob_fieldAddr (off' := 4) rfl Try.underlying44 rfl sz41 (by decide) (.tmp rfl) rfl) (.cg rfl rfl rfl rfl (fun hb => (Ob.uncond (t := 61) hb rfl (ob_load rfl tk41 (.tmp rfl) (.head _) (lg_api_Op_Who p2)))) (.cg rfl rfl rfl rfl (fun hb => (Ob.uncond (t := 62) hb rfl (ob_lens rfl Try.underlying41 (.tmp rfl)))) (.cg rfl rfl rfl rfl (fun hb => (Ob.uncond (t := 63) hb rfl ((Ob.uncond (t := 60) hb rfl (ob_neq rfl (.tmp rfl) (.tmp rfl)))))) (.c1 rfl ((ob_or2 rfl (.tmp rfl) opd_bool (.tmp rfl)).nm e_x4) (.c1 rfl (mv rfl rfl) (.cg rfl rfl rfl rfl (fun hb => ob_fieldAddr (off' := 70) rfl Try.underlying44 rfl sz42 (by decide) (.tmp rfl) rfl) (.cg rfl rfl rfl rfl (fun hb => (Ob.uncond (t := 67) hb rfl (ob_load rfl tk42 (.tmp rfl) (.tail _ (.head _)) (lg_api_Op_Boxes p1)))) (.cg rfl rfl rfl rfl (fun hb => (Ob.uncond (t := 68) hb rfl (ob_lens rfl Try.underlying42 (.tmp rfl)))) (.cg rfl rfl rfl rfl (fun hb => ob_fieldAddr (off' := 70) rfl Try.underlying44 rfl sz42 (by decide) (.tmp rfl) rfl) (.cg rfl rfl rfl rfl (fun hb => (Ob.uncond (t := 70) hb rfl (ob_load rfl tk42 (.tmp rfl) (.head _) (lg_api_Op_Boxes p2)))) (.cg rfl rfl rfl rfl (fun hb => (Ob.uncond (t := 71) hb rfl (ob_lens rfl Try.underlying42 (.tmp rfl)))) (.cg rfl rfl rfl rfl (fun hb => (Ob.uncond (t := 72) hb rfl ((Ob.uncond (t := 69) hb rfl (ob_neq rfl (.tmp rfl) (.tmp rfl)))))) (.c1 rfl ((ob_or2 rfl (.tmp rfl) opd_bool (.tmp rfl)).nm e_x5) (.ce (u 2 rfl (u 3 rfl (u 74 rfl .nil))))))))))))))))))))))))))))))))))))))))))))))))))))))))))))))))))))))) fun _ _ s73 => wn hK3 ?_); clear s5
 refine cond_split s73 (.tmp rfl) (fun hc1 => ?_) (fun hc1 => ?_)
 ·have h6 := ite_t hc1 h5; clear h5
  refine wp_seq_k fun K4 hK4 => wp_region_lit (qs s73 (.c1 rfl (ob_assign rfl opd_bool) (.ce (u 4 rfl .nil))) fun _ _ s75 => wn hK4 ?_); clear s73
  have s76 := St.drop (A := []) s75; clear s75
  have s77 := St.drop (A := []) s76; clear s76
  refine wp_ret ?_
  obtain rfl := Option.some.inj h6
  exact leave s77 (.inl rfl) rfl (.cons (.tmp rfl) .nil)
 ·have h7 := ite_f hc1 h5; clear h5
  refine wp_skip ?_
  refine then_normal (hK2 _ _ ?_)
  have s78 := s73.sub (u 2 rfl (u 3 rfl .nil)); clear s73
  refine wp_seq_k fun K5 hK5 => wp_seq_k fun K6 hK6 => ?_
  refine wp_region_lit (qs s78 (.c1 rfl (ob_assign rfl (opd_int rfl)) (.ce (u 2 rfl (u 3 rfl (u 5 rfl .nil))))) fun _ _ s80 => wn hK6 ?_); clear s78
  have hj1 : ∀ (a : Act) (w : World), (cabalref11_SameOp.j1 k p1 p2) = some r → St ⟨129, w0, ok, []⟩ [BF b1 44 k_api_Op p1, BF b2 44 k_api_Op p2] [(2, (ptrB b1 0)), (3, (ptrB b2 0))] a w → K5 a w := by
   intro a81 w81 h8 s81
   unfold cabalref11_SameOp.j1 at h8
   refine hK5 _ _ ?_
   refine wp_seq_k fun K7 hK7 => wp_seq_k fun K8 hK8 => ?_
   refine wp_region_lit (qs s81 (.c1 rfl (ob_assign rfl (opd_int rfl)) (.ce (u 2 rfl (u 3 rfl (u 6 rfl .nil))))) fun _ _ s83 => wn hK8 ?_); clear s81
   have hj2 : ∀ (a : Act) (w : World), (cabalref11_SameOp.j2 k p1 p2) = some r → St ⟨129, w0, ok, []⟩ [BF b1 44 k_api_Op p1, BF b2 44 k_api_Op p2] [(2, (ptrB b1 0)), (3, (ptrB b2 0))] a w → K7 a w := by
    intro a84 w84 h9 s84
    unfold cabalref11_SameOp.j2 at h9
    refine hK7 _ _ ?_
    refine wp_seq_k fun K9 hK9 => wp_seq_k fun K10 hK10 => ?_
    refine wp_region_lit (qs s84 (.c1 rfl (ob_assign rfl (opd_int rfl)) (.ce (u 2 rfl (u 3 rfl (u 7 rfl .nil))))) fun _ _ s86 => wn hK10 ?_); clear s84
    have hj3 : ∀ (a : Act) (w : World), (cabalref11_SameOp.j3 k) = some r → St ⟨129, w0, ok, []⟩ [] [] a w → K9 a w := by
     intro a87 w87 h10 s87
     unfold cabalref11_SameOp.j3 at h10
     refine hK9 _ _ ?_
     refine wp_seq_k fun K11 hK11 => wp_region_lit (qs s87 (.c1 rfl (ob_assign rfl opd_bool) (.ce (u 4 rfl .nil))) fun _ _ s89 => wn hK11 ?_); clear s87
     refine wp_ret ?_
     obtain rfl := Option.some.inj h10
     exact leave s89 (.inl rfl) rfl (.cons (.tmp rfl) .nil)
    refine wp_block ?_
    refine wp_loop_fuel (fun m (q : Int) => cabalref11_SameOp.l1 k p1 p2 m q) r (fun _ => rfl) (fun q a w => St ⟨129, w0, ok, []⟩ [BF b1 44 k_api_Op p1, BF b2 44 k_api_Op p2] [(2, (ptrB b1 0)), (3, (ptrB b2 0)), (7, ((kint .i64).V q))] a w) ?_ k (0 : Int) _ _ h9 (s86.sub (.cons rfl (.cons rfl (.cons rfl .nil))))
    rintro n1 y1 a90 w90 h11 s90 K12 hK12
    replace h11 : cabalref11_SameOp.l1 k p1 p2 (n1 + 1) y1 = some r := h11; rw [cabalref11_SameOp.l1] at h11
    have h12 := h11; clear h11
    refine wp_seq_k fun K13 hK13 => wp_seq_k fun K14 hK14 => ?_
    refine wp_region_lit (qs s90 (.c1 rfl (mv rfl rfl) (.c1 rfl (ob_fieldAddr (off' := 70) rfl Try.underlying44 rfl sz42 (by decide) (.tmp rfl) rfl) (.c1 rfl (ob_load rfl tk42 (.tmp rfl) (.head _) (lg_api_Op_Boxes p1)) (.c1 rfl (ob_lens rfl Try.underlying42 (.tmp rfl)) (.c1 rfl (ob_lss rfl (.tmp rfl) (.tmp rfl)) (.ce (u 2 rfl (u 3 rfl (u 7 rfl (u 115 rfl .nil)))))))))) fun _ _ s96 => wn hK14 ?_); clear s90
    refine cond_split s96 (.tmp rfl) (fun hc2 => ?_) (fun hc2 => ?_)
    ·have h13 := ite_t hc2 h12; clear h12
     refine wp_skip ?_
     refine then_normal (hK13 _ _ ?_)
     have s97 := s96.sub (u 2 rfl (u 3 rfl (u 7 rfl .nil))); clear s96
     refine wp_seq_k fun K15 hK15 => wp_block ?_
     refine wp_seq_k fun K16 hK16 => ?_
     obtain ⟨x6, e_x6, h14⟩ := bind_some h13; clear h13
     obtain ⟨x7, e_x7, h15⟩ := bind_some h14; clear h14
     refine wp_goes (Fs := [(ptrB b1 70), ((ksl k_api_Box).V p1.Boxes), ((kint .i64).V y1), (ptrTo k_api_Box x6), (k_api_Box.V x6), (ptrB b2 70), ((ksl k_api_Box).V p2.Boxes), ((kint .i64).V y1), (ptrTo k_api_Box x7), (k_api_Box.V x7)]) (bits := [0, 1, 0, 7, 15, 0, 32, 0, 224, 480, 1023]) (m := 10) (todo := 0) mx s97 ?_; clear s97
     refine goes_last (by kernel_rfl) rfl (oc (av 2 rfl rfl Av.nil) rfl rfl (ob_fieldAddr (off' := 70) rfl Try.underlying44 rfl sz42 (by decide) (.tmp rfl) rfl) (oc (an 0 rfl rfl rfl Av.nil) rfl rfl (ob_load rfl tk42 (.tmp rfl) (.head _) (lg_api_Op_Boxes p1)) (oc (av 7 rfl rfl Av.nil) rfl rfl (mv rfl rfl) (oc (an 1 rfl rfl rfl (an 2 rfl rfl rfl Av.nil)) rfl rfl (ob_indexAddrs rfl Try.underlying42 sz78 (.tmp rfl) (.tmp rfl) e_x6) (oc (an 3 rfl rfl rfl Av.nil) rfl rfl (ob_loadr rfl tk78 (.tmp rfl)) (oc (av 3 rfl rfl Av.nil) rfl rfl (ob_fieldAddr (off' := 70) rfl Try.underlying44 rfl sz42 (by decide) (.tmp rfl) rfl) (oc (an 5 rfl rfl rfl Av.nil) rfl rfl (ob_load rfl tk42 (.tmp rfl) (.tail _ (.head _)) (lg_api_Op_Boxes p2)) (oc (av 7 rfl rfl Av.nil) rfl rfl (mv rfl rfl) (oc (an 6 rfl rfl rfl (an 7 rfl rfl rfl Av.nil)) rfl rfl (ob_indexAddrs rfl Try.underlying42 sz78 (.tmp rfl) (.tmp rfl) e_x7) (oc (an 8 rfl rfl rfl Av.nil) rfl rfl (ob_loadr rfl tk78 (.tmp rfl)) opsS_nil)))))))))) (out_old (t := 2) rfl rfl (out_old (t := 3) rfl rfl (out_old (t := 7) rfl rfl (out_new (i := 4) (by decide) rfl rfl (out_new (i := 9) (by decide) rfl rfl out_nil))))) fun _ _ s98 => ?_
     refine qs s98 (.c1 rfl (ob_neqAgg rfl rfl (by kernel_rfl) eq78 (by decide) (.tmp rfl) (.tmp rfl)) (.ce (u 2 rfl (u 3 rfl (u 7 rfl (u 128 rfl .nil)))))) fun _ _ s100 => wn hK16 ?_; clear s98
     refine cond_split s100 (.tmp rfl) (fun hc3 => ?_) (fun hc3 => ?_)
     ·have h16 := ite_t hc3 h15; clear h15
      refine wp_seq_k fun K17 hK17 => wp_region_lit (qs s100 (.c1 rfl (ob_assign rfl opd_bool) (.ce (u 4 rfl .nil))) fun _ _ s102 => wn hK17 ?_); clear s100
      have s103 := St.drop (A := []) s102; clear s102
      have s104 := St.drop (A := []) s103; clear s103
      refine wp_ret ?_
      obtain rfl := Option.some.inj h16
      exact leave s104 (.inl rfl) rfl (.cons (.tmp rfl) .nil)
     ·have h17 := ite_f hc3 h15; clear h15
      refine wp_skip ?_
      refine in_normal ?_
      refine then_normal (hK15 _ _ ?_)
      have s105 := s100.sub (u 2 rfl (u 3 rfl (u 7 rfl .nil))); clear s100
      refine wp_region_lit (qs s105 (.c1 rfl (mv rfl rfl) (.c1 rfl (ob_add rfl (.tmp rfl) (opd_int rfl)) (.c1 rfl (ob_assign rfl (.tmp rfl)) .cz))) fun _ _ s108 => ?_); clear s105
      refine wpList_nil ?_
      refine then_normal ?_
      exact hK12 (iadd .i64 y1 (1 : Int)) _ _ h17 (s108.sub (.cons rfl (.cons rfl (.cons rfl .nil))))
    ·have h18 := ite_f hc2 h12; clear h12
     refine wp_exit ?_
     refine (then_exit (then_exit (in_here ?_)))
     refine then_normal ?_
     have s109 := St.drop (A := []) s96; clear s96
     have s110 := St.drop (A := []) s109; clear s109
     exact hj3 _ _ h18 (s110.sub .nil)
   refine wp_block ?_
   refine wp_loop_fuel (fun m (q : Int) => cabalref11_SameOp.l2 k p1 p2 m q) r (fun _ => rfl) (fun q a w => St ⟨129, w0, ok, []⟩ [BF b1 44 k_api_Op p1, BF b2 44 k_api_Op p2] [(2, (ptrB b1 0)), (3, (ptrB b2 0)), (6, ((kint .i64).V q))] a w) ?_ k (0 : Int) _ _ h8 (s83.sub (.cons rfl (.cons rfl (.cons rfl .nil))))
   rintro n2 y2 a111 w111 h19 s111 K18 hK18
   replace h19 : cabalref11_SameOp.l2 k p1 p2 (n2 + 1) y2 = some r := h19; rw [cabalref11_SameOp.l2] at h19
   have h20 := h19; clear h19
   refine wp_seq_k fun K19 hK19 => wp_seq_k fun K20 hK20 => ?_
   refine wp_region_lit (qs s111 (.c1 rfl (mv rfl rfl) (.c1 rfl (ob_fieldAddr (off' := 4) rfl Try.underlying44 rfl sz41 (by decide) (.tmp rfl) rfl) (.c1 rfl (ob_load rfl tk41 (.tmp rfl) (.head _) (lg_api_Op_Who p1)) (.c1 rfl (ob_lens rfl Try.underlying41 (.tmp rfl)) (.c1 rfl (ob_lss rfl (.tmp rfl) (.tmp rfl)) (.ce (u 2 rfl (u 3 rfl (u 6 rfl (u 97 rfl .nil)))))))))) fun _ _ s117 => wn hK20 ?_); clear s111
   refine cond_split s117 (.tmp rfl) (fun hc4 => ?_) (fun hc4 => ?_)
   ·have h21 := ite_t hc4 h20; clear h20
    refine wp_skip ?_
    refine then_normal (hK19 _ _ ?_)
    have s118 := s117.sub (u 2 rfl (u 3 rfl (u 6 rfl .nil))); clear s117
    refine wp_seq_k fun K21 hK21 => wp_block ?_
    refine wp_seq_k fun K22 hK22 => ?_
    obtain ⟨x8, e_x8, h22⟩ := bind_some h21; clear h21
    obtain ⟨x9, e_x9, h23⟩ := bind_some h22; clear h22
    refine wp_goes (Fs := [(ptrB b1 4), ((ksl (kint .i64)).V p1.Who), ((kint .i64).V y2), (ptrTo (kint .i64) x8), ((kint .i64).V x8), (ptrB b2 4), ((ksl (kint .i64)).V p2.Who), ((kint .i64).V y2), (ptrTo (kint .i64) x9), ((kint .i64).V x9)]) (bits := [0, 1, 0, 7, 15, 0, 32, 0, 224, 480, 1023]) (m := 10) (todo := 0) mx s118 ?_; clear s118
    refine goes_last (by kernel_rfl) rfl (oc (av 2 rfl rfl Av.nil) rfl rfl (ob_fieldAddr (off' := 4) rfl Try.underlying44 rfl sz41 (by decide) (.tmp rfl) rfl) (oc (an 0 rfl rfl rfl Av.nil) rfl rfl (ob_load rfl tk41 (.tmp rfl) (.head _) (lg_api_Op_Who p1)) (oc (av 6 rfl rfl Av.nil) rfl rfl (mv rfl rfl) (oc (an 1 rfl rfl rfl (an 2 rfl rfl rfl Av.nil)) rfl rfl (ob_indexAddrs rfl Try.underlying41 sz3 (.tmp rfl) (.tmp rfl) e_x8) (oc (an 3 rfl rfl rfl Av.nil) rfl rfl (ob_loadr rfl tk3 (.tmp rfl)) (oc (av 3 rfl rfl Av.nil) rfl rfl (ob_fieldAddr (off' := 4) rfl Try.underlying44 rfl sz41 (by decide) (.tmp rfl) rfl) (oc (an 5 rfl rfl rfl Av.nil) rfl rfl (ob_load rfl tk41 (.tmp rfl) (.tail _ (.head _)) (lg_api_Op_Who p2)) (oc (av 6 rfl rfl Av.nil) rfl rfl (mv rfl rfl) (oc (an 6 rfl rfl rfl (an 7 rfl rfl rfl Av.nil)) rfl rfl (ob_indexAddrs rfl Try.underlying41 sz3 (.tmp rfl) (.tmp rfl) e_x9) (oc (an 8 rfl rfl rfl Av.nil) rfl rfl (ob_loadr rfl tk3 (.tmp rfl)) opsS_nil)))))))))) (out_old (t := 2) rfl rfl (out_old (t := 3) rfl rfl (out_old (t := 6) rfl rfl (out_new (i := 4) (by decide) rfl rfl (out_new (i := 9) (by decide) rfl rfl out_nil))))) fun _ _ s119 => ?_
    refine qs s119 (.c1 rfl (ob_neq rfl (.tmp rfl) (.tmp rfl)) (.ce (u 2 rfl (u 3 rfl (u 6 rfl (u 110 rfl .nil)))))) fun _ _ s121 => wn hK22 ?_; clear s119
    refine cond_split s121 (.tmp rfl) (fun hc5 => ?_) (fun hc5 => ?_)
    ·have h24 := ite_t hc5 h23; clear h23
     refine wp_seq_k fun K23 hK23 => wp_region_lit (qs s121 (.c1 rfl (ob_assign rfl opd_bool) (.ce (u 4 rfl .nil))) fun _ _ s123 => wn hK23 ?_); clear s121
     have s124 := St.drop (A := []) s123; clear s123
     have s125 := St.drop (A := []) s124; clear s124
     refine wp_ret ?_
     obtain rfl := Option.some.inj h24
     exact leave s125 (.inl rfl) rfl (.cons (.tmp rfl) .nil)
    ·have h25 := ite_f hc5 h23; clear h23
     refine wp_skip ?_
     refine in_normal ?_
     refine then_normal (hK21 _ _ ?_)
     have s126 := s121.sub (u 2 rfl (u 3 rfl (u 6 rfl .nil))); clear s121
     refine wp_region_lit (qs s126 (.c1 rfl (mv rfl rfl) (.c1 rfl (ob_add rfl (.tmp rfl) (opd_int rfl)) (.c1 rfl (ob_assign rfl (.tmp rfl)) .cz))) fun _ _ s129 => ?_); clear s126
     refine wpList_nil ?_
     refine then_normal ?_
     exact hK18 (iadd .i64 y2 (1 : Int)) _ _ h25 (s129.sub (.cons rfl (.cons rfl (.cons rfl .nil))))
   ·have h26 := ite_f hc4 h20; clear h20
    refine wp_exit ?_
    refine (then_exit (then_exit (in_here ?_)))
    refine then_normal ?_
    exact hj2 _ _ h26 (s117.sub (.cons rfl (.cons rfl .nil)))
  refine wp_block ?_
  have s130 := s80.perm (toFront [_] (toFront [] (List.Perm.refl _))); clear s80
  refine wp_loop_fuel (fun m (q : Int) => cabalref11_SameOp.l3 k p1 p2 m q) r (fun _ => rfl) (fun q a w => St ⟨129, w0, ok, []⟩ [BF b1 44 k_api_Op p1, BF b2 44 k_api_Op p2] [(2, (ptrB b1 0)), (3, (ptrB b2 0)), (5, ((kint .i64).V q))] a w) ?_ k (0 : Int) _ _ h7 (s130.sub (.cons rfl (.cons rfl (.cons rfl .nil))))
  rintro n3 y3 a131 w131 h27 s131 K24 hK24
  replace h27 : cabalref11_SameOp.l3 k p1 p2 (n3 + 1) y3 = some r := h27; rw [cabalref11_SameOp.l3] at h27
  have h28 := h27; clear h27
  refine wp_seq_k fun K25 hK25 => wp_seq_k fun K26 hK26 => ?_
  refine wp_region_lit (qs s131 (.c1 rfl (mv rfl rfl) (.c1 rfl (ob_fieldAddr (off' := 2) rfl Try.underlying44 rfl sz40 (by decide) (.tmp rfl) rfl) (.c1 rfl (ob_load rfl tk40 (.tmp rfl) (.head _) (lg_api_Op_Parents p1)) (.c1 rfl (ob_lens rfl Try.underlying40 (.tmp rfl)) (.c1 rfl (ob_lss rfl (.tmp rfl) (.tmp rfl)) (.ce (u 2 rfl (u 3 rfl (u 5 rfl (u 79 rfl .nil)))))))))) fun _ _ s137 => wn hK26 ?_); clear s131
  refine cond_split s137 (.tmp rfl) (fun hc6 => ?_) (fun hc6 => ?_)
  ·have h29 := ite_t hc6 h28; clear h28
   refine wp_skip ?_
   refine then_normal (hK25 _ _ ?_)
   have s138 := s137.sub (u 2 rfl (u 3 rfl (u 5 rfl .nil))); clear s137
   refine wp_seq_k fun K27 hK27 => wp_block ?_
   refine wp_seq_k fun K28 hK28 => ?_
   obtain ⟨x10, e_x10, h30⟩ := bind_some h29; clear h29
   obtain ⟨x11, e_x11, h31⟩ := bind_some h30; clear h30
   refine wp_goes (Fs := [(ptrB b1 2), ((ksl (karr 32 (kint .u8))).V p1.Parents), ((kint .i64).V y3), (ptrTo (karr 32 (kint .u8)) x10), ((karr 32 (kint .u8)).V x10), (ptrB b2 2), ((ksl (karr 32 (kint .u8))).V p2.Parents), ((kint .i64).V y3), (ptrTo (karr 32 (kint .u8)) x11), ((karr 32 (kint .u8)).V x11)]) (bits := [0, 1, 0, 7, 15, 0, 32, 0, 224, 480, 1023]) (m := 10) (todo := 0) mx s138 ?_; clear s138
   refine goes_last (by kernel_rfl) rfl (oc (av 2 rfl rfl Av.nil) rfl rfl (ob_fieldAddr (off' := 2) rfl Try.underlying44 rfl sz40 (by decide) (.tmp rfl) rfl) (oc (an 0 rfl rfl rfl Av.nil) rfl rfl (ob_load rfl tk40 (.tmp rfl) (.head _) (lg_api_Op_Parents p1)) (oc (av 5 rfl rfl Av.nil) rfl rfl (mv rfl rfl) (oc (an 1 rfl rfl rfl (an 2 rfl rfl rfl Av.nil)) rfl rfl (ob_indexAddrs rfl Try.underlying40 sz39 (.tmp rfl) (.tmp rfl) e_x10) (oc (an 3 rfl rfl rfl Av.nil) rfl rfl (ob_loadr rfl tk39 (.tmp rfl)) (oc (av 3 rfl rfl Av.nil) rfl rfl (ob_fieldAddr (off' := 2) rfl Try.underlying44 rfl sz40 (by decide) (.tmp rfl) rfl) (oc (an 5 rfl rfl rfl Av.nil) rfl rfl (ob_load rfl tk40 (.tmp rfl) (.tail _ (.head _)) (lg_api_Op_Parents p2)) (oc (av 5 rfl rfl Av.nil) rfl rfl (mv rfl rfl) (oc (an 6 rfl rfl rfl (an 7 rfl rfl rfl Av.nil)) rfl rfl (ob_indexAddrs rfl Try.underlying40 sz39 (.tmp rfl) (.tmp rfl) e_x11) (oc (an 8 rfl rfl rfl Av.nil) rfl rfl (ob_loadr rfl tk39 (.tmp rfl)) opsS_nil)))))))))) (out_old (t := 2) rfl rfl (out_old (t := 3) rfl rfl (out_old (t := 5) rfl rfl (out_new (i := 4) (by decide) rfl rfl (out_new (i := 9) (by decide) rfl rfl out_nil))))) fun _ _ s139 => ?_
   refine qs s139 (.c1 rfl (ob_neqAgg rfl rfl (by kernel_rfl) eq39 (by decide) (.tmp rfl) (.tmp rfl)) (.ce (u 2 rfl (u 3 rfl (u 5 rfl (u 92 rfl .nil)))))) fun _ _ s141 => wn hK28 ?_; clear s139
   refine cond_split s141 (.tmp rfl) (fun hc7 => ?_) (fun hc7 => ?_)
   ·have h32 := ite_t hc7 h31; clear h31
    refine wp_seq_k fun K29 hK29 => wp_region_lit (qs s141 (.c1 rfl (ob_assign rfl opd_bool) (.ce (u 4 rfl .nil))) fun _ _ s143 => wn hK29 ?_); clear s141
    have s144 := St.drop (A := []) s143; clear s143
    have s145 := St.drop (A := []) s144; clear s144
    refine wp_ret ?_
    obtain rfl := Option.some.inj h32
    exact leave s145 (.inl rfl) rfl (.cons (.tmp rfl) .nil)
   ·have h33 := ite_f hc7 h31; clear h31
    refine wp_skip ?_
    refine in_normal ?_
    refine then_normal (hK27 _ _ ?_)
    have s146 := s141.sub (u 2 rfl (u 3 rfl (u 5 rfl .nil))); clear s141
    refine wp_region_lit (qs s146 (.c1 rfl (mv rfl rfl) (.c1 rfl (ob_add rfl (.tmp rfl) (opd_int rfl)) (.c1 rfl (ob_assign rfl (.tmp rfl)) .cz))) fun _ _ s149 => ?_); clear s146
    refine wpList_nil ?_
    refine then_normal ?_
    exact hK24 (iadd .i64 y3 (1 : Int)) _ _ h33 (s149.sub (.cons rfl (.cons rfl (.cons rfl .nil))))
  ·have h34 := ite_f hc6 h28; clear h28
   refine wp_exit ?_
   refine (then_exit (then_exit (in_here ?_)))
   refine then_normal ?_
   exact hj1 _ _ h34 (s137.sub (.cons rfl (.cons rfl .nil)))
theorem c_cabalref08_SameKeys (k : Nat) (p1 : (List (List Int))) (p2 : (List (List Int))) (r : Bool) (h0 : cabalref08_SameKeys k p1 p2 = some r) (ok : Ok) (w0 : World) (z0 : Value) (z1 : Value) (u0 : ((ksl (karr 32 (kint .u8))).V p1).holds ok w0 z0) (u1 : ((ksl (karr 32 (kint .u8))).V p2).holds ok w0 z1) :
 Gives Try.prog 49 [z0, z1] ok w0 (resFact [kbool.V r]) := by
 unfold cabalref08_SameKeys at h0
 refine enter (N := 26) Try.func49 rfl rfl (of_decide_eq_true rfl) (.cons u0 (.cons u1 .nil)) fun a1 s1 => ?_
 refine wp_seq_k fun K1 hK1 => wp_region_lit (qs s1 (.c1 rfl (ob_assign rfl opd_bool) (.ce (u 0 rfl (u 1 rfl .nil)))) fun _ _ s3 => wn hK1 ?_); clear s1
 refine wp_seq_k fun K2 hK2 => wp_seq_k fun K3 hK3 => ?_
 refine wp_region_lit (qs s3 (.c1 rfl (mv rfl rfl) (.c1 rfl (ob_lens rfl Try.underlying40 (.tmp rfl)) (.c1 rfl (mv rfl rfl) (.c1 rfl (ob_lens rfl Try.underlying40 (.tmp rfl)) (.c1 rfl (ob_neq rfl (.tmp rfl) (.tmp rfl)) (.ce (u 0 rfl (u 1 rfl (u 10 rfl .nil))))))))) fun _ _ s9 => wn hK3 ?_); clear s3
 refine cond_split s9 (.tmp rfl) (fun hc1 => ?_) (fun hc1 => ?_)
 ·have h1 := ite_t hc1 h0; clear h0
  refine wp_seq_k fun K4 hK4 => wp_region_lit (qs s9 (.c1 rfl (ob_assign rfl opd_bool) (.ce (u 4 rfl .nil))) fun _ _ s11 => wn hK4 ?_); clear s9
  refine wp_ret ?_
  obtain rfl := Option.some.inj h1
  exact leave s11 (.inl rfl) rfl (.cons (.tmp rfl) .nil)
 ·have h2 := ite_f hc1 h0; clear h0
  refine wp_skip ?_
  refine then_normal (hK2 _ _ ?_)
  have s12 := s9.sub (u 0 rfl (u 1 rfl .nil)); clear s9
  refine wp_seq_k fun K5 hK5 => wp_seq_k fun K6 hK6 => ?_
  refine wp_region_lit (qs s12 (.c1 rfl (ob_assign rfl (opd_int rfl)) (.ce (u 0 rfl (u 1 rfl (u 5 rfl .nil))))) fun _ _ s14 => wn hK6 ?_); clear s12
  have hj1 : ∀ (a : Act) (w : World), (cabalref08_SameKeys.j1 k) = some r → St ⟨26, w0, ok, []⟩ [] [] a w → K5 a w := by
   intro a15 w15 h3 s15
   unfold cabalref08_SameKeys.j1 at h3
   refine hK5 _ _ ?_
   refine wp_seq_k fun K7 hK7 => wp_region_lit (qs s15 (.c1 rfl (ob_assign rfl opd_bool) (.ce (u 4 rfl .nil))) fun _ _ s17 => wn hK7 ?_); clear s15
   refine wp_ret ?_
   obtain rfl := Option.some.inj h3
   exact leave s17 (.inl rfl) rfl (.cons (.tmp rfl) .nil)
  refine wp_block ?_
  refine wp_loop_fuel (fun m (q : Int) => cabalref08_SameKeys.l1 k p1 p2 m q) r (fun _ => rfl) (fun q a w => St ⟨26, w0, ok, []⟩ [] [(0, ((ksl (karr 32 (kint .u8))).V p1)), (1, ((ksl (karr 32 (kint .u8))).V p2)), (5, ((kint .i64).V q))] a w) ?_ k (0 : Int) _ _ h2 (s14.sub (.cons rfl (.cons rfl (.cons rfl .nil))))
  rintro n1 y1 a18 w18 h4 s18 K8 hK8
  replace h4 : cabalref08_SameKeys.l1 k p1 p2 (n1 + 1) y1 = some r := h4; rw [cabalref08_SameKeys.l1] at h4
  have h5 := h4; clear h4
  refine wp_seq_k fun K9 hK9 => wp_seq_k fun K10 hK10 => ?_
  refine wp_region_lit (qs s18 (.c1 rfl (mv rfl rfl) (.c1 rfl (mv rfl rfl) (.c1 rfl (ob_lens rfl Try.underlying40 (.tmp rfl)) (.c1 rfl (ob_lss rfl (.tmp rfl) (.tmp rfl)) (.ce (u 0 rfl (u 1 rfl (u 5 rfl (u 14 rfl .nil))))))))) fun _ _ s23 => wn hK10 ?_); clear s18
  refine cond_split s23 (.tmp rfl) (fun hc2 => ?_) (fun hc2 => ?_)
  ·have h6 := ite_t hc2 h5; clear h5
   refine wp_skip ?_
   refine then_normal (hK9 _ _ ?_)
   have s24 := s23.sub (u 0 rfl (u 1 rfl (u 5 rfl .nil))); clear s23
   refine wp_seq_k fun K11 hK11 => wp_block ?_
   refine wp_seq_k fun K12 hK12 => ?_
   obtain ⟨x1, e_x1, h7⟩ := bind_some h6; clear h6
   obtain ⟨x2, e_x2, h8⟩ := bind_some h7; clear h7
   refine wp_goes (Fs := [((ksl (karr 32 (kint .u8))).V p1), ((kint .i64).V y1), (ptrTo (karr 32 (kint .u8)) x1), ((karr 32 (kint .u8)).V x1), ((ksl (karr 32 (kint .u8))).V p2), ((kint .i64).V y1), (ptrTo (karr 32 (kint .u8)) x2), ((karr 32 (kint .u8)).V x2)]) (bits := [0, 0, 3, 7, 0, 0, 48, 112, 255]) (m := 8) (todo := 0) mx s24 ?_; clear s24
   refine goes_last (by kernel_rfl) rfl (oc (av 0 rfl rfl Av.nil) rfl rfl (mv rfl rfl) (oc (av 5 rfl rfl Av.nil) rfl rfl (mv rfl rfl) (oc (an 0 rfl rfl rfl (an 1 rfl rfl rfl Av.nil)) rfl rfl (ob_indexAddrs rfl Try.underlying40 sz39 (.tmp rfl) (.tmp rfl) e_x1) (oc (an 2 rfl rfl rfl Av.nil) rfl rfl (ob_loadr rfl tk39 (.tmp rfl)) (oc (av 1 rfl rfl Av.nil) rfl rfl (mv rfl rfl) (oc (av 5 rfl rfl Av.nil) rfl rfl (mv rfl rfl) (oc (an 4 rfl rfl rfl (an 5 rfl rfl rfl Av.nil)) rfl rfl (ob_indexAddrs rfl Try.underlying40 sz39 (.tmp rfl) (.tmp rfl) e_x2) (oc (an 6 rfl rfl rfl Av.nil) rfl rfl (ob_loadr rfl tk39 (.tmp rfl)) opsS_nil)))))))) (out_old (t := 0) rfl rfl (out_old (t := 1) rfl rfl (out_old (t := 5) rfl rfl (out_new (i := 3) (by decide) rfl rfl (out_new (i := 7) (by decide) rfl rfl out_nil))))) fun _ _ s25 => ?_
   refine qs s25 (.c1 rfl (ob_neqAgg rfl rfl (by kernel_rfl) eq39 (by decide) (.tmp rfl) (.tmp rfl)) (.ce (u 0 rfl (u 1 rfl (u 5 rfl (u 25 rfl .nil)))))) fun _ _ s27 => wn hK12 ?_; clear s25
   refine cond_split s27 (.tmp rfl) (fun hc3 => ?_) (fun hc3 => ?_)
   ·have h9 := ite_t hc3 h8; clear h8
    refine wp_seq_k fun K13 hK13 => wp_region_lit (qs s27 (.c1 rfl (ob_assign rfl opd_bool) (.ce (u 4 rfl .nil))) fun _ _ s29 => wn hK13 ?_); clear s27
    refine wp_ret ?_
    obtain rfl := Option.some.inj h9
    exact leave s29 (.inl rfl) rfl (.cons (.tmp rfl) .nil)
   ·have h10 := ite_f hc3 h8; clear h8
    refine wp_skip ?_
    refine in_normal ?_
    refine then_normal (hK11 _ _ ?_)
    have s30 := s27.sub (u 0 rfl (u 1 rfl (u 5 rfl .nil))); clear s27
    refine wp_region_lit (qs s30 (.c1 rfl (mv rfl rfl) (.c1 rfl (ob_add rfl (.tmp rfl) (opd_int rfl)) (.c1 rfl (ob_assign rfl (.tmp rfl)) .cz))) fun _ _ s33 => ?_); clear s30
    refine wpList_nil ?_
    refine then_normal ?_
    exact hK8 (iadd .i64 y1 (1 : Int)) _ _ h10 (s33.sub (.cons rfl (.cons rfl (.cons rfl .nil))))
  ·have h11 := ite_f hc2 h5; clear h5
   refine wp_exit ?_
   refine (then_exit (then_exit (in_here ?_)))
   refine then_normal ?_
   exact hj1 _ _ h11 (s23.sub .nil)
theorem c_cabalref19_Same (k : Nat) (p1 : (List api_Held)) (p2 : (List api_Held)) (r : Bool) (h0 : cabalref19_Same k p1 p2 = some r) (ok : Ok) (w0 : World) (z0 : Value) (z1 : Value) (u0 : ((ksl k_api_Held).V p1).holds ok w0 z0) (u1 : ((ksl k_api_Held).V p2).holds ok w0 z1) :
 Gives Try.prog 68 [z0, z1] ok w0 (resFact [kbool.V r]) := by
 unfold cabalref19_Same at h0
 refine enter (N := 56) Try.func68 rfl rfl (of_decide_eq_true rfl) (.cons u0 (.cons u1 .nil)) fun a1 s1 => ?_
 refine wp_seq_k fun K1 hK1 => wp_region_lit (qs s1 (.c1 rfl (ob_assign rfl opd_bool) (.ce (u 0 rfl (u 1 rfl .nil)))) fun _ _ s3 => wn hK1 ?_); clear s1
 refine wp_seq_k fun K2 hK2 => wp_seq_k fun K3 hK3 => ?_
 refine wp_region_lit (qs s3 (.c1 rfl (mv rfl rfl) (.c1 rfl (ob_lens rfl Try.underlying85 (.tmp rfl)) (.c1 rfl (mv rfl rfl) (.c1 rfl (ob_lens rfl Try.underlying85 (.tmp rfl)) (.c1 rfl (ob_neq rfl (.tmp rfl) (.tmp rfl)) (.ce (u 0 rfl (u 1 rfl (u 10 rfl .nil))))))))) fun _ _ s9 => wn hK3 ?_); clear s3
 refine cond_split s9 (.tmp rfl) (fun hc1 => ?_) (fun hc1 => ?_)
 ·have h1 := ite_t hc1 h0; clear h0
  refine wp_seq_k fun K4 hK4 => wp_region_lit (qs s9 (.c1 rfl (ob_assign rfl opd_bool) (.ce (u 4 rfl .nil))) fun _ _ s11 => wn hK4 ?_); clear s9
  refine wp_ret ?_
  obtain rfl := Option.some.inj h1
  exact leave s11 (.inl rfl) rfl (.cons (.tmp rfl) .nil)
 ·have h2 := ite_f hc1 h0; clear h0
  refine wp_skip ?_
  refine then_normal (hK2 _ _ ?_)
  have s12 := s9.sub (u 0 rfl (u 1 rfl .nil)); clear s9
  refine wp_seq_k fun K5 hK5 => wp_seq_k fun K6 hK6 => ?_
  refine wp_region_lit (qs s12 (.c1 rfl (ob_assign rfl (opd_int rfl)) (.ce (u 0 rfl (u 1 rfl (u 5 rfl .nil))))) fun _ _ s14 => wn hK6 ?_); clear s12
  have hj1 : ∀ (a : Act) (w : World), (cabalref19_Same.j1 k) = some r → St ⟨56, w0, ok, []⟩ [] [] a w → K5 a w := by
   intro a15 w15 h3 s15
   unfold cabalref19_Same.j1 at h3
   refine hK5 _ _ ?_
   refine wp_seq_k fun K7 hK7 => wp_region_lit (qs s15 (.c1 rfl (ob_assign rfl opd_bool) (.ce (u 4 rfl .nil))) fun _ _ s17 => wn hK7 ?_); clear s15
   refine wp_ret ?_
   obtain rfl := Option.some.inj h3
   exact leave s17 (.inl rfl) rfl (.cons (.tmp rfl) .nil)
  refine wp_block ?_
  refine wp_loop_fuel (fun m (q : Int) => cabalref19_Same.l1 k p1 p2 m q) r (fun _ => rfl) (fun q a w => St ⟨56, w0, ok, []⟩ [] [(0, ((ksl k_api_Held).V p1)), (1, ((ksl k_api_Held).V p2)), (5, ((kint .i64).V q))] a w) ?_ k (0 : Int) _ _ h2 (s14.sub (.cons rfl (.cons rfl (.cons rfl .nil))))
  rintro n1 y1 a18 w18 h4 s18 K8 hK8
  replace h4 : cabalref19_Same.l1 k p1 p2 (n1 + 1) y1 = some r := h4; rw [cabalref19_Same.l1] at h4
  have h5 := h4; clear h4
  refine wp_seq_k fun K9 hK9 => wp_seq_k fun K10 hK10 => ?_
  refine wp_region_lit (qs s18 (.c1 rfl (mv rfl rfl) (.c1 rfl (mv rfl rfl) (.c1 rfl (ob_lens rfl Try.underlying85 (.tmp rfl)) (.c1 rfl (ob_lss rfl (.tmp rfl) (.tmp rfl)) (.ce (u 0 rfl (u 1 rfl (u 5 rfl (u 14 rfl .nil))))))))) fun _ _ s23 => wn hK10 ?_); clear s18
  refine cond_split s23 (.tmp rfl) (fun hc2 => ?_) (fun hc2 => ?_)
  ·have h6 := ite_t hc2 h5; clear h5
   refine wp_skip ?_
   refine then_normal (hK9 _ _ ?_)
   have s24 := s23.sub (u 0 rfl (u 1 rfl (u 5 rfl .nil))); clear s23
   refine wp_seq_k fun K11 hK11 => wp_block ?_
   refine wp_seq_k fun K12 hK12 => ?_
   obtain ⟨x1, e_x1, h7⟩ := bind_some h6; clear h6
   obtain ⟨x2, e_x2, h8⟩ := bind_some h7; clear h7
   obtain ⟨x3, e_x3, h9⟩ := bind_some h8; clear h8
   obtain ⟨x4, e_x4, h10⟩ := bind_some h9; clear h9
   obtain ⟨x5, e_x5, h11⟩ := bind_some h10; clear h10
   obtain ⟨x6, e_x6, h12⟩ := bind_some h11; clear h11
   obtain ⟨x7, e_x7, h13⟩ := bind_some h12; clear h12
   refine wp_goes (Fs := [((ksl k_api_Held).V p1), ((kint .i64).V y1), (ptrTo k_api_Held x1), (ptrTo (karr 32 (kint .u8)) x1.Id), ((karr 32 (kint .u8)).V x1.Id), ((ksl k_api_Held).V p2), ((kint .i64).V y1), (ptrTo k_api_Held x2), (ptrTo (karr 32 (kint .u8)) x2.Id), ((karr 32 (kint .u8)).V x2.Id), (kbool.V (!decide (x1.Id = x2.Id))), (kbool.V (!decide (x1.Id = x2.Id))), (Fact.when ((!decide (x1.Id = x2.Id)) == false) ((ksl k_api_Held).V p1)), (Fact.when ((!decide (x1.Id = x2.Id)) == false) ((kint .i64).V y1)), (Fact.when ((!decide (x1.Id = x2.Id)) == false) (ptrTo k_api_Held x3)), (Fact.when ((!decide (x1.Id = x2.Id)) == false) (ptrTo k_api_Op x3.Op)), (Fact.when ((!decide (x1.Id = x2.Id)) == false) (k_api_Op.V x3.Op)), (Fact.when ((!decide (x1.Id = x2.Id)) == false) ((ksl k_api_Held).V p2)), (Fact.when ((!decide (x1.Id = x2.Id)) == false) ((kint .i64).V y1)), (Fact.when ((!decide (x1.Id = x2.Id)) == false) (ptrTo k_api_Held x4)), (Fact.when ((!decide (x1.Id = x2.Id)) == false) (ptrTo k_api_Op x4.Op)), (Fact.when ((!decide (x1.Id = x2.Id)) == false) (k_api_Op.V x4.Op)), (Fact.when ((!decide (x1.Id = x2.Id)) == false) (kbool.V x5)), (Fact.when ((!decide (x1.Id = x2.Id)) == false) (kbool.V (!x5))), (kbool.V (if (!decide (x1.Id = x2.Id)) then true else (!x5))), (kbool.V (if (!decide (x1.Id = x2.Id)) then true else (!x5))), (Fact.when ((if (!decide (x1.Id = x2.Id)) then true else (!x5)) == false) ((ksl k_api_Held).V p1)), (Fact.when ((if (!decide (x1.Id = x2.Id)) then true else (!x5)) == false) ((kint .i64).V y1)), (Fact.when ((if (!decide (x1.Id = x2.Id)) then true else (!x5)) == false) (ptrTo k_api_Held x6)), (Fact.when ((if (!decide (x1.Id = x2.Id)) then true else (!x5)) == false) (ptrTo (ksl (karr 32 (kint .u8))) x6.Got)), (Fact.when ((if (!decide (x1.Id = x2.Id)) then true else (!x5)) == false) ((ksl (karr 32 (kint .u8))).V x6.Got)), (Fact.when ((if (!decide (x1.Id = x2.Id)) then true else (!x5)) == false) ((ksl k_api_Held).V p2)), (Fact.when ((if (!decide (x1.Id = x2.Id)) then true else (!x5)) == false) ((kint .i64).V y1)), (Fact.when ((if (!decide (x1.Id = x2.Id)) then true else (!x5)) == false) (ptrTo k_api_Held x7)), (Fact.when ((if (!decide (x1.Id = x2.Id)) then true else (!x5)) == false) (ptrTo (ksl (karr 32 (kint .u8))) x7.Got)), (Fact.when ((if (!decide (x1.Id = x2.Id)) then true else (!x5)) == false) ((ksl (karr 32 (kint .u8))).V x7.Got))]) (bits := [0, 0, 3, 7, 15, 0, 0, 96, 224, 480, 1023, 2047, 4095, 4095, 16383, 32767, 65535, 4095, 4095, 397311, 921599, 1970175, 4194303, 8388607, 16777215, 33554431, 67108863, 67108863, 268435455, 536870911, 1073741823, 67108863, 67108863, 6509559807, 15099494399, 32279363583, 68719476735, 137438953471, 274877906943]) (m := 36) (todo := 0) mx s24 ?_; clear s24
   refine goes_last (by kernel_rfl) rfl (oc (av 0 rfl rfl Av.nil) rfl rfl (mv rfl rfl) (oc (av 5 rfl rfl Av.nil) rfl rfl (mv rfl rfl) (oc (an 0 rfl rfl rfl (an 1 rfl rfl rfl Av.nil)) rfl rfl (ob_indexAddrs rfl Try.underlying85 sz91 (.tmp rfl) (.tmp rfl) e_x1) (oc (an 2 rfl rfl rfl Av.nil) rfl rfl (ob_fieldAddrr rfl Try.underlying91 rfl sz39 (by decide) (.tmp rfl) (lg_api_Held_Id x1)) (oc (an 3 rfl rfl rfl Av.nil) rfl rfl (ob_loadr rfl tk39 (.tmp rfl)) (oc (av 1 rfl rfl Av.nil) rfl rfl (mv rfl rfl) (oc (av 5 rfl rfl Av.nil) rfl rfl (mv rfl rfl) (oc (an 5 rfl rfl rfl (an 6 rfl rfl rfl Av.nil)) rfl rfl (ob_indexAddrs rfl Try.underlying85 sz91 (.tmp rfl) (.tmp rfl) e_x2) (oc (an 7 rfl rfl rfl Av.nil) rfl rfl (ob_fieldAddrr rfl Try.underlying91 rfl sz39 (by decide) (.tmp rfl) (lg_api_Held_Id x2)) (oc (an 8 rfl rfl rfl Av.nil) rfl rfl (ob_loadr rfl tk39 (.tmp rfl)) (oc (an 4 rfl rfl rfl (an 9 rfl rfl rfl Av.nil)) rfl rfl (ob_neqAgg rfl rfl (by kernel_rfl) eq39 (by decide) (.tmp rfl) (.tmp rfl)) (oc (an 10 rfl rfl rfl Av.nil) rfl rfl (mv rfl rfl) (opsS_cons (.guarded _ (av 0 rfl rfl (an 11 rfl rfl rfl Av.nil)) rfl rfl rfl rfl (fun hb => ob_move rfl (.tmp rfl))) (opsS_cons (.guarded _ (av 5 rfl rfl (an 11 rfl rfl rfl Av.nil)) rfl rfl rfl rfl (fun hb => ob_move rfl (.tmp rfl))) (opsS_cons (.guarded _ (an 11 rfl rfl rfl (an 12 rfl rfl rfl (an 13 rfl rfl rfl Av.nil))) rfl rfl rfl rfl (fun hb => (Ob.uncond (t := 30) hb rfl ((Ob.uncond (t := 29) hb rfl (ob_indexAddrs rfl Try.underlying85 sz91 (.tmp rfl) (.tmp rfl) (ite_t hb e_x3))))))) (opsS_cons (.guarded _ (an 11 rfl rfl rfl (an 14 rfl rfl rfl Av.nil)) rfl rfl rfl rfl (fun hb => (Ob.uncond (t := 31) hb rfl (ob_fieldAddrr rfl Try.underlying91 rfl sz44 (by decide) (.tmp rfl) (lg_api_Held_Op x3))))) (opsS_cons (.guarded _ (an 11 rfl rfl rfl (an 15 rfl rfl rfl Av.nil)) rfl rfl rfl rfl (fun hb => (Ob.uncond (t := 32) hb rfl (ob_loadr rfl tk44 (.tmp rfl))))) (opsS_cons (.guarded _ (av 1 rfl rfl (an 11 rfl rfl rfl Av.nil)) rfl rfl rfl rfl (fun hb => ob_move rfl (.tmp rfl))) (opsS_cons (.guarded _ (av 5 rfl rfl (an 11 rfl rfl rfl Av.nil)) rfl rfl rfl rfl (fun hb => ob_move rfl (.tmp rfl))) (opsS_cons (.guarded _ (an 11 rfl rfl rfl (an 17 rfl rfl rfl (an 18 rfl rfl rfl Av.nil))) rfl rfl rfl rfl (fun hb => (Ob.uncond (t := 35) hb rfl ((Ob.uncond (t := 34) hb rfl (ob_indexAddrs rfl Try.underlying85 sz91 (.tmp rfl) (.tmp rfl) (ite_t hb e_x4))))))) (opsS_cons (.guarded _ (an 11 rfl rfl rfl (an 19 rfl rfl rfl Av.nil)) rfl rfl rfl rfl (fun hb => (Ob.uncond (t := 36) hb rfl (ob_fieldAddrr rfl Try.underlying91 rfl sz44 (by decide) (.tmp rfl) (lg_api_Held_Op x4))))) (opsS_cons (.guarded _ (an 11 rfl rfl rfl (an 20 rfl rfl rfl Av.nil)) rfl rfl rfl rfl (fun hb => (Ob.uncond (t := 37) hb rfl (ob_loadr rfl tk44 (.tmp rfl))))) (opsS_cons (.guarded _ (an 11 rfl rfl rfl (an 16 rfl rfl rfl (an 21 rfl rfl rfl Av.nil))) rfl rfl rfl rfl (fun hb => (Ob.uncond (t := 38) hb rfl ((Ob.uncond (t := 33) hb rfl (ob_callD0 (args := [_, _]) rfl .direct hb103 (fun a w s => by exact c_cabalref11_SameOp k _ _ _ (ite_t hb e_x5) _ _ _ _ (s.arg (.tmp rfl)) (s.arg (.tmp rfl))))))))) (opsS_cons (.guarded _ (an 11 rfl rfl rfl (an 22 rfl rfl rfl Av.nil)) rfl rfl rfl rfl (fun hb => (Ob.uncond (t := 39) hb rfl (ob_not rfl (.tmp rfl))))) (oc (an 11 rfl rfl rfl (an 23 rfl rfl rfl Av.nil)) rfl rfl (ob_or2 rfl (.tmp rfl) opd_bool (.tmp rfl)) (oc (an 24 rfl rfl rfl Av.nil) rfl rfl (mv rfl rfl) (opsS_cons (.guarded _ (av 0 rfl rfl (an 25 rfl rfl rfl Av.nil)) rfl rfl rfl rfl (fun hb => ob_move rfl (.tmp rfl))) (opsS_cons (.guarded _ (av 5 rfl rfl (an 25 rfl rfl rfl Av.nil)) rfl rfl rfl rfl (fun hb => ob_move rfl (.tmp rfl))) (opsS_cons (.guarded _ (an 25 rfl rfl rfl (an 26 rfl rfl rfl (an 27 rfl rfl rfl Av.nil))) rfl rfl rfl rfl (fun hb => (Ob.uncond (t := 44) hb rfl ((Ob.uncond (t := 43) hb rfl (ob_indexAddrs rfl Try.underlying85 sz91 (.tmp rfl) (.tmp rfl) (ite_t hb e_x6))))))) (opsS_cons (.guarded _ (an 25 rfl rfl rfl (an 28 rfl rfl rfl Av.nil)) rfl rfl rfl rfl (fun hb => (Ob.uncond (t := 45) hb rfl (ob_fieldAddrr rfl Try.underlying91 rfl sz40 (by decide) (.tmp rfl) (lg_api_Held_Got x6))))) (opsS_cons (.guarded _ (an 25 rfl rfl rfl (an 29 rfl rfl rfl Av.nil)) rfl rfl rfl rfl (fun hb => (Ob.uncond (t := 46) hb rfl (ob_loadr rfl tk40 (.tmp rfl))))) (opsS_cons (.guarded _ (av 1 rfl rfl (an 25 rfl rfl rfl Av.nil)) rfl rfl rfl rfl (fun hb => ob_move rfl (.tmp rfl))) (opsS_cons (.guarded _ (av 5 rfl rfl (an 25 rfl rfl rfl Av.nil)) rfl rfl rfl rfl (fun hb => ob_move rfl (.tmp rfl))) (opsS_cons (.guarded _ (an 25 rfl rfl rfl (an 31 rfl rfl rfl (an 32 rfl rfl rfl Av.nil))) rfl rfl rfl rfl (fun hb => (Ob.uncond (t := 49) hb rfl ((Ob.uncond (t := 48) hb rfl (ob_indexAddrs rfl Try.underlying85 sz91 (.tmp rfl) (.tmp rfl) (ite_t hb e_x7))))))) (opsS_cons (.guarded _ (an 25 rfl rfl rfl (an 33 rfl rfl rfl Av.nil)) rfl rfl rfl rfl (fun hb => (Ob.uncond (t := 50) hb rfl (ob_fieldAddrr rfl Try.underlying91 rfl sz40 (by decide) (.tmp rfl) (lg_api_Held_Got x7))))) (opsS_cons (.guarded _ (an 25 rfl rfl rfl (an 34 rfl rfl rfl Av.nil)) rfl rfl rfl rfl (fun hb => (Ob.uncond (t := 51) hb rfl (ob_loadr rfl tk40 (.tmp rfl))))) opsS_nil)))))))))))))))))))))))))))))))))))) (out_old (t := 0) rfl rfl (out_old (t := 1) rfl rfl (out_old (t := 5) rfl rfl (out_new (i := 25) (by decide) rfl rfl (out_new (i := 30) (by decide) rfl rfl (out_new (i := 35) (by decide) rfl rfl out_nil)))))) fun _ _ s25 => ?_
   obtain ⟨x8, e_x8, h14⟩ := bind_some h13; clear h13
   obtain ⟨x9, e_x9, h15⟩ := bind_some h14; clear h14; replace e_x9 := Option.some.inj e_x9
   refine qs s25 (.cg rfl rfl rfl rfl (fun hb => (Ob.uncond (t := 52) hb rfl ((Ob.uncond (t := 47) hb rfl (ob_callD0 (args := [_, _]) rfl .direct hb49 (fun a w s => by exact c_cabalref08_SameKeys k _ _ _ (ite_t hb e_x8) _ _ _ _ (s.arg (.tmp rfl)) (s.arg (.tmp rfl)))))))) (.cg rfl rfl rfl rfl (fun hb => (Ob.uncond (t := 53) hb rfl (ob_not rfl (.tmp rfl)))) (.c1 rfl ((ob_or2 rfl (.tmp rfl) opd_bool (.tmp rfl)).nm e_x9) (.ce (u 0 rfl (u 1 rfl (u 5 rfl (u 55 rfl .nil)))))))) fun _ _ s29 => wn hK12 ?_; clear s25
   refine cond_split s29 (.tmp rfl) (fun hc3 => ?_) (fun hc3 => ?_)
   ·have h16 := ite_t hc3 h15; clear h15
    refine wp_seq_k fun K13 hK13 => wp_region_lit (qs s29 (.c1 rfl (ob_assign rfl opd_bool) (.ce (u 4 rfl .nil))) fun _ _ s31 => wn hK13 ?_); clear s29
    refine wp_ret ?_
    obtain rfl := Option.some.inj h16
    exact leave s31 (.inl rfl) rfl (.cons (.tmp rfl) .nil)
   ·have h17 := ite_f hc3 h15; clear h15
    refine wp_skip ?_
    refine in_normal ?_
    refine then_normal (hK11 _ _ ?_)
    have s32 := s29.sub (u 0 rfl (u 1 rfl (u 5 rfl .nil))); clear s29
    refine wp_region_lit (qs s32 (.c1 rfl (mv rfl rfl) (.c1 rfl (ob_add rfl (.tmp rfl) (opd_int rfl)) (.c1 rfl (ob_assign rfl (.tmp rfl)) .cz))) fun _ _ s35 => ?_); clear s32
    refine wpList_nil ?_
    refine then_normal ?_
    exact hK8 (iadd .i64 y1 (1 : Int)) _ _ h17 (s35.sub (.cons rfl (.cons rfl (.cons rfl .nil))))
  ·have h18 := ite_f hc2 h5; clear h5
   refine wp_exit ?_
   refine (then_exit (then_exit (in_here ?_)))
   refine then_normal ?_
   exact hj1 _ _ h18 (s23.sub .nil)
theorem c_caballaw19_QueuePuts (k : Nat) (p1 : (List api_Held)) (p2 : (List api_Held)) (p3 : api_Held) (p4 : Int) (r : Bool) (h0 : caballaw19_QueuePuts k p1 p2 p3 p4 = some r) (ok : Ok) (w0 : World) (z0 : Value) (z1 : Value) (z2 : Value) (z3 : Value) (u0 : ((ksl k_api_Held).V p1).holds ok w0 z0) (u1 : ((ksl k_api_Held).V p2).holds ok w0 z1) (u2 : (k_api_Held.V p3).holds ok w0 z2) (u3 : ((kint .i64).V p4).holds ok w0 z3) :
 Gives Try.prog 19 [z0, z1, z2, z3] ok w0 (resFact [kbool.V r]) := by
 unfold caballaw19_QueuePuts at h0
 refine enter (N := 114) Try.func19 rfl rfl (of_decide_eq_true rfl) (.cons u0 (.cons u1 (.cons u2 (.cons u3 .nil)))) fun a1 s1 => ?_
 refine wp_seq_k fun K1 hK1 => wp_region_lit ?_
 refine qx (B' := (fun b1 : Nat => [BF b1 91 k_api_Held p3])) s1 rfl (ob_box rfl (.tmp rfl)) fun b1 _ _ s2 => ?_; clear s1
 refine qs s2 (.c1 rfl (ob_assign rfl opd_bool) (.ce (u 0 rfl (u 1 rfl (u 3 rfl (u 6 rfl .nil)))))) fun _ _ s4 => wn hK1 ?_; clear s2
 refine wp_seq_k fun K2 hK2 => wp_seq_k fun K3 hK3 => ?_
 obtain ⟨x1, e_x1, h1⟩ := bind_some h0; clear h0
 refine wp_region_lit (qs s4 (.c1 rfl (ob_callD0 (args := []) rfl .direct hb59 (fun a w s => by exact c_caballaw19_alive k _ e_x1 _ _)) (.c1 rfl (ob_not rfl (.tmp rfl)) (.ce (u 0 rfl (u 1 rfl (u 3 rfl (u 6 rfl (u 18 rfl .nil)))))))) fun _ _ s7 => wn hK3 ?_); clear s4
 refine cond_split s7 (.tmp rfl) (fun hc1 => ?_) (fun hc1 => ?_)
 ·have h2 := ite_t hc1 h1; clear h1
  refine wp_seq_k fun K4 hK4 => wp_region_lit (qs s7 (.c1 rfl (ob_assign rfl opd_bool) (.ce (u 8 rfl .nil))) fun _ _ s9 => wn hK4 ?_); clear s7
  have s10 := St.drop (A := []) s9; clear s9
  refine wp_ret ?_
  obtain rfl := Option.some.inj h2
  exact leave s10 (.inl rfl) rfl (.cons (.tmp rfl) .nil)
 ·have h3 := ite_f hc1 h1; clear h1
  refine wp_skip ?_
  refine then_normal (hK2 _ _ ?_)
  have s11 := s7.sub (u 0 rfl (u 1 rfl (u 3 rfl (u 6 rfl .nil)))); clear s7
  refine wp_seq_k fun K5 hK5 => wp_seq_k fun K6 hK6 => ?_
  obtain ⟨x2, e_x2, h4⟩ := bind_some h3; clear h3
  obtain ⟨x3, e_x3, h5⟩ := bind_some h4; clear h4
  obtain ⟨x4, e_x4, h6⟩ := bind_some h5; clear h5
  obtain ⟨x5, e_x5, h7⟩ := bind_some h6; clear h6; replace e_x5 := Option.some.inj e_x5
  refine wp_region_lit (qs s11 (.c1 rfl (mv rfl rfl) (.c1 rfl (ob_callD0 (args := [_]) rfl .direct hb60 (fun a w s => by exact c_cabalref19_Great k _ _ e_x2 _ _ _ (s.arg (.tmp rfl)))) (.c1 rfl (mv rfl rfl) (.cg rfl rfl rfl rfl (fun hb => ob_move rfl (.tmp rfl)) (.cg rfl rfl rfl rfl (fun hb => (Ob.uncond (t := 22) hb rfl (ob_callD0 (args := [_]) rfl .direct hb60 (fun a w s => by exact c_cabalref19_Great k _ _ (ite_t hb e_x3) _ _ _ (s.arg (.tmp rfl)))))) (.c1 rfl (ob_or2 rfl (.tmp rfl) opd_bool (.tmp rfl)) (.c1 rfl (mv rfl rfl) (.cg rfl rfl rfl rfl (fun hb => ob_fieldAddr (off' := 32) rfl Try.underlying91 rfl sz44 (by decide) (.tmp rfl) rfl) (.cg rfl rfl rfl rfl (fun hb => (Ob.uncond (t := 26) hb rfl (ob_load rfl tk44 (.tmp rfl) (.head _) (lg_api_Held_Op p3)))) (.cg rfl rfl rfl rfl (fun hb => (Ob.uncond (t := 27) hb rfl (ob_callD0 (args := [_]) rfl .direct hb51 (fun a w s => by exact c_cabalref11_Great k _ _ (ite_t hb e_x4) _ _ _ (s.arg (.tmp rfl)))))) (.c1 rfl (ob_or2 rfl (.tmp rfl) opd_bool (.tmp rfl)) (.c1 rfl (mv rfl rfl) (.cg rfl rfl rfl rfl (fun hb => ob_fieldAddr (off' := 103) rfl Try.underlying91 rfl sz40 (by decide) (.tmp rfl) rfl) (.cg rfl rfl rfl rfl (fun hb => (Ob.uncond (t := 31) hb rfl (ob_load rfl tk40 (.tmp rfl) (.head _) (lg_api_Held_Got p3)))) (.cg rfl rfl rfl rfl (fun hb => (Ob.uncond (t := 32) hb rfl (ob_lens rfl Try.underlying40 (.tmp rfl)))) (.cg rfl rfl rfl rfl (fun hb => (Ob.uncond (t := 33) hb rfl (ob_gtr rfl (.tmp rfl) (opd_int rfl)))) (.c1 rfl ((ob_or2 rfl (.tmp rfl) opd_bool (.tmp rfl)).nm e_x5) (.ce (u 0 rfl (u 1 rfl (u 3 rfl (u 6 rfl (u 35 rfl .nil))))))))))))))))))))))) fun _ _ s29 => wn hK6 ?_); clear s11
  refine cond_split s29 (.tmp rfl) (fun hc2 => ?_) (fun hc2 => ?_)
  ·have h8 := ite_t hc2 h7; clear h7
   obtain ⟨x6, e_x6, h9⟩ := bind_some h8; clear h8
   refine wp_seq_k fun K7 hK7 => wp_region_lit (qs s29 (.c1 rfl (ob_callD0 (args := []) rfl .direct hb59 (fun a w s => by exact c_caballaw19_alive k _ e_x6 _ _)) (.c1 rfl (ob_assign rfl (.tmp rfl)) (.ce (u 8 rfl .nil)))) fun _ _ s32 => wn hK7 ?_); clear s29
   have s33 := St.drop (A := []) s32; clear s32
   refine wp_ret ?_
   obtain rfl := Option.some.inj h9
   exact leave s33 (.inl rfl) rfl (.cons (.tmp rfl) .nil)
  ·have h10 := ite_f hc2 h7; clear h7
   refine wp_skip ?_
   refine then_normal (hK5 _ _ ?_)
   have s34 := s29.sub (u 0 rfl (u 1 rfl (u 3 rfl (u 6 rfl .nil)))); clear s29
   obtain ⟨x7, e_x7, h11⟩ := bind_some h10; clear h10
   refine wp_seq_k fun K8 hK8 => wp_region_lit (qs s34 (.c1 rfl (mv rfl rfl) (.c1 rfl (ob_load rfl tk91 (.tmp rfl) (.head _) (LG.refl _ _)) .cz)) fun _ _ s36 => ?_); clear s34
   refine qx (B' := (fun v1 : Value => [RowF v1 91 k_api_Held x7.1, BF b1 91 k_api_Held p3])) s36 rfl (ob_callL0 (args := [_, _]) (L := []) rfl .direct hb66 (List.Perm.refl _) (fun a w s => by exact c_queue_Put k _ _ _ e_x7 _ _ _ _ (s.arg (.tmp rfl)) (s.arg (.tmp rfl))) (by exact fun _ => rfl)) fun v1 _ _ s37 => ?_; clear s36
   refine qs s37 (.c1 rfl (mv rfl rfl) (.c1 rfl (ob_extract rfl (.tmp rfl) rfl) (.c1 rfl (ob_extract rfl (.tmp rfl) rfl) (.c1 rfl (ob_assign rfl (.tmp rfl)) (.c1 rfl (ob_assign rfl (.tmp rfl)) (.ce (u 0 rfl (u 1 rfl (u 3 rfl (u 6 rfl (u 9 rfl (u 10 rfl .nil)))))))))))) fun _ _ s43 => wn hK8 ?_; clear s37
   obtain ⟨x8, e_x8, h12⟩ := bind_some h11; clear h11
   refine wp_seq_k fun K9 hK9 => wp_region_lit (qs s43 (.c1 rfl (mv rfl rfl) (.c1 rfl (ob_load rfl tk91 (.tmp rfl) (.tail _ (.head _)) (LG.refl _ _)) .cz)) fun _ _ s45 => ?_); clear s43
   refine qx (B' := (fun v2 : Value => [RowF v2 91 k_api_Held x8.1, RowF v1 91 k_api_Held x7.1, BF b1 91 k_api_Held p3])) s45 rfl (ob_callL0 (args := [_, _]) (L := []) rfl .direct hb67 (List.Perm.refl _) (fun a w s => by exact c_cabalref19_Put k _ _ _ e_x8 _ _ _ _ (s.arg (.tmp rfl)) (s.arg (.tmp rfl))) (by exact fun _ => rfl)) fun v2 _ _ s46 => ?_; clear s45
   refine qs s46 (.c1 rfl (mv rfl rfl) (.c1 rfl (ob_extract rfl (.tmp rfl) rfl) (.c1 rfl (ob_extract rfl (.tmp rfl) rfl) (.c1 rfl (ob_assign rfl (.tmp rfl)) (.c1 rfl (ob_assign rfl (.tmp rfl)) (.ce (u 0 rfl (u 1 rfl (u 3 rfl (u 6 rfl (u 9 rfl (u 10 rfl (u 11 rfl (u 12 rfl .nil)))))))))))))) fun _ _ s52 => wn hK9 ?_; clear s46
   obtain ⟨x9, e_x9, h13⟩ := bind_some h12; clear h12
   refine wp_seq_k fun K10 hK10 => wp_region_lit (qs s52 (.c1 rfl (mv rfl rfl) (.c1 rfl (mv rfl rfl) .cz)) fun _ _ s54 => ?_); clear s52
   refine qx (B' := (fun v3 : Value => [RowF v3 91 k_api_Held x9.1, RowF v2 91 k_api_Held x8.1, RowF v1 91 k_api_Held x7.1, BF b1 91 k_api_Held p3])) s54 rfl (ob_callL0 (args := [_, _]) (L := []) rfl .direct hb69 (List.Perm.refl _) (fun a w s => by exact c_queue_Without k _ _ _ e_x9 _ _ _ _ (s.arg (.tmp rfl)) (s.arg (.tmp rfl))) (by exact fun _ => rfl)) fun v3 _ _ s55 => ?_; clear s54
   refine qs s55 (.c1 rfl (mv rfl rfl) (.c1 rfl (ob_extract rfl (.tmp rfl) rfl) (.c1 rfl (ob_extract rfl (.tmp rfl) rfl) (.c1 rfl (ob_assign rfl (.tmp rfl)) (.c1 rfl (ob_assign rfl (.tmp rfl)) (.ce (u 0 rfl (u 1 rfl (u 3 rfl (u 6 rfl (u 9 rfl (u 10 rfl (u 11 rfl (u 12 rfl (u 13 rfl (u 14 rfl .nil)))))))))))))))) fun _ _ s61 => wn hK10 ?_; clear s55
   obtain ⟨x10, e_x10, h14⟩ := bind_some h13; clear h13
   refine wp_seq_k fun K11 hK11 => wp_region_lit (qs s61 (.c1 rfl (mv rfl rfl) (.c1 rfl (mv rfl rfl) .cz)) fun _ _ s63 => ?_); clear s61
   refine qx (B' := (fun v4 : Value => [RowF v4 91 k_api_Held x10.1, RowF v3 91 k_api_Held x9.1, RowF v2 91 k_api_Held x8.1, RowF v1 91 k_api_Held x7.1, BF b1 91 k_api_Held p3])) s63 rfl (ob_callL0 (args := [_, _]) (L := []) rfl .direct hb70 (List.Perm.refl _) (fun a w s => by exact c_cabalref19_Without k _ _ _ e_x10 _ _ _ _ (s.arg (.tmp rfl)) (s.arg (.tmp rfl))) (by exact fun _ => rfl)) fun v4 _ _ s64 => ?_; clear s63
   refine qs s64 (.c1 rfl (mv rfl rfl) (.c1 rfl (ob_extract rfl (.tmp rfl) rfl) (.c1 rfl (ob_extract rfl (.tmp rfl) rfl) (.c1 rfl (ob_assign rfl (.tmp rfl)) (.c1 rfl (ob_assign rfl (.tmp rfl)) (.ce (u 0 rfl (u 1 rfl (u 6 rfl (u 9 rfl (u 10 rfl (u 11 rfl (u 12 rfl (u 13 rfl (u 14 rfl (u 15 rfl (u 16 rfl .nil))))))))))))))))) fun _ _ s70 => wn hK11 ?_; clear s64
   refine wp_seq_k fun K12 hK12 => ?_
   obtain ⟨x11, e_x11, h15⟩ := bind_some h14; clear h14
   obtain ⟨x12, e_x12, h16⟩ := bind_some h15; clear h15
   obtain ⟨x13, e_x13, h17⟩ := bind_some h16; clear h16
   obtain ⟨x14, e_x14, h18⟩ := bind_some h17; clear h17
   obtain ⟨x15, e_x15, h19⟩ := bind_some h18; clear h18
   obtain ⟨x16, e_x16, h20⟩ := bind_some h19; clear h19; replace e_x16 := Option.some.inj e_x16
   obtain ⟨x17, e_x17, h21⟩ := bind_some h20; clear h20
   obtain ⟨x18, e_x18, h22⟩ := bind_some h21; clear h21
   obtain ⟨x19, e_x19, h23⟩ := bind_some h22; clear h22
   obtain ⟨x20, e_x20, h24⟩ := bind_some h23; clear h23; replace e_x20 := Option.some.inj e_x20
   obtain ⟨x21, e_x21, h25⟩ := bind_some h24; clear h24
   refine wp_goes (Fs := [(kbool.V x11), (kbool.V x11), (Fact.when (x11 == true) ((ksl k_api_Held).V p1)), (Fact.when (x11 == true) (kbool.V x12)), (Fact.when (x11 == true) ((ksl k_api_Held).V p1)), (Fact.when (x11 == true) (kbool.V x13)), (Fact.when (x11 == true) (kbool.V (decide (x12 = x13)))), (kbool.V (if x11 then (decide (x12 = x13)) else false)), (kbool.V (if x11 then (decide (x12 = x13)) else false)), (Fact.when ((if x11 then (decide (x12 = x13)) else false) == true) ((ksl k_api_Held).V p1)), (Fact.when ((if x11 then (decide (x12 = x13)) else false) == true) (ptrB b1 0)), (Fact.when ((if x11 then (decide (x12 = x13)) else false) == true) ((karr 32 (kint .u8)).V p3.Id)), (Fact.when ((if x11 then (decide (x12 = x13)) else false) == true) ((kint .i64).V x14)), (Fact.when ((if x11 then (decide (x12 = x13)) else false) == true) ((ksl k_api_Held).V p1)), (Fact.when ((if x11 then (decide (x12 = x13)) else false) == true) (ptrB b1 0)), (Fact.when ((if x11 then (decide (x12 = x13)) else false) == true) ((karr 32 (kint .u8)).V p3.Id)), (Fact.when ((if x11 then (decide (x12 = x13)) else false) == true) ((kint .i64).V x15)), (Fact.when ((if x11 then (decide (x12 = x13)) else false) == true) (kbool.V (x14 == x15))), (kbool.V x16), (kbool.V x16), (Fact.when (x16 == true) ((ksl k_api_Held).V p1)), (Fact.when (x16 == true) ((ksl k_api_Held).V p2)), (Fact.when (x16 == true) (kbool.V x17)), (Fact.when (x16 == true) ((ksl k_api_Held).V p1)), (Fact.when (x16 == true) ((ksl k_api_Held).V p2)), (Fact.when (x16 == true) (kbool.V x18)), (Fact.when (x16 == true) (kbool.V (decide (x17 = x18)))), (kbool.V (if x16 then (decide (x17 = x18)) else false)), (kbool.V (if x16 then (decide (x17 = x18)) else false)), (Fact.when ((if x16 then (decide (x17 = x18)) else false) == true) ((ksl k_api_Held).V p1)), (Fact.when ((if x16 then (decide (x17 = x18)) else false) == true) ((ksl k_api_Held).V p1)), (Fact.when ((if x16 then (decide (x17 = x18)) else false) == true) (kbool.V x19)), (kbool.V (if (if x16 then (decide (x17 = x18)) else false) then x19 else false)), (kbool.V (if (if x16 then (decide (x17 = x18)) else false) then x19 else false)), (Fact.when ((if (if x16 then (decide (x17 = x18)) else false) then x19 else false) == true) ((kint .i64).V x7.2)), (Fact.when ((if (if x16 then (decide (x17 = x18)) else false) then x19 else false) == true) ((kint .i64).V x8.2)), (Fact.when ((if (if x16 then (decide (x17 = x18)) else false) then x19 else false) == true) (kbool.V (x7.2 == x8.2))), (kbool.V x20), (kbool.V x20), (Fact.when (x20 == true) ((kint .i64).V x9.2)), (Fact.when (x20 == true) ((kint .i64).V x10.2)), (Fact.when (x20 == true) (kbool.V (x9.2 == x10.2))), (kbool.V (if x20 then (x9.2 == x10.2) else false)), (kbool.V (if x20 then (x9.2 == x10.2) else false)), (Fact.when ((if x20 then (x9.2 == x10.2) else false) == true) (is v1)), (Fact.when ((if x20 then (x9.2 == x10.2) else false) == true) (is v2)), (Fact.when ((if x20 then (x9.2 == x10.2) else false) == true) (kbool.V x21)), (kbool.V (if (if x20 then (x9.2 == x10.2) else false) then x21 else false)), (kbool.V (if (if x20 then (x9.2 == x10.2) else false) then x21 else false)), (Fact.when ((if (if x20 then (x9.2 == x10.2) else false) then x21 else false) == true) (is v3)), (Fact.when ((if (if x20 then (x9.2 == x10.2) else false) then x21 else false) == true) (is v4))]) (bits := [0, 1, 3, 7, 3, 31, 63, 127, 255, 511, 511, 1535, 4095, 511, 511, 16895, 65535, 131071, 262143, 524287, 1048575, 1048575, 4194303, 1048575, 1048575, 33554431, 67108863, 134217727, 268435455, 536870911, 536870911, 2147483647, 4294967295, 8589934591, 17179869183, 17179869183, 68719476735, 137438953471, 274877906943, 549755813887, 549755813887, 2199023255551, 4398046511103, 8796093022207, 17592186044415, 17592186044415, 70368744177663, 140737488355327, 281474976710655, 562949953421311, 562949953421311, 2251799813685247, 4503599627370495, 9007199254740991]) (m := 51) (todo := 0) mx s70 ?_; clear s70
   refine goes_last (by kernel_rfl) rfl (oc Av.nil rfl rfl (ob_callD0 (args := []) rfl .direct hb59 (fun a w s => by exact c_caballaw19_alive k _ e_x11 _ _)) (oc (an 0 rfl rfl rfl Av.nil) rfl rfl (mv rfl rfl) (opsS_cons (.guarded _ (av 0 rfl rfl (an 1 rfl rfl rfl Av.nil)) rfl rfl rfl rfl (fun hb => ob_move rfl (.tmp rfl))) (opsS_cons (.guarded _ (an 1 rfl rfl rfl (an 2 rfl rfl rfl Av.nil)) rfl rfl rfl rfl (fun hb => (Ob.uncond (t := 63) hb rfl (ob_callD0 (args := [_]) rfl .direct hb71 (fun a w s => by exact c_queue_Right k _ _ (ite_t hb e_x12) _ _ _ (s.arg (.tmp rfl))))))) (opsS_cons (.guarded _ (av 0 rfl rfl (an 1 rfl rfl rfl Av.nil)) rfl rfl rfl rfl (fun hb => ob_move rfl (.tmp rfl))) (opsS_cons (.guarded _ (an 1 rfl rfl rfl (an 4 rfl rfl rfl Av.nil)) rfl rfl rfl rfl (fun hb => (Ob.uncond (t := 65) hb rfl (ob_callD0 (args := [_]) rfl .direct hb63 (fun a w s => by exact c_cabalref19_Right k _ _ (ite_t hb e_x13) _ _ _ (s.arg (.tmp rfl))))))) (opsS_cons (.guarded _ (an 1 rfl rfl rfl (an 3 rfl rfl rfl (an 5 rfl rfl rfl Av.nil))) rfl rfl rfl rfl (fun hb => (Ob.uncond (t := 66) hb rfl ((Ob.uncond (t := 64) hb rfl (ob_beql rfl Try.underlying4 (.tmp rfl) (.tmp rfl))))))) (oc (an 1 rfl rfl rfl (an 6 rfl rfl rfl Av.nil)) rfl rfl (ob_and2 rfl (.tmp rfl) (.tmp rfl) opd_bool) (oc (an 7 rfl rfl rfl Av.nil) rfl rfl (mv rfl rfl) (opsS_cons (.guarded _ (av 0 rfl rfl (an 8 rfl rfl rfl Av.nil)) rfl rfl rfl rfl (fun hb => ob_move rfl (.tmp rfl))) (opsS_cons (.guarded _ (av 6 rfl rfl (an 8 rfl rfl rfl Av.nil)) rfl rfl rfl rfl (fun hb => ob_fieldAddr (off' := 0) rfl Try.underlying91 rfl sz39 (by decide) (.tmp rfl) rfl)) (opsS_cons (.guarded _ (an 8 rfl rfl rfl (an 10 rfl rfl rfl Av.nil)) rfl rfl rfl rfl (fun hb => (Ob.uncond (t := 71) hb rfl (ob_load rfl tk39 (.tmp rfl) (.tail _ (.tail _ (.tail _ (.tail _ (.head _))))) (lg_api_Held_Id p3))))) (opsS_cons (.guarded _ (an 8 rfl rfl rfl (an 9 rfl rfl rfl (an 11 rfl rfl rfl Av.nil))) rfl rfl rfl rfl (fun hb => (Ob.uncond (t := 72) hb rfl ((Ob.uncond (t := 70) hb rfl (ob_callD0 (args := [_, _]) rfl .direct hb72 (fun a w s => by exact c_queue_Find k _ _ _ (ite_t hb e_x14) _ _ _ _ (s.arg (.tmp rfl)) (s.arg (.tmp rfl))))))))) (opsS_cons (.guarded _ (av 0 rfl rfl (an 8 rfl rfl rfl Av.nil)) rfl rfl rfl rfl (fun hb => ob_move rfl (.tmp rfl))) (opsS_cons (.guarded _ (av 6 rfl rfl (an 8 rfl rfl rfl Av.nil)) rfl rfl rfl rfl (fun hb => ob_fieldAddr (off' := 0) rfl Try.underlying91 rfl sz39 (by decide) (.tmp rfl) rfl)) (opsS_cons (.guarded _ (an 8 rfl rfl rfl (an 14 rfl rfl rfl Av.nil)) rfl rfl rfl rfl (fun hb => (Ob.uncond (t := 75) hb rfl (ob_load rfl tk39 (.tmp rfl) (.tail _ (.tail _ (.tail _ (.tail _ (.head _))))) (lg_api_Held_Id p3))))) (opsS_cons (.guarded _ (an 8 rfl rfl rfl (an 13 rfl rfl rfl (an 15 rfl rfl rfl Av.nil))) rfl rfl rfl rfl (fun hb => (Ob.uncond (t := 76) hb rfl ((Ob.uncond (t := 74) hb rfl (ob_callD0 (args := [_, _]) rfl .direct hb73 (fun a w s => by exact c_cabalref19_Find k _ _ _ (ite_t hb e_x15) _ _ _ _ (s.arg (.tmp rfl)) (s.arg (.tmp rfl))))))))) (opsS_cons (.guarded _ (an 8 rfl rfl rfl (an 12 rfl rfl rfl (an 16 rfl rfl rfl Av.nil))) rfl rfl rfl rfl (fun hb => (Ob.uncond (t := 77) hb rfl ((Ob.uncond (t := 73) hb rfl (ob_eql rfl (.tmp rfl) (.tmp rfl))))))) (oc (an 8 rfl rfl rfl (an 17 rfl rfl rfl Av.nil)) rfl rfl ((ob_and2 rfl (.tmp rfl) (.tmp rfl) opd_bool).nm e_x16) (oc (an 18 rfl rfl rfl Av.nil) rfl rfl (mv rfl rfl) (opsS_cons (.guarded _ (av 0 rfl rfl (an 19 rfl rfl rfl Av.nil)) rfl rfl rfl rfl (fun hb => ob_move rfl (.tmp rfl))) (opsS_cons (.guarded _ (av 1 rfl rfl (an 19 rfl rfl rfl Av.nil)) rfl rfl rfl rfl (fun hb => ob_move rfl (.tmp rfl))) (opsS_cons (.guarded _ (an 19 rfl rfl rfl (an 20 rfl rfl rfl (an 21 rfl rfl rfl Av.nil))) rfl rfl rfl rfl (fun hb => (Ob.uncond (t := 82) hb rfl ((Ob.uncond (t := 81) hb rfl (ob_callD0 (args := [_, _]) rfl .direct hb74 (fun a w s => by exact c_queue_Same k _ _ _ (ite_t hb e_x17) _ _ _ _ (s.arg (.tmp rfl)) (s.arg (.tmp rfl))))))))) (opsS_cons (.guarded _ (av 0 rfl rfl (an 19 rfl rfl rfl Av.nil)) rfl rfl rfl rfl (fun hb => ob_move rfl (.tmp rfl))) (opsS_cons (.guarded _ (av 1 rfl rfl (an 19 rfl rfl rfl Av.nil)) rfl rfl rfl rfl (fun hb => ob_move rfl (.tmp rfl))) (opsS_cons (.guarded _ (an 19 rfl rfl rfl (an 23 rfl rfl rfl (an 24 rfl rfl rfl Av.nil))) rfl rfl rfl rfl (fun hb => (Ob.uncond (t := 85) hb rfl ((Ob.uncond (t := 84) hb rfl (ob_callD0 (args := [_, _]) rfl .direct hb68 (fun a w s => by exact c_cabalref19_Same k _ _ _ (ite_t hb e_x18) _ _ _ _ (s.arg (.tmp rfl)) (s.arg (.tmp rfl))))))))) (opsS_cons (.guarded _ (an 19 rfl rfl rfl (an 22 rfl rfl rfl (an 25 rfl rfl rfl Av.nil))) rfl rfl rfl rfl (fun hb => (Ob.uncond (t := 86) hb rfl ((Ob.uncond (t := 83) hb rfl (ob_beql rfl Try.underlying4 (.tmp rfl) (.tmp rfl))))))) (oc (an 19 rfl rfl rfl (an 26 rfl rfl rfl Av.nil)) rfl rfl (ob_and2 rfl (.tmp rfl) (.tmp rfl) opd_bool) (oc (an 27 rfl rfl rfl Av.nil) rfl rfl (mv rfl rfl) (opsS_cons (.guarded _ (av 0 rfl rfl (an 28 rfl rfl rfl Av.nil)) rfl rfl rfl rfl (fun hb => ob_move rfl (.tmp rfl))) (opsS_cons (.guarded _ (av 0 rfl rfl (an 28 rfl rfl rfl Av.nil)) rfl rfl rfl rfl (fun hb => ob_move rfl (.tmp rfl))) (opsS_cons (.guarded _ (an 28 rfl rfl rfl (an 29 rfl rfl rfl (an 30 rfl rfl rfl Av.nil))) rfl rfl rfl rfl (fun hb => (Ob.uncond (t := 91) hb rfl ((Ob.uncond (t := 90) hb rfl (ob_callD0 (args := [_, _]) rfl .direct hb74 (fun a w s => by exact c_queue_Same k _ _ _ (ite_t hb e_x19) _ _ _ _ (s.arg (.tmp rfl)) (s.arg (.tmp rfl))))))))) (oc (an 28 rfl rfl rfl (an 31 rfl rfl rfl Av.nil)) rfl rfl (ob_and2 rfl (.tmp rfl) (.tmp rfl) opd_bool) (oc (an 32 rfl rfl rfl Av.nil) rfl rfl (mv rfl rfl) (opsS_cons (.guarded _ (av 10 rfl rfl (an 33 rfl rfl rfl Av.nil)) rfl rfl rfl rfl (fun hb => ob_move rfl (.tmp rfl))) (opsS_cons (.guarded _ (av 12 rfl rfl (an 33 rfl rfl rfl Av.nil)) rfl rfl rfl rfl (fun hb => ob_move rfl (.tmp rfl))) (opsS_cons (.guarded _ (an 33 rfl rfl rfl (an 34 rfl rfl rfl (an 35 rfl rfl rfl Av.nil))) rfl rfl rfl rfl (fun hb => (Ob.uncond (t := 96) hb rfl ((Ob.uncond (t := 95) hb rfl (ob_eql rfl (.tmp rfl) (.tmp rfl))))))) (oc (an 33 rfl rfl rfl (an 36 rfl rfl rfl Av.nil)) rfl rfl ((ob_and2 rfl (.tmp rfl) (.tmp rfl) opd_bool).nm e_x20) (oc (an 37 rfl rfl rfl Av.nil) rfl rfl (mv rfl rfl) (opsS_cons (.guarded _ (av 14 rfl rfl (an 38 rfl rfl rfl Av.nil)) rfl rfl rfl rfl (fun hb => ob_move rfl (.tmp rfl))) (opsS_cons (.guarded _ (av 16 rfl rfl (an 38 rfl rfl rfl Av.nil)) rfl rfl rfl rfl (fun hb => ob_move rfl (.tmp rfl))) (opsS_cons (.guarded _ (an 38 rfl rfl rfl (an 39 rfl rfl rfl (an 40 rfl rfl rfl Av.nil))) rfl rfl rfl rfl (fun hb => (Ob.uncond (t := 101) hb rfl ((Ob.uncond (t := 100) hb rfl (ob_eql rfl (.tmp rfl) (.tmp rfl))))))) (oc (an 38 rfl rfl rfl (an 41 rfl rfl rfl Av.nil)) rfl rfl (ob_and2 rfl (.tmp rfl) (.tmp rfl) opd_bool) (oc (an 42 rfl rfl rfl Av.nil) rfl rfl (mv rfl rfl) (opsS_cons (.guarded _ (av 9 rfl rfl (an 43 rfl rfl rfl Av.nil)) rfl rfl rfl rfl (fun hb => ob_move rfl (.tmp rfl))) (opsS_cons (.guarded _ (av 11 rfl rfl (an 43 rfl rfl rfl Av.nil)) rfl rfl rfl rfl (fun hb => ob_move rfl (.tmp rfl))) (opsS_cons (.guarded _ (an 43 rfl rfl rfl (an 44 rfl rfl rfl (an 45 rfl rfl rfl Av.nil))) rfl rfl rfl rfl (fun hb => (Ob.uncond (t := 106) hb rfl ((Ob.uncond (t := 105) hb rfl ((ob_lendG (L := [_, _]) (toFront [_, _, _] (toFront [_, _] (List.Perm.refl _))) (.cons (t := 105) rfl (lendRow (.head _)) (.cons (t := 106) rfl (lendRow (.tail _ (.head _))) .nil)) (Flat.res1 (Flat.V KFlat.bool)) (fun _ => ob_callD0 (args := [_, _]) rfl .direct hb68 (fun a w s => by exact c_cabalref19_Same k _ _ _ (ite_t hb e_x21) _ _ _ _ (s.arg (.tmp rfl)) (s.arg (.tmp rfl))))))))))) (oc (an 43 rfl rfl rfl (an 46 rfl rfl rfl Av.nil)) rfl rfl (ob_and2 rfl (.tmp rfl) (.tmp rfl) opd_bool) (oc (an 47 rfl rfl rfl Av.nil) rfl rfl (mv rfl rfl) (opsS_cons (.guarded _ (av 13 rfl rfl (an 48 rfl rfl rfl Av.nil)) rfl rfl rfl rfl (fun hb => ob_move rfl (.tmp rfl))) (opsS_cons (.guarded _ (av 15 rfl rfl (an 48 rfl rfl rfl Av.nil)) rfl rfl rfl rfl (fun hb => ob_move rfl (.tmp rfl))) opsS_nil))))))))))))))))))))))))))))))))))))))))))))))))))) (out_new (i := 48) (by decide) rfl rfl (out_new (i := 49) (by decide) rfl rfl (out_new (i := 50) (by decide) rfl rfl out_nil))) fun _ _ s71 => ?_
   obtain ⟨x22, e_x22, h26⟩ := bind_some h25; clear h25
   obtain ⟨x23, e_x23, h27⟩ := bind_some h26; clear h26; replace e_x23 := Option.some.inj e_x23
   refine qs s71 (.cg rfl rfl rfl rfl (fun hb => (Ob.uncond (t := 111) hb rfl ((Ob.uncond (t := 110) hb rfl ((ob_lendG (L := [_, _]) (toFront [_] (toFront [] (List.Perm.refl _))) (.cons (t := 110) rfl (lendRow (.head _)) (.cons (t := 111) rfl (lendRow (.tail _ (.head _))) .nil)) (Flat.res1 (Flat.V KFlat.bool)) (fun _ => ob_callD0 (args := [_, _]) rfl .direct hb68 (fun a w s => by exact c_cabalref19_Same k _ _ _ (ite_t hb e_x22) _ _ _ _ (s.arg (.tmp rfl)) (s.arg (.tmp rfl)))))))))) (.c1 rfl ((ob_and2 rfl (.tmp rfl) (.tmp rfl) opd_bool).nm e_x23) (.c1 rfl (ob_assign rfl (.tmp rfl)) (.ce (u 8 rfl .nil))))) fun _ _ s75 => wn hK12 ?_; clear s71
   have s76 := St.drop (A := []) s75; clear s75
   have s77 := St.drop (A := []) s76; clear s76
   have s78 := St.drop (A := []) s77; clear s77
   have s79 := St.drop (A := []) s78; clear s78
   have s80 := St.drop (A := []) s79; clear s79
   refine wp_ret ?_
   obtain rfl := Option.some.inj h27
   exact leave s80 (.inl rfl) rfl (.cons (.tmp rfl) .nil)
end Go.Proofs.Ytdlnfgpcnfbjiaa
