/- Several parts of this proof in one file. No condition. -/
import Derived.Test.YtdlnfgpcnfbjiaaDyWalk1
namespace Go.Proofs.Ytdlnfgpcnfbjiaa
open Go Go.RowKit Go.Proofs.Kit Go.Proofs.Pure
set_option linter.unusedVariables false
set_option linter.unusedSimpArgs false
set_option maxRecDepth 100000
set_option maxHeartbeats 2000000
theorem c_slices_Equal_int_int (k : Nat) (p1 : (List Int)) (p2 : (List Int)) (r : Bool) (h0 : slices_Equal_int_int k p1 p2 = some r) (ok : Ok) (w0 : World) (z0 : Value) (z1 : Value) (u0 : ((ksl (kint .i64)).V p1).holds ok w0 z0) (u1 : ((ksl (kint .i64)).V p2).holds ok w0 z1) :
 Gives Try.prog 106 [z0, z1] ok w0 (resFact [kbool.V r]) := by
 unfold slices_Equal_int_int at h0
 refine enter (N := 26) Try.func106 rfl rfl (of_decide_eq_true rfl) (.cons u0 (.cons u1 .nil)) fun a1 s1 => ?_
 refine wp_seq_k fun K1 hK1 => wp_region_lit (qs s1 (.c1 rfl (ob_assign rfl opd_bool) (.ce (u 0 rfl (u 1 rfl .nil)))) fun _ _ s3 => wn hK1 ?_); clear s1
 refine wp_seq_k fun K2 hK2 => wp_seq_k fun K3 hK3 => ?_
 refine wp_region_lit (qs s3 (.c1 rfl (mv rfl rfl) (.c1 rfl (ob_lens rfl Try.underlying41 (.tmp rfl)) (.c1 rfl (mv rfl rfl) (.c1 rfl (ob_lens rfl Try.underlying41 (.tmp rfl)) (.c1 rfl (ob_neq rfl (.tmp rfl) (.tmp rfl)) (.ce (u 0 rfl (u 1 rfl (u 10 rfl .nil))))))))) fun _ _ s9 => wn hK3 ?_); clear s3
 refine cond_split s9 (.tmp rfl) (fun hc1 => ?_) (fun hc1 => ?_)
 ·have h1 := ite_t hc1 h0; clear h0
  refine wp_seq_k fun K4 hK4 => wp_region_lit (qs s9 (.c1 rfl (ob_assign rfl opd_bool) (.ce (u 4 rfl .nil))) fun _ _ s11 => wn hK4 ?_); clear s9
  refine wp_ret ?_
  obtain rfl := Option.some.inj h1
  exact leave s11 (.inl rfl) rfl (.cons (.tmp rfl) .nil)
 ·have h2 := ite_f hc1 h0; clear h0
  refine wp_skip ?_
  refine then_normal (hK2 _ _ ?_)
  have s12 := s9.sub (u 0 rfl (u 1 rfl .nil)); clear s9
  refine wp_seq_k fun K5 hK5 => wp_seq_k fun K6 hK6 => ?_
  refine wp_region_lit (qs s12 (.c1 rfl (mv rfl rfl) (.c1 rfl (ob_lens rfl Try.underlying41 (.tmp rfl)) (.c1 rfl (ob_move rfl (opd_int rfl)) (.ce (u 0 rfl (u 1 rfl (u 12 rfl (u 13 rfl .nil)))))))) fun _ _ s16 => wn hK6 ?_); clear s12
  have hj1 : ∀ (a : Act) (w : World), (slices_Equal_int_int.j1 k) = some r → St ⟨26, w0, ok, []⟩ [] [] a w → K5 a w := by
   intro a17 w17 h3 s17
   unfold slices_Equal_int_int.j1 at h3
   refine hK5 _ _ ?_
   refine wp_seq_k fun K7 hK7 => wp_region_lit (qs s17 (.c1 rfl (ob_assign rfl opd_bool) (.ce (u 4 rfl .nil))) fun _ _ s19 => wn hK7 ?_); clear s17
   refine wp_ret ?_
   obtain rfl := Option.some.inj h3
   exact leave s19 (.inl rfl) rfl (.cons (.tmp rfl) .nil)
  refine wp_block ?_
  refine wp_loop_fuel (fun m (q : Int) => slices_Equal_int_int.l1 k p1 p2 m q) r (fun _ => rfl) (fun q a w => St ⟨26, w0, ok, []⟩ [] [(0, ((ksl (kint .i64)).V p1)), (1, ((ksl (kint .i64)).V p2)), (12, ((kint .i64).V (p1.length : Int))), (13, ((kint .i64).V q))] a w) ?_ k (0 : Int) _ _ h2 (s16.sub (.cons rfl (.cons rfl (.cons rfl (.cons rfl .nil)))))
  rintro n1 y1 a20 w20 h4 s20 K8 hK8
  replace h4 : slices_Equal_int_int.l1 k p1 p2 (n1 + 1) y1 = some r := h4; rw [slices_Equal_int_int.l1] at h4
  have h5 := h4; clear h4
  refine wp_seq_k fun K9 hK9 => wp_region_lit (qs s20 (.c1 rfl (ob_lss rfl (.tmp rfl) (.tmp rfl)) (.ce (u 0 rfl (u 1 rfl (u 12 rfl (u 13 rfl (u 14 rfl .nil))))))) fun _ _ s22 => wn hK9 ?_); clear s20
  refine wp_seq_k fun K10 hK10 => ?_
  refine cond_split s22 (.tmp rfl) (fun hc2 => ?_) (fun hc2 => ?_)
  ·have h6 := ite_t hc2 h5; clear h5
   refine wp_skip ?_
   refine then_normal (hK10 _ _ ?_)
   have s23 := s22.sub (u 0 rfl (u 1 rfl (u 12 rfl (u 13 rfl .nil)))); clear s22
   refine wp_seq_k fun K11 hK11 => wp_block ?_
   refine wp_seq_k fun K12 hK12 => wp_region_lit (qs s23 (.c1 rfl (mv rfl rfl) (.c1 rfl (ob_assign rfl (.tmp rfl)) (.ce (u 0 rfl (u 1 rfl (u 5 rfl (u 12 rfl (u 13 rfl .nil)))))))) fun _ _ s26 => wn hK12 ?_); clear s23
   refine wp_seq_k fun K13 hK13 => ?_
   obtain ⟨x1, e_x1, h7⟩ := bind_some h6; clear h6
   obtain ⟨x2, e_x2, h8⟩ := bind_some h7; clear h7
   refine wp_goes (Fs := [((ksl (kint .i64)).V p1), ((kint .i64).V y1), (ptrTo (kint .i64) x1), ((kint .i64).V x1), ((ksl (kint .i64)).V p2), ((kint .i64).V y1), (ptrTo (kint .i64) x2), ((kint .i64).V x2)]) (bits := [0, 0, 3, 7, 0, 0, 48, 112, 255]) (m := 8) (todo := 0) mx s26 ?_; clear s26
   refine goes_last (by kernel_rfl) rfl (oc (av 0 rfl rfl Av.nil) rfl rfl (mv rfl rfl) (oc (av 5 rfl rfl Av.nil) rfl rfl (mv rfl rfl) (oc (an 0 rfl rfl rfl (an 1 rfl rfl rfl Av.nil)) rfl rfl (ob_indexAddrs rfl Try.underlying41 sz3 (.tmp rfl) (.tmp rfl) e_x1) (oc (an 2 rfl rfl rfl Av.nil) rfl rfl (ob_loadr rfl tk3 (.tmp rfl)) (oc (av 1 rfl rfl Av.nil) rfl rfl (mv rfl rfl) (oc (av 5 rfl rfl Av.nil) rfl rfl (mv rfl rfl) (oc (an 4 rfl rfl rfl (an 5 rfl rfl rfl Av.nil)) rfl rfl (ob_indexAddrs rfl Try.underlying41 sz3 (.tmp rfl) (.tmp rfl) e_x2) (oc (an 6 rfl rfl rfl Av.nil) rfl rfl (ob_loadr rfl tk3 (.tmp rfl)) opsS_nil)))))))) (out_old (t := 0) rfl rfl (out_old (t := 1) rfl rfl (out_old (t := 12) rfl rfl (out_old (t := 13) rfl rfl (out_new (i := 3) (by decide) rfl rfl (out_new (i := 7) (by decide) rfl rfl out_nil)))))) fun _ _ s27 => ?_
   refine qs s27 (.c1 rfl (ob_neq rfl (.tmp rfl) (.tmp rfl)) (.ce (u 0 rfl (u 1 rfl (u 12 rfl (u 13 rfl (u 24 rfl .nil))))))) fun _ _ s29 => wn hK13 ?_; clear s27
   refine cond_split s29 (.tmp rfl) (fun hc3 => ?_) (fun hc3 => ?_)
   ·have h9 := ite_t hc3 h8; clear h8
    refine wp_seq_k fun K14 hK14 => wp_region_lit (qs s29 (.c1 rfl (ob_assign rfl opd_bool) (.ce (u 4 rfl .nil))) fun _ _ s31 => wn hK14 ?_); clear s29
    refine wp_ret ?_
    obtain rfl := Option.some.inj h9
    exact leave s31 (.inl rfl) rfl (.cons (.tmp rfl) .nil)
   ·have h10 := ite_f hc3 h8; clear h8
    refine wp_skip ?_
    refine in_normal ?_
    refine then_normal (hK11 _ _ ?_)
    have s32 := s29.sub (u 0 rfl (u 1 rfl (u 12 rfl (u 13 rfl .nil)))); clear s29
    refine wp_region_lit (qs s32 (.c1 rfl (ob_add rfl (.tmp rfl) (opd_int rfl)) (.c1 rfl (mv rfl rfl) .cz)) fun _ _ s34 => ?_); clear s32
    refine wpList_nil ?_
    refine then_normal ?_
    exact hK8 (iadd .i64 y1 (1 : Int)) _ _ h10 (s34.sub (.cons rfl (.cons rfl (.cons rfl (.cons rfl .nil)))))
  ·have h11 := ite_f hc2 h5; clear h5
   refine wp_exit ?_
   refine (then_exit (then_exit (in_here ?_)))
   refine then_normal ?_
   exact hj1 _ _ h11 (s22.sub .nil)
theorem c_cmp_isNaN_int (k : Nat) (p1 : Int) (r : Bool) (h0 : cmp_isNaN_int k p1 = some r) (ok : Ok) (w0 : World) (z0 : Value) (u0 : ((kint .i64).V p1).holds ok w0 z0) :
 Gives Try.prog 185 [z0] ok w0 (resFact [kbool.V r]) := by
 unfold cmp_isNaN_int at h0
 refine enter (N := 6) Try.func185 rfl rfl (of_decide_eq_true rfl) (.cons u0 .nil) fun a1 s1 => ?_
 refine wp_seq_k fun K1 hK1 => wp_region_lit (qs s1 (.c1 rfl (ob_assign rfl opd_bool) (.ce (u 0 rfl .nil))) fun _ _ s3 => wn hK1 ?_); clear s1
 refine wp_seq_k fun K2 hK2 => wp_region_lit (qs s3 (.c1 rfl (mv rfl rfl) (.c1 rfl (mv rfl rfl) (.c1 rfl (ob_neq rfl (.tmp rfl) (.tmp rfl)) (.c1 rfl (ob_assign rfl (.tmp rfl)) (.ce (u 2 rfl .nil)))))) fun _ _ s8 => wn hK2 ?_); clear s3
 refine wp_ret ?_
 obtain rfl := Option.some.inj h0
 exact leave s8 (.inl rfl) rfl (.cons (.tmp rfl) .nil)
theorem c_cmp_Less_int (k : Nat) (p1 : Int) (p2 : Int) (r : Bool) (h0 : cmp_Less_int k p1 p2 = some r) (ok : Ok) (w0 : World) (z0 : Value) (z1 : Value) (u0 : ((kint .i64).V p1).holds ok w0 z0) (u1 : ((kint .i64).V p2).holds ok w0 z1) :
 Gives Try.prog 162 [z0, z1] ok w0 (resFact [kbool.V r]) := by
 unfold cmp_Less_int at h0
 refine enter (N := 17) Try.func162 rfl rfl (of_decide_eq_true rfl) (.cons u0 (.cons u1 .nil)) fun a1 s1 => ?_
 refine wp_seq_k fun K1 hK1 => wp_region_lit (qs s1 (.c1 rfl (ob_assign rfl opd_bool) (.ce (u 0 rfl (u 1 rfl .nil)))) fun _ _ s3 => wn hK1 ?_); clear s1
 obtain ⟨x1, e_x1, h1⟩ := bind_some h0; clear h0
 obtain ⟨x2, e_x2, h2⟩ := bind_some h1; clear h1
 refine wp_seq_k fun K2 hK2 => wp_region_lit (qs s3 (.c1 rfl (mv rfl rfl) (.c1 rfl (ob_callD0 (args := [_]) rfl .direct hb185 (fun a w s => by exact c_cmp_isNaN_int k _ _ e_x1 _ _ _ (s.arg (.tmp rfl)))) (.c1 rfl (mv rfl rfl) (.cg rfl rfl rfl rfl (fun hb => ob_move rfl (.tmp rfl)) (.cg rfl rfl rfl rfl (fun hb => (Ob.uncond (t := 8) hb rfl (ob_callD0 (args := [_]) rfl .direct hb185 (fun a w s => by exact c_cmp_isNaN_int k _ _ (ite_t hb e_x2) _ _ _ (s.arg (.tmp rfl)))))) (.cg rfl rfl rfl rfl (fun hb => (Ob.uncond (t := 9) hb rfl (ob_not rfl (.tmp rfl)))) (.c1 rfl (ob_and2 rfl (.tmp rfl) (.tmp rfl) opd_bool) (.c1 rfl (mv rfl rfl) (.cg rfl rfl rfl rfl (fun hb => ob_move rfl (.tmp rfl)) (.cg rfl rfl rfl rfl (fun hb => ob_move rfl (.tmp rfl)) (.cg rfl rfl rfl rfl (fun hb => (Ob.uncond (t := 14) hb rfl ((Ob.uncond (t := 13) hb rfl (ob_lss rfl (.tmp rfl) (.tmp rfl)))))) (.c1 rfl (ob_or2 rfl (.tmp rfl) opd_bool (.tmp rfl)) (.c1 rfl (ob_assign rfl (.tmp rfl)) (.ce (u 4 rfl .nil))))))))))))))) fun _ _ s17 => wn hK2 ?_); clear s3
 refine wp_ret ?_
 obtain rfl := Option.some.inj h2
 exact leave s17 (.inl rfl) rfl (.cons (.tmp rfl) .nil)
theorem c_slices_isNaN_int (k : Nat) (p1 : Int) (r : Bool) (h0 : slices_isNaN_int k p1 = some r) (ok : Ok) (w0 : World) (z0 : Value) (u0 : ((kint .i64).V p1).holds ok w0 z0) :
 Gives Try.prog 163 [z0] ok w0 (resFact [kbool.V r]) := by
 unfold slices_isNaN_int at h0
 refine enter (N := 6) Try.func163 rfl rfl (of_decide_eq_true rfl) (.cons u0 .nil) fun a1 s1 => ?_
 refine wp_seq_k fun K1 hK1 => wp_region_lit (qs s1 (.c1 rfl (ob_assign rfl opd_bool) (.ce (u 0 rfl .nil))) fun _ _ s3 => wn hK1 ?_); clear s1
 refine wp_seq_k fun K2 hK2 => wp_region_lit (qs s3 (.c1 rfl (mv rfl rfl) (.c1 rfl (mv rfl rfl) (.c1 rfl (ob_neq rfl (.tmp rfl) (.tmp rfl)) (.c1 rfl (ob_assign rfl (.tmp rfl)) (.ce (u 2 rfl .nil)))))) fun _ _ s8 => wn hK2 ?_); clear s3
 refine wp_ret ?_
 obtain rfl := Option.some.inj h0
 exact leave s8 (.inl rfl) rfl (.cons (.tmp rfl) .nil)
theorem c_slices_BinarySearch_int_int (k : Nat) (p1 : (List Int)) (p2 : Int) (r : (Int × Bool)) (h0 : slices_BinarySearch_int_int k p1 p2 = some r) (ok : Ok) (w0 : World) (z0 : Value) (z1 : Value) (u0 : ((ksl (kint .i64)).V p1).holds ok w0 z0) (u1 : ((kint .i64).V p2).holds ok w0 z1) :
 Gives Try.prog 141 [z0, z1] ok w0 (resFact [(kint .i64).V r.1, kbool.V r.2]) := by
 unfold slices_BinarySearch_int_int at h0
 refine enter (N := 54) Try.func141 rfl rfl (of_decide_eq_true rfl) (.cons u0 (.cons u1 .nil)) fun a1 s1 => ?_
 refine wp_seq_k fun K1 hK1 => wp_region_lit (qs s1 (.c1 rfl (ob_assign rfl (opd_int rfl)) (.c1 rfl (ob_assign rfl opd_bool) (.ce (u 0 rfl (u 1 rfl .nil))))) fun _ _ s4 => wn hK1 ?_); clear s1
 refine wp_seq_k fun K2 hK2 => wp_region_lit (qs s4 (.c1 rfl (mv rfl rfl) (.c1 rfl (ob_lens rfl Try.underlying41 (.tmp rfl)) (.c1 rfl (ob_assign rfl (.tmp rfl)) (.ce (u 0 rfl (u 1 rfl (u 6 rfl .nil))))))) fun _ _ s8 => wn hK2 ?_); clear s4
 refine wp_seq_k fun K3 hK3 => wp_region_lit (qs s8 (.c1 rfl (mv rfl rfl) (.c1 rfl (ob_assign rfl (opd_int rfl)) (.c1 rfl (ob_assign rfl (.tmp rfl)) (.ce (u 0 rfl (u 1 rfl (u 6 rfl (u 7 rfl (u 8 rfl .nil))))))))) fun _ _ s12 => wn hK3 ?_); clear s8
 refine wp_seq_k fun K4 hK4 => ?_
 have hj1 : ∀ (y1 : Int) (a : Act) (w : World), (slices_BinarySearch_int_int.j1 k p1 p2) y1 = some r → St ⟨54, w0, ok, []⟩ [] [(0, ((ksl (kint .i64)).V p1)), (1, ((kint .i64).V p2)), (6, ((kint .i64).V (p1.length : Int))), (7, ((kint .i64).V y1))] a w → K4 a w := by
  intro y1 a13 w13 h1 s13
  unfold slices_BinarySearch_int_int.j1 at h1
  refine hK4 _ _ ?_
  obtain ⟨x1, e_x1, h2⟩ := bind_some h1; clear h1
  refine wp_seq_k fun K5 hK5 => wp_region_lit (qs s13 (.c1 rfl (mv rfl rfl) (.c1 rfl (mv rfl rfl) (.c1 rfl (mv rfl rfl) (.c1 rfl (ob_lss rfl (.tmp rfl) (.tmp rfl)) (.c1 rfl (mv rfl rfl) (.cg rfl rfl rfl rfl (fun hb => ob_move rfl (.tmp rfl)) (.cg rfl rfl rfl rfl (fun hb => ob_move rfl (.tmp rfl)) (.cg rfl rfl rfl rfl (fun hb => (Ob.uncond (t := 37) hb rfl ((Ob.uncond (t := 36) hb rfl (ob_indexAddrs rfl Try.underlying41 sz3 (.tmp rfl) (.tmp rfl) (ite_t hb e_x1)))))) (.cg rfl rfl rfl rfl (fun hb => (Ob.uncond (t := 38) hb rfl (ob_loadr rfl tk3 (.tmp rfl)))) (.cg rfl rfl rfl rfl (fun hb => ob_move rfl (.tmp rfl)) (.cg rfl rfl rfl rfl (fun hb => (Ob.uncond (t := 40) hb rfl ((Ob.uncond (t := 39) hb rfl (ob_eql rfl (.tmp rfl) (.tmp rfl)))))) (.cg rfl rfl rfl rfl (fun hb => (Ob.uncond (t := 41) hb rfl (mv rfl rfl))) .cz)))))))))))) fun _ _ s25 => ?_); clear s13
  refine seq_opg2 s25 rfl rfl rfl rfl (of_decide_eq_true rfl) (fun hb => ob_move rfl (.tmp rfl)) fun _ _ s26 => ?_; clear s25
  refine seq_opg2 s26 rfl rfl rfl rfl (of_decide_eq_true rfl) (fun hb => ob_move rfl (.tmp rfl)) fun _ _ s27 => ?_; clear s26
  obtain ⟨x2, e_x2, h3⟩ := bind_some h2; clear h2
  refine seq_opg2 s27 rfl rfl rfl rfl (of_decide_eq_true rfl) (fun hb => (Ob.uncond (t := 44) hb rfl ((Ob.uncond (t := 43) hb rfl (ob_indexAddrs rfl Try.underlying41 sz3 (.tmp rfl) (.tmp rfl) (ite_t hb e_x2)))))) fun _ _ s28 => ?_; clear s27
  refine seq_opg2 s28 rfl rfl rfl rfl (of_decide_eq_true rfl) (fun hb => (Ob.uncond (t := 45) hb rfl (ob_loadr rfl tk3 (.tmp rfl)))) fun _ _ s29 => ?_; clear s28
  obtain ⟨x3, e_x3, h4⟩ := bind_some h3; clear h3
  refine seq_opg2 s29 rfl rfl rfl rfl (of_decide_eq_true rfl) (fun hb => (Ob.uncond (t := 46) hb rfl (ob_callD0 (args := [_]) rfl .direct hb163 (fun a w s => by exact c_slices_isNaN_int k _ _ (ite_t hb e_x3) _ _ _ (s.arg (.tmp rfl)))))) fun _ _ s30 => ?_; clear s29
  refine seq_opg2 s30 rfl rfl rfl rfl (of_decide_eq_true rfl) (fun hb => (Ob.uncond (t := 47) hb rfl (mv rfl rfl))) fun _ _ s31 => ?_; clear s30
  refine seq_opg2 s31 rfl rfl rfl rfl (of_decide_eq_true rfl) (fun hb => ob_move rfl (.tmp rfl)) fun _ _ s32 => ?_; clear s31
  obtain ⟨x4, e_x4, h5⟩ := bind_some h4; clear h4
  refine seq_opg2 s32 rfl rfl rfl rfl (of_decide_eq_true rfl) (fun hb => (Ob.uncond (t := 49) hb rfl (ob_callD0 (args := [_]) rfl .direct hb163 (fun a w s => by exact c_slices_isNaN_int k _ _ (ite_t hb e_x4) _ _ _ (s.arg (.tmp rfl)))))) fun _ _ s33 => ?_; clear s32
  refine seq_opg2 s33 rfl rfl rfl rfl (of_decide_eq_true rfl) (fun hb => (Ob.uncond (t := 48) hb rfl (ob_and3 hb rfl (.tmp rfl) (.tmp rfl) opd_bool))) fun _ _ s34 => ?_; clear s33
  obtain ⟨x5, e_x5, h6⟩ := bind_some h5; clear h5; replace e_x5 := Option.some.inj e_x5
  refine qs s34 (.cg rfl rfl rfl rfl (fun hb => (Ob.uncond (t := 42) hb rfl (ob_or3 hb rfl (.tmp rfl) opd_bool (.tmp rfl)))) (.c1 rfl ((ob_and2 rfl (.tmp rfl) (.tmp rfl) opd_bool).nm e_x5) (.c1 rfl (ob_assign rfl (.tmp rfl)) (.c1 rfl (ob_assign rfl (.tmp rfl)) (.ce (u 4 rfl (u 5 rfl .nil))))))) fun _ _ s39 => wn hK5 ?_; clear s34
  refine wp_ret ?_
  obtain rfl := Option.some.inj h6
  exact leave s39 (.inl rfl) rfl (.cons (.tmp rfl) (.cons (.tmp rfl) .nil))
 refine wp_block ?_
 refine wp_loop_fuel (fun m (q : Int × Int) => slices_BinarySearch_int_int.l1 k p1 p2 m q.1 q.2) r (fun _ => rfl) (fun q a w => St ⟨54, w0, ok, []⟩ [] [(0, ((ksl (kint .i64)).V p1)), (1, ((kint .i64).V p2)), (6, ((kint .i64).V (p1.length : Int))), (7, ((kint .i64).V q.1)), (8, ((kint .i64).V q.2))] a w) ?_ k ((0 : Int), (p1.length : Int)) _ _ h0 (s12.sub (.cons rfl (.cons rfl (.cons rfl (.cons rfl (.cons rfl .nil))))))
 rintro n1 ⟨y2, y3⟩ a40 w40 h7 s40 K6 hK6
 replace h7 : slices_BinarySearch_int_int.l1 k p1 p2 (n1 + 1) y2 y3 = some r := h7; rw [slices_BinarySearch_int_int.l1] at h7
 have h8 := h7; clear h7
 refine wp_seq_k fun K7 hK7 => wp_seq_k fun K8 hK8 => ?_
 refine wp_region_lit (qs s40 (.c1 rfl (mv rfl rfl) (.c1 rfl (mv rfl rfl) (.c1 rfl (ob_lss rfl (.tmp rfl) (.tmp rfl)) (.ce (u 0 rfl (u 1 rfl (u 6 rfl (u 7 rfl (u 8 rfl (u 15 rfl .nil)))))))))) fun _ _ s44 => wn hK8 ?_); clear s40
 refine cond_split s44 (.tmp rfl) (fun hc1 => ?_) (fun hc1 => ?_)
 ·have h9 := ite_t hc1 h8; clear h8
  refine wp_skip ?_
  refine then_normal (hK7 _ _ ?_)
  have s45 := s44.sub (u 0 rfl (u 1 rfl (u 6 rfl (u 7 rfl (u 8 rfl .nil))))); clear s44
  refine wp_block ?_
  obtain ⟨x6, e_x6, h10⟩ := bind_some h9; clear h9; replace e_x6 := Option.some.inj e_x6
  refine wp_seq_k fun K9 hK9 => wp_region_lit (qs s45 (.c1 rfl (mv rfl rfl) (.c1 rfl (mv rfl rfl) (.c1 rfl (ob_add rfl (.tmp rfl) (.tmp rfl)) (.c1 rfl (ob_conv rfl _ Try.underlying3 Try.underlying37 (.tmp rfl)) (.c1 rfl (ob_shr rfl (.tmp rfl) (opd_int rfl) (by decide)) (.c1 rfl ((ob_conv rfl _ Try.underlying37 Try.underlying3 (.tmp rfl)).nm e_x6) (.c1 rfl (ob_assign rfl (.tmp rfl)) (.ce (u 0 rfl (u 1 rfl (u 6 rfl (u 7 rfl (u 8 rfl (u 9 rfl .nil)))))))))))))) fun _ _ s53 => wn hK9 ?_); clear s45
  obtain ⟨x7, e_x7, h11⟩ := bind_some h10; clear h10
  obtain ⟨x8, e_x8, h12⟩ := bind_some h11; clear h11
  refine wp_seq_k fun K10 hK10 => wp_region_lit (qs s53 (.c1 rfl (mv rfl rfl) (.c1 rfl (mv rfl rfl) (.c1 rfl (ob_indexAddrs rfl Try.underlying41 sz3 (.tmp rfl) (.tmp rfl) e_x7) (.c1 rfl (ob_loadr rfl tk3 (.tmp rfl)) (.c1 rfl (mv rfl rfl) (.c1 rfl (ob_callD0 (args := [_, _]) rfl .direct hb162 (fun a w s => by exact c_cmp_Less_int k _ _ _ e_x8 _ _ _ _ (s.arg (.tmp rfl)) (s.arg (.tmp rfl)))) (.ce (u 0 rfl (u 1 rfl (u 6 rfl (u 7 rfl (u 8 rfl (u 9 rfl (u 27 rfl .nil)))))))))))))) fun _ _ s60 => wn hK10 ?_); clear s53
  refine cond_split s60 (.tmp rfl) (fun hc2 => ?_) (fun hc2 => ?_)
  ·have h13 := ite_t hc2 h12; clear h12
   refine wp_region_lit (qs s60 (.c1 rfl (mv rfl rfl) (.c1 rfl (ob_add rfl (.tmp rfl) (opd_int rfl)) (.c1 rfl (ob_assign rfl (.tmp rfl)) .cz))) fun _ _ s63 => ?_); clear s60
   refine wpList_nil ?_
   refine in_normal ?_
   refine then_normal ?_
   exact hK6 ((iadd .i64 x6 (1 : Int)), y3) _ _ h13 (s63.sub (.cons rfl (.cons rfl (.cons rfl (.cons rfl (.cons rfl .nil))))))
  ·have h14 := ite_f hc2 h12; clear h12
   refine wp_region_lit (qs s60 (.c1 rfl (mv rfl rfl) (.c1 rfl (ob_assign rfl (.tmp rfl)) .cz)) fun _ _ s65 => ?_); clear s60
   refine wpList_nil ?_
   refine in_normal ?_
   refine then_normal ?_
   exact hK6 (y2, x6) _ _ h14 (s65.sub (.cons rfl (.cons rfl (.cons rfl (.cons rfl (.cons rfl .nil))))))
 ·have h15 := ite_f hc1 h8; clear h8
  refine wp_exit ?_
  refine (then_exit (then_exit (in_here ?_)))
  refine then_normal ?_
  exact hj1 y2 _ _ h15 (s44.sub (.cons rfl (.cons rfl (.cons rfl (.cons rfl .nil)))))
theorem c_graph_turn (k : Nat) (p1 : (List api_Node)) (p2 : api_Op) (p3 : (List Int)) (r : Bool) (h0 : graph_turn k p1 p2 p3 = some r) (ok : Ok) (w0 : World) (z0 : Value) (z1 : Value) (z2 : Value) (u0 : ((ksl k_api_Node).V p1).holds ok w0 z0) (u1 : (k_api_Op.V p2).holds ok w0 z1) (u2 : ((ksl (kint .i64)).V p3).holds ok w0 z2) :
 Gives Try.prog 93 [z0, z1, z2] ok w0 (resFact [kbool.V r]) := by
 unfold graph_turn at h0
 refine enter (N := 49) Try.func93 rfl rfl (of_decide_eq_true rfl) (.cons u0 (.cons u1 (.cons u2 .nil))) fun a1 s1 => ?_
 refine wp_seq_k fun K1 hK1 => wp_region_lit ?_
 refine qx (B' := (fun b1 : Nat => [BF b1 44 k_api_Op p2])) s1 rfl (ob_box rfl (.tmp rfl)) fun b1 _ _ s2 => ?_; clear s1
 refine qs s2 (.c1 rfl (ob_assign rfl opd_bool) (.ce (u 0 rfl (u 2 rfl (u 4 rfl .nil))))) fun _ _ s4 => wn hK1 ?_; clear s2
 refine wp_seq_k fun K2 hK2 => wp_region_lit (qs s4 (.c1 rfl (ob_assign rfl (opd_int rfl)) (.ce (u 0 rfl (u 2 rfl (u 4 rfl (u 7 rfl .nil)))))) fun _ _ s6 => wn hK2 ?_); clear s4
 refine wp_seq_k fun K3 hK3 => wp_seq_k fun K4 hK4 => ?_
 refine wp_region_lit (qs s6 (.c1 rfl (mv rfl rfl) (.c1 rfl (ob_lens rfl Try.underlying22 (.tmp rfl)) (.c1 rfl (ob_move rfl (opd_int rfl)) (.ce (u 0 rfl (u 2 rfl (u 4 rfl (u 7 rfl (u 12 rfl (u 13 rfl (u 14 rfl .nil))))))))))) fun _ _ s10 => wn hK4 ?_); clear s6
 have hj1 : ∀ (y1 : Int) (a : Act) (w : World), (graph_turn.j1 k p2 p1) y1 = some r → St ⟨49, w0, ok, []⟩ [BF b1 44 k_api_Op p2] [(0, ((ksl k_api_Node).V p1)), (4, (ptrB b1 0)), (7, ((kint .u32).V y1))] a w → K3 a w := by
  intro y1 a11 w11 h1 s11
  unfold graph_turn.j1 at h1
  refine hK3 _ _ ?_
  obtain ⟨x1, e_x1, h2⟩ := bind_some h1; clear h1; replace e_x1 := Option.some.inj e_x1
  refine wp_seq_k fun K5 hK5 => wp_region_lit (qs s11 (.c1 rfl (ob_fieldAddr (off' := 1) rfl Try.underlying44 rfl sz25 (by decide) (.tmp rfl) rfl) (.c1 rfl (ob_load rfl tk25 (.tmp rfl) (.head _) (lg_api_Op_Seq p2)) (.c1 rfl (mv rfl rfl) (.c1 rfl (ob_eql rfl (.tmp rfl) (.tmp rfl)) (.c1 rfl (mv rfl rfl) (.cg rfl rfl rfl rfl (fun hb => ob_fieldAddr (off' := 3) rfl Try.underlying44 rfl sz3 (by decide) (.tmp rfl) rfl) (.cg rfl rfl rfl rfl (fun hb => (Ob.uncond (t := 41) hb rfl (ob_load rfl tk3 (.tmp rfl) (.head _) (lg_api_Op_Kind p2)))) (.cg rfl rfl rfl rfl (fun hb => (Ob.uncond (t := 42) hb rfl (ob_eql rfl (.tmp rfl) (opd_int rfl)))) (.cg rfl rfl rfl rfl (fun hb => ob_move rfl (.tmp rfl)) (.cg rfl rfl rfl rfl (fun hb => (Ob.uncond (t := 44) hb rfl (ob_lens rfl Try.underlying22 (.tmp rfl)))) (.cg rfl rfl rfl rfl (fun hb => (Ob.uncond (t := 45) hb rfl (ob_eql rfl (.tmp rfl) (opd_int rfl)))) (.cg rfl rfl rfl rfl (fun hb => (Ob.uncond (t := 46) hb rfl ((Ob.uncond (t := 43) hb rfl (ob_beql rfl Try.underlying4 (.tmp rfl) (.tmp rfl)))))) (.c1 rfl ((ob_and2 rfl (.tmp rfl) (.tmp rfl) opd_bool).nm e_x1) (.c1 rfl (ob_assign rfl (.tmp rfl)) (.ce (u 6 rfl .nil)))))))))))))))) fun _ _ s26 => wn hK5 ?_); clear s11
  have s27 := St.drop (A := []) s26; clear s26
  refine wp_ret ?_
  obtain rfl := Option.some.inj h2
  exact leave s27 (.inl rfl) rfl (.cons (.tmp rfl) .nil)
 refine wp_block ?_
 refine wp_loop_fuel (fun m (q : Int × Int) => graph_turn.l1 k p1 p2 p3 m q.1 q.2) r (fun _ => rfl) (fun q a w => St ⟨49, w0, ok, []⟩ [BF b1 44 k_api_Op p2] [(0, ((ksl k_api_Node).V p1)), (2, ((ksl (kint .i64)).V p3)), (4, (ptrB b1 0)), (7, ((kint .u32).V q.1)), (12, ((ksl k_api_Node).V p1)), (13, ((kint .i64).V (p1.length : Int))), (14, ((kint .i64).V q.2))] a w) ?_ k ((1 : Int), (0 : Int)) _ _ h0 (s10.sub (.cons rfl (.cons rfl (.cons rfl (.cons rfl (.cons rfl (.cons rfl (.cons rfl .nil))))))))
 rintro n1 ⟨y2, y3⟩ a28 w28 h3 s28 K6 hK6
 replace h3 : graph_turn.l1 k p1 p2 p3 (n1 + 1) y2 y3 = some r := h3; rw [graph_turn.l1] at h3
 have h4 := h3; clear h3
 refine wp_seq_k fun K7 hK7 => wp_region_lit (qs s28 (.c1 rfl (ob_lss rfl (.tmp rfl) (.tmp rfl)) (.ce (u 0 rfl (u 2 rfl (u 4 rfl (u 7 rfl (u 12 rfl (u 13 rfl (u 14 rfl (u 15 rfl .nil)))))))))) fun _ _ s30 => wn hK7 ?_); clear s28
 refine wp_seq_k fun K8 hK8 => ?_
 refine cond_split s30 (.tmp rfl) (fun hc1 => ?_) (fun hc1 => ?_)
 ·have h5 := ite_t hc1 h4; clear h4
  refine wp_skip ?_
  refine then_normal (hK8 _ _ ?_)
  have s31 := s30.sub (u 0 rfl (u 2 rfl (u 4 rfl (u 7 rfl (u 12 rfl (u 13 rfl (u 14 rfl .nil))))))); clear s30
  refine wp_seq_k fun K9 hK9 => ?_
  have hj2 : ∀ (y4 : Int) (a : Act) (w : World), (graph_turn.j2 k y3 (graph_turn.l1 k p1 p2 p3 n1)) y4 = some r → St ⟨49, w0, ok, []⟩ [BF b1 44 k_api_Op p2] [(0, ((ksl k_api_Node).V p1)), (2, ((ksl (kint .i64)).V p3)), (4, (ptrB b1 0)), (7, ((kint .u32).V y4)), (12, ((ksl k_api_Node).V p1)), (13, ((kint .i64).V (p1.length : Int))), (14, ((kint .i64).V y3))] a w → K9 a w := by
   intro y4 a32 w32 h6 s32
   unfold graph_turn.j2 at h6
   refine hK9 _ _ ?_
   refine wp_region_lit (qs s32 (.c1 rfl (ob_add rfl (.tmp rfl) (opd_int rfl)) (.c1 rfl (mv rfl rfl) .cz)) fun _ _ s34 => ?_); clear s32
   refine wpList_nil ?_
   refine then_normal ?_
   exact hK6 (y4, (iadd .i64 y3 (1 : Int))) _ _ h6 (s34.sub (.cons rfl (.cons rfl (.cons rfl (.cons rfl (.cons rfl (.cons rfl (.cons rfl .nil))))))))
  refine wp_block ?_
  obtain ⟨x2, e_x2, h7⟩ := bind_some h5; clear h5
  refine wp_seq_k fun K10 hK10 => wp_region_lit (qs s31 (.c1 rfl (mv rfl rfl) (.c1 rfl (ob_indexAddrs rfl Try.underlying22 sz46 (.tmp rfl) (.tmp rfl) e_x2) (.c1 rfl (ob_loadr rfl tk46 (.tmp rfl)) .cz))) fun _ _ s37 => ?_); clear s31
  refine qx (B' := (fun b2 : Nat => [BF b2 46 k_api_Node (⟨(List.replicate 32 (0 : Int)), (⟨(0 : Int), (0 : Int), [], (0 : Int), [], (List.replicate 32 (0 : Int)), (List.replicate 32 (0 : Int)), [], []⟩ : api_Op), []⟩ : api_Node), BF b1 44 k_api_Op p2])) s37 rfl (ob_new (k := k_api_Node) rfl zz46 (Zr.iso (f := t_api_Node) (x := (⟨(List.replicate 32 (0 : Int)), (⟨(0 : Int), (0 : Int), [], (0 : Int), [], (List.replicate 32 (0 : Int)), (List.replicate 32 (0 : Int)), [], []⟩ : api_Op), []⟩ : api_Node)) (Zr.pair (Zr.arr 32 (Zr.int .u8)) (Zr.pair (Zr.iso (f := t_api_Op) (x := (⟨(0 : Int), (0 : Int), [], (0 : Int), [], (List.replicate 32 (0 : Int)), (List.replicate 32 (0 : Int)), [], []⟩ : api_Op)) (Zr.pair (Zr.int .i64) (Zr.pair (Zr.int .u32) (Zr.pair (Zr.sl _) (Zr.pair (Zr.int .i64) (Zr.pair (Zr.sl _) (Zr.pair (Zr.arr 32 (Zr.int .u8)) (Zr.pair (Zr.arr 32 (Zr.int .u8)) (Zr.pair Zr.str (Zr.pair (Zr.sl _) Zr.nil)))))))))) (Zr.pair (Zr.sl _) Zr.nil))))) fun b2 _ _ s38 => ?_; clear s37
  refine qs s38 (.c1 rfl (ob_assign rfl (.tmp rfl)) .cz) fun _ _ s39 => ?_; clear s38
  refine seq_opx0 (B' := (fun _ : Unit => [BF b2 46 k_api_Node x2, BF b1 44 k_api_Op p2])) s39 rfl rfl (ob_store (A := []) rfl tk46 (.tmp rfl) (.tmp rfl) rfl (LS.refl _ _ _) rfl) fun _ a40 w40 s40 => ?_; clear s39
  refine wn hK10 ?_
  have s41 := s40.sub (u 0 rfl (u 2 rfl (u 4 rfl (u 7 rfl (u 8 rfl (u 9 rfl (u 12 rfl (u 13 rfl (u 14 rfl .nil))))))))); clear s40
  refine wp_seq_k fun K11 hK11 => wp_seq_k fun K12 hK12 => ?_
  refine wp_region_lit (qs s41 (.c1 rfl (ob_fieldAddr (off' := 32) rfl Try.underlying46 rfl sz44 (by decide) (.tmp rfl) rfl) (.c1 rfl (ob_fieldAddr (off' := 32) rfl Try.underlying44 rfl sz3 (by decide) (.tmp rfl) rfl) (.c1 rfl (ob_load rfl tk3 (.tmp rfl) (.head _) (LG.trans (lg_api_Node_Op x2) (lg_api_Op_Author x2.Op) (by decide))) (.c1 rfl (ob_fieldAddr (off' := 0) rfl Try.underlying44 rfl sz3 (by decide) (.tmp rfl) rfl) (.c1 rfl (ob_load rfl tk3 (.tmp rfl) (.tail _ (.head _)) (lg_api_Op_Author p2)) (.c1 rfl (ob_neq rfl (.tmp rfl) (.tmp rfl)) (.ce (u 0 rfl (u 2 rfl (u 4 rfl (u 7 rfl (u 8 rfl (u 12 rfl (u 13 rfl (u 14 rfl (u 24 rfl .nil)))))))))))))))) fun _ _ s48 => wn hK12 ?_); clear s41
  have s49 := St.drop (A := []) s48; clear s48
  refine cond_split s49 (.tmp rfl) (fun hc2 => ?_) (fun hc2 => ?_)
  ·have h8 := ite_t hc2 h7; clear h7
   refine wp_exit ?_
   refine (then_exit (in_here ?_))
   refine then_normal ?_
   exact hj2 y2 _ _ h8 (s49.sub (.cons rfl (.cons rfl (.cons rfl (.cons rfl (.cons rfl (.cons rfl (.cons rfl .nil))))))))
  ·have h9 := ite_f hc2 h7; clear h7
   refine wp_skip ?_
   refine then_normal (hK11 _ _ ?_)
   have s50 := s49.sub (u 0 rfl (u 2 rfl (u 4 rfl (u 7 rfl (u 8 rfl (u 12 rfl (u 13 rfl (u 14 rfl .nil)))))))); clear s49
   refine wp_seq_k fun K13 hK13 => wp_seq_k fun K14 hK14 => ?_
   obtain ⟨x3, e_x3, h10⟩ := bind_some h9; clear h9
   refine wp_region_lit (qs s50 (.c1 rfl (mv rfl rfl) (.c1 rfl (mv rfl rfl) (.c1 rfl (ob_callD0 (args := [_, _]) rfl .direct hb141 (fun a w s => by exact c_slices_BinarySearch_int_int k _ _ _ e_x3 _ _ _ _ (s.arg (.tmp rfl)) (s.arg (.tmp rfl)))) (.c1 rfl (mv rfl rfl) (.c1 rfl (ob_extract rfl (.tmp rfl) rfl) (.c1 rfl (ob_extract rfl (.tmp rfl) rfl) (.c1 rfl (ob_assign rfl (.tmp rfl)) (.c1 rfl (ob_assign rfl (.tmp rfl)) (.ce (u 0 rfl (u 2 rfl (u 4 rfl (u 7 rfl (u 11 rfl (u 12 rfl (u 13 rfl (u 14 rfl .nil))))))))))))))))) fun _ _ s59 => wn hK14 ?_); clear s50
   refine wp_seq_k fun K15 hK15 => wp_region_lit (qs s59 (.c1 rfl (mv rfl rfl) (.c1 rfl (ob_not rfl (.tmp rfl)) (.ce (u 0 rfl (u 2 rfl (u 4 rfl (u 7 rfl (u 12 rfl (u 13 rfl (u 14 rfl (u 32 rfl .nil))))))))))) fun _ _ s62 => wn hK15 ?_); clear s59
   refine cond_split s62 (.tmp rfl) (fun hc3 => ?_) (fun hc3 => ?_)
   ·have h11 := ite_t hc3 h10; clear h10
    refine wp_seq_k fun K16 hK16 => wp_region_lit (qs s62 (.c1 rfl (ob_assign rfl opd_bool) (.ce (u 6 rfl .nil))) fun _ _ s64 => wn hK16 ?_); clear s62
    have s65 := St.drop (A := []) s64; clear s64
    refine wp_ret ?_
    obtain rfl := Option.some.inj h11
    exact leave s65 (.inl rfl) rfl (.cons (.tmp rfl) .nil)
   ·have h12 := ite_f hc3 h10; clear h10
    refine wp_skip ?_
    refine then_normal (hK13 _ _ ?_)
    have s66 := s62.sub (u 0 rfl (u 2 rfl (u 4 rfl (u 7 rfl (u 12 rfl (u 13 rfl (u 14 rfl .nil))))))); clear s62
    refine wp_region_lit (qs s66 (.c1 rfl (mv rfl rfl) (.c1 rfl (ob_add rfl (.tmp rfl) (opd_int rfl)) (.c1 rfl (ob_assign rfl (.tmp rfl)) .cz))) fun _ _ s69 => ?_); clear s66
    refine wpList_nil ?_
    refine in_normal ?_
    refine then_normal ?_
    exact hj2 (iadd .u32 y2 (1 : Int)) _ _ h12 (s69.sub (.cons rfl (.cons rfl (.cons rfl (.cons rfl (.cons rfl (.cons rfl (.cons rfl .nil))))))))
 ·have h13 := ite_f hc1 h4; clear h4
  refine wp_exit ?_
  refine (then_exit (then_exit (in_here ?_)))
  refine then_normal ?_
  exact hj1 y2 _ _ h13 (s30.sub (.cons rfl (.cons rfl (.cons rfl .nil))))
theorem c_graph_fits (k : Nat) (p1 : (List api_Node)) (p2 : api_Node) (r : Bool) (h0 : graph_fits k p1 p2 = some r) (ok : Ok) (w0 : World) (z0 : Value) (z1 : Value) (u0 : ((ksl k_api_Node).V p1).holds ok w0 z0) (u1 : (k_api_Node.V p2).holds ok w0 z1) :
 Gives Try.prog 78 [z0, z1] ok w0 (resFact [kbool.V r]) := by
 unfold graph_fits at h0
 refine enter (N := 42) Try.func78 rfl rfl (of_decide_eq_true rfl) (.cons u0 (.cons u1 .nil)) fun a1 s1 => ?_
 refine wp_seq_k fun K1 hK1 => wp_region_lit ?_
 refine qx (B' := (fun b1 : Nat => [BF b1 46 k_api_Node p2])) s1 rfl (ob_box rfl (.tmp rfl)) fun b1 _ _ s2 => ?_; clear s1
 refine qs s2 (.c1 rfl (ob_assign rfl opd_bool) (.ce (u 0 rfl (u 3 rfl .nil)))) fun _ _ s4 => wn hK1 ?_; clear s2
 obtain ⟨x1, e_x1, h1⟩ := bind_some h0; clear h0
 refine wp_seq_k fun K2 hK2 => wp_region_lit (qs s4 (.c1 rfl (mv rfl rfl) (.c1 rfl (ob_fieldAddr (off' := 32) rfl Try.underlying46 rfl sz44 (by decide) (.tmp rfl) rfl) (.c1 rfl (ob_fieldAddr (off' := 34) rfl Try.underlying44 rfl sz40 (by decide) (.tmp rfl) rfl) (.c1 rfl (ob_load rfl tk40 (.tmp rfl) (.head _) (LG.trans (lg_api_Node_Op p2) (lg_api_Op_Parents p2.Op) (by decide))) .cz)))) fun _ _ s8 => ?_); clear s4
 refine qx (B' := (fun v1 : Value => [RowF v1 3 (kint .i64) x1.1, BF b1 46 k_api_Node p2])) s8 rfl (ob_callL0 (args := [_, _]) (L := []) rfl .direct hb92 (List.Perm.refl _) (fun a w s => by exact c_graph_past k _ _ _ e_x1 _ _ _ _ (s.arg (.tmp rfl)) (s.arg (.tmp rfl))) (by exact fun _ => rfl)) fun v1 _ _ s9 => ?_; clear s8
 refine qs s9 (.c1 rfl (mv rfl rfl) (.c1 rfl (ob_extract rfl (.tmp rfl) rfl) (.c1 rfl (ob_extract rfl (.tmp rfl) rfl) (.c1 rfl (ob_assign rfl (.tmp rfl)) (.c1 rfl (ob_assign rfl (.tmp rfl)) (.ce (u 0 rfl (u 3 rfl (u 5 rfl (u 6 rfl .nil)))))))))) fun _ _ s15 => wn hK2 ?_; clear s9
 obtain ⟨x2, e_x2, h2⟩ := bind_some h1; clear h1
 obtain ⟨x3, e_x3, h3⟩ := bind_some h2; clear h2
 obtain ⟨x4, e_x4, h4⟩ := bind_some h3; clear h3; replace e_x4 := Option.some.inj e_x4
 obtain ⟨x5, e_x5, h5⟩ := bind_some h4; clear h4
 obtain ⟨x6, e_x6, h6⟩ := bind_some h5; clear h5
 refine wp_seq_k fun K3 hK3 => wp_region_lit (qs s15 (.c1 rfl (mv rfl rfl) (.c1 rfl (ob_eql rfl (.tmp rfl) (opd_int rfl)) (.c1 rfl (mv rfl rfl) (.cg rfl rfl rfl rfl (fun hb => ob_fieldAddr (off' := 32) rfl Try.underlying46 rfl sz44 (by decide) (.tmp rfl) rfl) (.cg rfl rfl rfl rfl (fun hb => (Ob.uncond (t := 18) hb rfl (ob_load rfl tk44 (.tmp rfl) (.tail _ (.head _)) (lg_api_Node_Op p2)))) (.cg rfl rfl rfl rfl (fun hb => (Ob.uncond (t := 19) hb rfl (ob_callD0 (args := [_]) rfl .direct hb91 (fun a w s => by exact c_frame_Right k _ _ (ite_t hb e_x2) _ _ _ (s.arg (.tmp rfl)))))) (.c1 rfl (ob_and2 rfl (.tmp rfl) (.tmp rfl) opd_bool) (.c1 rfl (mv rfl rfl) (.cg rfl rfl rfl rfl (fun hb => ob_move rfl (.tmp rfl)) (.cg rfl rfl rfl rfl (fun hb => ob_fieldAddr (off' := 0) rfl Try.underlying46 rfl sz39 (by decide) (.tmp rfl) rfl) (.cg rfl rfl rfl rfl (fun hb => (Ob.uncond (t := 24) hb rfl (ob_load rfl tk39 (.tmp rfl) (.tail _ (.head _)) (lg_api_Node_Id p2)))) (.cg rfl rfl rfl rfl (fun hb => (Ob.uncond (t := 25) hb rfl ((Ob.uncond (t := 23) hb rfl (ob_callD0 (args := [_, _]) rfl .direct hb48 (fun a w s => by exact c_graph_Find k _ _ _ (ite_t hb e_x3) _ _ _ _ (s.arg (.tmp rfl)) (s.arg (.tmp rfl)))))))) (.cg rfl rfl rfl rfl (fun hb => (Ob.uncond (t := 26) hb rfl (ob_lss rfl (.tmp rfl) (opd_int rfl)))) (.c1 rfl ((ob_and2 rfl (.tmp rfl) (.tmp rfl) opd_bool).nm e_x4) (.c1 rfl (mv rfl rfl) (.cg rfl rfl rfl rfl (fun hb => ob_move rfl (.tmp rfl)) (.cg rfl rfl rfl rfl (fun hb => ob_fieldAddr (off' := 103) rfl Try.underlying46 rfl sz41 (by decide) (.tmp rfl) rfl) (.cg rfl rfl rfl rfl (fun hb => (Ob.uncond (t := 31) hb rfl (ob_load rfl tk41 (.tmp rfl) (.tail _ (.head _)) (lg_api_Node_Past p2)))) (.cg rfl rfl rfl rfl (fun hb => (Ob.uncond (t := 32) hb rfl ((Ob.uncond (t := 30) hb rfl ((ob_lendG (L := [_]) (List.Perm.refl _) (.cons (t := 30) rfl (lendRow (.head _)) .nil) (Flat.res1 (Flat.V KFlat.bool)) (fun _ => ob_callD0 (args := [_, _]) rfl .direct hb106 (fun a w s => by exact c_slices_Equal_int_int k _ _ _ (ite_t hb e_x5) _ _ _ _ (s.arg (.tmp rfl)) (s.arg (.tmp rfl)))))))))) (.c1 rfl (ob_and2 rfl (.tmp rfl) (.tmp rfl) opd_bool) (.c1 rfl (mv rfl rfl) (.cg rfl rfl rfl rfl (fun hb => ob_move rfl (.tmp rfl)) (.cg rfl rfl rfl rfl (fun hb => ob_fieldAddr (off' := 32) rfl Try.underlying46 rfl sz44 (by decide) (.tmp rfl) rfl) (.cg rfl rfl rfl rfl (fun hb => (Ob.uncond (t := 37) hb rfl (ob_load rfl tk44 (.tmp rfl) (.tail _ (.head _)) (lg_api_Node_Op p2)))) (.cg rfl rfl rfl rfl (fun hb => ob_move rfl (.tmp rfl)) (.cg rfl rfl rfl rfl (fun hb => (Ob.uncond (t := 39) hb rfl ((Ob.uncond (t := 38) hb rfl ((Ob.uncond (t := 36) hb rfl ((ob_lendG (L := [_]) (List.Perm.refl _) (.cons (t := 39) rfl (lendRow (.head _)) .nil) (Flat.res1 (Flat.V KFlat.bool)) (fun _ => ob_callD0 (args := [_, _, _]) rfl .direct hb93 (fun a w s => by exact c_graph_turn k _ _ _ _ (ite_t hb e_x6) _ _ _ _ _ (s.arg (.tmp rfl)) (s.arg (.tmp rfl)) (s.arg (.tmp rfl)))))))))))) (.c1 rfl (ob_and2 rfl (.tmp rfl) (.tmp rfl) opd_bool) (.c1 rfl (ob_assign rfl (.tmp rfl)) (.ce (u 4 rfl .nil)))))))))))))))))))))))))))))) fun _ _ s44 => wn hK3 ?_); clear s15
 have s45 := St.drop (A := []) s44; clear s44
 have s46 := St.drop (A := []) s45; clear s45
 refine wp_ret ?_
 obtain rfl := Option.some.inj h6
 exact leave s46 (.inl rfl) rfl (.cons (.tmp rfl) .nil)
theorem c_graph_Right (k : Nat) (p1 : (List api_Node)) (r : Bool) (h0 : graph_Right k p1 = some r) (ok : Ok) (w0 : World) (z0 : Value) (u0 : ((ksl k_api_Node).V p1).holds ok w0 z0) :
 Gives Try.prog 24 [z0] ok w0 (resFact [kbool.V r]) := by
 unfold graph_Right at h0
 refine enter (N := 22) Try.func24 rfl rfl (of_decide_eq_true rfl) (.cons u0 .nil) fun a1 s1 => ?_
 refine wp_seq_k fun K1 hK1 => wp_region_lit (qs s1 (.c1 rfl (ob_assign rfl opd_bool) (.ce (u 0 rfl .nil))) fun _ _ s3 => wn hK1 ?_); clear s1
 refine wp_seq_k fun K2 hK2 => wp_seq_k fun K3 hK3 => ?_
 refine wp_region_lit (qs s3 (.c1 rfl (mv rfl rfl) (.c1 rfl (ob_lens rfl Try.underlying22 (.tmp rfl)) (.c1 rfl (ob_gtr rfl (.tmp rfl) (opd_int rfl)) (.ce (u 0 rfl (u 7 rfl .nil)))))) fun _ _ s7 => wn hK3 ?_); clear s3
 refine cond_split s7 (.tmp rfl) (fun hc1 => ?_) (fun hc1 => ?_)
 ·have h1 := ite_t hc1 h0; clear h0
  refine wp_seq_k fun K4 hK4 => wp_region_lit (qs s7 (.c1 rfl (ob_assign rfl opd_bool) (.ce (u 2 rfl .nil))) fun _ _ s9 => wn hK4 ?_); clear s7
  refine wp_ret ?_
  obtain rfl := Option.some.inj h1
  exact leave s9 (.inl rfl) rfl (.cons (.tmp rfl) .nil)
 ·have h2 := ite_f hc1 h0; clear h0
  refine wp_skip ?_
  refine then_normal (hK2 _ _ ?_)
  have s10 := s7.sub (u 0 rfl .nil); clear s7
  refine wp_seq_k fun K5 hK5 => wp_seq_k fun K6 hK6 => ?_
  refine wp_region_lit (qs s10 (.c1 rfl (mv rfl rfl) (.c1 rfl (ob_lens rfl Try.underlying22 (.tmp rfl)) (.c1 rfl (ob_move rfl (opd_int rfl)) (.ce (u 0 rfl (u 8 rfl (u 9 rfl (u 10 rfl .nil)))))))) fun _ _ s14 => wn hK6 ?_); clear s10
  have hj1 : ∀ (a : Act) (w : World), (graph_Right.j1 k) = some r → St ⟨22, w0, ok, []⟩ [] [] a w → K5 a w := by
   intro a15 w15 h3 s15
   unfold graph_Right.j1 at h3
   refine hK5 _ _ ?_
   refine wp_seq_k fun K7 hK7 => wp_region_lit (qs s15 (.c1 rfl (ob_assign rfl opd_bool) (.ce (u 2 rfl .nil))) fun _ _ s17 => wn hK7 ?_); clear s15
   refine wp_ret ?_
   obtain rfl := Option.some.inj h3
   exact leave s17 (.inl rfl) rfl (.cons (.tmp rfl) .nil)
  refine wp_block ?_
  refine wp_loop_fuel (fun m (q : Int) => graph_Right.l1 k p1 m q) r (fun _ => rfl) (fun q a w => St ⟨22, w0, ok, []⟩ [] [(0, ((ksl k_api_Node).V p1)), (8, ((ksl k_api_Node).V p1)), (9, ((kint .i64).V (p1.length : Int))), (10, ((kint .i64).V q))] a w) ?_ k (0 : Int) _ _ h2 (s14.sub (.cons rfl (.cons rfl (.cons rfl (.cons rfl .nil)))))
  rintro n1 y1 a18 w18 h4 s18 K8 hK8
  replace h4 : graph_Right.l1 k p1 (n1 + 1) y1 = some r := h4; rw [graph_Right.l1] at h4
  have h5 := h4; clear h4
  refine wp_seq_k fun K9 hK9 => wp_region_lit (qs s18 (.c1 rfl (ob_lss rfl (.tmp rfl) (.tmp rfl)) (.ce (u 0 rfl (u 8 rfl (u 9 rfl (u 10 rfl (u 11 rfl .nil))))))) fun _ _ s20 => wn hK9 ?_); clear s18
  refine wp_seq_k fun K10 hK10 => ?_
  refine cond_split s20 (.tmp rfl) (fun hc2 => ?_) (fun hc2 => ?_)
  ·have h6 := ite_t hc2 h5; clear h5
   refine wp_skip ?_
   refine then_normal (hK10 _ _ ?_)
   have s21 := s20.sub (u 0 rfl (u 8 rfl (u 9 rfl (u 10 rfl .nil)))); clear s20
   refine wp_seq_k fun K11 hK11 => wp_block ?_
   obtain ⟨x1, e_x1, h7⟩ := bind_some h6; clear h6
   refine wp_seq_k fun K12 hK12 => wp_region_lit (qs s21 (.c1 rfl (mv rfl rfl) (.c1 rfl (ob_indexAddrs rfl Try.underlying22 sz46 (.tmp rfl) (.tmp rfl) e_x1) (.c1 rfl (ob_loadr rfl tk46 (.tmp rfl)) .cz))) fun _ _ s24 => ?_); clear s21
   refine qx (B' := (fun b1 : Nat => [BF b1 46 k_api_Node (⟨(List.replicate 32 (0 : Int)), (⟨(0 : Int), (0 : Int), [], (0 : Int), [], (List.replicate 32 (0 : Int)), (List.replicate 32 (0 : Int)), [], []⟩ : api_Op), []⟩ : api_Node)])) s24 rfl (ob_new (k := k_api_Node) rfl zz46 (Zr.iso (f := t_api_Node) (x := (⟨(List.replicate 32 (0 : Int)), (⟨(0 : Int), (0 : Int), [], (0 : Int), [], (List.replicate 32 (0 : Int)), (List.replicate 32 (0 : Int)), [], []⟩ : api_Op), []⟩ : api_Node)) (Zr.pair (Zr.arr 32 (Zr.int .u8)) (Zr.pair (Zr.iso (f := t_api_Op) (x := (⟨(0 : Int), (0 : Int), [], (0 : Int), [], (List.replicate 32 (0 : Int)), (List.replicate 32 (0 : Int)), [], []⟩ : api_Op)) (Zr.pair (Zr.int .i64) (Zr.pair (Zr.int .u32) (Zr.pair (Zr.sl _) (Zr.pair (Zr.int .i64) (Zr.pair (Zr.sl _) (Zr.pair (Zr.arr 32 (Zr.int .u8)) (Zr.pair (Zr.arr 32 (Zr.int .u8)) (Zr.pair Zr.str (Zr.pair (Zr.sl _) Zr.nil)))))))))) (Zr.pair (Zr.sl _) Zr.nil))))) fun b1 _ _ s25 => ?_; clear s24
   refine qs s25 (.c1 rfl (ob_assign rfl (.tmp rfl)) .cz) fun _ _ s26 => ?_; clear s25
   refine seq_opx0 (B' := (fun _ : Unit => [BF b1 46 k_api_Node x1])) s26 rfl rfl (ob_store (A := []) rfl tk46 (.tmp rfl) (.tmp rfl) rfl (LS.refl _ _ _) rfl) fun _ a27 w27 s27 => ?_; clear s26
   refine wn hK12 ?_
   have s28 := s27.sub (u 0 rfl (u 3 rfl (u 4 rfl (u 8 rfl (u 9 rfl (u 10 rfl .nil)))))); clear s27
   refine wp_seq_k fun K13 hK13 => ?_
   obtain ⟨x2, e_x2, h8⟩ := bind_some h7; clear h7
   refine wp_goes (Fs := [((ksl k_api_Node).V p1), ((kint .i64).V y1), ((ksl k_api_Node).V x2), (k_api_Node.V x1)]) (bits := [0, 0, 3, 0, 15, 31]) (m := 4) (todo := 0) mx s28 ?_; clear s28
   refine goes_last (by kernel_rfl) rfl (oc (av 0 rfl rfl Av.nil) rfl rfl (mv rfl rfl) (oc (av 3 rfl rfl Av.nil) rfl rfl (mv rfl rfl) (oc (an 0 rfl rfl rfl (an 1 rfl rfl rfl Av.nil)) rfl rfl (ob_cuts rfl Try.underlying22 sz46 (.tmp rfl) .none (.some (.tmp rfl)) e_x2) (oc (av 4 rfl rfl Av.nil) rfl rfl (ob_load rfl tk46 (.tmp rfl) (.head _) (LG.refl _ _)) opsS_nil)))) (out_old (t := 0) rfl rfl (out_old (t := 8) rfl rfl (out_old (t := 9) rfl rfl (out_old (t := 10) rfl rfl (out_new (i := 2) (by decide) rfl rfl (out_new (i := 3) (by decide) rfl rfl out_nil)))))) fun _ _ s29 => ?_
   obtain ⟨x3, e_x3, h9⟩ := bind_some h8; clear h8
   refine qs s29 (.c1 rfl (ob_callD0 (args := [_, _]) rfl .direct hb78 (fun a w s => by exact c_graph_fits k _ _ _ e_x3 _ _ _ _ (s.arg (.tmp rfl)) (s.arg (.tmp rfl)))) (.c1 rfl (ob_not rfl (.tmp rfl)) (.ce (u 0 rfl (u 8 rfl (u 9 rfl (u 10 rfl (u 20 rfl .nil)))))))) fun _ _ s32 => wn hK13 ?_; clear s29
   have s33 := St.drop (A := []) s32; clear s32
   refine cond_split s33 (.tmp rfl) (fun hc3 => ?_) (fun hc3 => ?_)
   ·have h10 := ite_t hc3 h9; clear h9
    refine wp_seq_k fun K14 hK14 => wp_region_lit (qs s33 (.c1 rfl (ob_assign rfl opd_bool) (.ce (u 2 rfl .nil))) fun _ _ s35 => wn hK14 ?_); clear s33
    refine wp_ret ?_
    obtain rfl := Option.some.inj h10
    exact leave s35 (.inl rfl) rfl (.cons (.tmp rfl) .nil)
   ·have h11 := ite_f hc3 h9; clear h9
    refine wp_skip ?_
    refine in_normal ?_
    refine then_normal (hK11 _ _ ?_)
    have s36 := s33.sub (u 0 rfl (u 8 rfl (u 9 rfl (u 10 rfl .nil)))); clear s33
    refine wp_region_lit (qs s36 (.c1 rfl (ob_add rfl (.tmp rfl) (opd_int rfl)) (.c1 rfl (mv rfl rfl) .cz)) fun _ _ s38 => ?_); clear s36
    refine wpList_nil ?_
    refine then_normal ?_
    exact hK8 (iadd .i64 y1 (1 : Int)) _ _ h11 (s38.sub (.cons rfl (.cons rfl (.cons rfl (.cons rfl .nil)))))
  ·have h12 := ite_f hc2 h5; clear h5
   refine wp_exit ?_
   refine (then_exit (then_exit (in_here ?_)))
   refine then_normal ?_
   exact hj1 _ _ h12 (s20.sub .nil)
theorem c_math_bits_Len64 (k : Nat) (p1 : Int) (r : Int) (h0 : math_bits_Len64 k p1 = some r) (ok : Ok) (w0 : World) (z0 : Value) (u0 : ((kint .u64).V p1).holds ok w0 z0) :
 Gives Try.prog 174 [z0] ok w0 (resFact [(kint .i64).V r]) := by
 unfold math_bits_Len64 at h0
 refine enter (N := 25) Try.func174 rfl rfl (of_decide_eq_true rfl) (.cons u0 .nil) fun a1 s1 => ?_
 refine wp_seq_k fun K1 hK1 => wp_region_lit (qs s1 (.c1 rfl (ob_assign rfl (opd_int rfl)) (.ce (u 0 rfl (u 2 rfl .nil)))) fun _ _ s3 => wn hK1 ?_); clear s1
 refine wp_seq_k fun K2 hK2 => wp_seq_k fun K3 hK3 => ?_
 refine wp_region_lit (qs s3 (.c1 rfl (mv rfl rfl) (.c1 rfl (ob_geq rfl (.tmp rfl) (opd_int rfl)) (.ce (u 0 rfl (u 2 rfl (u 4 rfl .nil)))))) fun _ _ s6 => wn hK3 ?_); clear s3
 have hj1 : ∀ (y1 : Int) (y2 : Int) (a : Act) (w : World), (math_bits_Len64.j1 k) y1 y2 = some r → St ⟨25, w0, ok, []⟩ [] [(0, ((kint .u64).V y1)), (2, ((kint .i64).V y2))] a w → K2 a w := by
  intro y1 y2 a7 w7 h1 s7
  unfold math_bits_Len64.j1 at h1
  refine hK2 _ _ ?_
  refine wp_seq_k fun K4 hK4 => wp_seq_k fun K5 hK5 => ?_
  refine wp_region_lit (qs s7 (.c1 rfl (mv rfl rfl) (.c1 rfl (ob_geq rfl (.tmp rfl) (opd_int rfl)) (.ce (u 0 rfl (u 2 rfl (u 8 rfl .nil)))))) fun _ _ s10 => wn hK5 ?_); clear s7
  have hj2 : ∀ (y3 : Int) (y4 : Int) (a : Act) (w : World), (math_bits_Len64.j2 k) y3 y4 = some r → St ⟨25, w0, ok, []⟩ [] [(0, ((kint .u64).V y3)), (2, ((kint .i64).V y4))] a w → K4 a w := by
   intro y3 y4 a11 w11 h2 s11
   unfold math_bits_Len64.j2 at h2
   refine hK4 _ _ ?_
   refine wp_seq_k fun K6 hK6 => wp_seq_k fun K7 hK7 => ?_
   refine wp_region_lit (qs s11 (.c1 rfl (mv rfl rfl) (.c1 rfl (ob_geq rfl (.tmp rfl) (opd_int rfl)) (.ce (u 0 rfl (u 2 rfl (u 14 rfl .nil)))))) fun _ _ s14 => wn hK7 ?_); clear s11
   have hj3 : ∀ (y5 : Int) (y6 : Int) (a : Act) (w : World), (math_bits_Len64.j3 k) y5 y6 = some r → St ⟨25, w0, ok, []⟩ [] [(0, ((kint .u64).V y5)), (2, ((kint .i64).V y6))] a w → K6 a w := by
    intro y5 y6 a15 w15 h3 s15
    unfold math_bits_Len64.j3 at h3
    refine hK6 _ _ ?_
    obtain ⟨x1, e_x1, h4⟩ := bind_some h3; clear h3
    refine wp_seq_k fun K8 hK8 => wp_region_lit (qs s15 (.c1 rfl (mv rfl rfl) (.c1 rfl (mv rfl rfl) (.c1 rfl (ob_conv rfl _ Try.underlying185 Try.underlying5 (.tmp rfl)) (.c1 rfl (ob_indexStr rfl Try.underlying9 (opd_str (by rfl) (by decide)) (.tmp rfl) e_x1) (.c1 rfl (ob_conv rfl _ Try.underlying5 Try.underlying3 (.tmp rfl)) (.c1 rfl (ob_add rfl (.tmp rfl) (.tmp rfl)) (.c1 rfl (ob_assign rfl (.tmp rfl)) (.ce (u 2 rfl .nil))))))))) fun _ _ s23 => wn hK8 ?_); clear s15
    refine wp_ret ?_
    obtain rfl := Option.some.inj h4
    exact leave s23 (.inl rfl) rfl (.cons (.tmp rfl) .nil)
   refine cond_split s14 (.tmp rfl) (fun hc1 => ?_) (fun hc1 => ?_)
   ·have h5 := ite_t hc1 h2; clear h2
    refine wp_seq_k fun K9 hK9 => wp_region_lit (qs s14 (.c1 rfl (mv rfl rfl) (.c1 rfl (ob_shr rfl (.tmp rfl) (opd_int rfl) (by decide)) (.c1 rfl (ob_assign rfl (.tmp rfl)) (.ce (u 0 rfl (u 2 rfl .nil)))))) fun _ _ s27 => wn hK9 ?_); clear s14
    refine wp_region_lit (qs s27 (.c1 rfl (mv rfl rfl) (.c1 rfl (ob_add rfl (.tmp rfl) (opd_int rfl)) (.c1 rfl (ob_assign rfl (.tmp rfl)) .cz))) fun _ _ s30 => ?_); clear s27
    refine wpList_nil ?_
    refine then_normal ?_
    exact hj3 (ishr .u64 y3 (8 : Int)) (iadd .i64 y4 (8 : Int)) _ _ h5 (s30.sub (.cons rfl (.cons rfl .nil)))
   ·have h6 := ite_f hc1 h2; clear h2
    refine wp_skip ?_
    refine then_normal ?_
    exact hj3 y3 y4 _ _ h6 (s14.sub (.cons rfl (.cons rfl .nil)))
  refine cond_split s10 (.tmp rfl) (fun hc2 => ?_) (fun hc2 => ?_)
  ·have h7 := ite_t hc2 h1; clear h1
   refine wp_seq_k fun K10 hK10 => wp_region_lit (qs s10 (.c1 rfl (mv rfl rfl) (.c1 rfl (ob_shr rfl (.tmp rfl) (opd_int rfl) (by decide)) (.c1 rfl (ob_assign rfl (.tmp rfl)) (.ce (u 0 rfl (u 2 rfl .nil)))))) fun _ _ s34 => wn hK10 ?_); clear s10
   refine wp_region_lit (qs s34 (.c1 rfl (mv rfl rfl) (.c1 rfl (ob_add rfl (.tmp rfl) (opd_int rfl)) (.c1 rfl (ob_assign rfl (.tmp rfl)) .cz))) fun _ _ s37 => ?_); clear s34
   refine wpList_nil ?_
   refine then_normal ?_
   exact hj2 (ishr .u64 y1 (16 : Int)) (iadd .i64 y2 (16 : Int)) _ _ h7 (s37.sub (.cons rfl (.cons rfl .nil)))
  ·have h8 := ite_f hc2 h1; clear h1
   refine wp_skip ?_
   refine then_normal ?_
   exact hj2 y1 y2 _ _ h8 (s10.sub (.cons rfl (.cons rfl .nil)))
 refine cond_split s6 (.tmp rfl) (fun hc3 => ?_) (fun hc3 => ?_)
 ·have h9 := ite_t hc3 h0; clear h0
  refine wp_seq_k fun K11 hK11 => wp_region_lit (qs s6 (.c1 rfl (mv rfl rfl) (.c1 rfl (ob_shr rfl (.tmp rfl) (opd_int rfl) (by decide)) (.c1 rfl (ob_assign rfl (.tmp rfl)) (.ce (u 0 rfl .nil))))) fun _ _ s41 => wn hK11 ?_); clear s6
  refine wp_region_lit (qs s41 (.c1 rfl (ob_assign rfl (opd_int rfl)) .cz) fun _ _ s42 => ?_); clear s41
  refine wpList_nil ?_
  refine then_normal ?_
  exact hj1 (ishr .u64 p1 (32 : Int)) (32 : Int) _ _ h9 (s42.sub (.cons rfl (.cons rfl .nil)))
 ·have h10 := ite_f hc3 h0; clear h0
  refine wp_skip ?_
  refine then_normal ?_
  exact hj1 p1 (0 : Int) _ _ h10 (s6.sub (.cons rfl (.cons rfl .nil)))
theorem c_math_bits_Len (k : Nat) (p1 : Int) (r : Int) (h0 : math_bits_Len k p1 = some r) (ok : Ok) (w0 : World) (z0 : Value) (u0 : ((kint .u64).V p1).holds ok w0 z0) :
 Gives Try.prog 146 [z0] ok w0 (resFact [(kint .i64).V r]) := by
 unfold math_bits_Len at h0
 refine enter (N := 8) Try.func146 rfl rfl (of_decide_eq_true rfl) (.cons u0 .nil) fun a1 s1 => ?_
 refine wp_seq_k fun K1 hK1 => wp_region_lit (qs s1 (.c1 rfl (ob_assign rfl (opd_int rfl)) (.ce (u 0 rfl .nil))) fun _ _ s3 => wn hK1 ?_); clear s1
 refine wp_seq_k fun K2 hK2 => ?_
 refine cond_f s3 opd_bool ?_
 refine wp_skip ?_
 refine then_normal (hK2 _ _ ?_)
 have s4 := s3.sub (u 0 rfl .nil); clear s3
 obtain ⟨x1, e_x1, h1⟩ := bind_some h0; clear h0
 refine wp_seq_k fun K3 hK3 => wp_region_lit (qs s4 (.c1 rfl (mv rfl rfl) (.c1 rfl (ob_callD0 (args := [_]) rfl .direct hb174 (fun a w s => by exact c_math_bits_Len64 k _ _ e_x1 _ _ _ (s.arg (.tmp rfl)))) (.c1 rfl (ob_assign rfl (.tmp rfl)) (.ce (u 2 rfl .nil))))) fun _ _ s8 => wn hK3 ?_); clear s4
 refine wp_ret ?_
 obtain rfl := Option.some.inj h1
 exact leave s8 (.inl rfl) rfl (.cons (.tmp rfl) .nil)
theorem c_queue_Wanted_1 (k : Nat) (p1 : (List Int)) (p2 : (List Int)) (r : Int) (h0 : queue_Wanted_1 k p1 p2 = some r) (ok : Ok) (w0 : World) (z0 : Value) (z1 : Value) (u0 : ((karr 32 (kint .u8)).V p1).holds ok w0 z0) (u1 : ((karr 32 (kint .u8)).V p2).holds ok w0 z1) :
 Gives Try.prog 115 [z0, z1] ok w0 (resFact [(kint .i64).V r]) := by
 unfold queue_Wanted_1 at h0
 refine enter (N := 8) Try.func115 rfl rfl (of_decide_eq_true rfl) (.cons u0 (.cons u1 .nil)) fun a1 s1 => ?_
 refine wp_seq_k fun K1 hK1 => wp_region_lit ?_
 refine qx (B' := (fun b1 : Nat => [BF b1 39 (karr 32 (kint .u8)) p1])) s1 rfl (ob_box rfl (.tmp rfl)) fun b1 _ _ s2 => ?_; clear s1
 refine qx (B' := (fun b2 : Nat => [BF b2 39 (karr 32 (kint .u8)) p2, BF b1 39 (karr 32 (kint .u8)) p1])) s2 rfl (ob_box rfl (.tmp rfl)) fun b2 _ _ s3 => ?_; clear s2
 refine qs s3 (.c1 rfl (ob_assign rfl (opd_int rfl)) (.ce (u 2 rfl (u 3 rfl .nil)))) fun _ _ s5 => wn hK1 ?_; clear s3
 refine wp_seq_k fun K2 hK2 => ?_
 refine wp_goes (Fs := [(is (.slice (some ⟨b1, soff 32 0 (0 : Int).toNat 1, none⟩) ((32 : Int).toNat - (0 : Int).toNat) (32 - (0 : Int).toNat))), (is (.slice (some ⟨b2, soff 32 0 (0 : Int).toNat 1, none⟩) ((32 : Int).toNat - (0 : Int).toNat) (32 - (0 : Int).toNat)))]) (bits := [0, 0, 3, 7]) (m := 2) (todo := 0) mx s5 ?_; clear s5
 refine goes_last (by kernel_rfl) rfl (oc (av 2 rfl rfl Av.nil) rfl rfl (ob_sliceArr rfl Try.underlying39 sz5 (.tmp rfl) .none .none (show (0 : Int) ≤ (0 : Int) ∧ (0 : Int) ≤ (32 : Int) ∧ (32 : Int) ≤ ((32 : Nat) : Int) by decide)) (oc (av 3 rfl rfl Av.nil) rfl rfl (ob_sliceArr rfl Try.underlying39 sz5 (.tmp rfl) .none .none (show (0 : Int) ≤ (0 : Int) ∧ (0 : Int) ≤ (32 : Int) ∧ (32 : Int) ≤ ((32 : Nat) : Int) by decide)) opsS_nil)) (out_new (i := 0) (by decide) rfl rfl (out_new (i := 1) (by decide) rfl rfl out_nil)) fun _ _ s6 => ?_
 obtain ⟨x1, e_x1, h1⟩ := bind_some h0; clear h0
 obtain ⟨x2, e_x2, h2⟩ := bind_some h1; clear h1
 obtain ⟨x3, e_x3, h3⟩ := bind_some h2; clear h2
 refine qs s6 (.c1 rfl ((ob_lendG (L := [_, _]) (toFront [_] (toFront [] (List.Perm.refl _))) (.cons (t := 5) rfl (lendSlB (.head _) (LG.refl _ _) e_x1 rfl (cut_len e_x1) (cut_cap e_x1 (show (0 : Int) ≤ (0 : Int) ∧ (0 : Int) ≤ (32 : Int) ∧ (32 : Int) ≤ ((32 : Nat) : Int) by decide) (by decide))) (.cons (t := 6) rfl (lendSlB (.tail _ (.head _)) (LG.refl _ _) e_x2 rfl (cut_len e_x2) (cut_cap e_x2 (show (0 : Int) ≤ (0 : Int) ∧ (0 : Int) ≤ (32 : Int) ∧ (32 : Int) ≤ ((32 : Nat) : Int) by decide) (by decide))) .nil)) (Flat.res1 (Flat.V (KFlat.int _))) (fun _ => ob_callD0 (args := [_, _]) rfl .direct hb102 (fun a w s => by exact c_bytes_Compare k _ _ _ e_x3 _ _ _ _ (s.arg (.tmp rfl)) (s.arg (.tmp rfl)))))) (.c1 rfl (ob_assign rfl (.tmp rfl)) (.ce (u 4 rfl .nil)))) fun _ _ s9 => wn hK2 ?_; clear s6
 have s10 := St.drop (A := []) s9; clear s9
 have s11 := St.drop (A := []) s10; clear s10
 refine wp_ret ?_
 obtain rfl := Option.some.inj h3
 exact leave s11 (.inl rfl) rfl (.cons (.tmp rfl) .nil)
theorem c_slices_insertionSortCmpFunc_api_Key_queue_Wanted_1 (k : Nat) (p1 : (List (List Int))) (p2 : Int) (p3 : Int) (r : (List (List Int))) (h0 : slices_insertionSortCmpFunc_api_Key_queue_Wanted_1 k p1 p2 p3 = some r) (ok : Ok) (w0 : World) (z0 : Value) (z1 : Value) (z2 : Value) (z3 : Value) (wr0 : Value) (l0 : ∀ q, q ∈ [RowF wr0 39 (karr 32 (kint .u8)) p1] → q.holds ok w0) (d0 : ∀ c, c ∈ idsOf [RowF wr0 39 (karr 32 (kint .u8)) p1] → ¬ ok c) (nd : (idsOf [RowF wr0 39 (karr 32 (kint .u8)) p1]).Nodup) (u0 : (is wr0).holds ok w0 z0) (u1 : ((kint .i64).V p2).holds ok w0 z1) (u2 : ((kint .i64).V p3).holds ok w0 z2) (u3 : (is (.func (.func 115) #[] #[])).holds ok w0 z3) :
 GivesX Try.prog 165 [z0, z1, z2, z3] ok w0 [RowF wr0 39 (karr 32 (kint .u8)) p1] (fun g : Unit => resFact []) (fun g : Unit => [RowF wr0 39 (karr 32 (kint .u8)) r]) := by
 unfold slices_insertionSortCmpFunc_api_Key_queue_Wanted_1 at h0
 refine enterX (N := 53) Try.func165 rfl rfl (of_decide_eq_true rfl) (.cons u0 (.cons u1 (.cons u2 (.cons u3 .nil)))) nd l0 d0 fun a1 s1 => ?_
 refine wp_seq_k fun K1 hK1 => wp_region_lit (qs s1 (.c1 rfl (mv rfl rfl) (.c1 rfl (ob_add rfl (.tmp rfl) (opd_int rfl)) (.c1 rfl (ob_assign rfl (.tmp rfl)) (.ce (u 0 rfl (u 1 rfl (u 2 rfl (u 3 rfl (u 8 rfl .nil))))))))) fun _ _ s5 => wn hK1 ?_); clear s1
 refine wp_block ?_
 refine wp_loop_fuel (fun m (q : Int × (List (List Int))) => slices_insertionSortCmpFunc_api_Key_queue_Wanted_1.l1 k p3 p2 m q.1 q.2) r (fun _ => rfl) (fun q a w => St ⟨53, w0, ok, (idsOf [RowF wr0 39 (karr 32 (kint .u8)) p1])⟩ [RowF wr0 39 (karr 32 (kint .u8)) q.2] [(0, (is wr0)), (1, ((kint .i64).V p2)), (2, ((kint .i64).V p3)), (3, (is (.func (.func 115) #[] #[]))), (8, ((kint .i64).V q.1))] a w) ?_ k ((iadd .i64 p2 (1 : Int)), p1) _ _ h0 (s5.sub (.cons rfl (.cons rfl (.cons rfl (.cons rfl (.cons rfl .nil))))))
 rintro n1 ⟨y1, y2⟩ a6 w6 h1 s6 K2 hK2
 replace h1 : slices_insertionSortCmpFunc_api_Key_queue_Wanted_1.l1 k p3 p2 (n1 + 1) y1 y2 = some r := h1; rw [slices_insertionSortCmpFunc_api_Key_queue_Wanted_1.l1] at h1
 have h2 := h1; clear h1
 refine wp_seq_k fun K3 hK3 => wp_seq_k fun K4 hK4 => ?_
 refine wp_region_lit (qs s6 (.c1 rfl (mv rfl rfl) (.c1 rfl (mv rfl rfl) (.c1 rfl (ob_lss rfl (.tmp rfl) (.tmp rfl)) (.ce (u 0 rfl (u 1 rfl (u 2 rfl (u 3 rfl (u 8 rfl (u 14 rfl .nil)))))))))) fun _ _ s10 => wn hK4 ?_); clear s6
 refine cond_split s10 (.tmp rfl) (fun hc1 => ?_) (fun hc1 => ?_)
 ·have h3 := ite_t hc1 h2; clear h2
  refine wp_skip ?_
  refine then_normal (hK3 _ _ ?_)
  have s11 := s10.sub (u 0 rfl (u 1 rfl (u 2 rfl (u 3 rfl (u 8 rfl .nil))))); clear s10
  refine wp_seq_k fun K5 hK5 => ?_
  have hj1 : ∀ (y3 : (List (List Int))) (a : Act) (w : World), (slices_insertionSortCmpFunc_api_Key_queue_Wanted_1.j1 k y1 (slices_insertionSortCmpFunc_api_Key_queue_Wanted_1.l1 k p3 p2 n1)) y3 = some r → St ⟨53, w0, ok, (idsOf [RowF wr0 39 (karr 32 (kint .u8)) p1])⟩ [RowF wr0 39 (karr 32 (kint .u8)) y3] [(0, (is wr0)), (1, ((kint .i64).V p2)), (2, ((kint .i64).V p3)), (3, (is (.func (.func 115) #[] #[]))), (8, ((kint .i64).V y1))] a w → K5 a w := by
   intro y3 a12 w12 h4 s12
   unfold slices_insertionSortCmpFunc_api_Key_queue_Wanted_1.j1 at h4
   refine hK5 _ _ ?_
   refine wp_region_lit (qs s12 (.c1 rfl (mv rfl rfl) (.c1 rfl (ob_add rfl (.tmp rfl) (opd_int rfl)) (.c1 rfl (ob_assign rfl (.tmp rfl)) .cz))) fun _ _ s15 => ?_); clear s12
   refine wpList_nil ?_
   refine then_normal ?_
   exact hK2 ((iadd .i64 y1 (1 : Int)), y3) _ _ h4 (s15.sub (.cons rfl (.cons rfl (.cons rfl (.cons rfl (.cons rfl .nil))))))
  refine wp_block ?_
  refine wp_seq_k fun K6 hK6 => wp_region_lit (qs s11 (.c1 rfl (mv rfl rfl) (.c1 rfl (ob_assign rfl (.tmp rfl)) (.ce (u 0 rfl (u 1 rfl (u 2 rfl (u 3 rfl (u 8 rfl (u 9 rfl .nil))))))))) fun _ _ s18 => wn hK6 ?_); clear s11
  refine wp_block ?_
  refine wp_loop_fuel (fun m (q : Int × (List (List Int))) => slices_insertionSortCmpFunc_api_Key_queue_Wanted_1.l2 k p2 y1 (slices_insertionSortCmpFunc_api_Key_queue_Wanted_1.l1 k p3 p2 n1) m q.1 q.2) r (fun _ => rfl) (fun q a w => St ⟨53, w0, ok, (idsOf [RowF wr0 39 (karr 32 (kint .u8)) p1])⟩ [RowF wr0 39 (karr 32 (kint .u8)) q.2] [(0, (is wr0)), (1, ((kint .i64).V p2)), (2, ((kint .i64).V p3)), (3, (is (.func (.func 115) #[] #[]))), (8, ((kint .i64).V y1)), (9, ((kint .i64).V q.1))] a w) ?_ k (y1, y2) _ _ h3 (s18.sub (.cons rfl (.cons rfl (.cons rfl (.cons rfl (.cons rfl (.cons rfl .nil)))))))
  rintro n2 ⟨y4, y5⟩ a19 w19 h5 s19 K7 hK7
  replace h5 : slices_insertionSortCmpFunc_api_Key_queue_Wanted_1.l2 k p2 y1 (slices_insertionSortCmpFunc_api_Key_queue_Wanted_1.l1 k p3 p2 n1) (n2 + 1) y4 y5 = some r := h5; rw [slices_insertionSortCmpFunc_api_Key_queue_Wanted_1.l2] at h5
  have h6 := h5; clear h5
  refine wp_seq_k fun K8 hK8 => wp_seq_k fun K9 hK9 => ?_
  obtain ⟨g1, h7⟩ := guard_some h6; clear h6
  obtain ⟨x1, e_x1, h8⟩ := bind_some h7; clear h7
  obtain ⟨g2, h9⟩ := guard_some h8; clear h8
  obtain ⟨x2, e_x2, h10⟩ := bind_some h9; clear h9
  refine wp_goes (Fs := [((kint .i64).V y4), ((kint .i64).V p2), (kbool.V (decide (y4 > p2))), (kbool.V (decide (y4 > p2))), (Fact.when ((decide (y4 > p2)) == true) (is (.func (.func 115) #[] #[]))), (Fact.when ((decide (y4 > p2)) == true) (is wr0)), (Fact.when ((decide (y4 > p2)) == true) ((kint .i64).V y4)), (Fact.when ((decide (y4 > p2)) == true) (ptrR wr0 (y4.toNat * 32))), (Fact.when ((decide (y4 > p2)) == true) ((karr 32 (kint .u8)).V x1)), (Fact.when ((decide (y4 > p2)) == true) (is wr0)), (Fact.when ((decide (y4 > p2)) == true) ((kint .i64).V y4)), (Fact.when ((decide (y4 > p2)) == true) ((kint .i64).V (isub .i64 y4 (1 : Int)))), (Fact.when ((decide (y4 > p2)) == true) (ptrR wr0 ((isub .i64 y4 (1 : Int)).toNat * 32))), (Fact.when ((decide (y4 > p2)) == true) ((karr 32 (kint .u8)).V x2))]) (bits := [0, 0, 3, 7, 15, 15, 15, 111, 239, 15, 15, 1039, 3599, 7695, 16383, 32767, 65535]) (m := 14) (todo := 0) mx s19 ?_; clear s19
  refine goes_last (by kernel_rfl) rfl (oc (av 9 rfl rfl Av.nil) rfl rfl (mv rfl rfl) (oc (av 1 rfl rfl Av.nil) rfl rfl (mv rfl rfl) (oc (an 0 rfl rfl rfl (an 1 rfl rfl rfl Av.nil)) rfl rfl (ob_gtr rfl (.tmp rfl) (.tmp rfl)) (oc (an 2 rfl rfl rfl Av.nil) rfl rfl (mv rfl rfl) (opsS_cons (.guarded _ (av 3 rfl rfl (an 3 rfl rfl rfl Av.nil)) rfl rfl rfl rfl (fun hb => ob_move rfl (.tmp rfl))) (opsS_cons (.guarded _ (av 0 rfl rfl (an 3 rfl rfl rfl Av.nil)) rfl rfl rfl rfl (fun hb => ob_move rfl (.tmp rfl))) (opsS_cons (.guarded _ (av 9 rfl rfl (an 3 rfl rfl rfl Av.nil)) rfl rfl rfl rfl (fun hb => ob_move rfl (.tmp rfl))) (opsS_cons (.guarded _ (an 3 rfl rfl rfl (an 5 rfl rfl rfl (an 6 rfl rfl rfl Av.nil))) rfl rfl rfl rfl (fun hb => (Ob.uncond (t := 24) hb rfl ((Ob.uncond (t := 23) hb rfl (ob_rowAt rfl Try.underlying40 sz39 (.tmp rfl) (.head _) (.tmp rfl) (g1 hb))))))) (opsS_cons (.guarded _ (an 3 rfl rfl rfl (an 7 rfl rfl rfl Av.nil)) rfl rfl rfl rfl (fun hb => (Ob.uncond (t := 25) hb rfl (ob_rowLoad rfl tk39 (.tmp rfl) (.head _) (LG.arrA (ite_t hb e_x1)))))) (opsS_cons (.guarded _ (av 0 rfl rfl (an 3 rfl rfl rfl Av.nil)) rfl rfl rfl rfl (fun hb => ob_move rfl (.tmp rfl))) (opsS_cons (.guarded _ (av 9 rfl rfl (an 3 rfl rfl rfl Av.nil)) rfl rfl rfl rfl (fun hb => ob_move rfl (.tmp rfl))) (opsS_cons (.guarded _ (an 3 rfl rfl rfl (an 10 rfl rfl rfl Av.nil)) rfl rfl rfl rfl (fun hb => (Ob.uncond (t := 28) hb rfl (ob_sub rfl (.tmp rfl) (opd_int rfl))))) (opsS_cons (.guarded _ (an 3 rfl rfl rfl (an 9 rfl rfl rfl (an 11 rfl rfl rfl Av.nil))) rfl rfl rfl rfl (fun hb => (Ob.uncond (t := 29) hb rfl ((Ob.uncond (t := 27) hb rfl (ob_rowAt rfl Try.underlying40 sz39 (.tmp rfl) (.head _) (.tmp rfl) (g2 hb))))))) (opsS_cons (.guarded _ (an 3 rfl rfl rfl (an 12 rfl rfl rfl Av.nil)) rfl rfl rfl rfl (fun hb => (Ob.uncond (t := 30) hb rfl (ob_rowLoad rfl tk39 (.tmp rfl) (.head _) (LG.arrA (ite_t hb e_x2)))))) opsS_nil)))))))))))))) (out_old (t := 0) rfl rfl (out_old (t := 1) rfl rfl (out_old (t := 2) rfl rfl (out_old (t := 3) rfl rfl (out_old (t := 8) rfl rfl (out_old (t := 9) rfl rfl (out_new (i := 3) (by decide) rfl rfl (out_new (i := 4) (by decide) rfl rfl (out_new (i := 8) (by decide) rfl rfl (out_new (i := 13) (by decide) rfl rfl out_nil)))))))))) fun _ _ s20 => ?_
  obtain ⟨x3, e_x3, h11⟩ := bind_some h10; clear h10
  refine qs s20 (.cg rfl rfl rfl rfl (fun hb => (Ob.uncond (t := 31) hb rfl ((Ob.uncond (t := 26) hb rfl ((Ob.uncond (t := 22) hb rfl (ob_callD0 (args := [_, _]) rfl (.fn (.tmp rfl)) hb115 (fun a w s => by exact c_queue_Wanted_1 k _ _ _ (ite_t hb e_x3) _ _ _ _ (s.arg (.tmp rfl)) (s.arg (.tmp rfl)))))))))) (.cg rfl rfl rfl rfl (fun hb => (Ob.uncond (t := 32) hb rfl (ob_lss rfl (.tmp rfl) (opd_int rfl)))) (.c1 rfl (ob_and2 rfl (.tmp rfl) (.tmp rfl) opd_bool) (.ce (u 0 rfl (u 1 rfl (u 2 rfl (u 3 rfl (u 8 rfl (u 9 rfl (u 34 rfl .nil))))))))))) fun _ _ s24 => wn hK9 ?_; clear s20
  refine cond_split s24 (.tmp rfl) (fun hc2 => ?_) (fun hc2 => ?_)
  ·have h12 := ite_t hc2 h11; clear h11
   refine wp_skip ?_
   refine then_normal (hK8 _ _ ?_)
   have s25 := s24.sub (u 0 rfl (u 1 rfl (u 2 rfl (u 3 rfl (u 8 rfl (u 9 rfl .nil)))))); clear s24
   refine wp_seq_k fun K10 hK10 => wp_block ?_
   obtain ⟨g3, h13⟩ := guard_some h12; clear h12
   obtain ⟨x4, e_x4, h14⟩ := bind_some h13; clear h13
   obtain ⟨g4, h15⟩ := guard_some h14; clear h14
   obtain ⟨x5, e_x5, h16⟩ := bind_some h15; clear h15
   obtain ⟨g5, h17⟩ := guard_some h16; clear h16
   obtain ⟨x6, e_x6, h18⟩ := bind_some h17; clear h17
   refine wp_goes (Fs := [(is wr0), ((kint .i64).V y4), (is wr0), ((kint .i64).V y4), ((kint .i64).V (isub .i64 y4 (1 : Int))), (is wr0), ((kint .i64).V y4), ((kint .i64).V (isub .i64 y4 (1 : Int))), (ptrR wr0 ((isub .i64 y4 (1 : Int)).toNat * 32)), ((karr 32 (kint .u8)).V x4), (is wr0), ((kint .i64).V y4), (ptrR wr0 (y4.toNat * 32)), ((karr 32 (kint .u8)).V x5), (ptrR wr0 (y4.toNat * 32)), nofact]) (bits := [0, 0, 0, 0, 8, 0, 0, 64, 224, 480, 0, 0, 3072, 7168, 16355, 32739, 65535, 131071]) (m := 16) (todo := 32768) mx s25 ?_; clear s25
   refine goes_turn (B' := (fun _ : Unit => [RowF wr0 39 (karr 32 (kint .u8)) x6])) (Fs' := (fun _ : Unit => setAll ([(is wr0), ((kint .i64).V y4), (is wr0), ((kint .i64).V y4), ((kint .i64).V (isub .i64 y4 (1 : Int))), (is wr0), ((kint .i64).V y4), ((kint .i64).V (isub .i64 y4 (1 : Int))), (ptrR wr0 ((isub .i64 y4 (1 : Int)).toNat * 32)), ((karr 32 (kint .u8)).V x4), (is wr0), ((kint .i64).V y4), (ptrR wr0 (y4.toNat * 32)), ((karr 32 (kint .u8)).V x5), (ptrR wr0 (y4.toNat * 32)), nofact]) [(15, nofact)])) 15 32768 65507 0 (by kernel_rfl) rfl rfl rfl (oc (av 0 rfl rfl Av.nil) rfl rfl (mv rfl rfl) (oc (av 9 rfl rfl Av.nil) rfl rfl (mv rfl rfl) (oc (av 0 rfl rfl Av.nil) rfl rfl (mv rfl rfl) (oc (av 9 rfl rfl Av.nil) rfl rfl (mv rfl rfl) (oc (an 3 rfl rfl rfl Av.nil) rfl rfl (ob_sub rfl (.tmp rfl) (opd_int rfl)) (oc (av 0 rfl rfl Av.nil) rfl rfl (mv rfl rfl) (oc (av 9 rfl rfl Av.nil) rfl rfl (mv rfl rfl) (oc (an 6 rfl rfl rfl Av.nil) rfl rfl (ob_sub rfl (.tmp rfl) (opd_int rfl)) (oc (an 5 rfl rfl rfl (an 7 rfl rfl rfl Av.nil)) rfl rfl (ob_rowAt rfl Try.underlying40 sz39 (.tmp rfl) (.head _) (.tmp rfl) g3) (oc (an 8 rfl rfl rfl Av.nil) rfl rfl (ob_rowLoad rfl tk39 (.tmp rfl) (.head _) (LG.arrA e_x4)) (oc (av 0 rfl rfl Av.nil) rfl rfl (mv rfl rfl) (oc (av 9 rfl rfl Av.nil) rfl rfl (mv rfl rfl) (oc (an 10 rfl rfl rfl (an 11 rfl rfl rfl Av.nil)) rfl rfl (ob_rowAt rfl Try.underlying40 sz39 (.tmp rfl) (.head _) (.tmp rfl) g4) (oc (an 12 rfl rfl rfl Av.nil) rfl rfl (ob_rowLoad rfl tk39 (.tmp rfl) (.head _) (LG.arrA e_x5)) (oc (an 0 rfl rfl rfl (an 1 rfl rfl rfl Av.nil)) rfl rfl (ob_rowAt rfl Try.underlying40 sz39 (.tmp rfl) (.head _) (.tmp rfl) g5) (opsS_skip (by rfl) opsS_nil)))))))))))))))) (.plain _ (an 9 rfl rfl rfl (an 14 rfl rfl rfl Av.nil)) rfl (fun _ => rfl) (fun R => ob_rowStore (A := []) rfl tk39 (.tmp rfl) (.tmp rfl) rfl (LS.arrS e_x6) rfl)) (setAll_same (us := (fun _ : Unit => [(15, nofact)])) fun _ => by kernel_rfl) fun _ => ?_
   refine goes_last (by kernel_rfl) rfl (opsS_skip (by rfl) (opsS_skip (by rfl) (oc (av 0 rfl rfl Av.nil) rfl rfl (mv rfl rfl) (oc (av 9 rfl rfl Av.nil) rfl rfl (mv rfl rfl) (oc (an 3 rfl rfl rfl Av.nil) rfl rfl (ob_sub rfl (.tmp rfl) (opd_int rfl)) (opsS_skip (by rfl) (opsS_skip (by rfl) (opsS_skip (by rfl) (opsS_skip (by rfl) (opsS_skip (by rfl) (opsS_skip (by rfl) (opsS_skip (by rfl) (opsS_skip (by rfl) (opsS_skip (by rfl) (opsS_skip (by rfl) (opsS_skip (by rfl) opsS_nil)))))))))))))))) (out_old (t := 0) rfl rfl (out_old (t := 1) rfl rfl (out_old (t := 2) rfl rfl (out_old (t := 3) rfl rfl (out_old (t := 8) rfl rfl (out_old (t := 9) rfl rfl (out_new (i := 2) (by decide) rfl rfl (out_new (i := 4) (by decide) rfl rfl (out_new (i := 13) (by decide) rfl rfl out_nil))))))))) fun _ _ s26 => ?_
   obtain ⟨g6, h19⟩ := guard_some h18; clear h18
   obtain ⟨x7, e_x7, h20⟩ := bind_some h19; clear h19
   refine qs s26 (.c1 rfl (ob_rowAt rfl Try.underlying40 sz39 (.tmp rfl) (.head _) (.tmp rfl) g6) .cz) fun _ _ s27 => ?_; clear s26
   refine seq_opx0 (B' := (fun _ : Unit => [RowF wr0 39 (karr 32 (kint .u8)) x7])) s27 rfl rfl (ob_rowStore (A := []) rfl tk39 (.tmp rfl) (.tmp rfl) rfl (LS.arrS e_x7) rfl) fun _ a28 w28 s28 => ?_; clear s27
   refine wpList_nil ?_
   refine in_normal ?_
   refine then_normal (hK10 _ _ ?_)
   have s29 := s28.sub (u 0 rfl (u 1 rfl (u 2 rfl (u 3 rfl (u 8 rfl (u 9 rfl .nil)))))); clear s28
   refine wp_region_lit (qs s29 (.c1 rfl (mv rfl rfl) (.c1 rfl (ob_sub rfl (.tmp rfl) (opd_int rfl)) (.c1 rfl (ob_assign rfl (.tmp rfl)) .cz))) fun _ _ s32 => ?_); clear s29
   refine wpList_nil ?_
   refine then_normal ?_
   exact hK7 ((isub .i64 y4 (1 : Int)), x7) _ _ h20 (s32.sub (.cons rfl (.cons rfl (.cons rfl (.cons rfl (.cons rfl (.cons rfl .nil)))))))
  ·have h21 := ite_f hc2 h11; clear h11
   refine wp_exit ?_
   refine (then_exit (then_exit (in_here ?_)))
   refine in_normal ?_
   refine then_normal ?_
   exact hj1 y5 _ _ h21 (s24.sub (.cons rfl (.cons rfl (.cons rfl (.cons rfl (.cons rfl .nil))))))
 ·have h22 := ite_f hc1 h2; clear h2
  refine wp_exit ?_
  refine (then_exit (then_exit (in_here ?_)))
  obtain rfl := Option.some.inj h22
  exact leaveXD (D := []) () s10 rfl (.inr rfl) rfl .nil rfl
theorem c_slices_siftDownCmpFunc_api_Key_queue_Wanted_1 (k : Nat) (p1 : (List (List Int))) (p2 : Int) (p3 : Int) (p4 : Int) (r : (List (List Int))) (h0 : slices_siftDownCmpFunc_api_Key_queue_Wanted_1 k p1 p2 p3 p4 = some r) (ok : Ok) (w0 : World) (z0 : Value) (z1 : Value) (z2 : Value) (z3 : Value) (z4 : Value) (wr0 : Value) (l0 : ∀ q, q ∈ [RowF wr0 39 (karr 32 (kint .u8)) p1] → q.holds ok w0) (d0 : ∀ c, c ∈ idsOf [RowF wr0 39 (karr 32 (kint .u8)) p1] → ¬ ok c) (nd : (idsOf [RowF wr0 39 (karr 32 (kint .u8)) p1]).Nodup) (u0 : (is wr0).holds ok w0 z0) (u1 : ((kint .i64).V p2).holds ok w0 z1) (u2 : ((kint .i64).V p3).holds ok w0 z2) (u3 : ((kint .i64).V p4).holds ok w0 z3) (u4 : (is (.func (.func 115) #[] #[])).holds ok w0 z4) :
 GivesX Try.prog 186 [z0, z1, z2, z3, z4] ok w0 [RowF wr0 39 (karr 32 (kint .u8)) p1] (fun g : Unit => resFact []) (fun g : Unit => [RowF wr0 39 (karr 32 (kint .u8)) r]) := by
 unfold slices_siftDownCmpFunc_api_Key_queue_Wanted_1 at h0
 refine enterX (N := 82) Try.func186 rfl rfl (of_decide_eq_true rfl) (.cons u0 (.cons u1 (.cons u2 (.cons u3 (.cons u4 .nil))))) nd l0 d0 fun a1 s1 => ?_
 refine wp_seq_k fun K1 hK1 => wp_region_lit (qs s1 (.c1 rfl (mv rfl rfl) (.c1 rfl (ob_assign rfl (.tmp rfl)) (.ce (u 0 rfl (u 2 rfl (u 3 rfl (u 4 rfl (u 10 rfl .nil)))))))) fun _ _ s4 => wn hK1 ?_); clear s1
 refine wp_block ?_
 refine wp_loop_fuel (fun m (q : Int × (List (List Int))) => slices_siftDownCmpFunc_api_Key_queue_Wanted_1.l1 k p3 p4 m q.1 q.2) r (fun _ => rfl) (fun q a w => St ⟨82, w0, ok, (idsOf [RowF wr0 39 (karr 32 (kint .u8)) p1])⟩ [RowF wr0 39 (karr 32 (kint .u8)) q.2] [(0, (is wr0)), (2, ((kint .i64).V p3)), (3, ((kint .i64).V p4)), (4, (is (.func (.func 115) #[] #[]))), (10, ((kint .i64).V q.1))] a w) ?_ k (p2, p1) _ _ h0 (s4.sub (.cons rfl (.cons rfl (.cons rfl (.cons rfl (.cons rfl .nil))))))
 rintro n1 ⟨y1, y2⟩ a5 w5 h1 s5 K2 hK2
 replace h1 : slices_siftDownCmpFunc_api_Key_queue_Wanted_1.l1 k p3 p4 (n1 + 1) y1 y2 = some r := h1; rw [slices_siftDownCmpFunc_api_Key_queue_Wanted_1.l1] at h1
 have h2 := h1; clear h1
 refine wp_block ?_
 refine wp_seq_k fun K3 hK3 => wp_region_lit (qs s5 (.c1 rfl (mv rfl rfl) (.c1 rfl (ob_mul rfl (opd_int rfl) (.tmp rfl)) (.c1 rfl (ob_add rfl (.tmp rfl) (opd_int rfl)) (.c1 rfl (ob_assign rfl (.tmp rfl)) (.ce (u 0 rfl (u 2 rfl (u 3 rfl (u 4 rfl (u 10 rfl (u 11 rfl .nil))))))))))) fun _ _ s10 => wn hK3 ?_); clear s5
 refine wp_seq_k fun K4 hK4 => wp_seq_k fun K5 hK5 => ?_
 refine wp_region_lit (qs s10 (.c1 rfl (mv rfl rfl) (.c1 rfl (mv rfl rfl) (.c1 rfl (ob_geq rfl (.tmp rfl) (.tmp rfl)) (.ce (u 0 rfl (u 2 rfl (u 3 rfl (u 4 rfl (u 10 rfl (u 11 rfl (u 18 rfl .nil))))))))))) fun _ _ s14 => wn hK5 ?_); clear s10
 refine cond_split s14 (.tmp rfl) (fun hc1 => ?_) (fun hc1 => ?_)
 ·have h3 := ite_t hc1 h2; clear h2
  refine wp_exit ?_
  refine (then_exit (in_other (by decide) (then_exit (in_here ?_))))
  obtain rfl := Option.some.inj h3
  exact leaveXD (D := []) () s14 rfl (.inr rfl) rfl .nil rfl
 ·have h4 := ite_f hc1 h2; clear h2
  refine wp_skip ?_
  refine then_normal (hK4 _ _ ?_)
  have s15 := s14.sub (u 0 rfl (u 2 rfl (u 3 rfl (u 4 rfl (u 10 rfl (u 11 rfl .nil)))))); clear s14
  refine wp_seq_k fun K6 hK6 => wp_seq_k fun K7 hK7 => ?_
  obtain ⟨x1, e_x1, h5⟩ := bind_some h4; clear h4; replace e_x1 := Option.some.inj e_x1
  obtain ⟨g1, h6⟩ := guard_some h5; clear h5
  obtain ⟨x2, e_x2, h7⟩ := bind_some h6; clear h6
  obtain ⟨x3, e_x3, h8⟩ := bind_some h7; clear h7; replace e_x3 := Option.some.inj e_x3
  obtain ⟨g2, h9⟩ := guard_some h8; clear h8
  obtain ⟨x4, e_x4, h10⟩ := bind_some h9; clear h9
  refine wp_goes (Fs := [((kint .i64).V (iadd .i64 (imul .i64 (2 : Int) y1) (1 : Int))), ((kint .i64).V (iadd .i64 (iadd .i64 (imul .i64 (2 : Int) y1) (1 : Int)) (1 : Int))), ((kint .i64).V p3), (kbool.V x1), (kbool.V x1), (Fact.when (x1 == true) (is (.func (.func 115) #[] #[]))), (Fact.when (x1 == true) (is wr0)), (Fact.when (x1 == true) ((kint .i64).V p4)), (Fact.when (x1 == true) ((kint .i64).V (iadd .i64 (imul .i64 (2 : Int) y1) (1 : Int)))), (Fact.when (x1 == true) ((kint .i64).V (iadd .i64 p4 (iadd .i64 (imul .i64 (2 : Int) y1) (1 : Int))))), (Fact.when (x1 == true) (ptrR wr0 ((iadd .i64 p4 (iadd .i64 (imul .i64 (2 : Int) y1) (1 : Int))).toNat * 32))), (Fact.when (x1 == true) ((karr 32 (kint .u8)).V x2)), (Fact.when (x1 == true) (is wr0)), (Fact.when (x1 == true) ((kint .i64).V p4)), (Fact.when (x1 == true) ((kint .i64).V (iadd .i64 (imul .i64 (2 : Int) y1) (1 : Int)))), (Fact.when (x1 == true) ((kint .i64).V (iadd .i64 p4 (iadd .i64 (imul .i64 (2 : Int) y1) (1 : Int))))), (Fact.when (x1 == true) ((kint .i64).V x3)), (Fact.when (x1 == true) (ptrR wr0 (x3.toNat * 32))), (Fact.when (x1 == true) ((karr 32 (kint .u8)).V x4))]) (bits := [0, 1, 0, 7, 15, 31, 31, 31, 31, 415, 991, 2015, 31, 31, 31, 24607, 57375, 127007, 258079, 524287, 1048575, 2097151]) (m := 19) (todo := 0) mx s15 ?_; clear s15
  refine goes_last (by kernel_rfl) rfl (oc (av 11 rfl rfl Av.nil) rfl rfl (mv rfl rfl) (oc (an 0 rfl rfl rfl Av.nil) rfl rfl (ob_add rfl (.tmp rfl) (opd_int rfl)) (oc (av 2 rfl rfl Av.nil) rfl rfl (mv rfl rfl) (oc (an 1 rfl rfl rfl (an 2 rfl rfl rfl Av.nil)) rfl rfl ((ob_lss rfl (.tmp rfl) (.tmp rfl)).nm e_x1) (oc (an 3 rfl rfl rfl Av.nil) rfl rfl (mv rfl rfl) (opsS_cons (.guarded _ (av 4 rfl rfl (an 4 rfl rfl rfl Av.nil)) rfl rfl rfl rfl (fun hb => ob_move rfl (.tmp rfl))) (opsS_cons (.guarded _ (av 0 rfl rfl (an 4 rfl rfl rfl Av.nil)) rfl rfl rfl rfl (fun hb => ob_move rfl (.tmp rfl))) (opsS_cons (.guarded _ (av 3 rfl rfl (an 4 rfl rfl rfl Av.nil)) rfl rfl rfl rfl (fun hb => ob_move rfl (.tmp rfl))) (opsS_cons (.guarded _ (av 11 rfl rfl (an 4 rfl rfl rfl Av.nil)) rfl rfl rfl rfl (fun hb => ob_move rfl (.tmp rfl))) (opsS_cons (.guarded _ (an 4 rfl rfl rfl (an 7 rfl rfl rfl (an 8 rfl rfl rfl Av.nil))) rfl rfl rfl rfl (fun hb => (Ob.uncond (t := 27) hb rfl ((Ob.uncond (t := 26) hb rfl (ob_add rfl (.tmp rfl) (.tmp rfl))))))) (opsS_cons (.guarded _ (an 4 rfl rfl rfl (an 6 rfl rfl rfl (an 9 rfl rfl rfl Av.nil))) rfl rfl rfl rfl (fun hb => (Ob.uncond (t := 28) hb rfl ((Ob.uncond (t := 25) hb rfl (ob_rowAt rfl Try.underlying40 sz39 (.tmp rfl) (.head _) (.tmp rfl) (g1 hb))))))) (opsS_cons (.guarded _ (an 4 rfl rfl rfl (an 10 rfl rfl rfl Av.nil)) rfl rfl rfl rfl (fun hb => (Ob.uncond (t := 29) hb rfl (ob_rowLoad rfl tk39 (.tmp rfl) (.head _) (LG.arrA (ite_t hb e_x2)))))) (opsS_cons (.guarded _ (av 0 rfl rfl (an 4 rfl rfl rfl Av.nil)) rfl rfl rfl rfl (fun hb => ob_move rfl (.tmp rfl))) (opsS_cons (.guarded _ (av 3 rfl rfl (an 4 rfl rfl rfl Av.nil)) rfl rfl rfl rfl (fun hb => ob_move rfl (.tmp rfl))) (opsS_cons (.guarded _ (av 11 rfl rfl (an 4 rfl rfl rfl Av.nil)) rfl rfl rfl rfl (fun hb => ob_move rfl (.tmp rfl))) (opsS_cons (.guarded _ (an 4 rfl rfl rfl (an 13 rfl rfl rfl (an 14 rfl rfl rfl Av.nil))) rfl rfl rfl rfl (fun hb => (Ob.uncond (t := 33) hb rfl ((Ob.uncond (t := 32) hb rfl (ob_add rfl (.tmp rfl) (.tmp rfl))))))) (opsS_cons (.guarded _ (an 4 rfl rfl rfl (an 15 rfl rfl rfl Av.nil)) rfl rfl rfl rfl (fun hb => (Ob.uncond (t := 34) hb rfl ((ob_add rfl (.tmp rfl) (opd_int rfl)).nm e_x3)))) (opsS_cons (.guarded _ (an 4 rfl rfl rfl (an 12 rfl rfl rfl (an 16 rfl rfl rfl Av.nil))) rfl rfl rfl rfl (fun hb => (Ob.uncond (t := 35) hb rfl ((Ob.uncond (t := 31) hb rfl (ob_rowAt rfl Try.underlying40 sz39 (.tmp rfl) (.head _) (.tmp rfl) (g2 hb))))))) (opsS_cons (.guarded _ (an 4 rfl rfl rfl (an 17 rfl rfl rfl Av.nil)) rfl rfl rfl rfl (fun hb => (Ob.uncond (t := 36) hb rfl (ob_rowLoad rfl tk39 (.tmp rfl) (.head _) (LG.arrA (ite_t hb e_x4)))))) opsS_nil))))))))))))))))))) (out_old (t := 0) rfl rfl (out_old (t := 2) rfl rfl (out_old (t := 3) rfl rfl (out_old (t := 4) rfl rfl (out_old (t := 10) rfl rfl (out_old (t := 11) rfl rfl (out_new (i := 4) (by decide) rfl rfl (out_new (i := 5) (by decide) rfl rfl (out_new (i := 11) (by decide) rfl rfl (out_new (i := 18) (by decide) rfl rfl out_nil)))))))))) fun _ _ s16 => ?_
  obtain ⟨x5, e_x5, h11⟩ := bind_some h10; clear h10
  refine qs s16 (.cg rfl rfl rfl rfl (fun hb => (Ob.uncond (t := 37) hb rfl ((Ob.uncond (t := 30) hb rfl ((Ob.uncond (t := 24) hb rfl (ob_callD0 (args := [_, _]) rfl (.fn (.tmp rfl)) hb115 (fun a w s => by exact c_queue_Wanted_1 k _ _ _ (ite_t hb e_x5) _ _ _ _ (s.arg (.tmp rfl)) (s.arg (.tmp rfl)))))))))) (.cg rfl rfl rfl rfl (fun hb => (Ob.uncond (t := 38) hb rfl (ob_lss rfl (.tmp rfl) (opd_int rfl)))) (.c1 rfl (ob_and2 rfl (.tmp rfl) (.tmp rfl) opd_bool) (.ce (u 0 rfl (u 2 rfl (u 3 rfl (u 4 rfl (u 10 rfl (u 11 rfl (u 40 rfl .nil))))))))))) fun _ _ s20 => wn hK7 ?_; clear s16
  have hj1 : ∀ (y3 : Int) (a : Act) (w : World), (slices_siftDownCmpFunc_api_Key_queue_Wanted_1.j1 k p4 y1 y2 (slices_siftDownCmpFunc_api_Key_queue_Wanted_1.l1 k p3 p4 n1)) y3 = some r → St ⟨82, w0, ok, (idsOf [RowF wr0 39 (karr 32 (kint .u8)) p1])⟩ [RowF wr0 39 (karr 32 (kint .u8)) y2] [(0, (is wr0)), (2, ((kint .i64).V p3)), (3, ((kint .i64).V p4)), (4, (is (.func (.func 115) #[] #[]))), (10, ((kint .i64).V y1)), (11, ((kint .i64).V y3))] a w → K6 a w := by
   intro y3 a21 w21 h12 s21
   unfold slices_siftDownCmpFunc_api_Key_queue_Wanted_1.j1 at h12
   refine hK6 _ _ ?_
   refine wp_seq_k fun K8 hK8 => wp_seq_k fun K9 hK9 => ?_
   obtain ⟨g3, h13⟩ := guard_some h12; clear h12
   obtain ⟨x6, e_x6, h14⟩ := bind_some h13; clear h13
   obtain ⟨g4, h15⟩ := guard_some h14; clear h14
   obtain ⟨x7, e_x7, h16⟩ := bind_some h15; clear h15
   refine wp_goes (Fs := [(is (.func (.func 115) #[] #[])), (is wr0), ((kint .i64).V p4), ((kint .i64).V y1), ((kint .i64).V (iadd .i64 p4 y1)), (ptrR wr0 ((iadd .i64 p4 y1).toNat * 32)), ((karr 32 (kint .u8)).V x6), (is wr0), ((kint .i64).V p4), ((kint .i64).V y3), ((kint .i64).V (iadd .i64 p4 y3)), (ptrR wr0 ((iadd .i64 p4 y3).toNat * 32)), ((karr 32 (kint .u8)).V x7)]) (bits := [0, 0, 0, 0, 12, 30, 62, 0, 0, 0, 768, 1920, 3968, 8191, 16383, 32767]) (m := 13) (todo := 0) mx s21 ?_; clear s21
   refine goes_last (by kernel_rfl) rfl (oc (av 4 rfl rfl Av.nil) rfl rfl (mv rfl rfl) (oc (av 0 rfl rfl Av.nil) rfl rfl (mv rfl rfl) (oc (av 3 rfl rfl Av.nil) rfl rfl (mv rfl rfl) (oc (av 10 rfl rfl Av.nil) rfl rfl (mv rfl rfl) (oc (an 2 rfl rfl rfl (an 3 rfl rfl rfl Av.nil)) rfl rfl (ob_add rfl (.tmp rfl) (.tmp rfl)) (oc (an 1 rfl rfl rfl (an 4 rfl rfl rfl Av.nil)) rfl rfl (ob_rowAt rfl Try.underlying40 sz39 (.tmp rfl) (.head _) (.tmp rfl) g3) (oc (an 5 rfl rfl rfl Av.nil) rfl rfl (ob_rowLoad rfl tk39 (.tmp rfl) (.head _) (LG.arrA e_x6)) (oc (av 0 rfl rfl Av.nil) rfl rfl (mv rfl rfl) (oc (av 3 rfl rfl Av.nil) rfl rfl (mv rfl rfl) (oc (av 11 rfl rfl Av.nil) rfl rfl (mv rfl rfl) (oc (an 8 rfl rfl rfl (an 9 rfl rfl rfl Av.nil)) rfl rfl (ob_add rfl (.tmp rfl) (.tmp rfl)) (oc (an 7 rfl rfl rfl (an 10 rfl rfl rfl Av.nil)) rfl rfl (ob_rowAt rfl Try.underlying40 sz39 (.tmp rfl) (.head _) (.tmp rfl) g4) (oc (an 11 rfl rfl rfl Av.nil) rfl rfl (ob_rowLoad rfl tk39 (.tmp rfl) (.head _) (LG.arrA e_x7)) opsS_nil))))))))))))) (out_old (t := 0) rfl rfl (out_old (t := 2) rfl rfl (out_old (t := 3) rfl rfl (out_old (t := 4) rfl rfl (out_old (t := 10) rfl rfl (out_old (t := 11) rfl rfl (out_new (i := 0) (by decide) rfl rfl (out_new (i := 6) (by decide) rfl rfl (out_new (i := 12) (by decide) rfl rfl out_nil))))))))) fun _ _ s22 => ?_
   obtain ⟨x8, e_x8, h17⟩ := bind_some h16; clear h16
   refine qs s22 (.c1 rfl (ob_callD0 (args := [_, _]) rfl (.fn (.tmp rfl)) hb115 (fun a w s => by exact c_queue_Wanted_1 k _ _ _ e_x8 _ _ _ _ (s.arg (.tmp rfl)) (s.arg (.tmp rfl)))) (.c1 rfl (ob_lss rfl (.tmp rfl) (opd_int rfl)) (.c1 rfl (ob_not rfl (.tmp rfl)) (.ce (u 0 rfl (u 2 rfl (u 3 rfl (u 4 rfl (u 10 rfl (u 11 rfl (u 58 rfl .nil))))))))))) fun _ _ s26 => wn hK9 ?_; clear s22
   refine cond_split s26 (.tmp rfl) (fun hc2 => ?_) (fun hc2 => ?_)
   ·have h18 := ite_t hc2 h17; clear h17
    refine wp_ret ?_
    obtain rfl := Option.some.inj h18
    exact leaveXD (D := []) () s26 rfl (.inl rfl) rfl .nil rfl
   ·have h19 := ite_f hc2 h17; clear h17
    refine wp_skip ?_
    refine then_normal (hK8 _ _ ?_)
    have s27 := s26.sub (u 0 rfl (u 2 rfl (u 3 rfl (u 4 rfl (u 10 rfl (u 11 rfl .nil)))))); clear s26
    refine wp_seq_k fun K10 hK10 => ?_
    obtain ⟨g5, h20⟩ := guard_some h19; clear h19
    obtain ⟨x9, e_x9, h21⟩ := bind_some h20; clear h20
    obtain ⟨g6, h22⟩ := guard_some h21; clear h21
    obtain ⟨x10, e_x10, h23⟩ := bind_some h22; clear h22
    obtain ⟨g7, h24⟩ := guard_some h23; clear h23
    obtain ⟨x11, e_x11, h25⟩ := bind_some h24; clear h24
    refine wp_goes (Fs := [(is wr0), ((kint .i64).V p4), ((kint .i64).V y1), ((kint .i64).V (iadd .i64 p4 y1)), (is wr0), ((kint .i64).V p4), ((kint .i64).V y3), ((kint .i64).V (iadd .i64 p4 y3)), (is wr0), ((kint .i64).V p4), ((kint .i64).V y3), ((kint .i64).V (iadd .i64 p4 y3)), (ptrR wr0 ((iadd .i64 p4 y3).toNat * 32)), ((karr 32 (kint .u8)).V x9), (is wr0), ((kint .i64).V p4), ((kint .i64).V y1), ((kint .i64).V (iadd .i64 p4 y1)), (ptrR wr0 ((iadd .i64 p4 y1).toNat * 32)), ((karr 32 (kint .u8)).V x10), (ptrR wr0 ((iadd .i64 p4 y1).toNat * 32)), nofact]) (bits := [0, 0, 0, 6, 0, 0, 0, 96, 0, 0, 0, 1536, 3840, 7936, 0, 0, 0, 98304, 245760, 507904, 1048335, 2096911, 4194303, 8388607]) (m := 22) (todo := 2097152) mx s27 ?_; clear s27
    refine goes_turn (B' := (fun _ : Unit => [RowF wr0 39 (karr 32 (kint .u8)) x11])) (Fs' := (fun _ : Unit => setAll ([(is wr0), ((kint .i64).V p4), ((kint .i64).V y1), ((kint .i64).V (iadd .i64 p4 y1)), (is wr0), ((kint .i64).V p4), ((kint .i64).V y3), ((kint .i64).V (iadd .i64 p4 y3)), (is wr0), ((kint .i64).V p4), ((kint .i64).V y3), ((kint .i64).V (iadd .i64 p4 y3)), (ptrR wr0 ((iadd .i64 p4 y3).toNat * 32)), ((karr 32 (kint .u8)).V x9), (is wr0), ((kint .i64).V p4), ((kint .i64).V y1), ((kint .i64).V (iadd .i64 p4 y1)), (ptrR wr0 ((iadd .i64 p4 y1).toNat * 32)), ((karr 32 (kint .u8)).V x10), (ptrR wr0 ((iadd .i64 p4 y1).toNat * 32)), nofact]) [(21, nofact)])) 21 2097152 4194063 0 (by kernel_rfl) rfl rfl rfl (oc (av 0 rfl rfl Av.nil) rfl rfl (mv rfl rfl) (oc (av 3 rfl rfl Av.nil) rfl rfl (mv rfl rfl) (oc (av 10 rfl rfl Av.nil) rfl rfl (mv rfl rfl) (oc (an 1 rfl rfl rfl (an 2 rfl rfl rfl Av.nil)) rfl rfl (ob_add rfl (.tmp rfl) (.tmp rfl)) (oc (av 0 rfl rfl Av.nil) rfl rfl (mv rfl rfl) (oc (av 3 rfl rfl Av.nil) rfl rfl (mv rfl rfl) (oc (av 11 rfl rfl Av.nil) rfl rfl (mv rfl rfl) (oc (an 5 rfl rfl rfl (an 6 rfl rfl rfl Av.nil)) rfl rfl (ob_add rfl (.tmp rfl) (.tmp rfl)) (oc (av 0 rfl rfl Av.nil) rfl rfl (mv rfl rfl) (oc (av 3 rfl rfl Av.nil) rfl rfl (mv rfl rfl) (oc (av 11 rfl rfl Av.nil) rfl rfl (mv rfl rfl) (oc (an 9 rfl rfl rfl (an 10 rfl rfl rfl Av.nil)) rfl rfl (ob_add rfl (.tmp rfl) (.tmp rfl)) (oc (an 8 rfl rfl rfl (an 11 rfl rfl rfl Av.nil)) rfl rfl (ob_rowAt rfl Try.underlying40 sz39 (.tmp rfl) (.head _) (.tmp rfl) g5) (oc (an 12 rfl rfl rfl Av.nil) rfl rfl (ob_rowLoad rfl tk39 (.tmp rfl) (.head _) (LG.arrA e_x9)) (oc (av 0 rfl rfl Av.nil) rfl rfl (mv rfl rfl) (oc (av 3 rfl rfl Av.nil) rfl rfl (mv rfl rfl) (oc (av 10 rfl rfl Av.nil) rfl rfl (mv rfl rfl) (oc (an 15 rfl rfl rfl (an 16 rfl rfl rfl Av.nil)) rfl rfl (ob_add rfl (.tmp rfl) (.tmp rfl)) (oc (an 14 rfl rfl rfl (an 17 rfl rfl rfl Av.nil)) rfl rfl (ob_rowAt rfl Try.underlying40 sz39 (.tmp rfl) (.head _) (.tmp rfl) g6) (oc (an 18 rfl rfl rfl Av.nil) rfl rfl (ob_rowLoad rfl tk39 (.tmp rfl) (.head _) (LG.arrA e_x10)) (oc (an 0 rfl rfl rfl (an 3 rfl rfl rfl Av.nil)) rfl rfl (ob_rowAt rfl Try.underlying40 sz39 (.tmp rfl) (.head _) (.tmp rfl) g7) (opsS_skip (by rfl) opsS_nil)))))))))))))))))))))) (.plain _ (an 13 rfl rfl rfl (an 20 rfl rfl rfl Av.nil)) rfl (fun _ => rfl) (fun R => ob_rowStore (A := []) rfl tk39 (.tmp rfl) (.tmp rfl) rfl (LS.arrS e_x11) rfl)) (setAll_same (us := (fun _ : Unit => [(21, nofact)])) fun _ => by kernel_rfl) fun _ => ?_
    refine goes_last (by kernel_rfl) rfl (opsS_skip (by rfl) (opsS_skip (by rfl) (opsS_skip (by rfl) (opsS_skip (by rfl) (oc (av 0 rfl rfl Av.nil) rfl rfl (mv rfl rfl) (oc (av 3 rfl rfl Av.nil) rfl rfl (mv rfl rfl) (oc (av 11 rfl rfl Av.nil) rfl rfl (mv rfl rfl) (oc (an 5 rfl rfl rfl (an 6 rfl rfl rfl Av.nil)) rfl rfl (ob_add rfl (.tmp rfl) (.tmp rfl)) (opsS_skip (by rfl) (opsS_skip (by rfl) (opsS_skip (by rfl) (opsS_skip (by rfl) (opsS_skip (by rfl) (opsS_skip (by rfl) (opsS_skip (by rfl) (opsS_skip (by rfl) (opsS_skip (by rfl) (opsS_skip (by rfl) (opsS_skip (by rfl) (opsS_skip (by rfl) (opsS_skip (by rfl) (opsS_skip (by rfl) opsS_nil)))))))))))))))))))))) (out_old (t := 0) rfl rfl (out_old (t := 2) rfl rfl (out_old (t := 3) rfl rfl (out_old (t := 4) rfl rfl (out_old (t := 11) rfl rfl (out_new (i := 4) (by decide) rfl rfl (out_new (i := 7) (by decide) rfl rfl (out_new (i := 19) (by decide) rfl rfl out_nil)))))))) fun _ _ s28 => ?_
    obtain ⟨g8, h26⟩ := guard_some h25; clear h25
    obtain ⟨x12, e_x12, h27⟩ := bind_some h26; clear h26
    refine qs s28 (.c1 rfl (ob_rowAt rfl Try.underlying40 sz39 (.tmp rfl) (.head _) (.tmp rfl) g8) .cz) fun _ _ s29 => ?_; clear s28
    refine seq_opx0 (B' := (fun _ : Unit => [RowF wr0 39 (karr 32 (kint .u8)) x12])) s29 rfl rfl (ob_rowStore (A := []) rfl tk39 (.tmp rfl) (.tmp rfl) rfl (LS.arrS e_x12) rfl) fun _ a30 w30 s30 => ?_; clear s29
    refine wn hK10 ?_
    have s31 := s30.sub (u 0 rfl (u 2 rfl (u 3 rfl (u 4 rfl (u 11 rfl .nil))))); clear s30
    refine wp_region_lit (qs s31 (.c1 rfl (mv rfl rfl) (.c1 rfl (ob_assign rfl (.tmp rfl)) .cz)) fun _ _ s33 => ?_); clear s31
    refine wpList_nil ?_
    refine in_normal ?_
    refine then_normal ?_
    exact hK2 (y3, x12) _ _ h27 (s33.sub (.cons rfl (.cons rfl (.cons rfl (.cons rfl (.cons rfl .nil))))))
  refine cond_split s20 (.tmp rfl) (fun hc3 => ?_) (fun hc3 => ?_)
  ·have h28 := ite_t hc3 h11; clear h11
   refine wp_region_lit (qs s20 (.c1 rfl (mv rfl rfl) (.c1 rfl (ob_add rfl (.tmp rfl) (opd_int rfl)) (.c1 rfl (ob_assign rfl (.tmp rfl)) .cz))) fun _ _ s36 => ?_); clear s20
   refine wpList_nil ?_
   refine then_normal ?_
   exact hj1 (iadd .i64 (iadd .i64 (imul .i64 (2 : Int) y1) (1 : Int)) (1 : Int)) _ _ h28 (s36.sub (.cons rfl (.cons rfl (.cons rfl (.cons rfl (.cons rfl (.cons rfl .nil)))))))
  ·have h29 := ite_f hc3 h11; clear h11
   refine wp_skip ?_
   refine then_normal ?_
   exact hj1 (iadd .i64 (imul .i64 (2 : Int) y1) (1 : Int)) _ _ h29 (s20.sub (.cons rfl (.cons rfl (.cons rfl (.cons rfl (.cons rfl (.cons rfl .nil)))))))
theorem c_slices_heapSortCmpFunc_api_Key_queue_Wanted_1 (k : Nat) (p1 : (List (List Int))) (p2 : Int) (p3 : Int) (r : (List (List Int))) (h0 : slices_heapSortCmpFunc_api_Key_queue_Wanted_1 k p1 p2 p3 = some r) (ok : Ok) (w0 : World) (z0 : Value) (z1 : Value) (z2 : Value) (z3 : Value) (wr0 : Value) (l0 : ∀ q, q ∈ [RowF wr0 39 (karr 32 (kint .u8)) p1] → q.holds ok w0) (d0 : ∀ c, c ∈ idsOf [RowF wr0 39 (karr 32 (kint .u8)) p1] → ¬ ok c) (nd : (idsOf [RowF wr0 39 (karr 32 (kint .u8)) p1]).Nodup) (u0 : (is wr0).holds ok w0 z0) (u1 : ((kint .i64).V p2).holds ok w0 z1) (u2 : ((kint .i64).V p3).holds ok w0 z2) (u3 : (is (.func (.func 115) #[] #[])).holds ok w0 z3) :
 GivesX Try.prog 166 [z0, z1, z2, z3] ok w0 [RowF wr0 39 (karr 32 (kint .u8)) p1] (fun g : Unit => resFact []) (fun g : Unit => [RowF wr0 39 (karr 32 (kint .u8)) r]) := by
 unfold slices_heapSortCmpFunc_api_Key_queue_Wanted_1 at h0
 refine enterX (N := 60) Try.func166 rfl rfl (of_decide_eq_true rfl) (.cons u0 (.cons u1 (.cons u2 (.cons u3 .nil)))) nd l0 d0 fun a1 s1 => ?_
 refine wp_seq_k fun K1 hK1 => wp_region_lit (qs s1 (.c1 rfl (mv rfl rfl) (.c1 rfl (ob_assign rfl (.tmp rfl)) (.ce (u 0 rfl (u 1 rfl (u 2 rfl (u 3 rfl (u 8 rfl .nil)))))))) fun _ _ s4 => wn hK1 ?_); clear s1
 refine wp_seq_k fun K2 hK2 => wp_region_lit (qs s4 (.c1 rfl (ob_assign rfl (opd_int rfl)) (.ce (u 0 rfl (u 1 rfl (u 2 rfl (u 3 rfl (u 8 rfl (u 9 rfl .nil)))))))) fun _ _ s6 => wn hK2 ?_); clear s4
 refine wp_seq_k fun K3 hK3 => wp_region_lit (qs s6 (.c1 rfl (mv rfl rfl) (.c1 rfl (mv rfl rfl) (.c1 rfl (ob_sub rfl (.tmp rfl) (.tmp rfl)) (.c1 rfl (ob_assign rfl (.tmp rfl)) (.ce (u 0 rfl (u 3 rfl (u 8 rfl (u 9 rfl (u 10 rfl .nil)))))))))) fun _ _ s11 => wn hK3 ?_); clear s6
 refine wp_seq_k fun K4 hK4 => wp_seq_k fun K5 hK5 => ?_
 refine wp_region_lit (qs s11 (.c1 rfl (mv rfl rfl) (.c1 rfl (ob_sub rfl (.tmp rfl) (opd_int rfl)) (.c1 rfl (ob_quo rfl (.tmp rfl) (opd_int rfl) (by decide)) (.c1 rfl (ob_assign rfl (.tmp rfl)) (.ce (u 0 rfl (u 3 rfl (u 8 rfl (u 9 rfl (u 10 rfl (u 11 rfl .nil))))))))))) fun _ _ s16 => wn hK5 ?_); clear s11
 have hj1 : ∀ (y1 : (List (List Int))) (a : Act) (w : World), (slices_heapSortCmpFunc_api_Key_queue_Wanted_1.j1 k p2 p3) y1 = some r → St ⟨60, w0, ok, (idsOf [RowF wr0 39 (karr 32 (kint .u8)) p1])⟩ [RowF wr0 39 (karr 32 (kint .u8)) y1] [(0, (is wr0)), (3, (is (.func (.func 115) #[] #[]))), (8, ((kint .i64).V p2)), (9, ((kint .i64).V (0 : Int))), (10, ((kint .i64).V (isub .i64 p3 p2)))] a w → K4 a w := by
  intro y1 a17 w17 h1 s17
  unfold slices_heapSortCmpFunc_api_Key_queue_Wanted_1.j1 at h1
  refine hK4 _ _ ?_
  refine wp_seq_k fun K6 hK6 => wp_region_lit (qs s17 (.c1 rfl (mv rfl rfl) (.c1 rfl (ob_sub rfl (.tmp rfl) (opd_int rfl)) (.c1 rfl (ob_assign rfl (.tmp rfl)) (.ce (u 0 rfl (u 3 rfl (u 8 rfl (u 9 rfl (u 12 rfl .nil))))))))) fun _ _ s21 => wn hK6 ?_); clear s17
  refine wp_block ?_
  refine wp_loop_fuel (fun m (q : Int × (List (List Int))) => slices_heapSortCmpFunc_api_Key_queue_Wanted_1.l1 k p2 m q.1 q.2) r (fun _ => rfl) (fun q a w => St ⟨60, w0, ok, (idsOf [RowF wr0 39 (karr 32 (kint .u8)) p1])⟩ [RowF wr0 39 (karr 32 (kint .u8)) q.2] [(0, (is wr0)), (3, (is (.func (.func 115) #[] #[]))), (8, ((kint .i64).V p2)), (9, ((kint .i64).V (0 : Int))), (12, ((kint .i64).V q.1))] a w) ?_ k ((isub .i64 (isub .i64 p3 p2) (1 : Int)), y1) _ _ h1 (s21.sub (.cons rfl (.cons rfl (.cons rfl (.cons rfl (.cons rfl .nil))))))
  rintro n1 ⟨y2, y3⟩ a22 w22 h2 s22 K7 hK7
  replace h2 : slices_heapSortCmpFunc_api_Key_queue_Wanted_1.l1 k p2 (n1 + 1) y2 y3 = some r := h2; rw [slices_heapSortCmpFunc_api_Key_queue_Wanted_1.l1] at h2
  have h3 := h2; clear h2
  refine wp_seq_k fun K8 hK8 => wp_seq_k fun K9 hK9 => ?_
  refine wp_region_lit (qs s22 (.c1 rfl (mv rfl rfl) (.c1 rfl (ob_geq rfl (.tmp rfl) (opd_int rfl)) (.ce (u 0 rfl (u 3 rfl (u 8 rfl (u 9 rfl (u 12 rfl (u 33 rfl .nil))))))))) fun _ _ s25 => wn hK9 ?_); clear s22
  refine cond_split s25 (.tmp rfl) (fun hc1 => ?_) (fun hc1 => ?_)
  ·have h4 := ite_t hc1 h3; clear h3
   refine wp_skip ?_
   refine then_normal (hK8 _ _ ?_)
   have s26 := s25.sub (u 0 rfl (u 3 rfl (u 8 rfl (u 9 rfl (u 12 rfl .nil))))); clear s25
   refine wp_seq_k fun K10 hK10 => wp_block ?_
   refine wp_seq_k fun K11 hK11 => ?_
   obtain ⟨g1, h5⟩ := guard_some h4; clear h4
   obtain ⟨x1, e_x1, h6⟩ := bind_some h5; clear h5
   obtain ⟨g2, h7⟩ := guard_some h6; clear h6
   obtain ⟨x2, e_x2, h8⟩ := bind_some h7; clear h7
   obtain ⟨g3, h9⟩ := guard_some h8; clear h8
   obtain ⟨x3, e_x3, h10⟩ := bind_some h9; clear h9
   refine wp_goes (Fs := [(is wr0), ((kint .i64).V p2), (is wr0), ((kint .i64).V p2), ((kint .i64).V y2), ((kint .i64).V (iadd .i64 p2 y2)), (is wr0), ((kint .i64).V p2), ((kint .i64).V y2), ((kint .i64).V (iadd .i64 p2 y2)), (ptrR wr0 ((iadd .i64 p2 y2).toNat * 32)), ((karr 32 (kint .u8)).V x1), (is wr0), ((kint .i64).V p2), (ptrR wr0 (p2.toNat * 32)), ((karr 32 (kint .u8)).V x2), (ptrR wr0 (p2.toNat * 32)), nofact]) (bits := [0, 0, 0, 0, 0, 24, 0, 0, 0, 384, 960, 1984, 0, 0, 12288, 28672, 65475, 131011, 262143, 524287]) (m := 18) (todo := 131072) mx s26 ?_; clear s26
   refine goes_turn (B' := (fun _ : Unit => [RowF wr0 39 (karr 32 (kint .u8)) x3])) (Fs' := (fun _ : Unit => setAll ([(is wr0), ((kint .i64).V p2), (is wr0), ((kint .i64).V p2), ((kint .i64).V y2), ((kint .i64).V (iadd .i64 p2 y2)), (is wr0), ((kint .i64).V p2), ((kint .i64).V y2), ((kint .i64).V (iadd .i64 p2 y2)), (ptrR wr0 ((iadd .i64 p2 y2).toNat * 32)), ((karr 32 (kint .u8)).V x1), (is wr0), ((kint .i64).V p2), (ptrR wr0 (p2.toNat * 32)), ((karr 32 (kint .u8)).V x2), (ptrR wr0 (p2.toNat * 32)), nofact]) [(17, nofact)])) 17 131072 262083 0 (by kernel_rfl) rfl rfl rfl (oc (av 0 rfl rfl Av.nil) rfl rfl (mv rfl rfl) (oc (av 8 rfl rfl Av.nil) rfl rfl (mv rfl rfl) (oc (av 0 rfl rfl Av.nil) rfl rfl (mv rfl rfl) (oc (av 8 rfl rfl Av.nil) rfl rfl (mv rfl rfl) (oc (av 12 rfl rfl Av.nil) rfl rfl (mv rfl rfl) (oc (an 3 rfl rfl rfl (an 4 rfl rfl rfl Av.nil)) rfl rfl (ob_add rfl (.tmp rfl) (.tmp rfl)) (oc (av 0 rfl rfl Av.nil) rfl rfl (mv rfl rfl) (oc (av 8 rfl rfl Av.nil) rfl rfl (mv rfl rfl) (oc (av 12 rfl rfl Av.nil) rfl rfl (mv rfl rfl) (oc (an 7 rfl rfl rfl (an 8 rfl rfl rfl Av.nil)) rfl rfl (ob_add rfl (.tmp rfl) (.tmp rfl)) (oc (an 6 rfl rfl rfl (an 9 rfl rfl rfl Av.nil)) rfl rfl (ob_rowAt rfl Try.underlying40 sz39 (.tmp rfl) (.head _) (.tmp rfl) g1) (oc (an 10 rfl rfl rfl Av.nil) rfl rfl (ob_rowLoad rfl tk39 (.tmp rfl) (.head _) (LG.arrA e_x1)) (oc (av 0 rfl rfl Av.nil) rfl rfl (mv rfl rfl) (oc (av 8 rfl rfl Av.nil) rfl rfl (mv rfl rfl) (oc (an 12 rfl rfl rfl (an 13 rfl rfl rfl Av.nil)) rfl rfl (ob_rowAt rfl Try.underlying40 sz39 (.tmp rfl) (.head _) (.tmp rfl) g2) (oc (an 14 rfl rfl rfl Av.nil) rfl rfl (ob_rowLoad rfl tk39 (.tmp rfl) (.head _) (LG.arrA e_x2)) (oc (an 0 rfl rfl rfl (an 1 rfl rfl rfl Av.nil)) rfl rfl (ob_rowAt rfl Try.underlying40 sz39 (.tmp rfl) (.head _) (.tmp rfl) g3) (opsS_skip (by rfl) opsS_nil)))))))))))))))))) (.plain _ (an 11 rfl rfl rfl (an 16 rfl rfl rfl Av.nil)) rfl (fun _ => rfl) (fun R => ob_rowStore (A := []) rfl tk39 (.tmp rfl) (.tmp rfl) rfl (LS.arrS e_x3) rfl)) (setAll_same (us := (fun _ : Unit => [(17, nofact)])) fun _ => by kernel_rfl) fun _ => ?_
   refine goes_last (by kernel_rfl) rfl (opsS_skip (by rfl) (opsS_skip (by rfl) (oc (av 0 rfl rfl Av.nil) rfl rfl (mv rfl rfl) (oc (av 8 rfl rfl Av.nil) rfl rfl (mv rfl rfl) (oc (av 12 rfl rfl Av.nil) rfl rfl (mv rfl rfl) (oc (an 3 rfl rfl rfl (an 4 rfl rfl rfl Av.nil)) rfl rfl (ob_add rfl (.tmp rfl) (.tmp rfl)) (opsS_skip (by rfl) (opsS_skip (by rfl) (opsS_skip (by rfl) (opsS_skip (by rfl) (opsS_skip (by rfl) (opsS_skip (by rfl) (opsS_skip (by rfl) (opsS_skip (by rfl) (opsS_skip (by rfl) (opsS_skip (by rfl) (opsS_skip (by rfl) (opsS_skip (by rfl) opsS_nil)))))))))))))))))) (out_old (t := 0) rfl rfl (out_old (t := 3) rfl rfl (out_old (t := 8) rfl rfl (out_old (t := 9) rfl rfl (out_old (t := 12) rfl rfl (out_new (i := 2) (by decide) rfl rfl (out_new (i := 5) (by decide) rfl rfl (out_new (i := 15) (by decide) rfl rfl out_nil)))))))) fun _ _ s27 => ?_
   obtain ⟨g4, h11⟩ := guard_some h10; clear h10
   obtain ⟨x4, e_x4, h12⟩ := bind_some h11; clear h11
   refine qs s27 (.c1 rfl (ob_rowAt rfl Try.underlying40 sz39 (.tmp rfl) (.head _) (.tmp rfl) g4) .cz) fun _ _ s28 => ?_; clear s27
   refine seq_opx0 (B' := (fun _ : Unit => [RowF wr0 39 (karr 32 (kint .u8)) x4])) s28 rfl rfl (ob_rowStore (A := []) rfl tk39 (.tmp rfl) (.tmp rfl) rfl (LS.arrS e_x4) rfl) fun _ a29 w29 s29 => ?_; clear s28
   refine wn hK11 ?_
   have s30 := s29.sub (u 0 rfl (u 3 rfl (u 8 rfl (u 9 rfl (u 12 rfl .nil))))); clear s29
   obtain ⟨x5, e_x5, h13⟩ := bind_some h12; clear h12
   refine wp_region_lit (qs s30 (.c1 rfl (mv rfl rfl) (.c1 rfl (mv rfl rfl) (.c1 rfl (mv rfl rfl) (.c1 rfl (mv rfl rfl) (.c1 rfl (mv rfl rfl) .cz))))) fun _ _ s35 => ?_); clear s30
   refine qx (B' := (fun _ : Unit => [RowF wr0 39 (karr 32 (kint .u8)) x5])) s35 rfl (ob_callL0 (args := [_, _, _, _, _]) (L := [_]) rfl .direct hb186 (List.Perm.refl _) (fun a w s => by exact c_slices_siftDownCmpFunc_api_Key_queue_Wanted_1 k _ _ _ _ _ e_x5 _ _ _ _ _ _ _ _ (ownL s) (disL s) (nodL s) (s.arg (.tmp rfl)) (s.arg (.tmp rfl)) (s.arg (.tmp rfl)) (s.arg (.tmp rfl)) (s.arg (.tmp rfl))) (by exact fun _ => rfl)) fun _ _ _ s36 => ?_; clear s35
   refine wpList_nil ?_
   refine in_normal ?_
   refine then_normal (hK10 _ _ ?_)
   have s37 := s36.sub (u 0 rfl (u 3 rfl (u 8 rfl (u 9 rfl (u 12 rfl .nil))))); clear s36
   refine wp_region_lit (qs s37 (.c1 rfl (mv rfl rfl) (.c1 rfl (ob_sub rfl (.tmp rfl) (opd_int rfl)) (.c1 rfl (ob_assign rfl (.tmp rfl)) .cz))) fun _ _ s40 => ?_); clear s37
   refine wpList_nil ?_
   refine then_normal ?_
   exact hK7 ((isub .i64 y2 (1 : Int)), x5) _ _ h13 (s40.sub (.cons rfl (.cons rfl (.cons rfl (.cons rfl (.cons rfl .nil))))))
  ·have h14 := ite_f hc1 h3; clear h3
   refine wp_exit ?_
   refine (then_exit (then_exit (in_here ?_)))
   obtain rfl := Option.some.inj h14
   exact leaveXD (D := []) () s25 rfl (.inr rfl) rfl .nil rfl
 refine wp_block ?_
 refine wp_loop_fuel (fun m (q : Int × (List (List Int))) => slices_heapSortCmpFunc_api_Key_queue_Wanted_1.l2 k p3 p2 m q.1 q.2) r (fun _ => rfl) (fun q a w => St ⟨60, w0, ok, (idsOf [RowF wr0 39 (karr 32 (kint .u8)) p1])⟩ [RowF wr0 39 (karr 32 (kint .u8)) q.2] [(0, (is wr0)), (3, (is (.func (.func 115) #[] #[]))), (8, ((kint .i64).V p2)), (9, ((kint .i64).V (0 : Int))), (10, ((kint .i64).V (isub .i64 p3 p2))), (11, ((kint .i64).V q.1))] a w) ?_ k ((iquo .i64 (isub .i64 (isub .i64 p3 p2) (1 : Int)) (2 : Int)), p1) _ _ h0 (s16.sub (.cons rfl (.cons rfl (.cons rfl (.cons rfl (.cons rfl (.cons rfl .nil)))))))
 rintro n2 ⟨y4, y5⟩ a41 w41 h15 s41 K12 hK12
 replace h15 : slices_heapSortCmpFunc_api_Key_queue_Wanted_1.l2 k p3 p2 (n2 + 1) y4 y5 = some r := h15; rw [slices_heapSortCmpFunc_api_Key_queue_Wanted_1.l2] at h15
 have h16 := h15; clear h15
 refine wp_seq_k fun K13 hK13 => wp_seq_k fun K14 hK14 => ?_
 refine wp_region_lit (qs s41 (.c1 rfl (mv rfl rfl) (.c1 rfl (ob_geq rfl (.tmp rfl) (opd_int rfl)) (.ce (u 0 rfl (u 3 rfl (u 8 rfl (u 9 rfl (u 10 rfl (u 11 rfl (u 21 rfl .nil)))))))))) fun _ _ s44 => wn hK14 ?_); clear s41
 refine cond_split s44 (.tmp rfl) (fun hc2 => ?_) (fun hc2 => ?_)
 ·have h17 := ite_t hc2 h16; clear h16
  refine wp_skip ?_
  refine then_normal (hK13 _ _ ?_)
  have s45 := s44.sub (u 0 rfl (u 3 rfl (u 8 rfl (u 9 rfl (u 10 rfl (u 11 rfl .nil)))))); clear s44
  refine wp_seq_k fun K15 hK15 => wp_block ?_
  obtain ⟨x6, e_x6, h18⟩ := bind_some h17; clear h17
  refine wp_region_lit (qs s45 (.c1 rfl (mv rfl rfl) (.c1 rfl (mv rfl rfl) (.c1 rfl (mv rfl rfl) (.c1 rfl (mv rfl rfl) (.c1 rfl (mv rfl rfl) .cz))))) fun _ _ s50 => ?_); clear s45
  refine qx (B' := (fun _ : Unit => [RowF wr0 39 (karr 32 (kint .u8)) x6])) s50 rfl (ob_callL0 (args := [_, _, _, _, _]) (L := [_]) rfl .direct hb186 (List.Perm.refl _) (fun a w s => by exact c_slices_siftDownCmpFunc_api_Key_queue_Wanted_1 k _ _ _ _ _ e_x6 _ _ _ _ _ _ _ _ (ownL s) (disL s) (nodL s) (s.arg (.tmp rfl)) (s.arg (.tmp rfl)) (s.arg (.tmp rfl)) (s.arg (.tmp rfl)) (s.arg (.tmp rfl))) (by exact fun _ => rfl)) fun _ _ _ s51 => ?_; clear s50
  refine wpList_nil ?_
  refine in_normal ?_
  refine then_normal (hK15 _ _ ?_)
  have s52 := s51.sub (u 0 rfl (u 3 rfl (u 8 rfl (u 9 rfl (u 10 rfl (u 11 rfl .nil)))))); clear s51
  refine wp_region_lit (qs s52 (.c1 rfl (mv rfl rfl) (.c1 rfl (ob_sub rfl (.tmp rfl) (opd_int rfl)) (.c1 rfl (ob_assign rfl (.tmp rfl)) .cz))) fun _ _ s55 => ?_); clear s52
  refine wpList_nil ?_
  refine then_normal ?_
  exact hK12 ((isub .i64 y4 (1 : Int)), x6) _ _ h18 (s55.sub (.cons rfl (.cons rfl (.cons rfl (.cons rfl (.cons rfl (.cons rfl .nil)))))))
 ·have h19 := ite_f hc2 h16; clear h16
  refine wp_exit ?_
  refine (then_exit (then_exit (in_here ?_)))
  refine then_normal ?_
  exact hj1 y5 _ _ h19 (s44.sub (.cons rfl (.cons rfl (.cons rfl (.cons rfl (.cons rfl .nil))))))
theorem c_slices_nextPowerOfTwo (k : Nat) (p1 : Int) (r : Int) (h0 : slices_nextPowerOfTwo k p1 = some r) (ok : Ok) (w0 : World) (z0 : Value) (u0 : ((kint .i64).V p1).holds ok w0 z0) :
 Gives Try.prog 187 [z0] ok w0 (resFact [(kint .u64).V r]) := by
 unfold slices_nextPowerOfTwo at h0
 refine enter (N := 7) Try.func187 rfl rfl (of_decide_eq_true rfl) (.cons u0 .nil) fun a1 s1 => ?_
 refine wp_seq_k fun K1 hK1 => wp_region_lit (qs s1 (.c1 rfl (ob_assign rfl (opd_int rfl)) (.ce (u 0 rfl .nil))) fun _ _ s3 => wn hK1 ?_); clear s1
 obtain ⟨x1, e_x1, h1⟩ := bind_some h0; clear h0
 obtain ⟨g1, h2⟩ := guard_some h1; clear h1
 refine wp_seq_k fun K2 hK2 => wp_region_lit (qs s3 (.c1 rfl (mv rfl rfl) (.c1 rfl (ob_conv rfl _ Try.underlying3 Try.underlying37 (.tmp rfl)) (.c1 rfl (ob_callD0 (args := [_]) rfl .direct hb146 (fun a w s => by exact c_math_bits_Len k _ _ e_x1 _ _ _ (s.arg (.tmp rfl)))) (.c1 rfl (ob_shl rfl (opd_int rfl) (.tmp rfl) g1) (.c1 rfl (ob_assign rfl (.tmp rfl)) (.ce (u 2 rfl .nil))))))) fun _ _ s9 => wn hK2 ?_); clear s3
 refine wp_ret ?_
 obtain rfl := Option.some.inj h2
 exact leave s9 (.inl rfl) rfl (.cons (.tmp rfl) .nil)
theorem c_slices_xorshift_Next (k : Nat) (p1 : Int) (r : (Int × Int)) (h0 : slices_xorshift_Next k p1 = some r) (ok : Ok) (w0 : World) (z0 : Value) (b00 : Nat) (l0 : ∀ q, q ∈ [BF b00 192 (kint .u64) p1] → q.holds ok w0) (d0 : ∀ c, c ∈ idsOf [BF b00 192 (kint .u64) p1] → ¬ ok c) (nd : (idsOf [BF b00 192 (kint .u64) p1]).Nodup) (u0 : (ptrB b00 0).holds ok w0 z0) :
 GivesX Try.prog 188 [z0] ok w0 [BF b00 192 (kint .u64) p1] (fun g : Unit => resFact [(kint .u64).V r.1]) (fun g : Unit => [BF b00 192 (kint .u64) r.2]) := by
 unfold slices_xorshift_Next at h0
 refine enterX (N := 33) Try.func188 rfl rfl (of_decide_eq_true rfl) (.cons u0 .nil) nd l0 d0 fun a1 s1 => ?_
 refine wp_seq_k fun K1 hK1 => wp_region_lit (qs s1 (.c1 rfl (ob_assign rfl (opd_int rfl)) (.ce (u 0 rfl .nil))) fun _ _ s3 => wn hK1 ?_); clear s1
 refine wp_seq_k fun K2 hK2 => ?_
 refine wp_goes (Fs := [(ptrB b00 0), (ptrB b00 0), ((kint .u64).V p1), (ptrB b00 0), (ptrB b00 0), ((kint .u64).V p1), ((kint .u64).V (ishl .u64 p1 (13 : Int)))]) (bits := [0, 1, 3, 0, 8, 24, 56, 127, 255, 511]) (m := 7) (todo := 0) mx s3 ?_; clear s3
 refine goes_last (by kernel_rfl) rfl (oc (av 0 rfl rfl Av.nil) rfl rfl (mv rfl rfl) (oc (an 0 rfl rfl rfl Av.nil) rfl rfl (ob_nilCheck rfl (.tmp rfl)) (oc (an 1 rfl rfl rfl Av.nil) rfl rfl (ob_load rfl tk192 (.tmp rfl) (.head _) (LG.refl _ _)) (oc (av 0 rfl rfl Av.nil) rfl rfl (mv rfl rfl) (oc (an 3 rfl rfl rfl Av.nil) rfl rfl (ob_nilCheck rfl (.tmp rfl)) (oc (an 4 rfl rfl rfl Av.nil) rfl rfl (ob_load rfl tk192 (.tmp rfl) (.head _) (LG.refl _ _)) (oc (an 5 rfl rfl rfl Av.nil) rfl rfl (ob_shl rfl (.tmp rfl) (opd_int rfl) (by decide)) opsS_nil))))))) (out_old (t := 0) rfl rfl (out_new (i := 0) (by decide) rfl rfl (out_new (i := 2) (by decide) rfl rfl (out_new (i := 6) (by decide) rfl rfl out_nil)))) fun _ _ s4 => ?_
 refine qs s4 (.c1 rfl (ob_xor rfl (.tmp rfl) (.tmp rfl)) (.c1 rfl (ob_nilCheck rfl (.tmp rfl)) .cz)) fun _ _ s6 => ?_; clear s4
 refine seq_opx0 (B' := (fun _ : Unit => [BF b00 192 (kint .u64) (ixor .u64 p1 (ishl .u64 p1 (13 : Int)))])) s6 rfl rfl (ob_store (A := []) rfl tk192 (.tmp rfl) (.tmp rfl) rfl (LS.refl _ _ _) rfl) fun _ a7 w7 s7 => ?_; clear s6
 refine wn hK2 ?_
 have s8 := s7.sub (u 0 rfl .nil); clear s7
 refine wp_seq_k fun K3 hK3 => ?_
 refine wp_goes (Fs := [(ptrB b00 0), (ptrB b00 0), ((kint .u64).V (ixor .u64 p1 (ishl .u64 p1 (13 : Int)))), (ptrB b00 0), (ptrB b00 0), ((kint .u64).V (ixor .u64 p1 (ishl .u64 p1 (13 : Int)))), ((kint .u64).V (ishr .u64 (ixor .u64 p1 (ishl .u64 p1 (13 : Int))) (7 : Int)))]) (bits := [0, 1, 3, 0, 8, 24, 56, 127, 255, 511]) (m := 7) (todo := 0) mx s8 ?_; clear s8
 refine goes_last (by kernel_rfl) rfl (oc (av 0 rfl rfl Av.nil) rfl rfl (mv rfl rfl) (oc (an 0 rfl rfl rfl Av.nil) rfl rfl (ob_nilCheck rfl (.tmp rfl)) (oc (an 1 rfl rfl rfl Av.nil) rfl rfl (ob_load rfl tk192 (.tmp rfl) (.head _) (LG.refl _ _)) (oc (av 0 rfl rfl Av.nil) rfl rfl (mv rfl rfl) (oc (an 3 rfl rfl rfl Av.nil) rfl rfl (ob_nilCheck rfl (.tmp rfl)) (oc (an 4 rfl rfl rfl Av.nil) rfl rfl (ob_load rfl tk192 (.tmp rfl) (.head _) (LG.refl _ _)) (oc (an 5 rfl rfl rfl Av.nil) rfl rfl (ob_shr rfl (.tmp rfl) (opd_int rfl) (by decide)) opsS_nil))))))) (out_old (t := 0) rfl rfl (out_new (i := 0) (by decide) rfl rfl (out_new (i := 2) (by decide) rfl rfl (out_new (i := 6) (by decide) rfl rfl out_nil)))) fun _ _ s9 => ?_
 obtain ⟨x1, e_x1, h1⟩ := bind_some h0; clear h0; replace e_x1 := Option.some.inj e_x1
 refine qs s9 (.c1 rfl ((ob_xor rfl (.tmp rfl) (.tmp rfl)).nm e_x1) (.c1 rfl (ob_nilCheck rfl (.tmp rfl)) .cz)) fun _ _ s11 => ?_; clear s9
 refine seq_opx0 (B' := (fun _ : Unit => [BF b00 192 (kint .u64) x1])) s11 rfl rfl (ob_store (A := []) rfl tk192 (.tmp rfl) (.tmp rfl) rfl (LS.refl _ _ _) rfl) fun _ a12 w12 s12 => ?_; clear s11
 refine wn hK3 ?_
 have s13 := s12.sub (u 0 rfl .nil); clear s12
 refine wp_seq_k fun K4 hK4 => ?_
 refine wp_goes (Fs := [(ptrB b00 0), (ptrB b00 0), ((kint .u64).V x1), (ptrB b00 0), (ptrB b00 0), ((kint .u64).V x1), ((kint .u64).V (ishl .u64 x1 (17 : Int)))]) (bits := [0, 1, 3, 0, 8, 24, 56, 127, 255, 511]) (m := 7) (todo := 0) mx s13 ?_; clear s13
 refine goes_last (by kernel_rfl) rfl (oc (av 0 rfl rfl Av.nil) rfl rfl (mv rfl rfl) (oc (an 0 rfl rfl rfl Av.nil) rfl rfl (ob_nilCheck rfl (.tmp rfl)) (oc (an 1 rfl rfl rfl Av.nil) rfl rfl (ob_load rfl tk192 (.tmp rfl) (.head _) (LG.refl _ _)) (oc (av 0 rfl rfl Av.nil) rfl rfl (mv rfl rfl) (oc (an 3 rfl rfl rfl Av.nil) rfl rfl (ob_nilCheck rfl (.tmp rfl)) (oc (an 4 rfl rfl rfl Av.nil) rfl rfl (ob_load rfl tk192 (.tmp rfl) (.head _) (LG.refl _ _)) (oc (an 5 rfl rfl rfl Av.nil) rfl rfl (ob_shl rfl (.tmp rfl) (opd_int rfl) (by decide)) opsS_nil))))))) (out_old (t := 0) rfl rfl (out_new (i := 0) (by decide) rfl rfl (out_new (i := 2) (by decide) rfl rfl (out_new (i := 6) (by decide) rfl rfl out_nil)))) fun _ _ s14 => ?_
 refine qs s14 (.c1 rfl (ob_xor rfl (.tmp rfl) (.tmp rfl)) (.c1 rfl (ob_nilCheck rfl (.tmp rfl)) .cz)) fun _ _ s16 => ?_; clear s14
 refine seq_opx0 (B' := (fun _ : Unit => [BF b00 192 (kint .u64) (ixor .u64 x1 (ishl .u64 x1 (17 : Int)))])) s16 rfl rfl (ob_store (A := []) rfl tk192 (.tmp rfl) (.tmp rfl) rfl (LS.refl _ _ _) rfl) fun _ a17 w17 s17 => ?_; clear s16
 refine wn hK4 ?_
 have s18 := s17.sub (u 0 rfl .nil); clear s17
 refine wp_seq_k fun K5 hK5 => wp_region_lit (qs s18 (.c1 rfl (mv rfl rfl) (.c1 rfl (ob_nilCheck rfl (.tmp rfl)) (.c1 rfl (ob_load rfl tk192 (.tmp rfl) (.head _) (LG.refl _ _)) (.c1 rfl (ob_assign rfl (.tmp rfl)) (.ce (u 2 rfl .nil)))))) fun _ _ s23 => wn hK5 ?_); clear s18
 refine wp_ret ?_
 obtain rfl := Option.some.inj h1
 exact leaveXD (D := []) () s23 rfl (.inl rfl) rfl (.cons (.tmp rfl) .nil) rfl
theorem c_slices_breakPatternsCmpFunc_api_Key_queue_Wanted_1 (k : Nat) (p1 : (List (List Int))) (p2 : Int) (p3 : Int) (r : (List (List Int))) (h0 : slices_breakPatternsCmpFunc_api_Key_queue_Wanted_1 k p1 p2 p3 = some r) (ok : Ok) (w0 : World) (z0 : Value) (z1 : Value) (z2 : Value) (z3 : Value) (wr0 : Value) (l0 : ∀ q, q ∈ [RowF wr0 39 (karr 32 (kint .u8)) p1] → q.holds ok w0) (d0 : ∀ c, c ∈ idsOf [RowF wr0 39 (karr 32 (kint .u8)) p1] → ¬ ok c) (nd : (idsOf [RowF wr0 39 (karr 32 (kint .u8)) p1]).Nodup) (u0 : (is wr0).holds ok w0 z0) (u1 : ((kint .i64).V p2).holds ok w0 z1) (u2 : ((kint .i64).V p3).holds ok w0 z2) (u3 : (is (.func (.func 115) #[] #[])).holds ok w0 z3) :
 GivesX Try.prog 167 [z0, z1, z2, z3] ok w0 [RowF wr0 39 (karr 32 (kint .u8)) p1] (fun g : Unit => resFact []) (fun g : Unit => [RowF wr0 39 (karr 32 (kint .u8)) r]) := by
 unfold slices_breakPatternsCmpFunc_api_Key_queue_Wanted_1 at h0
 refine enterX (N := 67) Try.func167 rfl rfl (of_decide_eq_true rfl) (.cons u0 (.cons u1 (.cons u2 (.cons u3 .nil)))) nd l0 d0 fun a1 s1 => ?_
 refine wp_seq_k fun K1 hK1 => wp_region_lit (qs s1 (.c1 rfl (mv rfl rfl) (.c1 rfl (mv rfl rfl) (.c1 rfl (ob_sub rfl (.tmp rfl) (.tmp rfl)) (.c1 rfl (ob_assign rfl (.tmp rfl)) (.ce (u 0 rfl (u 1 rfl (u 8 rfl .nil)))))))) fun _ _ s6 => wn hK1 ?_); clear s1
 refine wp_seq_k fun K2 hK2 => wp_region_lit (qs s6 (.c1 rfl (mv rfl rfl) (.c1 rfl (ob_geq rfl (.tmp rfl) (opd_int rfl)) (.ce (u 0 rfl (u 1 rfl (u 8 rfl (u 17 rfl .nil))))))) fun _ _ s9 => wn hK2 ?_); clear s6
 refine cond_split s9 (.tmp rfl) (fun hc1 => ?_) (fun hc1 => ?_)
 ·have h1 := ite_t hc1 h0; clear h0
  refine wp_seq_k fun K3 hK3 => wp_region_lit (qs s9 (.c1 rfl (mv rfl rfl) (.c1 rfl (ob_conv rfl _ Try.underlying3 Try.underlying192 (.tmp rfl)) .cz)) fun _ _ s11 => ?_); clear s9
  refine qx (B' := (fun b1 : Nat => [BF b1 192 (kint .u64) (0 : Int), RowF wr0 39 (karr 32 (kint .u8)) p1])) s11 rfl (ob_new (k := (kint .u64)) rfl zz192 (Zr.int .u64)) fun b1 _ _ s12 => ?_; clear s11
  refine seq_opx0 (B' := (fun _ : Unit => [BF b1 192 (kint .u64) (IntKind.wrap .u64 (isub .i64 p3 p2)), RowF wr0 39 (karr 32 (kint .u8)) p1])) s12 rfl rfl (ob_store (A := []) rfl tk192 (.tmp rfl) (.tmp rfl) rfl (LS.refl _ _ _) rfl) fun _ a13 w13 s13 => ?_; clear s12
  refine wn hK3 ?_
  have s14 := s13.sub (u 0 rfl (u 1 rfl (u 8 rfl (u 9 rfl .nil)))); clear s13
  obtain ⟨x1, e_x1, h2⟩ := bind_some h1; clear h1
  refine wp_seq_k fun K4 hK4 => wp_region_lit (qs s14 (.c1 rfl (mv rfl rfl) (.c1 rfl (ob_callD0 (args := [_]) rfl .direct hb187 (fun a w s => by exact c_slices_nextPowerOfTwo k _ _ e_x1 _ _ _ (s.arg (.tmp rfl)))) (.c1 rfl (ob_assign rfl (.tmp rfl)) (.ce (u 0 rfl (u 1 rfl (u 8 rfl (u 9 rfl (u 10 rfl .nil))))))))) fun _ _ s18 => wn hK4 ?_); clear s14
  obtain ⟨x2, e_x2, h3⟩ := bind_some h2; clear h2; replace e_x2 := Option.some.inj e_x2
  refine wp_seq_k fun K5 hK5 => wp_region_lit (qs s18 (.c1 rfl (mv rfl rfl) (.c1 rfl (mv rfl rfl) (.c1 rfl (ob_quo rfl (.tmp rfl) (opd_int rfl) (by decide)) (.c1 rfl (ob_mul rfl (.tmp rfl) (opd_int rfl)) (.c1 rfl ((ob_add rfl (.tmp rfl) (.tmp rfl)).nm e_x2) (.c1 rfl (ob_sub rfl (.tmp rfl) (opd_int rfl)) (.c1 rfl (ob_assign rfl (.tmp rfl)) (.ce (u 0 rfl (u 1 rfl (u 8 rfl (u 9 rfl (u 10 rfl (u 11 rfl .nil)))))))))))))) fun _ _ s26 => wn hK5 ?_); clear s18
  refine wp_block ?_
  refine wp_loop_fuel (fun m (q : Int × Int × (List (List Int))) => slices_breakPatternsCmpFunc_api_Key_queue_Wanted_1.l1 k p2 p3 x1 m q.1 q.2.1 q.2.2) r (fun _ => rfl) (fun q a w => St ⟨67, w0, ok, (idsOf [RowF wr0 39 (karr 32 (kint .u8)) p1])⟩ [BF b1 192 (kint .u64) q.2.1, RowF wr0 39 (karr 32 (kint .u8)) q.2.2] [(0, (is wr0)), (1, ((kint .i64).V p2)), (8, ((kint .i64).V (isub .i64 p3 p2))), (9, (ptrB b1 0)), (10, ((kint .u64).V x1)), (11, ((kint .i64).V q.1))] a w) ?_ k ((isub .i64 x2 (1 : Int)), (IntKind.wrap .u64 (isub .i64 p3 p2)), p1) _ _ h3 (s26.sub (.cons rfl (.cons rfl (.cons rfl (.cons rfl (.cons rfl (.cons rfl .nil)))))))
  rintro n1 ⟨y1, y2, y3⟩ a27 w27 h4 s27 K6 hK6
  replace h4 : slices_breakPatternsCmpFunc_api_Key_queue_Wanted_1.l1 k p2 p3 x1 (n1 + 1) y1 y2 y3 = some r := h4; rw [slices_breakPatternsCmpFunc_api_Key_queue_Wanted_1.l1] at h4
  have h5 := h4; clear h4
  refine wp_seq_k fun K7 hK7 => wp_seq_k fun K8 hK8 => ?_
  obtain ⟨x3, e_x3, h6⟩ := bind_some h5; clear h5; replace e_x3 := Option.some.inj e_x3
  refine wp_region_lit (qs s27 (.c1 rfl (mv rfl rfl) (.c1 rfl (mv rfl rfl) (.c1 rfl (mv rfl rfl) (.c1 rfl (ob_quo rfl (.tmp rfl) (opd_int rfl) (by decide)) (.c1 rfl (ob_mul rfl (.tmp rfl) (opd_int rfl)) (.c1 rfl ((ob_add rfl (.tmp rfl) (.tmp rfl)).nm e_x3) (.c1 rfl (ob_add rfl (.tmp rfl) (opd_int rfl)) (.c1 rfl (ob_leq rfl (.tmp rfl) (.tmp rfl)) (.ce (u 0 rfl (u 1 rfl (u 8 rfl (u 9 rfl (u 10 rfl (u 11 rfl (u 35 rfl .nil)))))))))))))))) fun _ _ s36 => wn hK8 ?_); clear s27
  refine cond_split s36 (.tmp rfl) (fun hc2 => ?_) (fun hc2 => ?_)
  ·have h7 := ite_t hc2 h6; clear h6
   refine wp_skip ?_
   refine then_normal (hK7 _ _ ?_)
   have s37 := s36.sub (u 0 rfl (u 1 rfl (u 8 rfl (u 9 rfl (u 10 rfl (u 11 rfl .nil)))))); clear s36
   refine wp_seq_k fun K9 hK9 => wp_block ?_
   refine wp_seq_k fun K10 hK10 => wp_region_lit ?_
   obtain ⟨x4, e_x4, h8⟩ := bind_some h7; clear h7
   refine qx (B' := (fun _ : Unit => [BF b1 192 (kint .u64) x4.2, RowF wr0 39 (karr 32 (kint .u8)) y3])) s37 rfl (ob_callL0 (args := [_]) (L := [_]) rfl .direct hb188 (List.Perm.refl _) (fun a w s => by exact c_slices_xorshift_Next k _ _ e_x4 _ _ _ _ (ownL s) (disL s) (nodL s) (s.arg (.tmp rfl))) (by exact fun _ => rfl)) fun _ _ _ s38 => ?_; clear s37
   refine qs s38 (.c1 rfl (mv rfl rfl) (.c1 rfl (ob_sub rfl (.tmp rfl) (opd_int rfl)) (.c1 rfl (ob_and rfl (.tmp rfl) (.tmp rfl)) (.c1 rfl (ob_conv rfl _ Try.underlying37 Try.underlying3 (.tmp rfl)) (.c1 rfl (ob_assign rfl (.tmp rfl)) (.ce (u 0 rfl (u 1 rfl (u 8 rfl (u 9 rfl (u 10 rfl (u 11 rfl (u 12 rfl .nil))))))))))))) fun _ _ s44 => wn hK10 ?_; clear s38
   refine wp_seq_k fun K11 hK11 => wp_seq_k fun K12 hK12 => ?_
   obtain ⟨x5, e_x5, h9⟩ := bind_some h8; clear h8; replace e_x5 := Option.some.inj e_x5
   refine wp_region_lit (qs s44 (.c1 rfl (mv rfl rfl) (.c1 rfl (mv rfl rfl) (.c1 rfl ((ob_geq rfl (.tmp rfl) (.tmp rfl)).nm e_x5) (.ce (u 0 rfl (u 1 rfl (u 8 rfl (u 9 rfl (u 10 rfl (u 11 rfl (u 12 rfl (u 45 rfl .nil)))))))))))) fun _ _ s48 => wn hK12 ?_); clear s44
   have hj1 : ∀ (y4 : Int) (a : Act) (w : World), (slices_breakPatternsCmpFunc_api_Key_queue_Wanted_1.j1 k p2 y3 y1 x4 (slices_breakPatternsCmpFunc_api_Key_queue_Wanted_1.l1 k p2 p3 x1 n1)) y4 = some r → St ⟨67, w0, ok, (idsOf [RowF wr0 39 (karr 32 (kint .u8)) p1])⟩ [BF b1 192 (kint .u64) x4.2, RowF wr0 39 (karr 32 (kint .u8)) y3] [(0, (is wr0)), (1, ((kint .i64).V p2)), (8, ((kint .i64).V (isub .i64 p3 p2))), (9, (ptrB b1 0)), (10, ((kint .u64).V x1)), (11, ((kint .i64).V y1)), (12, ((kint .i64).V y4))] a w → K11 a w := by
    intro y4 a49 w49 h10 s49
    unfold slices_breakPatternsCmpFunc_api_Key_queue_Wanted_1.j1 at h10
    refine hK11 _ _ ?_
    obtain ⟨g1, h11⟩ := guard_some h10; clear h10
    obtain ⟨x6, e_x6, h12⟩ := bind_some h11; clear h11
    obtain ⟨g2, h13⟩ := guard_some h12; clear h12
    obtain ⟨x7, e_x7, h14⟩ := bind_some h13; clear h13
    obtain ⟨g3, h15⟩ := guard_some h14; clear h14
    obtain ⟨x8, e_x8, h16⟩ := bind_some h15; clear h15
    refine wp_goes (Fs := [(is wr0), ((kint .i64).V y1), (is wr0), ((kint .i64).V p2), ((kint .i64).V y4), ((kint .i64).V (iadd .i64 p2 y4)), (is wr0), ((kint .i64).V p2), ((kint .i64).V y4), ((kint .i64).V (iadd .i64 p2 y4)), (ptrR wr0 ((iadd .i64 p2 y4).toNat * 32)), ((karr 32 (kint .u8)).V x6), (is wr0), ((kint .i64).V y1), (ptrR wr0 (y1.toNat * 32)), ((karr 32 (kint .u8)).V x7), (ptrR wr0 (y1.toNat * 32)), nofact]) (bits := [0, 0, 0, 0, 0, 24, 0, 0, 0, 384, 960, 1984, 0, 0, 12288, 28672, 65475, 131011, 262143, 524287]) (m := 18) (todo := 131072) mx s49 ?_; clear s49
    refine goes_turn (B' := (fun _ : Unit => [BF b1 192 (kint .u64) x4.2, RowF wr0 39 (karr 32 (kint .u8)) x8])) (Fs' := (fun _ : Unit => setAll ([(is wr0), ((kint .i64).V y1), (is wr0), ((kint .i64).V p2), ((kint .i64).V y4), ((kint .i64).V (iadd .i64 p2 y4)), (is wr0), ((kint .i64).V p2), ((kint .i64).V y4), ((kint .i64).V (iadd .i64 p2 y4)), (ptrR wr0 ((iadd .i64 p2 y4).toNat * 32)), ((karr 32 (kint .u8)).V x6), (is wr0), ((kint .i64).V y1), (ptrR wr0 (y1.toNat * 32)), ((karr 32 (kint .u8)).V x7), (ptrR wr0 (y1.toNat * 32)), nofact]) [(17, nofact)])) 17 131072 262083 0 (by kernel_rfl) rfl rfl rfl (oc (av 0 rfl rfl Av.nil) rfl rfl (mv rfl rfl) (oc (av 11 rfl rfl Av.nil) rfl rfl (mv rfl rfl) (oc (av 0 rfl rfl Av.nil) rfl rfl (mv rfl rfl) (oc (av 1 rfl rfl Av.nil) rfl rfl (mv rfl rfl) (oc (av 12 rfl rfl Av.nil) rfl rfl (mv rfl rfl) (oc (an 3 rfl rfl rfl (an 4 rfl rfl rfl Av.nil)) rfl rfl (ob_add rfl (.tmp rfl) (.tmp rfl)) (oc (av 0 rfl rfl Av.nil) rfl rfl (mv rfl rfl) (oc (av 1 rfl rfl Av.nil) rfl rfl (mv rfl rfl) (oc (av 12 rfl rfl Av.nil) rfl rfl (mv rfl rfl) (oc (an 7 rfl rfl rfl (an 8 rfl rfl rfl Av.nil)) rfl rfl (ob_add rfl (.tmp rfl) (.tmp rfl)) (oc (an 6 rfl rfl rfl (an 9 rfl rfl rfl Av.nil)) rfl rfl (ob_rowAt rfl Try.underlying40 sz39 (.tmp rfl) (.tail _ (.head _)) (.tmp rfl) g1) (oc (an 10 rfl rfl rfl Av.nil) rfl rfl (ob_rowLoad rfl tk39 (.tmp rfl) (.tail _ (.head _)) (LG.arrA e_x6)) (oc (av 0 rfl rfl Av.nil) rfl rfl (mv rfl rfl) (oc (av 11 rfl rfl Av.nil) rfl rfl (mv rfl rfl) (oc (an 12 rfl rfl rfl (an 13 rfl rfl rfl Av.nil)) rfl rfl (ob_rowAt rfl Try.underlying40 sz39 (.tmp rfl) (.tail _ (.head _)) (.tmp rfl) g2) (oc (an 14 rfl rfl rfl Av.nil) rfl rfl (ob_rowLoad rfl tk39 (.tmp rfl) (.tail _ (.head _)) (LG.arrA e_x7)) (oc (an 0 rfl rfl rfl (an 1 rfl rfl rfl Av.nil)) rfl rfl (ob_rowAt rfl Try.underlying40 sz39 (.tmp rfl) (.tail _ (.head _)) (.tmp rfl) g3) (opsS_skip (by rfl) opsS_nil)))))))))))))))))) (.plain _ (an 11 rfl rfl rfl (an 16 rfl rfl rfl Av.nil)) rfl (fun _ => rfl) (fun R => ob_rowStore (A := [_]) rfl tk39 (.tmp rfl) (.tmp rfl) rfl (LS.arrS e_x8) rfl)) (setAll_same (us := (fun _ : Unit => [(17, nofact)])) fun _ => by kernel_rfl) fun _ => ?_
    refine goes_last (by kernel_rfl) rfl (opsS_skip (by rfl) (opsS_skip (by rfl) (oc (av 0 rfl rfl Av.nil) rfl rfl (mv rfl rfl) (oc (av 1 rfl rfl Av.nil) rfl rfl (mv rfl rfl) (oc (av 12 rfl rfl Av.nil) rfl rfl (mv rfl rfl) (oc (an 3 rfl rfl rfl (an 4 rfl rfl rfl Av.nil)) rfl rfl (ob_add rfl (.tmp rfl) (.tmp rfl)) (opsS_skip (by rfl) (opsS_skip (by rfl) (opsS_skip (by rfl) (opsS_skip (by rfl) (opsS_skip (by rfl) (opsS_skip (by rfl) (opsS_skip (by rfl) (opsS_skip (by rfl) (opsS_skip (by rfl) (opsS_skip (by rfl) (opsS_skip (by rfl) (opsS_skip (by rfl) opsS_nil)))))))))))))))))) (out_old (t := 0) rfl rfl (out_old (t := 1) rfl rfl (out_old (t := 8) rfl rfl (out_old (t := 9) rfl rfl (out_old (t := 10) rfl rfl (out_old (t := 11) rfl rfl (out_new (i := 2) (by decide) rfl rfl (out_new (i := 5) (by decide) rfl rfl (out_new (i := 15) (by decide) rfl rfl out_nil))))))))) fun _ _ s50 => ?_
    obtain ⟨g4, h17⟩ := guard_some h16; clear h16
    obtain ⟨x9, e_x9, h18⟩ := bind_some h17; clear h17
    refine qs s50 (.c1 rfl (ob_rowAt rfl Try.underlying40 sz39 (.tmp rfl) (.tail _ (.head _)) (.tmp rfl) g4) .cz) fun _ _ s51 => ?_; clear s50
    refine seq_opx0 (B' := (fun _ : Unit => [BF b1 192 (kint .u64) x4.2, RowF wr0 39 (karr 32 (kint .u8)) x9])) s51 rfl rfl (ob_rowStore (A := [_]) rfl tk39 (.tmp rfl) (.tmp rfl) rfl (LS.arrS e_x9) rfl) fun _ a52 w52 s52 => ?_; clear s51
    refine wpList_nil ?_
    refine in_normal ?_
    refine then_normal (hK9 _ _ ?_)
    have s53 := s52.sub (u 0 rfl (u 1 rfl (u 8 rfl (u 9 rfl (u 10 rfl (u 11 rfl .nil)))))); clear s52
    refine wp_region_lit (qs s53 (.c1 rfl (mv rfl rfl) (.c1 rfl (ob_add rfl (.tmp rfl) (opd_int rfl)) (.c1 rfl (ob_assign rfl (.tmp rfl)) .cz))) fun _ _ s56 => ?_); clear s53
    refine wpList_nil ?_
    refine then_normal ?_
    exact hK6 ((iadd .i64 y1 (1 : Int)), x4.2, x9) _ _ h18 (s56.sub (.cons rfl (.cons rfl (.cons rfl (.cons rfl (.cons rfl (.cons rfl .nil)))))))
   refine cond_split s48 (.tmp rfl) (fun hc3 => ?_) (fun hc3 => ?_)
   ·have h19 := ite_t hc3 h9; clear h9
    obtain ⟨x10, e_x10, h20⟩ := bind_some h19; clear h19; replace e_x10 := Option.some.inj e_x10
    refine wp_region_lit (qs s48 (.c1 rfl (mv rfl rfl) (.c1 rfl (mv rfl rfl) (.c1 rfl ((ob_sub rfl (.tmp rfl) (.tmp rfl)).nm e_x10) (.c1 rfl (ob_assign rfl (.tmp rfl)) .cz)))) fun _ _ s60 => ?_); clear s48
    refine wpList_nil ?_
    refine then_normal ?_
    exact hj1 x10 _ _ h20 (s60.sub (.cons rfl (.cons rfl (.cons rfl (.cons rfl (.cons rfl (.cons rfl (.cons rfl .nil))))))))
   ·have h21 := ite_f hc3 h9; clear h9
    refine wp_skip ?_
    refine then_normal ?_
    exact hj1 (IntKind.wrap .i64 (iand .u64 x4.1 (isub .u64 x1 (1 : Int)))) _ _ h21 (s48.sub (.cons rfl (.cons rfl (.cons rfl (.cons rfl (.cons rfl (.cons rfl (.cons rfl .nil))))))))
  ·have h22 := ite_f hc2 h6; clear h6
   refine wp_exit ?_
   refine (then_exit (then_exit (in_here ?_)))
   have s61 := s36.perm (toFront [_] (List.Perm.refl _)); clear s36
   obtain rfl := Option.some.inj h22
   exact leaveXD (D := [_]) () s61 rfl (.inr rfl) rfl .nil rfl
 ·have h23 := ite_f hc1 h0; clear h0
  refine wp_skip ?_
  obtain rfl := Option.some.inj h23
  exact leaveXD (D := []) () s9 rfl (.inr rfl) rfl .nil rfl
theorem c_slices_order2CmpFunc_api_Key_queue_Wanted_1 (k : Nat) (p1 : (List (List Int))) (p2 : Int) (p3 : Int) (p4 : Int) (r : (Int × Int × Int)) (h0 : slices_order2CmpFunc_api_Key_queue_Wanted_1 k p1 p2 p3 p4 = some r) (ok : Ok) (w0 : World) (z0 : Value) (z1 : Value) (z2 : Value) (z3 : Value) (z4 : Value) (b00 : Nat) (l0 : ∀ q, q ∈ [BF b00 3 (kint .i64) p4] → q.holds ok w0) (d0 : ∀ c, c ∈ idsOf [BF b00 3 (kint .i64) p4] → ¬ ok c) (nd : (idsOf [BF b00 3 (kint .i64) p4]).Nodup) (u0 : ((ksl (karr 32 (kint .u8))).V p1).holds ok w0 z0) (u1 : ((kint .i64).V p2).holds ok w0 z1) (u2 : ((kint .i64).V p3).holds ok w0 z2) (u3 : (ptrB b00 0).holds ok w0 z3) (u4 : (is (.func (.func 115) #[] #[])).holds ok w0 z4) :
 GivesX Try.prog 194 [z0, z1, z2, z3, z4] ok w0 [BF b00 3 (kint .i64) p4] (fun g : Unit => resFact [(kint .i64).V r.1, (kint .i64).V r.2.1]) (fun g : Unit => [BF b00 3 (kint .i64) r.2.2]) := by
 unfold slices_order2CmpFunc_api_Key_queue_Wanted_1 at h0
 refine enterX (N := 32) Try.func194 rfl rfl (of_decide_eq_true rfl) (.cons u0 (.cons u1 (.cons u2 (.cons u3 (.cons u4 .nil))))) nd l0 d0 fun a1 s1 => ?_
 refine wp_seq_k fun K1 hK1 => wp_region_lit (qs s1 (.c1 rfl (ob_assign rfl (opd_int rfl)) (.c1 rfl (ob_assign rfl (opd_int rfl)) (.ce (u 0 rfl (u 1 rfl (u 2 rfl (u 3 rfl (u 4 rfl .nil)))))))) fun _ _ s4 => wn hK1 ?_); clear s1
 refine wp_seq_k fun K2 hK2 => wp_seq_k fun K3 hK3 => ?_
 obtain ⟨x1, e_x1, h1⟩ := bind_some h0; clear h0
 obtain ⟨x2, e_x2, h2⟩ := bind_some h1; clear h1
 refine wp_goes (Fs := [(is (.func (.func 115) #[] #[])), ((ksl (karr 32 (kint .u8))).V p1), ((kint .i64).V p3), (ptrTo (karr 32 (kint .u8)) x1), ((karr 32 (kint .u8)).V x1), ((ksl (karr 32 (kint .u8))).V p1), ((kint .i64).V p2), (ptrTo (karr 32 (kint .u8)) x2), ((karr 32 (kint .u8)).V x2)]) (bits := [0, 0, 0, 6, 14, 0, 0, 96, 224, 511, 1023]) (m := 9) (todo := 0) mx s4 ?_; clear s4
 refine goes_last (by kernel_rfl) rfl (oc (av 4 rfl rfl Av.nil) rfl rfl (mv rfl rfl) (oc (av 0 rfl rfl Av.nil) rfl rfl (mv rfl rfl) (oc (av 2 rfl rfl Av.nil) rfl rfl (mv rfl rfl) (oc (an 1 rfl rfl rfl (an 2 rfl rfl rfl Av.nil)) rfl rfl (ob_indexAddrs rfl Try.underlying40 sz39 (.tmp rfl) (.tmp rfl) e_x1) (oc (an 3 rfl rfl rfl Av.nil) rfl rfl (ob_loadr rfl tk39 (.tmp rfl)) (oc (av 0 rfl rfl Av.nil) rfl rfl (mv rfl rfl) (oc (av 1 rfl rfl Av.nil) rfl rfl (mv rfl rfl) (oc (an 5 rfl rfl rfl (an 6 rfl rfl rfl Av.nil)) rfl rfl (ob_indexAddrs rfl Try.underlying40 sz39 (.tmp rfl) (.tmp rfl) e_x2) (oc (an 7 rfl rfl rfl Av.nil) rfl rfl (ob_loadr rfl tk39 (.tmp rfl)) opsS_nil))))))))) (out_old (t := 1) rfl rfl (out_old (t := 2) rfl rfl (out_old (t := 3) rfl rfl (out_new (i := 0) (by decide) rfl rfl (out_new (i := 4) (by decide) rfl rfl (out_new (i := 8) (by decide) rfl rfl out_nil)))))) fun _ _ s5 => ?_
 obtain ⟨x3, e_x3, h3⟩ := bind_some h2; clear h2
 refine qs s5 (.c1 rfl (ob_callD0 (args := [_, _]) rfl (.fn (.tmp rfl)) hb115 (fun a w s => by exact c_queue_Wanted_1 k _ _ _ e_x3 _ _ _ _ (s.arg (.tmp rfl)) (s.arg (.tmp rfl)))) (.c1 rfl (ob_lss rfl (.tmp rfl) (opd_int rfl)) (.ce (u 1 rfl (u 2 rfl (u 3 rfl (u 22 rfl .nil))))))) fun _ _ s8 => wn hK3 ?_; clear s5
 refine cond_split s8 (.tmp rfl) (fun hc1 => ?_) (fun hc1 => ?_)
 ·have h4 := ite_t hc1 h3; clear h3
  refine wp_seq_k fun K4 hK4 => wp_region_lit (qs s8 (.c1 rfl (mv rfl rfl) (.c1 rfl (ob_nilCheck rfl (.tmp rfl)) (.c1 rfl (ob_load rfl tk3 (.tmp rfl) (.head _) (LG.refl _ _)) (.c1 rfl (ob_add rfl (.tmp rfl) (opd_int rfl)) (.c1 rfl (ob_nilCheck rfl (.tmp rfl)) .cz))))) fun _ _ s13 => ?_); clear s8
  refine seq_opx0 (B' := (fun _ : Unit => [BF b00 3 (kint .i64) (iadd .i64 p4 (1 : Int))])) s13 rfl rfl (ob_store (A := []) rfl tk3 (.tmp rfl) (.tmp rfl) rfl (LS.refl _ _ _) rfl) fun _ a14 w14 s14 => ?_; clear s13
  refine wn hK4 ?_
  have s15 := s14.sub (u 1 rfl (u 2 rfl .nil)); clear s14
  refine wp_seq_k fun K5 hK5 => wp_region_lit (qs s15 (.c1 rfl (mv rfl rfl) (.c1 rfl (mv rfl rfl) (.c1 rfl (ob_assign rfl (.tmp rfl)) (.c1 rfl (ob_assign rfl (.tmp rfl)) (.ce (u 10 rfl (u 11 rfl .nil))))))) fun _ _ s20 => wn hK5 ?_); clear s15
  refine wp_ret ?_
  obtain rfl := Option.some.inj h4
  exact leaveXD (D := []) () s20 rfl (.inl rfl) rfl (.cons (.tmp rfl) (.cons (.tmp rfl) .nil)) rfl
 ·have h5 := ite_f hc1 h3; clear h3
  refine wp_skip ?_
  refine then_normal (hK2 _ _ ?_)
  have s21 := s8.sub (u 1 rfl (u 2 rfl .nil)); clear s8
  refine wp_seq_k fun K6 hK6 => wp_region_lit (qs s21 (.c1 rfl (mv rfl rfl) (.c1 rfl (mv rfl rfl) (.c1 rfl (ob_assign rfl (.tmp rfl)) (.c1 rfl (ob_assign rfl (.tmp rfl)) (.ce (u 10 rfl (u 11 rfl .nil))))))) fun _ _ s26 => wn hK6 ?_); clear s21
  refine wp_ret ?_
  obtain rfl := Option.some.inj h5
  exact leaveXD (D := []) () s26 rfl (.inl rfl) rfl (.cons (.tmp rfl) (.cons (.tmp rfl) .nil)) rfl
theorem c_slices_medianCmpFunc_api_Key_queue_Wanted_1 (k : Nat) (p1 : (List (List Int))) (p2 : Int) (p3 : Int) (p4 : Int) (p5 : Int) (r : (Int × Int)) (h0 : slices_medianCmpFunc_api_Key_queue_Wanted_1 k p1 p2 p3 p4 p5 = some r) (ok : Ok) (w0 : World) (z0 : Value) (z1 : Value) (z2 : Value) (z3 : Value) (z4 : Value) (z5 : Value) (b00 : Nat) (l0 : ∀ q, q ∈ [BF b00 3 (kint .i64) p5] → q.holds ok w0) (d0 : ∀ c, c ∈ idsOf [BF b00 3 (kint .i64) p5] → ¬ ok c) (nd : (idsOf [BF b00 3 (kint .i64) p5]).Nodup) (u0 : ((ksl (karr 32 (kint .u8))).V p1).holds ok w0 z0) (u1 : ((kint .i64).V p2).holds ok w0 z1) (u2 : ((kint .i64).V p3).holds ok w0 z2) (u3 : ((kint .i64).V p4).holds ok w0 z3) (u4 : (ptrB b00 0).holds ok w0 z4) (u5 : (is (.func (.func 115) #[] #[])).holds ok w0 z5) :
 GivesX Try.prog 190 [z0, z1, z2, z3, z4, z5] ok w0 [BF b00 3 (kint .i64) p5] (fun g : Unit => resFact [(kint .i64).V r.1]) (fun g : Unit => [BF b00 3 (kint .i64) r.2]) := by
 unfold slices_medianCmpFunc_api_Key_queue_Wanted_1 at h0
 refine enterX (N := 41) Try.func190 rfl rfl (of_decide_eq_true rfl) (.cons u0 (.cons u1 (.cons u2 (.cons u3 (.cons u4 (.cons u5 .nil)))))) nd l0 d0 fun a1 s1 => ?_
 refine wp_seq_k fun K1 hK1 => wp_region_lit (qs s1 (.c1 rfl (ob_assign rfl (opd_int rfl)) (.ce (u 0 rfl (u 1 rfl (u 2 rfl (u 3 rfl (u 4 rfl (u 5 rfl .nil)))))))) fun _ _ s3 => wn hK1 ?_); clear s1
 obtain ⟨x1, e_x1, h1⟩ := bind_some h0; clear h0
 refine wp_seq_k fun K2 hK2 => wp_region_lit (qs s3 (.c1 rfl (mv rfl rfl) (.c1 rfl (mv rfl rfl) (.c1 rfl (mv rfl rfl) (.c1 rfl (mv rfl rfl) (.c1 rfl (mv rfl rfl) .cz))))) fun _ _ s8 => ?_); clear s3
 refine qx (B' := (fun _ : Unit => [BF b00 3 (kint .i64) x1.2.2])) s8 rfl (ob_callL0 (args := [_, _, _, _, _]) (L := [_]) rfl .direct hb194 (List.Perm.refl _) (fun a w s => by exact c_slices_order2CmpFunc_api_Key_queue_Wanted_1 k _ _ _ _ _ e_x1 _ _ _ _ _ _ _ _ (ownL s) (disL s) (nodL s) (s.arg (.tmp rfl)) (s.arg (.tmp rfl)) (s.arg (.tmp rfl)) (s.arg (.tmp rfl)) (s.arg (.tmp rfl))) (by exact fun _ => rfl)) fun _ _ _ s9 => ?_; clear s8
 refine qs s9 (.c1 rfl (mv rfl rfl) (.c1 rfl (ob_extract rfl (.tmp rfl) rfl) (.c1 rfl (ob_extract rfl (.tmp rfl) rfl) (.c1 rfl (ob_assign rfl (.tmp rfl)) (.c1 rfl (ob_assign rfl (.tmp rfl)) (.ce (u 0 rfl (u 1 rfl (u 2 rfl (u 3 rfl (u 4 rfl (u 5 rfl .nil)))))))))))) fun _ _ s15 => wn hK2 ?_; clear s9
 obtain ⟨x2, e_x2, h2⟩ := bind_some h1; clear h1
 refine wp_seq_k fun K3 hK3 => wp_region_lit (qs s15 (.c1 rfl (mv rfl rfl) (.c1 rfl (mv rfl rfl) (.c1 rfl (mv rfl rfl) (.c1 rfl (mv rfl rfl) (.c1 rfl (mv rfl rfl) .cz))))) fun _ _ s20 => ?_); clear s15
 refine qx (B' := (fun _ : Unit => [BF b00 3 (kint .i64) x2.2.2])) s20 rfl (ob_callL0 (args := [_, _, _, _, _]) (L := [_]) rfl .direct hb194 (List.Perm.refl _) (fun a w s => by exact c_slices_order2CmpFunc_api_Key_queue_Wanted_1 k _ _ _ _ _ e_x2 _ _ _ _ _ _ _ _ (ownL s) (disL s) (nodL s) (s.arg (.tmp rfl)) (s.arg (.tmp rfl)) (s.arg (.tmp rfl)) (s.arg (.tmp rfl)) (s.arg (.tmp rfl))) (by exact fun _ => rfl)) fun _ _ _ s21 => ?_; clear s20
 refine qs s21 (.c1 rfl (mv rfl rfl) (.c1 rfl (ob_extract rfl (.tmp rfl) rfl) (.c1 rfl (ob_extract rfl (.tmp rfl) rfl) (.c1 rfl (ob_assign rfl (.tmp rfl)) (.c1 rfl (ob_assign rfl (.tmp rfl)) (.ce (u 0 rfl (u 1 rfl (u 2 rfl (u 4 rfl (u 5 rfl .nil))))))))))) fun _ _ s27 => wn hK3 ?_; clear s21
 obtain ⟨x3, e_x3, h3⟩ := bind_some h2; clear h2
 refine wp_seq_k fun K4 hK4 => wp_region_lit (qs s27 (.c1 rfl (mv rfl rfl) (.c1 rfl (mv rfl rfl) (.c1 rfl (mv rfl rfl) (.c1 rfl (mv rfl rfl) (.c1 rfl (mv rfl rfl) .cz))))) fun _ _ s32 => ?_); clear s27
 refine qx (B' := (fun _ : Unit => [BF b00 3 (kint .i64) x3.2.2])) s32 rfl (ob_callL0 (args := [_, _, _, _, _]) (L := [_]) rfl .direct hb194 (List.Perm.refl _) (fun a w s => by exact c_slices_order2CmpFunc_api_Key_queue_Wanted_1 k _ _ _ _ _ e_x3 _ _ _ _ _ _ _ _ (ownL s) (disL s) (nodL s) (s.arg (.tmp rfl)) (s.arg (.tmp rfl)) (s.arg (.tmp rfl)) (s.arg (.tmp rfl)) (s.arg (.tmp rfl))) (by exact fun _ => rfl)) fun _ _ _ s33 => ?_; clear s32
 refine qs s33 (.c1 rfl (mv rfl rfl) (.c1 rfl (ob_extract rfl (.tmp rfl) rfl) (.c1 rfl (ob_extract rfl (.tmp rfl) rfl) (.c1 rfl (ob_assign rfl (.tmp rfl)) (.c1 rfl (ob_assign rfl (.tmp rfl)) (.ce (u 2 rfl .nil))))))) fun _ _ s39 => wn hK4 ?_; clear s33
 refine wp_seq_k fun K5 hK5 => wp_region_lit (qs s39 (.c1 rfl (mv rfl rfl) (.c1 rfl (ob_assign rfl (.tmp rfl)) (.ce (u 12 rfl .nil)))) fun _ _ s42 => wn hK5 ?_); clear s39
 refine wp_ret ?_
 obtain rfl := Option.some.inj h3
 exact leaveXD (D := []) () s42 rfl (.inl rfl) rfl (.cons (.tmp rfl) .nil) rfl
theorem c_slices_medianAdjacentCmpFunc_api_Key_queue_Wanted_1 (k : Nat) (p1 : (List (List Int))) (p2 : Int) (p3 : Int) (r : (Int × Int)) (h0 : slices_medianAdjacentCmpFunc_api_Key_queue_Wanted_1 k p1 p2 p3 = some r) (ok : Ok) (w0 : World) (z0 : Value) (z1 : Value) (z2 : Value) (z3 : Value) (b00 : Nat) (l0 : ∀ q, q ∈ [BF b00 3 (kint .i64) p3] → q.holds ok w0) (d0 : ∀ c, c ∈ idsOf [BF b00 3 (kint .i64) p3] → ¬ ok c) (nd : (idsOf [BF b00 3 (kint .i64) p3]).Nodup) (u0 : ((ksl (karr 32 (kint .u8))).V p1).holds ok w0 z0) (u1 : ((kint .i64).V p2).holds ok w0 z1) (u2 : (ptrB b00 0).holds ok w0 z2) (u3 : (is (.func (.func 115) #[] #[])).holds ok w0 z3) :
 GivesX Try.prog 189 [z0, z1, z2, z3] ok w0 [BF b00 3 (kint .i64) p3] (fun g : Unit => resFact [(kint .i64).V r.1]) (fun g : Unit => [BF b00 3 (kint .i64) r.2]) := by
 unfold slices_medianAdjacentCmpFunc_api_Key_queue_Wanted_1 at h0
 refine enterX (N := 18) Try.func189 rfl rfl (of_decide_eq_true rfl) (.cons u0 (.cons u1 (.cons u2 (.cons u3 .nil)))) nd l0 d0 fun a1 s1 => ?_
 refine wp_seq_k fun K1 hK1 => wp_region_lit (qs s1 (.c1 rfl (ob_assign rfl (opd_int rfl)) (.ce (u 0 rfl (u 1 rfl (u 2 rfl (u 3 rfl .nil)))))) fun _ _ s3 => wn hK1 ?_); clear s1
 obtain ⟨x1, e_x1, h1⟩ := bind_some h0; clear h0
 refine wp_seq_k fun K2 hK2 => wp_region_lit (qs s3 (.c1 rfl (mv rfl rfl) (.c1 rfl (mv rfl rfl) (.c1 rfl (ob_sub rfl (.tmp rfl) (opd_int rfl)) (.c1 rfl (mv rfl rfl) (.c1 rfl (mv rfl rfl) (.c1 rfl (ob_add rfl (.tmp rfl) (opd_int rfl)) (.c1 rfl (mv rfl rfl) (.c1 rfl (mv rfl rfl) .cz)))))))) fun _ _ s11 => ?_); clear s3
 refine qx (B' := (fun _ : Unit => [BF b00 3 (kint .i64) x1.2])) s11 rfl (ob_callL0 (args := [_, _, _, _, _, _]) (L := [_]) rfl .direct hb190 (List.Perm.refl _) (fun a w s => by exact c_slices_medianCmpFunc_api_Key_queue_Wanted_1 k _ _ _ _ _ _ e_x1 _ _ _ _ _ _ _ _ _ (ownL s) (disL s) (nodL s) (s.arg (.tmp rfl)) (s.arg (.tmp rfl)) (s.arg (.tmp rfl)) (s.arg (.tmp rfl)) (s.arg (.tmp rfl)) (s.arg (.tmp rfl))) (by exact fun _ => rfl)) fun _ _ _ s12 => ?_; clear s11
 refine qs s12 (.c1 rfl (ob_assign rfl (.tmp rfl)) (.ce (u 8 rfl .nil))) fun _ _ s14 => wn hK2 ?_; clear s12
 refine wp_ret ?_
 obtain rfl := Option.some.inj h1
 exact leaveXD (D := []) () s14 rfl (.inl rfl) rfl (.cons (.tmp rfl) .nil) rfl
theorem c_slices_choosePivotCmpFunc_api_Key_queue_Wanted_1 (k : Nat) (p1 : (List (List Int))) (p2 : Int) (p3 : Int) (r : (Int × Int)) (h0 : slices_choosePivotCmpFunc_api_Key_queue_Wanted_1 k p1 p2 p3 = some r) (ok : Ok) (w0 : World) (z0 : Value) (z1 : Value) (z2 : Value) (z3 : Value) (u0 : ((ksl (karr 32 (kint .u8))).V p1).holds ok w0 z0) (u1 : ((kint .i64).V p2).holds ok w0 z1) (u2 : ((kint .i64).V p3).holds ok w0 z2) (u3 : (is (.func (.func 115) #[] #[])).holds ok w0 z3) :
 Gives Try.prog 168 [z0, z1, z2, z3] ok w0 (resFact [(kint .i64).V r.1, (kint .i64).V r.2]) := by
 unfold slices_choosePivotCmpFunc_api_Key_queue_Wanted_1 at h0
 refine enter (N := 63) Try.func168 rfl rfl (of_decide_eq_true rfl) (.cons u0 (.cons u1 (.cons u2 (.cons u3 .nil)))) fun a1 s1 => ?_
 refine wp_seq_k fun K1 hK1 => wp_region_lit (qs s1 (.c1 rfl (ob_assign rfl (opd_int rfl)) (.c1 rfl (ob_assign rfl (opd_int rfl)) (.ce (u 0 rfl (u 1 rfl (u 2 rfl (u 3 rfl .nil))))))) fun _ _ s4 => wn hK1 ?_); clear s1
 refine wp_seq_k fun K2 hK2 => wp_region_lit (qs s4 (.c1 rfl (mv rfl rfl) (.c1 rfl (mv rfl rfl) (.c1 rfl (ob_sub rfl (.tmp rfl) (.tmp rfl)) (.c1 rfl (ob_assign rfl (.tmp rfl)) (.ce (u 0 rfl (u 1 rfl (u 3 rfl (u 10 rfl .nil))))))))) fun _ _ s9 => wn hK2 ?_); clear s4
 refine wp_seq_k fun K3 hK3 => wp_region_lit ?_
 refine qx (B' := (fun b1 : Nat => [BF b1 3 (kint .i64) (0 : Int)])) s9 rfl (ob_new (k := (kint .i64)) rfl zz3 (Zr.int .i64)) fun b1 _ _ s10 => ?_; clear s9
 refine wn hK3 ?_
 have s11 := s10.sub (u 0 rfl (u 1 rfl (u 3 rfl (u 10 rfl (u 11 rfl .nil))))); clear s10
 obtain ⟨x1, e_x1, h1⟩ := bind_some h0; clear h0; replace e_x1 := Option.some.inj e_x1
 refine wp_seq_k fun K4 hK4 => wp_region_lit (qs s11 (.c1 rfl (mv rfl rfl) (.c1 rfl (mv rfl rfl) (.c1 rfl (ob_quo rfl (.tmp rfl) (opd_int rfl) (by decide)) (.c1 rfl (ob_mul rfl (.tmp rfl) (opd_int rfl)) (.c1 rfl ((ob_add rfl (.tmp rfl) (.tmp rfl)).nm e_x1) (.c1 rfl (ob_assign rfl (.tmp rfl)) (.ce (u 0 rfl (u 1 rfl (u 3 rfl (u 10 rfl (u 11 rfl (u 12 rfl .nil))))))))))))) fun _ _ s18 => wn hK4 ?_); clear s11
 obtain ⟨x2, e_x2, h2⟩ := bind_some h1; clear h1; replace e_x2 := Option.some.inj e_x2
 refine wp_seq_k fun K5 hK5 => wp_region_lit (qs s18 (.c1 rfl (mv rfl rfl) (.c1 rfl (mv rfl rfl) (.c1 rfl (ob_quo rfl (.tmp rfl) (opd_int rfl) (by decide)) (.c1 rfl (ob_mul rfl (.tmp rfl) (opd_int rfl)) (.c1 rfl ((ob_add rfl (.tmp rfl) (.tmp rfl)).nm e_x2) (.c1 rfl (ob_assign rfl (.tmp rfl)) (.ce (u 0 rfl (u 1 rfl (u 3 rfl (u 10 rfl (u 11 rfl (u 12 rfl (u 13 rfl .nil)))))))))))))) fun _ _ s25 => wn hK5 ?_); clear s18
 obtain ⟨x3, e_x3, h3⟩ := bind_some h2; clear h2; replace e_x3 := Option.some.inj e_x3
 refine wp_seq_k fun K6 hK6 => wp_region_lit (qs s25 (.c1 rfl (mv rfl rfl) (.c1 rfl (mv rfl rfl) (.c1 rfl (ob_quo rfl (.tmp rfl) (opd_int rfl) (by decide)) (.c1 rfl (ob_mul rfl (.tmp rfl) (opd_int rfl)) (.c1 rfl ((ob_add rfl (.tmp rfl) (.tmp rfl)).nm e_x3) (.c1 rfl (ob_assign rfl (.tmp rfl)) (.ce (u 0 rfl (u 3 rfl (u 10 rfl (u 11 rfl (u 12 rfl (u 13 rfl (u 14 rfl .nil)))))))))))))) fun _ _ s32 => wn hK6 ?_); clear s25
 refine wp_seq_k fun K7 hK7 => wp_seq_k fun K8 hK8 => ?_
 refine wp_region_lit (qs s32 (.c1 rfl (mv rfl rfl) (.c1 rfl (ob_geq rfl (.tmp rfl) (opd_int rfl)) (.ce (u 0 rfl (u 3 rfl (u 10 rfl (u 11 rfl (u 12 rfl (u 13 rfl (u 14 rfl (u 34 rfl .nil))))))))))) fun _ _ s35 => wn hK8 ?_); clear s32
 have hj1 : ∀ (y1 : Int) (y2 : Int) (a : Act) (w : World), (slices_choosePivotCmpFunc_api_Key_queue_Wanted_1.j1 k) y1 y2 = some r → St ⟨63, w0, ok, []⟩ [BF b1 3 (kint .i64) y2] [(11, (ptrB b1 0)), (13, ((kint .i64).V y1))] a w → K7 a w := by
  intro y1 y2 a36 w36 h4 s36
  unfold slices_choosePivotCmpFunc_api_Key_queue_Wanted_1.j1 at h4
  refine hK7 _ _ ?_
  refine wp_seq_k fun K9 hK9 => wp_region_lit (qs s36 (.c1 rfl (ob_load rfl tk3 (.tmp rfl) (.head _) (LG.refl _ _)) (.ce (u 13 rfl (u 55 rfl .nil)))) fun _ _ s38 => wn hK9 ?_); clear s36
  have s39 := St.drop (A := []) s38; clear s38
  refine wp_block ?_
  refine wp_seq_k fun K10 hK10 => wp_region_lit (qs s39 (.c1 rfl (ob_eql rfl (.tmp rfl) (opd_int rfl)) (.c1 rfl (ob_assign rfl (.tmp rfl)) (.ce (u 13 rfl (u 55 rfl (u 57 rfl .nil)))))) fun _ _ s42 => wn hK10 ?_); clear s39
  refine cond_split s42 (.tmp rfl) (fun hc1 => ?_) (fun hc1 => ?_)
  ·have h5 := ite_t hc1 h4; clear h4
   refine wp_seq_k fun K11 hK11 => wp_region_lit (qs s42 (.c1 rfl (mv rfl rfl) (.c1 rfl (ob_assign rfl (.tmp rfl)) (.c1 rfl (ob_assign rfl (opd_int rfl)) (.ce (u 8 rfl (u 9 rfl .nil)))))) fun _ _ s46 => wn hK11 ?_); clear s42
   refine wp_ret ?_
   obtain rfl := Option.some.inj h5
   exact leave s46 (.inl rfl) rfl (.cons (.tmp rfl) (.cons (.tmp rfl) .nil))
  ·have h6 := ite_f hc1 h4; clear h4
   refine wp_seq_k fun K12 hK12 => wp_region_lit (qs s42 (.c1 rfl (ob_eql rfl (.tmp rfl) (opd_int rfl)) (.c1 rfl (ob_assign rfl (.tmp rfl)) (.ce (u 13 rfl (u 60 rfl .nil))))) fun _ _ s49 => wn hK12 ?_); clear s42
   refine cond_split s49 (.tmp rfl) (fun hc2 => ?_) (fun hc2 => ?_)
   ·have h7 := ite_t hc2 h6; clear h6
    refine wp_seq_k fun K13 hK13 => wp_region_lit (qs s49 (.c1 rfl (mv rfl rfl) (.c1 rfl (ob_assign rfl (.tmp rfl)) (.c1 rfl (ob_assign rfl (opd_int rfl)) (.ce (u 8 rfl (u 9 rfl .nil)))))) fun _ _ s53 => wn hK13 ?_); clear s49
    refine wp_ret ?_
    obtain rfl := Option.some.inj h7
    exact leave s53 (.inl rfl) rfl (.cons (.tmp rfl) (.cons (.tmp rfl) .nil))
   ·have h8 := ite_f hc2 h6; clear h6
    refine wp_seq_k fun K14 hK14 => wp_region_lit (qs s49 (.c1 rfl (mv rfl rfl) (.c1 rfl (ob_assign rfl (.tmp rfl)) (.c1 rfl (ob_assign rfl (opd_int rfl)) (.ce (u 8 rfl (u 9 rfl .nil)))))) fun _ _ s57 => wn hK14 ?_); clear s49
    refine wp_ret ?_
    obtain rfl := Option.some.inj h8
    exact leave s57 (.inl rfl) rfl (.cons (.tmp rfl) (.cons (.tmp rfl) .nil))
 refine cond_split s35 (.tmp rfl) (fun hc3 => ?_) (fun hc3 => ?_)
 ·have h9 := ite_t hc3 h3; clear h3
  refine wp_seq_k fun K15 hK15 => wp_seq_k fun K16 hK16 => ?_
  refine wp_region_lit (qs s35 (.c1 rfl (mv rfl rfl) (.c1 rfl (ob_geq rfl (.tmp rfl) (opd_int rfl)) (.ce (u 0 rfl (u 3 rfl (u 11 rfl (u 12 rfl (u 13 rfl (u 14 rfl (u 36 rfl .nil)))))))))) fun _ _ s60 => wn hK16 ?_); clear s35
  have hj2 : ∀ (y3 : Int) (y4 : Int) (y5 : Int) (y6 : Int) (a : Act) (w : World), (slices_choosePivotCmpFunc_api_Key_queue_Wanted_1.j2 k p1) y3 y4 y5 y6 = some r → St ⟨63, w0, ok, []⟩ [BF b1 3 (kint .i64) y6] [(0, ((ksl (karr 32 (kint .u8))).V p1)), (3, (is (.func (.func 115) #[] #[]))), (11, (ptrB b1 0)), (12, ((kint .i64).V y3)), (13, ((kint .i64).V y4)), (14, ((kint .i64).V y5))] a w → K15 a w := by
   intro y3 y4 y5 y6 a61 w61 h10 s61
   unfold slices_choosePivotCmpFunc_api_Key_queue_Wanted_1.j2 at h10
   refine hK15 _ _ ?_
   obtain ⟨x4, e_x4, h11⟩ := bind_some h10; clear h10
   refine wp_region_lit (qs s61 (.c1 rfl (mv rfl rfl) (.c1 rfl (mv rfl rfl) (.c1 rfl (mv rfl rfl) (.c1 rfl (mv rfl rfl) (.c1 rfl (mv rfl rfl) .cz))))) fun _ _ s66 => ?_); clear s61
   refine qx (B' := (fun _ : Unit => [BF b1 3 (kint .i64) x4.2])) s66 rfl (ob_callL0 (args := [_, _, _, _, _, _]) (L := [_]) rfl .direct hb190 (List.Perm.refl _) (fun a w s => by exact c_slices_medianCmpFunc_api_Key_queue_Wanted_1 k _ _ _ _ _ _ e_x4 _ _ _ _ _ _ _ _ _ (ownL s) (disL s) (nodL s) (s.arg (.tmp rfl)) (s.arg (.tmp rfl)) (s.arg (.tmp rfl)) (s.arg (.tmp rfl)) (s.arg (.tmp rfl)) (s.arg (.tmp rfl))) (by exact fun _ => rfl)) fun _ _ _ s67 => ?_; clear s66
   refine qs s67 (.c1 rfl (ob_assign rfl (.tmp rfl)) .cz) fun _ _ s68 => ?_; clear s67
   refine wpList_nil ?_
   refine then_normal ?_
   exact hj1 x4.1 x4.2 _ _ h11 (s68.sub (.cons rfl (.cons rfl .nil)))
  refine cond_split s60 (.tmp rfl) (fun hc4 => ?_) (fun hc4 => ?_)
  ·have h12 := ite_t hc4 h9; clear h9
   obtain ⟨x5, e_x5, h13⟩ := bind_some h12; clear h12
   refine wp_seq_k fun K17 hK17 => wp_region_lit (qs s60 (.c1 rfl (mv rfl rfl) (.c1 rfl (mv rfl rfl) (.c1 rfl (mv rfl rfl) .cz))) fun _ _ s71 => ?_); clear s60
   refine qx (B' := (fun _ : Unit => [BF b1 3 (kint .i64) x5.2])) s71 rfl (ob_callL0 (args := [_, _, _, _]) (L := [_]) rfl .direct hb189 (List.Perm.refl _) (fun a w s => by exact c_slices_medianAdjacentCmpFunc_api_Key_queue_Wanted_1 k _ _ _ _ e_x5 _ _ _ _ _ _ _ (ownL s) (disL s) (nodL s) (s.arg (.tmp rfl)) (s.arg (.tmp rfl)) (s.arg (.tmp rfl)) (s.arg (.tmp rfl))) (by exact fun _ => rfl)) fun _ _ _ s72 => ?_; clear s71
   refine qs s72 (.c1 rfl (ob_assign rfl (.tmp rfl)) (.ce (u 0 rfl (u 3 rfl (u 11 rfl (u 12 rfl (u 13 rfl (u 14 rfl .nil)))))))) fun _ _ s74 => wn hK17 ?_; clear s72
   obtain ⟨x6, e_x6, h14⟩ := bind_some h13; clear h13
   refine wp_seq_k fun K18 hK18 => wp_region_lit (qs s74 (.c1 rfl (mv rfl rfl) (.c1 rfl (mv rfl rfl) (.c1 rfl (mv rfl rfl) .cz))) fun _ _ s77 => ?_); clear s74
   refine qx (B' := (fun _ : Unit => [BF b1 3 (kint .i64) x6.2])) s77 rfl (ob_callL0 (args := [_, _, _, _]) (L := [_]) rfl .direct hb189 (List.Perm.refl _) (fun a w s => by exact c_slices_medianAdjacentCmpFunc_api_Key_queue_Wanted_1 k _ _ _ _ e_x6 _ _ _ _ _ _ _ (ownL s) (disL s) (nodL s) (s.arg (.tmp rfl)) (s.arg (.tmp rfl)) (s.arg (.tmp rfl)) (s.arg (.tmp rfl))) (by exact fun _ => rfl)) fun _ _ _ s78 => ?_; clear s77
   refine qs s78 (.c1 rfl (ob_assign rfl (.tmp rfl)) (.ce (u 0 rfl (u 3 rfl (u 11 rfl (u 12 rfl (u 13 rfl (u 14 rfl .nil)))))))) fun _ _ s80 => wn hK18 ?_; clear s78
   obtain ⟨x7, e_x7, h15⟩ := bind_some h14; clear h14
   refine wp_region_lit (qs s80 (.c1 rfl (mv rfl rfl) (.c1 rfl (mv rfl rfl) (.c1 rfl (mv rfl rfl) .cz))) fun _ _ s83 => ?_); clear s80
   refine qx (B' := (fun _ : Unit => [BF b1 3 (kint .i64) x7.2])) s83 rfl (ob_callL0 (args := [_, _, _, _]) (L := [_]) rfl .direct hb189 (List.Perm.refl _) (fun a w s => by exact c_slices_medianAdjacentCmpFunc_api_Key_queue_Wanted_1 k _ _ _ _ e_x7 _ _ _ _ _ _ _ (ownL s) (disL s) (nodL s) (s.arg (.tmp rfl)) (s.arg (.tmp rfl)) (s.arg (.tmp rfl)) (s.arg (.tmp rfl))) (by exact fun _ => rfl)) fun _ _ _ s84 => ?_; clear s83
   refine qs s84 (.c1 rfl (ob_assign rfl (.tmp rfl)) .cz) fun _ _ s85 => ?_; clear s84
   refine wpList_nil ?_
   refine then_normal ?_
   exact hj2 x5.1 x6.1 x7.1 x7.2 _ _ h15 (s85.sub (.cons rfl (.cons rfl (.cons rfl (.cons rfl (.cons rfl (.cons rfl .nil)))))))
  ·have h16 := ite_f hc4 h9; clear h9
   refine wp_skip ?_
   refine then_normal ?_
   exact hj2 x1 x2 x3 (0 : Int) _ _ h16 (s60.sub (.cons rfl (.cons rfl (.cons rfl (.cons rfl (.cons rfl (.cons rfl .nil)))))))
 ·have h17 := ite_f hc3 h3; clear h3
  refine wp_skip ?_
  refine then_normal ?_
  exact hj1 x2 (0 : Int) _ _ h17 (s35.sub (.cons rfl (.cons rfl .nil)))
theorem c_slices_reverseRangeCmpFunc_api_Key_queue_Wanted_1 (k : Nat) (p1 : (List (List Int))) (p2 : Int) (p3 : Int) (r : (List (List Int))) (h0 : slices_reverseRangeCmpFunc_api_Key_queue_Wanted_1 k p1 p2 p3 = some r) (ok : Ok) (w0 : World) (z0 : Value) (z1 : Value) (z2 : Value) (z3 : Value) (wr0 : Value) (l0 : ∀ q, q ∈ [RowF wr0 39 (karr 32 (kint .u8)) p1] → q.holds ok w0) (d0 : ∀ c, c ∈ idsOf [RowF wr0 39 (karr 32 (kint .u8)) p1] → ¬ ok c) (nd : (idsOf [RowF wr0 39 (karr 32 (kint .u8)) p1]).Nodup) (u0 : (is wr0).holds ok w0 z0) (u1 : ((kint .i64).V p2).holds ok w0 z1) (u2 : ((kint .i64).V p3).holds ok w0 z2) (u3 : (is (.func (.func 115) #[] #[])).holds ok w0 z3) :
 GivesX Try.prog 169 [z0, z1, z2, z3] ok w0 [RowF wr0 39 (karr 32 (kint .u8)) p1] (fun g : Unit => resFact []) (fun g : Unit => [RowF wr0 39 (karr 32 (kint .u8)) r]) := by
 unfold slices_reverseRangeCmpFunc_api_Key_queue_Wanted_1 at h0
 refine enterX (N := 34) Try.func169 rfl rfl (of_decide_eq_true rfl) (.cons u0 (.cons u1 (.cons u2 (.cons u3 .nil)))) nd l0 d0 fun a1 s1 => ?_
 refine wp_seq_k fun K1 hK1 => wp_region_lit (qs s1 (.c1 rfl (mv rfl rfl) (.c1 rfl (ob_assign rfl (.tmp rfl)) (.ce (u 0 rfl (u 2 rfl (u 8 rfl .nil)))))) fun _ _ s4 => wn hK1 ?_); clear s1
 refine wp_seq_k fun K2 hK2 => wp_region_lit (qs s4 (.c1 rfl (mv rfl rfl) (.c1 rfl (ob_sub rfl (.tmp rfl) (opd_int rfl)) (.c1 rfl (ob_assign rfl (.tmp rfl)) (.ce (u 0 rfl (u 8 rfl (u 9 rfl .nil))))))) fun _ _ s8 => wn hK2 ?_); clear s4
 refine wp_block ?_
 refine wp_loop_fuel (fun m (q : Int × Int × (List (List Int))) => slices_reverseRangeCmpFunc_api_Key_queue_Wanted_1.l1 k m q.1 q.2.1 q.2.2) r (fun _ => rfl) (fun q a w => St ⟨34, w0, ok, (idsOf [RowF wr0 39 (karr 32 (kint .u8)) p1])⟩ [RowF wr0 39 (karr 32 (kint .u8)) q.2.2] [(0, (is wr0)), (8, ((kint .i64).V q.1)), (9, ((kint .i64).V q.2.1))] a w) ?_ k (p2, (isub .i64 p3 (1 : Int)), p1) _ _ h0 (s8.sub (.cons rfl (.cons rfl (.cons rfl .nil))))
 rintro n1 ⟨y1, y2, y3⟩ a9 w9 h1 s9 K3 hK3
 replace h1 : slices_reverseRangeCmpFunc_api_Key_queue_Wanted_1.l1 k (n1 + 1) y1 y2 y3 = some r := h1; rw [slices_reverseRangeCmpFunc_api_Key_queue_Wanted_1.l1] at h1
 have h2 := h1; clear h1
 refine wp_seq_k fun K4 hK4 => wp_seq_k fun K5 hK5 => ?_
 refine wp_region_lit (qs s9 (.c1 rfl (mv rfl rfl) (.c1 rfl (mv rfl rfl) (.c1 rfl (ob_lss rfl (.tmp rfl) (.tmp rfl)) (.ce (u 0 rfl (u 8 rfl (u 9 rfl (u 15 rfl .nil)))))))) fun _ _ s13 => wn hK5 ?_); clear s9
 refine cond_split s13 (.tmp rfl) (fun hc1 => ?_) (fun hc1 => ?_)
 ·have h3 := ite_t hc1 h2; clear h2
  refine wp_skip ?_
  refine then_normal (hK4 _ _ ?_)
  have s14 := s13.sub (u 0 rfl (u 8 rfl (u 9 rfl .nil))); clear s13
  refine wp_block ?_
  refine wp_seq_k fun K6 hK6 => ?_
  obtain ⟨g1, h4⟩ := guard_some h3; clear h3
  obtain ⟨x1, e_x1, h5⟩ := bind_some h4; clear h4
  obtain ⟨g2, h6⟩ := guard_some h5; clear h5
  obtain ⟨x2, e_x2, h7⟩ := bind_some h6; clear h6
  obtain ⟨g3, h8⟩ := guard_some h7; clear h7
  obtain ⟨x3, e_x3, h9⟩ := bind_some h8; clear h8
  refine wp_goes (Fs := [(is wr0), ((kint .i64).V y1), (is wr0), ((kint .i64).V y2), (is wr0), ((kint .i64).V y2), (ptrR wr0 (y2.toNat * 32)), ((karr 32 (kint .u8)).V x1), (is wr0), ((kint .i64).V y1), (ptrR wr0 (y1.toNat * 32)), ((karr 32 (kint .u8)).V x2), (ptrR wr0 (y1.toNat * 32)), nofact]) (bits := [0, 0, 0, 0, 0, 0, 48, 112, 0, 0, 768, 1792, 4083, 8179, 16383, 32767]) (m := 14) (todo := 8192) mx s14 ?_; clear s14
  refine goes_turn (B' := (fun _ : Unit => [RowF wr0 39 (karr 32 (kint .u8)) x3])) (Fs' := (fun _ : Unit => setAll ([(is wr0), ((kint .i64).V y1), (is wr0), ((kint .i64).V y2), (is wr0), ((kint .i64).V y2), (ptrR wr0 (y2.toNat * 32)), ((karr 32 (kint .u8)).V x1), (is wr0), ((kint .i64).V y1), (ptrR wr0 (y1.toNat * 32)), ((karr 32 (kint .u8)).V x2), (ptrR wr0 (y1.toNat * 32)), nofact]) [(13, nofact)])) 13 8192 16371 0 (by kernel_rfl) rfl rfl rfl (oc (av 0 rfl rfl Av.nil) rfl rfl (mv rfl rfl) (oc (av 8 rfl rfl Av.nil) rfl rfl (mv rfl rfl) (oc (av 0 rfl rfl Av.nil) rfl rfl (mv rfl rfl) (oc (av 9 rfl rfl Av.nil) rfl rfl (mv rfl rfl) (oc (av 0 rfl rfl Av.nil) rfl rfl (mv rfl rfl) (oc (av 9 rfl rfl Av.nil) rfl rfl (mv rfl rfl) (oc (an 4 rfl rfl rfl (an 5 rfl rfl rfl Av.nil)) rfl rfl (ob_rowAt rfl Try.underlying40 sz39 (.tmp rfl) (.head _) (.tmp rfl) g1) (oc (an 6 rfl rfl rfl Av.nil) rfl rfl (ob_rowLoad rfl tk39 (.tmp rfl) (.head _) (LG.arrA e_x1)) (oc (av 0 rfl rfl Av.nil) rfl rfl (mv rfl rfl) (oc (av 8 rfl rfl Av.nil) rfl rfl (mv rfl rfl) (oc (an 8 rfl rfl rfl (an 9 rfl rfl rfl Av.nil)) rfl rfl (ob_rowAt rfl Try.underlying40 sz39 (.tmp rfl) (.head _) (.tmp rfl) g2) (oc (an 10 rfl rfl rfl Av.nil) rfl rfl (ob_rowLoad rfl tk39 (.tmp rfl) (.head _) (LG.arrA e_x2)) (oc (an 0 rfl rfl rfl (an 1 rfl rfl rfl Av.nil)) rfl rfl (ob_rowAt rfl Try.underlying40 sz39 (.tmp rfl) (.head _) (.tmp rfl) g3) (opsS_skip (by rfl) opsS_nil)))))))))))))) (.plain _ (an 7 rfl rfl rfl (an 12 rfl rfl rfl Av.nil)) rfl (fun _ => rfl) (fun R => ob_rowStore (A := []) rfl tk39 (.tmp rfl) (.tmp rfl) rfl (LS.arrS e_x3) rfl)) (setAll_same (us := (fun _ : Unit => [(13, nofact)])) fun _ => by kernel_rfl) fun _ => ?_
  refine goes_last (by kernel_rfl) rfl (opsS_skip (by rfl) (opsS_skip (by rfl) (oc (av 0 rfl rfl Av.nil) rfl rfl (mv rfl rfl) (oc (av 9 rfl rfl Av.nil) rfl rfl (mv rfl rfl) (opsS_skip (by rfl) (opsS_skip (by rfl) (opsS_skip (by rfl) (opsS_skip (by rfl) (opsS_skip (by rfl) (opsS_skip (by rfl) (opsS_skip (by rfl) (opsS_skip (by rfl) (opsS_skip (by rfl) (opsS_skip (by rfl) opsS_nil)))))))))))))) (out_old (t := 0) rfl rfl (out_old (t := 8) rfl rfl (out_old (t := 9) rfl rfl (out_new (i := 2) (by decide) rfl rfl (out_new (i := 3) (by decide) rfl rfl (out_new (i := 11) (by decide) rfl rfl out_nil)))))) fun _ _ s15 => ?_
  obtain ⟨g4, h10⟩ := guard_some h9; clear h9
  obtain ⟨x4, e_x4, h11⟩ := bind_some h10; clear h10
  refine qs s15 (.c1 rfl (ob_rowAt rfl Try.underlying40 sz39 (.tmp rfl) (.head _) (.tmp rfl) g4) .cz) fun _ _ s16 => ?_; clear s15
  refine seq_opx0 (B' := (fun _ : Unit => [RowF wr0 39 (karr 32 (kint .u8)) x4])) s16 rfl rfl (ob_rowStore (A := []) rfl tk39 (.tmp rfl) (.tmp rfl) rfl (LS.arrS e_x4) rfl) fun _ a17 w17 s17 => ?_; clear s16
  refine wn hK6 ?_
  have s18 := s17.sub (u 0 rfl (u 8 rfl (u 9 rfl .nil))); clear s17
  refine wp_seq_k fun K7 hK7 => wp_region_lit (qs s18 (.c1 rfl (mv rfl rfl) (.c1 rfl (ob_add rfl (.tmp rfl) (opd_int rfl)) (.c1 rfl (ob_assign rfl (.tmp rfl)) (.ce (u 0 rfl (u 8 rfl (u 9 rfl .nil))))))) fun _ _ s22 => wn hK7 ?_); clear s18
  refine wp_region_lit (qs s22 (.c1 rfl (mv rfl rfl) (.c1 rfl (ob_sub rfl (.tmp rfl) (opd_int rfl)) (.c1 rfl (ob_assign rfl (.tmp rfl)) .cz))) fun _ _ s25 => ?_); clear s22
  refine wpList_nil ?_
  refine in_normal ?_
  refine then_normal ?_
  exact hK3 ((iadd .i64 y1 (1 : Int)), (isub .i64 y2 (1 : Int)), x4) _ _ h11 (s25.sub (.cons rfl (.cons rfl (.cons rfl .nil))))
 ·have h12 := ite_f hc1 h2; clear h2
  refine wp_exit ?_
  refine (then_exit (then_exit (in_here ?_)))
  obtain rfl := Option.some.inj h12
  exact leaveXD (D := []) () s13 rfl (.inr rfl) rfl .nil rfl
end Go.Proofs.Ytdlnfgpcnfbjiaa
