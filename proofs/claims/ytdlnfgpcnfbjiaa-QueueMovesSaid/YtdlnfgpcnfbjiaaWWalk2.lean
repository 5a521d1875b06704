/- Each function's code comes to what its plain function answers. No condition. -/
import Derived.Test.YtdlnfgpcnfbjiaaWWalk1
namespace Go.Proofs.Ytdlnfgpcnfbjiaa
open Go Go.RowKit Go.Proofs.Kit Go.Proofs.Pure
set_option linter.unusedVariables false
set_option linter.unusedSimpArgs false
set_option maxRecDepth 100000
set_option maxHeartbeats 2000000

/- 106 slices.Equal[[]int,int] -/
theorem c_slices_Equal_int_int (k : Nat) (p1 : (List Int)) (p2 : (List Int)) (r : Bool) (h0 : slices_Equal_int_int k p1 p2 = some r) (ok : Ok) (w0 : World) (z0 : Value) (z1 : Value) (u0 : ((ksl (kint .i64)).V p1).holds ok w0 z0) (u1 : ((ksl (kint .i64)).V p2).holds ok w0 z1) :
    Gives Try.prog 106 [z0, z1] ok w0 (resFact [kbool.V r]) := by
  unfold slices_Equal_int_int at h0
  refine enter (N := 26) Try.func106 rfl rfl (of_decide_eq_true rfl) (.cons u0 (.cons u1 .nil)) fun a1 s1 => ?_
  refine wp_seq_k fun K1 hK1 => ?_
  refine wp_region_lit ?_
  refine seq_op s1 rfl rfl (of_decide_eq_true rfl) (ob_assign rfl opd_bool) fun a2 w2 s2 => ?_; clear s1
  refine wpList_nil ?_
  refine then_normal ?_
  refine hK1 _ _ ?_
  have s3 := s2.sub (.cons (t := 0) rfl (.cons (t := 1) rfl .nil)); clear s2
  refine wp_seq_k fun K2 hK2 => ?_
  refine wp_seq_k fun K3 hK3 => ?_
  refine wp_region_lit ?_
  refine seq_op s3 rfl rfl (of_decide_eq_true rfl) (ob_move rfl (.tmp rfl)) fun a4 w4 s4 => ?_; clear s3
  refine seq_op s4 rfl rfl (of_decide_eq_true rfl) (ob_lens rfl Try.underlying41 (.tmp rfl)) fun a5 w5 s5 => ?_; clear s4
  refine seq_op s5 rfl rfl (of_decide_eq_true rfl) (ob_move rfl (.tmp rfl)) fun a6 w6 s6 => ?_; clear s5
  refine seq_op s6 rfl rfl (of_decide_eq_true rfl) (ob_lens rfl Try.underlying41 (.tmp rfl)) fun a7 w7 s7 => ?_; clear s6
  refine seq_op s7 rfl rfl (of_decide_eq_true rfl) (ob_neq rfl (.tmp rfl) (.tmp rfl)) fun a8 w8 s8 => ?_; clear s7
  refine wpList_nil ?_
  refine then_normal ?_
  refine hK3 _ _ ?_
  have s9 := s8.sub (.cons (t := 0) rfl (.cons (t := 1) rfl (.cons (t := 10) rfl .nil))); clear s8
  refine cond_split s9 (.tmp rfl) (fun hc1 => ?_) (fun hc1 => ?_)
  · replace h0 := ite_t hc1 h0
    have h1 := h0; clear h0
    refine wp_seq_k fun K4 hK4 => ?_
    refine wp_region_lit ?_
    refine seq_op s9 rfl rfl (of_decide_eq_true rfl) (ob_assign rfl opd_bool) fun a10 w10 s10 => ?_; clear s9
    refine wpList_nil ?_
    refine then_normal ?_
    refine hK4 _ _ ?_
    have s11 := s10.sub (.cons (t := 4) rfl .nil); clear s10
    refine wp_ret ?_
    obtain rfl := Option.some.inj h1
    exact leave s11 (.inl rfl) rfl (.cons (.tmp rfl) .nil)
  · replace h0 := ite_f hc1 h0
    have h2 := h0; clear h0
    refine wp_skip ?_
    refine then_normal ?_
    refine hK2 _ _ ?_
    have s12 := s9.sub (.cons (t := 0) rfl (.cons (t := 1) rfl .nil)); clear s9
    refine wp_seq_k fun K5 hK5 => ?_
    refine wp_seq_k fun K6 hK6 => ?_
    refine wp_region_lit ?_
    refine seq_op s12 rfl rfl (of_decide_eq_true rfl) (ob_move rfl (.tmp rfl)) fun a13 w13 s13 => ?_; clear s12
    refine seq_op s13 rfl rfl (of_decide_eq_true rfl) (ob_lens rfl Try.underlying41 (.tmp rfl)) fun a14 w14 s14 => ?_; clear s13
    refine seq_op s14 rfl rfl (of_decide_eq_true rfl) (ob_move rfl (opd_int rfl)) fun a15 w15 s15 => ?_; clear s14
    refine wpList_nil ?_
    refine then_normal ?_
    refine hK6 _ _ ?_
    have s16 := s15.sub (.cons (t := 0) rfl (.cons (t := 1) rfl (.cons (t := 12) rfl (.cons (t := 13) rfl .nil)))); clear s15
    have hj1 : ∀ (a : Act) (w : World), (slices_Equal_int_int.j1 k) = some r → St ⟨26, w0, ok, []⟩ [] [] a w → K5 a w := by
      intro a17 w17 h3 s17
      unfold slices_Equal_int_int.j1 at h3
      refine hK5 _ _ ?_
      refine wp_seq_k fun K7 hK7 => ?_
      refine wp_region_lit ?_
      refine seq_op s17 rfl rfl (of_decide_eq_true rfl) (ob_assign rfl opd_bool) fun a18 w18 s18 => ?_; clear s17
      refine wpList_nil ?_
      refine then_normal ?_
      refine hK7 _ _ ?_
      have s19 := s18.sub (.cons (t := 4) rfl .nil); clear s18
      refine wp_ret ?_
      obtain rfl := Option.some.inj h3
      exact leave s19 (.inl rfl) rfl (.cons (.tmp rfl) .nil)
    refine wp_block ?_
    refine wp_loop_fuel (fun m (q : Int) => slices_Equal_int_int.l1 k p1 p2 m q) r (fun _ => rfl) (fun q a w => St ⟨26, w0, ok, []⟩ [] [(0, ((ksl (kint .i64)).V p1)), (1, ((ksl (kint .i64)).V p2)), (12, ((kint .i64).V (p1.length : Int))), (13, ((kint .i64).V q))] a w) ?_ k (0 : Int) _ _ h2 (s16.sub (.cons rfl (.cons rfl (.cons rfl (.cons rfl .nil)))))
    rintro n1 y1 a20 w20 h4 s20 K8 hK8
    replace h4 : slices_Equal_int_int.l1 k p1 p2 (n1 + 1) y1 = some r := h4; rw [slices_Equal_int_int.l1] at h4
    have h5 := h4; clear h4
    refine wp_seq_k fun K9 hK9 => ?_
    refine wp_region_lit ?_
    refine seq_op s20 rfl rfl (of_decide_eq_true rfl) (ob_lss rfl (.tmp rfl) (.tmp rfl)) fun a21 w21 s21 => ?_; clear s20
    refine wpList_nil ?_
    refine then_normal ?_
    refine hK9 _ _ ?_
    have s22 := s21.sub (.cons (t := 0) rfl (.cons (t := 1) rfl (.cons (t := 12) rfl (.cons (t := 13) rfl (.cons (t := 14) rfl .nil))))); clear s21
    refine wp_seq_k fun K10 hK10 => ?_
    refine cond_split s22 (.tmp rfl) (fun hc2 => ?_) (fun hc2 => ?_)
    · replace h5 := ite_t hc2 h5
      have h6 := h5; clear h5
      refine wp_skip ?_
      refine then_normal ?_
      refine hK10 _ _ ?_
      have s23 := s22.sub (.cons (t := 0) rfl (.cons (t := 1) rfl (.cons (t := 12) rfl (.cons (t := 13) rfl .nil)))); clear s22
      refine wp_seq_k fun K11 hK11 => ?_
      refine wp_block ?_
      refine wp_seq_k fun K12 hK12 => ?_
      refine wp_region_lit ?_
      refine seq_op s23 rfl rfl (of_decide_eq_true rfl) (ob_move rfl (.tmp rfl)) fun a24 w24 s24 => ?_; clear s23
      refine seq_op s24 rfl rfl (of_decide_eq_true rfl) (ob_assign rfl (.tmp rfl)) fun a25 w25 s25 => ?_; clear s24
      refine wpList_nil ?_
      refine then_normal ?_
      refine hK12 _ _ ?_
      have s26 := s25.sub (.cons (t := 0) rfl (.cons (t := 1) rfl (.cons (t := 5) rfl (.cons (t := 12) rfl (.cons (t := 13) rfl .nil))))); clear s25
      refine wp_seq_k fun K13 hK13 => ?_
      obtain ⟨x1, e_x1, h7⟩ := bind_some h6; clear h6
      obtain ⟨x2, e_x2, h8⟩ := bind_some h7; clear h7
      refine wp_goes (Fs := [((ksl (kint .i64)).V p1), ((kint .i64).V y1), (ptrTo (kint .i64) x1), ((kint .i64).V x1), ((ksl (kint .i64)).V p2), ((kint .i64).V y1), (ptrTo (kint .i64) x2), ((kint .i64).V x2)]) (bits := [0, 0, 3, 7, 0, 0, 48, 112, 255]) (m := 8) (todo := 0) mx s26 ?_; clear s26
      refine goes_last (by kernel_rfl) rfl (opsS_cons (.plain _ (Av.old (t := 0) rfl rfl Av.nil) rfl rfl (ob_move rfl (.tmp rfl))) (opsS_cons (.plain _ (Av.old (t := 5) rfl rfl Av.nil) rfl rfl (ob_move rfl (.tmp rfl))) (opsS_cons (.plain _ (Av.new (j := 0) rfl rfl rfl (Av.new (j := 1) rfl rfl rfl Av.nil)) rfl rfl (ob_indexAddrs rfl Try.underlying41 sz3 (.tmp rfl) (.tmp rfl) e_x1)) (opsS_cons (.plain _ (Av.new (j := 2) rfl rfl rfl Av.nil) rfl rfl (ob_loadr rfl tk3 (.tmp rfl))) (opsS_cons (.plain _ (Av.old (t := 1) rfl rfl Av.nil) rfl rfl (ob_move rfl (.tmp rfl))) (opsS_cons (.plain _ (Av.old (t := 5) rfl rfl Av.nil) rfl rfl (ob_move rfl (.tmp rfl))) (opsS_cons (.plain _ (Av.new (j := 4) rfl rfl rfl (Av.new (j := 5) rfl rfl rfl Av.nil)) rfl rfl (ob_indexAddrs rfl Try.underlying41 sz3 (.tmp rfl) (.tmp rfl) e_x2)) (opsS_cons (.plain _ (Av.new (j := 6) rfl rfl rfl Av.nil) rfl rfl (ob_loadr rfl tk3 (.tmp rfl))) opsS_nil)))))))) (out_old (t := 0) rfl rfl (out_old (t := 1) rfl rfl (out_old (t := 12) rfl rfl (out_old (t := 13) rfl rfl (out_new (i := 3) (by decide) rfl rfl (out_new (i := 7) (by decide) rfl rfl out_nil)))))) fun a27 w27 s27 => ?_
      refine seq_op s27 rfl rfl (of_decide_eq_true rfl) (ob_neq rfl (.tmp rfl) (.tmp rfl)) fun a28 w28 s28 => ?_; clear s27
      refine wpList_nil ?_
      refine then_normal ?_
      refine hK13 _ _ ?_
      have s29 := s28.sub (.cons (t := 0) rfl (.cons (t := 1) rfl (.cons (t := 12) rfl (.cons (t := 13) rfl (.cons (t := 24) rfl .nil))))); clear s28
      refine cond_split s29 (.tmp rfl) (fun hc3 => ?_) (fun hc3 => ?_)
      · replace h8 := ite_t hc3 h8
        have h9 := h8; clear h8
        refine wp_seq_k fun K14 hK14 => ?_
        refine wp_region_lit ?_
        refine seq_op s29 rfl rfl (of_decide_eq_true rfl) (ob_assign rfl opd_bool) fun a30 w30 s30 => ?_; clear s29
        refine wpList_nil ?_
        refine then_normal ?_
        refine hK14 _ _ ?_
        have s31 := s30.sub (.cons (t := 4) rfl .nil); clear s30
        refine wp_ret ?_
        obtain rfl := Option.some.inj h9
        exact leave s31 (.inl rfl) rfl (.cons (.tmp rfl) .nil)
      · replace h8 := ite_f hc3 h8
        have h10 := h8; clear h8
        refine wp_skip ?_
        refine in_normal ?_
        refine then_normal ?_
        refine hK11 _ _ ?_
        have s32 := s29.sub (.cons (t := 0) rfl (.cons (t := 1) rfl (.cons (t := 12) rfl (.cons (t := 13) rfl .nil)))); clear s29
        refine wp_region_lit ?_
        refine seq_op s32 rfl rfl (of_decide_eq_true rfl) (ob_add rfl (.tmp rfl) (opd_int rfl)) fun a33 w33 s33 => ?_; clear s32
        refine seq_op s33 rfl rfl (of_decide_eq_true rfl) (ob_move rfl (.tmp rfl)) fun a34 w34 s34 => ?_; clear s33
        refine wpList_nil ?_
        refine then_normal ?_
        exact hK8 (iadd .i64 y1 (1 : Int)) _ _ h10 (s34.sub (.cons rfl (.cons rfl (.cons rfl (.cons rfl .nil)))))
    · replace h5 := ite_f hc2 h5
      have h11 := h5; clear h5
      refine wp_exit ?_
      refine (then_exit (then_exit (in_here ?_)))
      refine then_normal ?_
      exact hj1 _ _ h11 (s22.sub .nil)

/- 185 cmp.isNaN[int] -/
theorem c_cmp_isNaN_int (k : Nat) (p1 : Int) (r : Bool) (h0 : cmp_isNaN_int k p1 = some r) (ok : Ok) (w0 : World) (z0 : Value) (u0 : ((kint .i64).V p1).holds ok w0 z0) :
    Gives Try.prog 185 [z0] ok w0 (resFact [kbool.V r]) := by
  unfold cmp_isNaN_int at h0
  refine enter (N := 6) Try.func185 rfl rfl (of_decide_eq_true rfl) (.cons u0 .nil) fun a1 s1 => ?_
  refine wp_seq_k fun K1 hK1 => ?_
  refine wp_region_lit ?_
  refine seq_op s1 rfl rfl (of_decide_eq_true rfl) (ob_assign rfl opd_bool) fun a2 w2 s2 => ?_; clear s1
  refine wpList_nil ?_
  refine then_normal ?_
  refine hK1 _ _ ?_
  have s3 := s2.sub (.cons (t := 0) rfl .nil); clear s2
  refine wp_seq_k fun K2 hK2 => ?_
  refine wp_region_lit ?_
  refine seq_op s3 rfl rfl (of_decide_eq_true rfl) (ob_move rfl (.tmp rfl)) fun a4 w4 s4 => ?_; clear s3
  refine seq_op s4 rfl rfl (of_decide_eq_true rfl) (ob_move rfl (.tmp rfl)) fun a5 w5 s5 => ?_; clear s4
  refine seq_op s5 rfl rfl (of_decide_eq_true rfl) (ob_neq rfl (.tmp rfl) (.tmp rfl)) fun a6 w6 s6 => ?_; clear s5
  refine seq_op s6 rfl rfl (of_decide_eq_true rfl) (ob_assign rfl (.tmp rfl)) fun a7 w7 s7 => ?_; clear s6
  refine wpList_nil ?_
  refine then_normal ?_
  refine hK2 _ _ ?_
  have s8 := s7.sub (.cons (t := 2) rfl .nil); clear s7
  refine wp_ret ?_
  obtain rfl := Option.some.inj h0
  exact leave s8 (.inl rfl) rfl (.cons (.tmp rfl) .nil)

/- 162 cmp.Less[int] -/
theorem c_cmp_Less_int (k : Nat) (p1 : Int) (p2 : Int) (r : Bool) (h0 : cmp_Less_int k p1 p2 = some r) (ok : Ok) (w0 : World) (z0 : Value) (z1 : Value) (u0 : ((kint .i64).V p1).holds ok w0 z0) (u1 : ((kint .i64).V p2).holds ok w0 z1) :
    Gives Try.prog 162 [z0, z1] ok w0 (resFact [kbool.V r]) := by
  unfold cmp_Less_int at h0
  refine enter (N := 17) Try.func162 rfl rfl (of_decide_eq_true rfl) (.cons u0 (.cons u1 .nil)) fun a1 s1 => ?_
  refine wp_seq_k fun K1 hK1 => ?_
  refine wp_region_lit ?_
  refine seq_op s1 rfl rfl (of_decide_eq_true rfl) (ob_assign rfl opd_bool) fun a2 w2 s2 => ?_; clear s1
  refine wpList_nil ?_
  refine then_normal ?_
  refine hK1 _ _ ?_
  have s3 := s2.sub (.cons (t := 0) rfl (.cons (t := 1) rfl .nil)); clear s2
  refine wp_seq_k fun K2 hK2 => ?_
  refine wp_region_lit ?_
  refine seq_op s3 rfl rfl (of_decide_eq_true rfl) (ob_move rfl (.tmp rfl)) fun a4 w4 s4 => ?_; clear s3
  obtain ⟨x1, e_x1, h1⟩ := bind_some h0; clear h0
  refine seq_op s4 rfl rfl (of_decide_eq_true rfl) (ob_callD (args := [_]) rfl .direct hb185 (fun a w s fs gs hf hg => by obtain rfl := hf.unnil; obtain rfl := hg.unnil; exact c_cmp_isNaN_int k _ _ e_x1 _ _ _ (s.arg (.tmp rfl)))) fun a5 w5 s5 => ?_; clear s4
  refine seq_op s5 rfl rfl (of_decide_eq_true rfl) (ob_move rfl (.tmp rfl)) fun a6 w6 s6 => ?_; clear s5
  refine seq_opg s6 rfl rfl rfl rfl (of_decide_eq_true rfl) (fun hb => ob_move rfl (.tmp rfl)) fun a7 w7 s7 => ?_; clear s6
  obtain ⟨x2, e_x2, h2⟩ := bind_some h1; clear h1
  refine seq_opg s7 rfl rfl rfl rfl (of_decide_eq_true rfl) (fun hb => (Ob.uncond (t := 8) hb rfl (ob_callD (args := [_]) rfl .direct hb185 (fun a w s fs gs hf hg => by obtain rfl := hf.unnil; obtain rfl := hg.unnil; exact c_cmp_isNaN_int k _ _ (ite_t hb e_x2) _ _ _ (s.arg (.tmp rfl)))))) fun a8 w8 s8 => ?_; clear s7
  refine seq_opg s8 rfl rfl rfl rfl (of_decide_eq_true rfl) (fun hb => (Ob.uncond (t := 9) hb rfl (ob_not rfl (.tmp rfl)))) fun a9 w9 s9 => ?_; clear s8
  refine seq_op s9 rfl rfl (of_decide_eq_true rfl) (ob_and2 rfl (.tmp rfl) (.tmp rfl) opd_bool) fun a10 w10 s10 => ?_; clear s9
  refine seq_op s10 rfl rfl (of_decide_eq_true rfl) (ob_move rfl (.tmp rfl)) fun a11 w11 s11 => ?_; clear s10
  refine seq_opg s11 rfl rfl rfl rfl (of_decide_eq_true rfl) (fun hb => ob_move rfl (.tmp rfl)) fun a12 w12 s12 => ?_; clear s11
  refine seq_opg s12 rfl rfl rfl rfl (of_decide_eq_true rfl) (fun hb => ob_move rfl (.tmp rfl)) fun a13 w13 s13 => ?_; clear s12
  refine seq_opg s13 rfl rfl rfl rfl (of_decide_eq_true rfl) (fun hb => (Ob.uncond (t := 14) hb rfl ((Ob.uncond (t := 13) hb rfl (ob_lss rfl (.tmp rfl) (.tmp rfl)))))) fun a14 w14 s14 => ?_; clear s13
  refine seq_op s14 rfl rfl (of_decide_eq_true rfl) (ob_or2 rfl (.tmp rfl) opd_bool (.tmp rfl)) fun a15 w15 s15 => ?_; clear s14
  refine seq_op s15 rfl rfl (of_decide_eq_true rfl) (ob_assign rfl (.tmp rfl)) fun a16 w16 s16 => ?_; clear s15
  refine wpList_nil ?_
  refine then_normal ?_
  refine hK2 _ _ ?_
  have s17 := s16.sub (.cons (t := 4) rfl .nil); clear s16
  refine wp_ret ?_
  obtain rfl := Option.some.inj h2
  exact leave s17 (.inl rfl) rfl (.cons (.tmp rfl) .nil)

/- 163 slices.isNaN[int] -/
theorem c_slices_isNaN_int (k : Nat) (p1 : Int) (r : Bool) (h0 : slices_isNaN_int k p1 = some r) (ok : Ok) (w0 : World) (z0 : Value) (u0 : ((kint .i64).V p1).holds ok w0 z0) :
    Gives Try.prog 163 [z0] ok w0 (resFact [kbool.V r]) := by
  unfold slices_isNaN_int at h0
  refine enter (N := 6) Try.func163 rfl rfl (of_decide_eq_true rfl) (.cons u0 .nil) fun a1 s1 => ?_
  refine wp_seq_k fun K1 hK1 => ?_
  refine wp_region_lit ?_
  refine seq_op s1 rfl rfl (of_decide_eq_true rfl) (ob_assign rfl opd_bool) fun a2 w2 s2 => ?_; clear s1
  refine wpList_nil ?_
  refine then_normal ?_
  refine hK1 _ _ ?_
  have s3 := s2.sub (.cons (t := 0) rfl .nil); clear s2
  refine wp_seq_k fun K2 hK2 => ?_
  refine wp_region_lit ?_
  refine seq_op s3 rfl rfl (of_decide_eq_true rfl) (ob_move rfl (.tmp rfl)) fun a4 w4 s4 => ?_; clear s3
  refine seq_op s4 rfl rfl (of_decide_eq_true rfl) (ob_move rfl (.tmp rfl)) fun a5 w5 s5 => ?_; clear s4
  refine seq_op s5 rfl rfl (of_decide_eq_true rfl) (ob_neq rfl (.tmp rfl) (.tmp rfl)) fun a6 w6 s6 => ?_; clear s5
  refine seq_op s6 rfl rfl (of_decide_eq_true rfl) (ob_assign rfl (.tmp rfl)) fun a7 w7 s7 => ?_; clear s6
  refine wpList_nil ?_
  refine then_normal ?_
  refine hK2 _ _ ?_
  have s8 := s7.sub (.cons (t := 2) rfl .nil); clear s7
  refine wp_ret ?_
  obtain rfl := Option.some.inj h0
  exact leave s8 (.inl rfl) rfl (.cons (.tmp rfl) .nil)

/- 141 slices.BinarySearch[[]int,int] -/
theorem c_slices_BinarySearch_int_int (k : Nat) (p1 : (List Int)) (p2 : Int) (r : (Int × Bool)) (h0 : slices_BinarySearch_int_int k p1 p2 = some r) (ok : Ok) (w0 : World) (z0 : Value) (z1 : Value) (u0 : ((ksl (kint .i64)).V p1).holds ok w0 z0) (u1 : ((kint .i64).V p2).holds ok w0 z1) :
    Gives Try.prog 141 [z0, z1] ok w0 (resFact [(kint .i64).V r.1, kbool.V r.2]) := by
  unfold slices_BinarySearch_int_int at h0
  refine enter (N := 54) Try.func141 rfl rfl (of_decide_eq_true rfl) (.cons u0 (.cons u1 .nil)) fun a1 s1 => ?_
  refine wp_seq_k fun K1 hK1 => ?_
  refine wp_region_lit ?_
  refine seq_op s1 rfl rfl (of_decide_eq_true rfl) (ob_assign rfl (opd_int rfl)) fun a2 w2 s2 => ?_; clear s1
  refine seq_op s2 rfl rfl (of_decide_eq_true rfl) (ob_assign rfl opd_bool) fun a3 w3 s3 => ?_; clear s2
  refine wpList_nil ?_
  refine then_normal ?_
  refine hK1 _ _ ?_
  have s4 := s3.sub (.cons (t := 0) rfl (.cons (t := 1) rfl .nil)); clear s3
  refine wp_seq_k fun K2 hK2 => ?_
  refine wp_region_lit ?_
  refine seq_op s4 rfl rfl (of_decide_eq_true rfl) (ob_move rfl (.tmp rfl)) fun a5 w5 s5 => ?_; clear s4
  refine seq_op s5 rfl rfl (of_decide_eq_true rfl) (ob_lens rfl Try.underlying41 (.tmp rfl)) fun a6 w6 s6 => ?_; clear s5
  refine seq_op s6 rfl rfl (of_decide_eq_true rfl) (ob_assign rfl (.tmp rfl)) fun a7 w7 s7 => ?_; clear s6
  refine wpList_nil ?_
  refine then_normal ?_
  refine hK2 _ _ ?_
  have s8 := s7.sub (.cons (t := 0) rfl (.cons (t := 1) rfl (.cons (t := 6) rfl .nil))); clear s7
  refine wp_seq_k fun K3 hK3 => ?_
  refine wp_region_lit ?_
  refine seq_op s8 rfl rfl (of_decide_eq_true rfl) (ob_move rfl (.tmp rfl)) fun a9 w9 s9 => ?_; clear s8
  refine seq_op s9 rfl rfl (of_decide_eq_true rfl) (ob_assign rfl (opd_int rfl)) fun a10 w10 s10 => ?_; clear s9
  refine seq_op s10 rfl rfl (of_decide_eq_true rfl) (ob_assign rfl (.tmp rfl)) fun a11 w11 s11 => ?_; clear s10
  refine wpList_nil ?_
  refine then_normal ?_
  refine hK3 _ _ ?_
  have s12 := s11.sub (.cons (t := 0) rfl (.cons (t := 1) rfl (.cons (t := 6) rfl (.cons (t := 7) rfl (.cons (t := 8) rfl .nil))))); clear s11
  refine wp_seq_k fun K4 hK4 => ?_
  have hj1 : ∀ (y1 : Int) (a : Act) (w : World), (slices_BinarySearch_int_int.j1 k p1 p2) y1 = some r → St ⟨54, w0, ok, []⟩ [] [(0, ((ksl (kint .i64)).V p1)), (1, ((kint .i64).V p2)), (6, ((kint .i64).V (p1.length : Int))), (7, ((kint .i64).V y1))] a w → K4 a w := by
    intro y1 a13 w13 h1 s13
    unfold slices_BinarySearch_int_int.j1 at h1
    refine hK4 _ _ ?_
    refine wp_seq_k fun K5 hK5 => ?_
    refine wp_region_lit ?_
    refine seq_op s13 rfl rfl (of_decide_eq_true rfl) (ob_move rfl (.tmp rfl)) fun a14 w14 s14 => ?_; clear s13
    refine seq_op s14 rfl rfl (of_decide_eq_true rfl) (ob_move rfl (.tmp rfl)) fun a15 w15 s15 => ?_; clear s14
    refine seq_op s15 rfl rfl (of_decide_eq_true rfl) (ob_move rfl (.tmp rfl)) fun a16 w16 s16 => ?_; clear s15
    refine seq_op s16 rfl rfl (of_decide_eq_true rfl) (ob_lss rfl (.tmp rfl) (.tmp rfl)) fun a17 w17 s17 => ?_; clear s16
    refine seq_op s17 rfl rfl (of_decide_eq_true rfl) (ob_move rfl (.tmp rfl)) fun a18 w18 s18 => ?_; clear s17
    refine seq_opg s18 rfl rfl rfl rfl (of_decide_eq_true rfl) (fun hb => ob_move rfl (.tmp rfl)) fun a19 w19 s19 => ?_; clear s18
    refine seq_opg s19 rfl rfl rfl rfl (of_decide_eq_true rfl) (fun hb => ob_move rfl (.tmp rfl)) fun a20 w20 s20 => ?_; clear s19
    obtain ⟨x1, e_x1, h2⟩ := bind_some h1; clear h1
    refine seq_opg s20 rfl rfl rfl rfl (of_decide_eq_true rfl) (fun hb => (Ob.uncond (t := 37) hb rfl ((Ob.uncond (t := 36) hb rfl (ob_indexAddrs rfl Try.underlying41 sz3 (.tmp rfl) (.tmp rfl) (ite_t hb e_x1)))))) fun a21 w21 s21 => ?_; clear s20
    refine seq_opg s21 rfl rfl rfl rfl (of_decide_eq_true rfl) (fun hb => (Ob.uncond (t := 38) hb rfl (ob_loadr rfl tk3 (.tmp rfl)))) fun a22 w22 s22 => ?_; clear s21
    refine seq_opg s22 rfl rfl rfl rfl (of_decide_eq_true rfl) (fun hb => ob_move rfl (.tmp rfl)) fun a23 w23 s23 => ?_; clear s22
    refine seq_opg s23 rfl rfl rfl rfl (of_decide_eq_true rfl) (fun hb => (Ob.uncond (t := 40) hb rfl ((Ob.uncond (t := 39) hb rfl (ob_eql rfl (.tmp rfl) (.tmp rfl)))))) fun a24 w24 s24 => ?_; clear s23
    refine seq_opg s24 rfl rfl rfl rfl (of_decide_eq_true rfl) (fun hb => (Ob.uncond (t := 41) hb rfl (ob_move rfl (.tmp rfl)))) fun a25 w25 s25 => ?_; clear s24
    refine seq_opg2 s25 rfl rfl rfl rfl (of_decide_eq_true rfl) (fun hb => ob_move rfl (.tmp rfl)) fun a26 w26 s26 => ?_; clear s25
    refine seq_opg2 s26 rfl rfl rfl rfl (of_decide_eq_true rfl) (fun hb => ob_move rfl (.tmp rfl)) fun a27 w27 s27 => ?_; clear s26
    obtain ⟨x2, e_x2, h3⟩ := bind_some h2; clear h2
    refine seq_opg2 s27 rfl rfl rfl rfl (of_decide_eq_true rfl) (fun hb => (Ob.uncond (t := 44) hb rfl ((Ob.uncond (t := 43) hb rfl (ob_indexAddrs rfl Try.underlying41 sz3 (.tmp rfl) (.tmp rfl) (ite_t hb e_x2)))))) fun a28 w28 s28 => ?_; clear s27
    refine seq_opg2 s28 rfl rfl rfl rfl (of_decide_eq_true rfl) (fun hb => (Ob.uncond (t := 45) hb rfl (ob_loadr rfl tk3 (.tmp rfl)))) fun a29 w29 s29 => ?_; clear s28
    obtain ⟨x3, e_x3, h4⟩ := bind_some h3; clear h3
    refine seq_opg2 s29 rfl rfl rfl rfl (of_decide_eq_true rfl) (fun hb => (Ob.uncond (t := 46) hb rfl (ob_callD (args := [_]) rfl .direct hb163 (fun a w s fs gs hf hg => by obtain rfl := hf.unnil; obtain rfl := hg.unnil; exact c_slices_isNaN_int k _ _ (ite_t hb e_x3) _ _ _ (s.arg (.tmp rfl)))))) fun a30 w30 s30 => ?_; clear s29
    refine seq_opg2 s30 rfl rfl rfl rfl (of_decide_eq_true rfl) (fun hb => (Ob.uncond (t := 47) hb rfl (ob_move rfl (.tmp rfl)))) fun a31 w31 s31 => ?_; clear s30
    refine seq_opg2 s31 rfl rfl rfl rfl (of_decide_eq_true rfl) (fun hb => ob_move rfl (.tmp rfl)) fun a32 w32 s32 => ?_; clear s31
    obtain ⟨x4, e_x4, h5⟩ := bind_some h4; clear h4
    refine seq_opg2 s32 rfl rfl rfl rfl (of_decide_eq_true rfl) (fun hb => (Ob.uncond (t := 49) hb rfl (ob_callD (args := [_]) rfl .direct hb163 (fun a w s fs gs hf hg => by obtain rfl := hf.unnil; obtain rfl := hg.unnil; exact c_slices_isNaN_int k _ _ (ite_t hb e_x4) _ _ _ (s.arg (.tmp rfl)))))) fun a33 w33 s33 => ?_; clear s32
    refine seq_opg2 s33 rfl rfl rfl rfl (of_decide_eq_true rfl) (fun hb => (Ob.uncond (t := 48) hb rfl (ob_and3 hb rfl (.tmp rfl) (.tmp rfl) opd_bool))) fun a34 w34 s34 => ?_; clear s33
    refine seq_opg s34 rfl rfl rfl rfl (of_decide_eq_true rfl) (fun hb => (Ob.uncond (t := 42) hb rfl (ob_or3 hb rfl (.tmp rfl) opd_bool (.tmp rfl)))) fun a35 w35 s35 => ?_; clear s34
    obtain ⟨x5, e_x5, h6⟩ := bind_some h5; clear h5; replace e_x5 := Option.some.inj e_x5
    refine seq_op s35 rfl rfl (of_decide_eq_true rfl) ((ob_and2 rfl (.tmp rfl) (.tmp rfl) opd_bool).nm e_x5) fun a36 w36 s36 => ?_; clear s35
    refine seq_op s36 rfl rfl (of_decide_eq_true rfl) (ob_assign rfl (.tmp rfl)) fun a37 w37 s37 => ?_; clear s36
    refine seq_op s37 rfl rfl (of_decide_eq_true rfl) (ob_assign rfl (.tmp rfl)) fun a38 w38 s38 => ?_; clear s37
    refine wpList_nil ?_
    refine then_normal ?_
    refine hK5 _ _ ?_
    have s39 := s38.sub (.cons (t := 4) rfl (.cons (t := 5) rfl .nil)); clear s38
    refine wp_ret ?_
    obtain rfl := Option.some.inj h6
    exact leave s39 (.inl rfl) rfl (.cons (.tmp rfl) (.cons (.tmp rfl) .nil))
  refine wp_block ?_
  refine wp_loop_fuel (fun m (q : Int × Int) => slices_BinarySearch_int_int.l1 k p1 p2 m q.1 q.2) r (fun _ => rfl) (fun q a w => St ⟨54, w0, ok, []⟩ [] [(0, ((ksl (kint .i64)).V p1)), (1, ((kint .i64).V p2)), (6, ((kint .i64).V (p1.length : Int))), (7, ((kint .i64).V q.1)), (8, ((kint .i64).V q.2))] a w) ?_ k ((0 : Int), (p1.length : Int)) _ _ h0 (s12.sub (.cons rfl (.cons rfl (.cons rfl (.cons rfl (.cons rfl .nil))))))
  rintro n1 ⟨y2, y3⟩ a40 w40 h7 s40 K6 hK6
  replace h7 : slices_BinarySearch_int_int.l1 k p1 p2 (n1 + 1) y2 y3 = some r := h7; rw [slices_BinarySearch_int_int.l1] at h7
  have h8 := h7; clear h7
  refine wp_seq_k fun K7 hK7 => ?_
  refine wp_seq_k fun K8 hK8 => ?_
  refine wp_region_lit ?_
  refine seq_op s40 rfl rfl (of_decide_eq_true rfl) (ob_move rfl (.tmp rfl)) fun a41 w41 s41 => ?_; clear s40
  refine seq_op s41 rfl rfl (of_decide_eq_true rfl) (ob_move rfl (.tmp rfl)) fun a42 w42 s42 => ?_; clear s41
  refine seq_op s42 rfl rfl (of_decide_eq_true rfl) (ob_lss rfl (.tmp rfl) (.tmp rfl)) fun a43 w43 s43 => ?_; clear s42
  refine wpList_nil ?_
  refine then_normal ?_
  refine hK8 _ _ ?_
  have s44 := s43.sub (.cons (t := 0) rfl (.cons (t := 1) rfl (.cons (t := 6) rfl (.cons (t := 7) rfl (.cons (t := 8) rfl (.cons (t := 15) rfl .nil)))))); clear s43
  refine cond_split s44 (.tmp rfl) (fun hc1 => ?_) (fun hc1 => ?_)
  · replace h8 := ite_t hc1 h8
    have h9 := h8; clear h8
    refine wp_skip ?_
    refine then_normal ?_
    refine hK7 _ _ ?_
    have s45 := s44.sub (.cons (t := 0) rfl (.cons (t := 1) rfl (.cons (t := 6) rfl (.cons (t := 7) rfl (.cons (t := 8) rfl .nil))))); clear s44
    refine wp_block ?_
    refine wp_seq_k fun K9 hK9 => ?_
    refine wp_region_lit ?_
    refine seq_op s45 rfl rfl (of_decide_eq_true rfl) (ob_move rfl (.tmp rfl)) fun a46 w46 s46 => ?_; clear s45
    refine seq_op s46 rfl rfl (of_decide_eq_true rfl) (ob_move rfl (.tmp rfl)) fun a47 w47 s47 => ?_; clear s46
    refine seq_op s47 rfl rfl (of_decide_eq_true rfl) (ob_add rfl (.tmp rfl) (.tmp rfl)) fun a48 w48 s48 => ?_; clear s47
    refine seq_op s48 rfl rfl (of_decide_eq_true rfl) (ob_conv rfl _ Try.underlying3 Try.underlying37 (.tmp rfl)) fun a49 w49 s49 => ?_; clear s48
    refine seq_op s49 rfl rfl (of_decide_eq_true rfl) (ob_shr rfl (.tmp rfl) (opd_int rfl) (by decide)) fun a50 w50 s50 => ?_; clear s49
    obtain ⟨x6, e_x6, h10⟩ := bind_some h9; clear h9; replace e_x6 := Option.some.inj e_x6
    refine seq_op s50 rfl rfl (of_decide_eq_true rfl) ((ob_conv rfl _ Try.underlying37 Try.underlying3 (.tmp rfl)).nm e_x6) fun a51 w51 s51 => ?_; clear s50
    refine seq_op s51 rfl rfl (of_decide_eq_true rfl) (ob_assign rfl (.tmp rfl)) fun a52 w52 s52 => ?_; clear s51
    refine wpList_nil ?_
    refine then_normal ?_
    refine hK9 _ _ ?_
    have s53 := s52.sub (.cons (t := 0) rfl (.cons (t := 1) rfl (.cons (t := 6) rfl (.cons (t := 7) rfl (.cons (t := 8) rfl (.cons (t := 9) rfl .nil)))))); clear s52
    refine wp_seq_k fun K10 hK10 => ?_
    refine wp_region_lit ?_
    refine seq_op s53 rfl rfl (of_decide_eq_true rfl) (ob_move rfl (.tmp rfl)) fun a54 w54 s54 => ?_; clear s53
    refine seq_op s54 rfl rfl (of_decide_eq_true rfl) (ob_move rfl (.tmp rfl)) fun a55 w55 s55 => ?_; clear s54
    obtain ⟨x7, e_x7, h11⟩ := bind_some h10; clear h10
    refine seq_op s55 rfl rfl (of_decide_eq_true rfl) (ob_indexAddrs rfl Try.underlying41 sz3 (.tmp rfl) (.tmp rfl) e_x7) fun a56 w56 s56 => ?_; clear s55
    refine seq_op s56 rfl rfl (of_decide_eq_true rfl) (ob_loadr rfl tk3 (.tmp rfl)) fun a57 w57 s57 => ?_; clear s56
    refine seq_op s57 rfl rfl (of_decide_eq_true rfl) (ob_move rfl (.tmp rfl)) fun a58 w58 s58 => ?_; clear s57
    obtain ⟨x8, e_x8, h12⟩ := bind_some h11; clear h11
    refine seq_op s58 rfl rfl (of_decide_eq_true rfl) (ob_callD (args := [_, _]) rfl .direct hb162 (fun a w s fs gs hf hg => by obtain rfl := hf.unnil; obtain rfl := hg.unnil; exact c_cmp_Less_int k _ _ _ e_x8 _ _ _ _ (s.arg (.tmp rfl)) (s.arg (.tmp rfl)))) fun a59 w59 s59 => ?_; clear s58
    refine wpList_nil ?_
    refine then_normal ?_
    refine hK10 _ _ ?_
    have s60 := s59.sub (.cons (t := 0) rfl (.cons (t := 1) rfl (.cons (t := 6) rfl (.cons (t := 7) rfl (.cons (t := 8) rfl (.cons (t := 9) rfl (.cons (t := 27) rfl .nil))))))); clear s59
    refine cond_split s60 (.tmp rfl) (fun hc2 => ?_) (fun hc2 => ?_)
    · replace h12 := ite_t hc2 h12
      have h13 := h12; clear h12
      refine wp_region_lit ?_
      refine seq_op s60 rfl rfl (of_decide_eq_true rfl) (ob_move rfl (.tmp rfl)) fun a61 w61 s61 => ?_; clear s60
      refine seq_op s61 rfl rfl (of_decide_eq_true rfl) (ob_add rfl (.tmp rfl) (opd_int rfl)) fun a62 w62 s62 => ?_; clear s61
      refine seq_op s62 rfl rfl (of_decide_eq_true rfl) (ob_assign rfl (.tmp rfl)) fun a63 w63 s63 => ?_; clear s62
      refine wpList_nil ?_
      refine in_normal ?_
      refine then_normal ?_
      exact hK6 ((iadd .i64 x6 (1 : Int)), y3) _ _ h13 (s63.sub (.cons rfl (.cons rfl (.cons rfl (.cons rfl (.cons rfl .nil))))))
    · replace h12 := ite_f hc2 h12
      have h14 := h12; clear h12
      refine wp_region_lit ?_
      refine seq_op s60 rfl rfl (of_decide_eq_true rfl) (ob_move rfl (.tmp rfl)) fun a64 w64 s64 => ?_; clear s60
      refine seq_op s64 rfl rfl (of_decide_eq_true rfl) (ob_assign rfl (.tmp rfl)) fun a65 w65 s65 => ?_; clear s64
      refine wpList_nil ?_
      refine in_normal ?_
      refine then_normal ?_
      exact hK6 (y2, x6) _ _ h14 (s65.sub (.cons rfl (.cons rfl (.cons rfl (.cons rfl (.cons rfl .nil))))))
  · replace h8 := ite_f hc1 h8
    have h15 := h8; clear h8
    refine wp_exit ?_
    refine (then_exit (then_exit (in_here ?_)))
    refine then_normal ?_
    exact hj1 y2 _ _ h15 (s44.sub (.cons rfl (.cons rfl (.cons rfl (.cons rfl .nil)))))

/- 93 cabal/graph.turn -/
theorem c_graph_turn (k : Nat) (p1 : (List api_Node)) (p2 : api_Op) (p3 : (List Int)) (r : Bool) (h0 : graph_turn k p1 p2 p3 = some r) (ok : Ok) (w0 : World) (z0 : Value) (z1 : Value) (z2 : Value) (u0 : ((ksl k_api_Node).V p1).holds ok w0 z0) (u1 : (k_api_Op.V p2).holds ok w0 z1) (u2 : ((ksl (kint .i64)).V p3).holds ok w0 z2) :
    Gives Try.prog 93 [z0, z1, z2] ok w0 (resFact [kbool.V r]) := by
  unfold graph_turn at h0
  refine enter (N := 49) Try.func93 rfl rfl (of_decide_eq_true rfl) (.cons u0 (.cons u1 (.cons u2 .nil))) fun a1 s1 => ?_
  refine wp_seq_k fun K1 hK1 => ?_
  refine wp_region_lit ?_
  refine seq_opx (B' := (fun b1 : Nat => [BF b1 44 k_api_Op p2])) s1 rfl rfl (of_decide_eq_true rfl) (ob_box rfl (.tmp rfl)) fun b1 a2 w2 s2 => ?_; clear s1
  refine seq_op s2 rfl rfl (of_decide_eq_true rfl) (ob_assign rfl opd_bool) fun a3 w3 s3 => ?_; clear s2
  refine wpList_nil ?_
  refine then_normal ?_
  refine hK1 _ _ ?_
  have s4 := s3.sub (.cons (t := 0) rfl (.cons (t := 2) rfl (.cons (t := 4) rfl .nil))); clear s3
  refine wp_seq_k fun K2 hK2 => ?_
  refine wp_region_lit ?_
  refine seq_op s4 rfl rfl (of_decide_eq_true rfl) (ob_assign rfl (opd_int rfl)) fun a5 w5 s5 => ?_; clear s4
  refine wpList_nil ?_
  refine then_normal ?_
  refine hK2 _ _ ?_
  have s6 := s5.sub (.cons (t := 0) rfl (.cons (t := 2) rfl (.cons (t := 4) rfl (.cons (t := 7) rfl .nil)))); clear s5
  refine wp_seq_k fun K3 hK3 => ?_
  refine wp_seq_k fun K4 hK4 => ?_
  refine wp_region_lit ?_
  refine seq_op s6 rfl rfl (of_decide_eq_true rfl) (ob_move rfl (.tmp rfl)) fun a7 w7 s7 => ?_; clear s6
  refine seq_op s7 rfl rfl (of_decide_eq_true rfl) (ob_lens rfl Try.underlying22 (.tmp rfl)) fun a8 w8 s8 => ?_; clear s7
  refine seq_op s8 rfl rfl (of_decide_eq_true rfl) (ob_move rfl (opd_int rfl)) fun a9 w9 s9 => ?_; clear s8
  refine wpList_nil ?_
  refine then_normal ?_
  refine hK4 _ _ ?_
  have s10 := s9.sub (.cons (t := 0) rfl (.cons (t := 2) rfl (.cons (t := 4) rfl (.cons (t := 7) rfl (.cons (t := 12) rfl (.cons (t := 13) rfl (.cons (t := 14) rfl .nil))))))); clear s9
  have hj1 : ∀ (y1 : Int) (a : Act) (w : World), (graph_turn.j1 k p2 p1) y1 = some r → St ⟨49, w0, ok, []⟩ [BF b1 44 k_api_Op p2] [(0, ((ksl k_api_Node).V p1)), (4, (ptrB b1 0)), (7, ((kint .u32).V y1))] a w → K3 a w := by
    intro y1 a11 w11 h1 s11
    unfold graph_turn.j1 at h1
    refine hK3 _ _ ?_
    refine wp_seq_k fun K5 hK5 => ?_
    refine wp_region_lit ?_
    refine seq_op s11 rfl rfl (of_decide_eq_true rfl) (ob_fieldAddr (off' := 1) rfl Try.underlying44 rfl sz25 (by decide) (.tmp rfl) rfl) fun a12 w12 s12 => ?_; clear s11
    refine seq_op s12 rfl rfl (of_decide_eq_true rfl) (ob_load rfl tk25 (.tmp rfl) (.head _) (lg_api_Op_Seq p2)) fun a13 w13 s13 => ?_; clear s12
    refine seq_op s13 rfl rfl (of_decide_eq_true rfl) (ob_move rfl (.tmp rfl)) fun a14 w14 s14 => ?_; clear s13
    refine seq_op s14 rfl rfl (of_decide_eq_true rfl) (ob_eql rfl (.tmp rfl) (.tmp rfl)) fun a15 w15 s15 => ?_; clear s14
    refine seq_op s15 rfl rfl (of_decide_eq_true rfl) (ob_move rfl (.tmp rfl)) fun a16 w16 s16 => ?_; clear s15
    refine seq_opg s16 rfl rfl rfl rfl (of_decide_eq_true rfl) (fun hb => ob_fieldAddr (off' := 3) rfl Try.underlying44 rfl sz3 (by decide) (.tmp rfl) rfl) fun a17 w17 s17 => ?_; clear s16
    refine seq_opg s17 rfl rfl rfl rfl (of_decide_eq_true rfl) (fun hb => (Ob.uncond (t := 41) hb rfl (ob_load rfl tk3 (.tmp rfl) (.head _) (lg_api_Op_Kind p2)))) fun a18 w18 s18 => ?_; clear s17
    refine seq_opg s18 rfl rfl rfl rfl (of_decide_eq_true rfl) (fun hb => (Ob.uncond (t := 42) hb rfl (ob_eql rfl (.tmp rfl) (opd_int rfl)))) fun a19 w19 s19 => ?_; clear s18
    refine seq_opg s19 rfl rfl rfl rfl (of_decide_eq_true rfl) (fun hb => ob_move rfl (.tmp rfl)) fun a20 w20 s20 => ?_; clear s19
    refine seq_opg s20 rfl rfl rfl rfl (of_decide_eq_true rfl) (fun hb => (Ob.uncond (t := 44) hb rfl (ob_lens rfl Try.underlying22 (.tmp rfl)))) fun a21 w21 s21 => ?_; clear s20
    refine seq_opg s21 rfl rfl rfl rfl (of_decide_eq_true rfl) (fun hb => (Ob.uncond (t := 45) hb rfl (ob_eql rfl (.tmp rfl) (opd_int rfl)))) fun a22 w22 s22 => ?_; clear s21
    refine seq_opg s22 rfl rfl rfl rfl (of_decide_eq_true rfl) (fun hb => (Ob.uncond (t := 46) hb rfl ((Ob.uncond (t := 43) hb rfl (ob_beql rfl Try.underlying4 (.tmp rfl) (.tmp rfl)))))) fun a23 w23 s23 => ?_; clear s22
    obtain ⟨x1, e_x1, h2⟩ := bind_some h1; clear h1; replace e_x1 := Option.some.inj e_x1
    refine seq_op s23 rfl rfl (of_decide_eq_true rfl) ((ob_and2 rfl (.tmp rfl) (.tmp rfl) opd_bool).nm e_x1) fun a24 w24 s24 => ?_; clear s23
    refine seq_op s24 rfl rfl (of_decide_eq_true rfl) (ob_assign rfl (.tmp rfl)) fun a25 w25 s25 => ?_; clear s24
    refine wpList_nil ?_
    refine then_normal ?_
    refine hK5 _ _ ?_
    have s26 := s25.sub (.cons (t := 6) rfl .nil); clear s25
    have s27 := St.drop (A := []) s26; clear s26
    refine wp_ret ?_
    obtain rfl := Option.some.inj h2
    exact leave s27 (.inl rfl) rfl (.cons (.tmp rfl) .nil)
  refine wp_block ?_
  refine wp_loop_fuel (fun m (q : Int × Int) => graph_turn.l1 k p1 p2 p3 m q.1 q.2) r (fun _ => rfl) (fun q a w => St ⟨49, w0, ok, []⟩ [BF b1 44 k_api_Op p2] [(0, ((ksl k_api_Node).V p1)), (2, ((ksl (kint .i64)).V p3)), (4, (ptrB b1 0)), (7, ((kint .u32).V q.1)), (12, ((ksl k_api_Node).V p1)), (13, ((kint .i64).V (p1.length : Int))), (14, ((kint .i64).V q.2))] a w) ?_ k ((1 : Int), (0 : Int)) _ _ h0 (s10.sub (.cons rfl (.cons rfl (.cons rfl (.cons rfl (.cons rfl (.cons rfl (.cons rfl .nil))))))))
  rintro n1 ⟨y2, y3⟩ a28 w28 h3 s28 K6 hK6
  replace h3 : graph_turn.l1 k p1 p2 p3 (n1 + 1) y2 y3 = some r := h3; rw [graph_turn.l1] at h3
  have h4 := h3; clear h3
  refine wp_seq_k fun K7 hK7 => ?_
  refine wp_region_lit ?_
  refine seq_op s28 rfl rfl (of_decide_eq_true rfl) (ob_lss rfl (.tmp rfl) (.tmp rfl)) fun a29 w29 s29 => ?_; clear s28
  refine wpList_nil ?_
  refine then_normal ?_
  refine hK7 _ _ ?_
  have s30 := s29.sub (.cons (t := 0) rfl (.cons (t := 2) rfl (.cons (t := 4) rfl (.cons (t := 7) rfl (.cons (t := 12) rfl (.cons (t := 13) rfl (.cons (t := 14) rfl (.cons (t := 15) rfl .nil)))))))); clear s29
  refine wp_seq_k fun K8 hK8 => ?_
  refine cond_split s30 (.tmp rfl) (fun hc1 => ?_) (fun hc1 => ?_)
  · replace h4 := ite_t hc1 h4
    have h5 := h4; clear h4
    refine wp_skip ?_
    refine then_normal ?_
    refine hK8 _ _ ?_
    have s31 := s30.sub (.cons (t := 0) rfl (.cons (t := 2) rfl (.cons (t := 4) rfl (.cons (t := 7) rfl (.cons (t := 12) rfl (.cons (t := 13) rfl (.cons (t := 14) rfl .nil))))))); clear s30
    refine wp_seq_k fun K9 hK9 => ?_
    have hj2 : ∀ (y4 : Int) (a : Act) (w : World), (graph_turn.j2 k y3 (graph_turn.l1 k p1 p2 p3 n1)) y4 = some r → St ⟨49, w0, ok, []⟩ [BF b1 44 k_api_Op p2] [(0, ((ksl k_api_Node).V p1)), (2, ((ksl (kint .i64)).V p3)), (4, (ptrB b1 0)), (7, ((kint .u32).V y4)), (12, ((ksl k_api_Node).V p1)), (13, ((kint .i64).V (p1.length : Int))), (14, ((kint .i64).V y3))] a w → K9 a w := by
      intro y4 a32 w32 h6 s32
      unfold graph_turn.j2 at h6
      refine hK9 _ _ ?_
      refine wp_region_lit ?_
      refine seq_op s32 rfl rfl (of_decide_eq_true rfl) (ob_add rfl (.tmp rfl) (opd_int rfl)) fun a33 w33 s33 => ?_; clear s32
      refine seq_op s33 rfl rfl (of_decide_eq_true rfl) (ob_move rfl (.tmp rfl)) fun a34 w34 s34 => ?_; clear s33
      refine wpList_nil ?_
      refine then_normal ?_
      exact hK6 (y4, (iadd .i64 y3 (1 : Int))) _ _ h6 (s34.sub (.cons rfl (.cons rfl (.cons rfl (.cons rfl (.cons rfl (.cons rfl (.cons rfl .nil))))))))
    refine wp_block ?_
    refine wp_seq_k fun K10 hK10 => ?_
    refine wp_region_lit ?_
    refine seq_op s31 rfl rfl (of_decide_eq_true rfl) (ob_move rfl (.tmp rfl)) fun a35 w35 s35 => ?_; clear s31
    obtain ⟨x2, e_x2, h7⟩ := bind_some h5; clear h5
    refine seq_op s35 rfl rfl (of_decide_eq_true rfl) (ob_indexAddrs rfl Try.underlying22 sz46 (.tmp rfl) (.tmp rfl) e_x2) fun a36 w36 s36 => ?_; clear s35
    refine seq_op s36 rfl rfl (of_decide_eq_true rfl) (ob_loadr rfl tk46 (.tmp rfl)) fun a37 w37 s37 => ?_; clear s36
    refine seq_opx (B' := (fun b2 : Nat => [BF b2 46 k_api_Node (⟨(List.replicate 32 (0 : Int)), (⟨(0 : Int), (0 : Int), [], (0 : Int), [], (List.replicate 32 (0 : Int)), (List.replicate 32 (0 : Int)), [], []⟩ : api_Op), []⟩ : api_Node), BF b1 44 k_api_Op p2])) s37 rfl rfl (of_decide_eq_true rfl) (ob_new (k := k_api_Node) rfl zz46 (Zr.iso (f := t_api_Node) (x := (⟨(List.replicate 32 (0 : Int)), (⟨(0 : Int), (0 : Int), [], (0 : Int), [], (List.replicate 32 (0 : Int)), (List.replicate 32 (0 : Int)), [], []⟩ : api_Op), []⟩ : api_Node)) (Zr.pair (Zr.arr 32 (Zr.int .u8)) (Zr.pair (Zr.iso (f := t_api_Op) (x := (⟨(0 : Int), (0 : Int), [], (0 : Int), [], (List.replicate 32 (0 : Int)), (List.replicate 32 (0 : Int)), [], []⟩ : api_Op)) (Zr.pair (Zr.int .i64) (Zr.pair (Zr.int .u32) (Zr.pair (Zr.sl _) (Zr.pair (Zr.int .i64) (Zr.pair (Zr.sl _) (Zr.pair (Zr.arr 32 (Zr.int .u8)) (Zr.pair (Zr.arr 32 (Zr.int .u8)) (Zr.pair Zr.str (Zr.pair (Zr.sl _) Zr.nil)))))))))) (Zr.pair (Zr.sl _) Zr.nil))))) fun b2 a38 w38 s38 => ?_; clear s37
    refine seq_op s38 rfl rfl (of_decide_eq_true rfl) (ob_assign rfl (.tmp rfl)) fun a39 w39 s39 => ?_; clear s38
    refine seq_opx0 (B' := (fun _ : Unit => [BF b2 46 k_api_Node x2, BF b1 44 k_api_Op p2])) s39 rfl rfl (ob_store (A := []) rfl tk46 (.tmp rfl) (.tmp rfl) rfl (LS.refl _ _ _) rfl) fun _ a40 w40 s40 => ?_; clear s39
    refine wpList_nil ?_
    refine then_normal ?_
    refine hK10 _ _ ?_
    have s41 := s40.sub (.cons (t := 0) rfl (.cons (t := 2) rfl (.cons (t := 4) rfl (.cons (t := 7) rfl (.cons (t := 8) rfl (.cons (t := 9) rfl (.cons (t := 12) rfl (.cons (t := 13) rfl (.cons (t := 14) rfl .nil))))))))); clear s40
    refine wp_seq_k fun K11 hK11 => ?_
    refine wp_seq_k fun K12 hK12 => ?_
    refine wp_region_lit ?_
    refine seq_op s41 rfl rfl (of_decide_eq_true rfl) (ob_fieldAddr (off' := 32) rfl Try.underlying46 rfl sz44 (by decide) (.tmp rfl) rfl) fun a42 w42 s42 => ?_; clear s41
    refine seq_op s42 rfl rfl (of_decide_eq_true rfl) (ob_fieldAddr (off' := 32) rfl Try.underlying44 rfl sz3 (by decide) (.tmp rfl) rfl) fun a43 w43 s43 => ?_; clear s42
    refine seq_op s43 rfl rfl (of_decide_eq_true rfl) (ob_load rfl tk3 (.tmp rfl) (.head _) (LG.trans (lg_api_Node_Op x2) (lg_api_Op_Author x2.Op) (by decide))) fun a44 w44 s44 => ?_; clear s43
    refine seq_op s44 rfl rfl (of_decide_eq_true rfl) (ob_fieldAddr (off' := 0) rfl Try.underlying44 rfl sz3 (by decide) (.tmp rfl) rfl) fun a45 w45 s45 => ?_; clear s44
    refine seq_op s45 rfl rfl (of_decide_eq_true rfl) (ob_load rfl tk3 (.tmp rfl) (.tail _ (.head _)) (lg_api_Op_Author p2)) fun a46 w46 s46 => ?_; clear s45
    refine seq_op s46 rfl rfl (of_decide_eq_true rfl) (ob_neq rfl (.tmp rfl) (.tmp rfl)) fun a47 w47 s47 => ?_; clear s46
    refine wpList_nil ?_
    refine then_normal ?_
    refine hK12 _ _ ?_
    have s48 := s47.sub (.cons (t := 0) rfl (.cons (t := 2) rfl (.cons (t := 4) rfl (.cons (t := 7) rfl (.cons (t := 8) rfl (.cons (t := 12) rfl (.cons (t := 13) rfl (.cons (t := 14) rfl (.cons (t := 24) rfl .nil))))))))); clear s47
    have s49 := St.drop (A := []) s48; clear s48
    refine cond_split s49 (.tmp rfl) (fun hc2 => ?_) (fun hc2 => ?_)
    · replace h7 := ite_t hc2 h7
      have h8 := h7; clear h7
      refine wp_exit ?_
      refine (then_exit (in_here ?_))
      refine then_normal ?_
      exact hj2 y2 _ _ h8 (s49.sub (.cons rfl (.cons rfl (.cons rfl (.cons rfl (.cons rfl (.cons rfl (.cons rfl .nil))))))))
    · replace h7 := ite_f hc2 h7
      have h9 := h7; clear h7
      refine wp_skip ?_
      refine then_normal ?_
      refine hK11 _ _ ?_
      have s50 := s49.sub (.cons (t := 0) rfl (.cons (t := 2) rfl (.cons (t := 4) rfl (.cons (t := 7) rfl (.cons (t := 8) rfl (.cons (t := 12) rfl (.cons (t := 13) rfl (.cons (t := 14) rfl .nil)))))))); clear s49
      refine wp_seq_k fun K13 hK13 => ?_
      refine wp_seq_k fun K14 hK14 => ?_
      refine wp_region_lit ?_
      refine seq_op s50 rfl rfl (of_decide_eq_true rfl) (ob_move rfl (.tmp rfl)) fun a51 w51 s51 => ?_; clear s50
      refine seq_op s51 rfl rfl (of_decide_eq_true rfl) (ob_move rfl (.tmp rfl)) fun a52 w52 s52 => ?_; clear s51
      obtain ⟨x3, e_x3, h10⟩ := bind_some h9; clear h9
      refine seq_op s52 rfl rfl (of_decide_eq_true rfl) (ob_callD (args := [_, _]) rfl .direct hb141 (fun a w s fs gs hf hg => by obtain rfl := hf.unnil; obtain rfl := hg.unnil; exact c_slices_BinarySearch_int_int k _ _ _ e_x3 _ _ _ _ (s.arg (.tmp rfl)) (s.arg (.tmp rfl)))) fun a53 w53 s53 => ?_; clear s52
      refine seq_op s53 rfl rfl (of_decide_eq_true rfl) (ob_move rfl (.tmp rfl)) fun a54 w54 s54 => ?_; clear s53
      refine seq_op s54 rfl rfl (of_decide_eq_true rfl) (ob_extract rfl (.tmp rfl) rfl) fun a55 w55 s55 => ?_; clear s54
      refine seq_op s55 rfl rfl (of_decide_eq_true rfl) (ob_extract rfl (.tmp rfl) rfl) fun a56 w56 s56 => ?_; clear s55
      refine seq_op s56 rfl rfl (of_decide_eq_true rfl) (ob_assign rfl (.tmp rfl)) fun a57 w57 s57 => ?_; clear s56
      refine seq_op s57 rfl rfl (of_decide_eq_true rfl) (ob_assign rfl (.tmp rfl)) fun a58 w58 s58 => ?_; clear s57
      refine wpList_nil ?_
      refine then_normal ?_
      refine hK14 _ _ ?_
      have s59 := s58.sub (.cons (t := 0) rfl (.cons (t := 2) rfl (.cons (t := 4) rfl (.cons (t := 7) rfl (.cons (t := 11) rfl (.cons (t := 12) rfl (.cons (t := 13) rfl (.cons (t := 14) rfl .nil)))))))); clear s58
      refine wp_seq_k fun K15 hK15 => ?_
      refine wp_region_lit ?_
      refine seq_op s59 rfl rfl (of_decide_eq_true rfl) (ob_move rfl (.tmp rfl)) fun a60 w60 s60 => ?_; clear s59
      refine seq_op s60 rfl rfl (of_decide_eq_true rfl) (ob_not rfl (.tmp rfl)) fun a61 w61 s61 => ?_; clear s60
      refine wpList_nil ?_
      refine then_normal ?_
      refine hK15 _ _ ?_
      have s62 := s61.sub (.cons (t := 0) rfl (.cons (t := 2) rfl (.cons (t := 4) rfl (.cons (t := 7) rfl (.cons (t := 12) rfl (.cons (t := 13) rfl (.cons (t := 14) rfl (.cons (t := 32) rfl .nil)))))))); clear s61
      refine cond_split s62 (.tmp rfl) (fun hc3 => ?_) (fun hc3 => ?_)
      · replace h10 := ite_t hc3 h10
        have h11 := h10; clear h10
        refine wp_seq_k fun K16 hK16 => ?_
        refine wp_region_lit ?_
        refine seq_op s62 rfl rfl (of_decide_eq_true rfl) (ob_assign rfl opd_bool) fun a63 w63 s63 => ?_; clear s62
        refine wpList_nil ?_
        refine then_normal ?_
        refine hK16 _ _ ?_
        have s64 := s63.sub (.cons (t := 6) rfl .nil); clear s63
        have s65 := St.drop (A := []) s64; clear s64
        refine wp_ret ?_
        obtain rfl := Option.some.inj h11
        exact leave s65 (.inl rfl) rfl (.cons (.tmp rfl) .nil)
      · replace h10 := ite_f hc3 h10
        have h12 := h10; clear h10
        refine wp_skip ?_
        refine then_normal ?_
        refine hK13 _ _ ?_
        have s66 := s62.sub (.cons (t := 0) rfl (.cons (t := 2) rfl (.cons (t := 4) rfl (.cons (t := 7) rfl (.cons (t := 12) rfl (.cons (t := 13) rfl (.cons (t := 14) rfl .nil))))))); clear s62
        refine wp_region_lit ?_
        refine seq_op s66 rfl rfl (of_decide_eq_true rfl) (ob_move rfl (.tmp rfl)) fun a67 w67 s67 => ?_; clear s66
        refine seq_op s67 rfl rfl (of_decide_eq_true rfl) (ob_add rfl (.tmp rfl) (opd_int rfl)) fun a68 w68 s68 => ?_; clear s67
        refine seq_op s68 rfl rfl (of_decide_eq_true rfl) (ob_assign rfl (.tmp rfl)) fun a69 w69 s69 => ?_; clear s68
        refine wpList_nil ?_
        refine in_normal ?_
        refine then_normal ?_
        exact hj2 (iadd .u32 y2 (1 : Int)) _ _ h12 (s69.sub (.cons rfl (.cons rfl (.cons rfl (.cons rfl (.cons rfl (.cons rfl (.cons rfl .nil))))))))
  · replace h4 := ite_f hc1 h4
    have h13 := h4; clear h4
    refine wp_exit ?_
    refine (then_exit (then_exit (in_here ?_)))
    refine then_normal ?_
    exact hj1 y2 _ _ h13 (s30.sub (.cons rfl (.cons rfl (.cons rfl .nil))))

/- 78 cabal/graph.fits -/
theorem c_graph_fits (k : Nat) (p1 : (List api_Node)) (p2 : api_Node) (r : Bool) (h0 : graph_fits k p1 p2 = some r) (ok : Ok) (w0 : World) (z0 : Value) (z1 : Value) (u0 : ((ksl k_api_Node).V p1).holds ok w0 z0) (u1 : (k_api_Node.V p2).holds ok w0 z1) :
    Gives Try.prog 78 [z0, z1] ok w0 (resFact [kbool.V r]) := by
  unfold graph_fits at h0
  refine enter (N := 42) Try.func78 rfl rfl (of_decide_eq_true rfl) (.cons u0 (.cons u1 .nil)) fun a1 s1 => ?_
  refine wp_seq_k fun K1 hK1 => ?_
  refine wp_region_lit ?_
  refine seq_opx (B' := (fun b1 : Nat => [BF b1 46 k_api_Node p2])) s1 rfl rfl (of_decide_eq_true rfl) (ob_box rfl (.tmp rfl)) fun b1 a2 w2 s2 => ?_; clear s1
  refine seq_op s2 rfl rfl (of_decide_eq_true rfl) (ob_assign rfl opd_bool) fun a3 w3 s3 => ?_; clear s2
  refine wpList_nil ?_
  refine then_normal ?_
  refine hK1 _ _ ?_
  have s4 := s3.sub (.cons (t := 0) rfl (.cons (t := 3) rfl .nil)); clear s3
  refine wp_seq_k fun K2 hK2 => ?_
  refine wp_region_lit ?_
  refine seq_op s4 rfl rfl (of_decide_eq_true rfl) (ob_move rfl (.tmp rfl)) fun a5 w5 s5 => ?_; clear s4
  refine seq_op s5 rfl rfl (of_decide_eq_true rfl) (ob_fieldAddr (off' := 32) rfl Try.underlying46 rfl sz44 (by decide) (.tmp rfl) rfl) fun a6 w6 s6 => ?_; clear s5
  refine seq_op s6 rfl rfl (of_decide_eq_true rfl) (ob_fieldAddr (off' := 34) rfl Try.underlying44 rfl sz40 (by decide) (.tmp rfl) rfl) fun a7 w7 s7 => ?_; clear s6
  refine seq_op s7 rfl rfl (of_decide_eq_true rfl) (ob_load rfl tk40 (.tmp rfl) (.head _) (LG.trans (lg_api_Node_Op p2) (lg_api_Op_Parents p2.Op) (by decide))) fun a8 w8 s8 => ?_; clear s7
  obtain ⟨x1, e_x1, h1⟩ := bind_some h0; clear h0
  refine seq_opx (B' := (fun v1 : Value => [RowF v1 3 (kint .i64) x1.1, BF b1 46 k_api_Node p2])) s8 rfl rfl (of_decide_eq_true rfl) (ob_callL (args := [_, _]) (L := []) rfl .direct hb92 (List.Perm.refl _) (fun a w s fs gs hf hg => by obtain rfl := hf.unnil; obtain rfl := hg.unnil; exact c_graph_past k _ _ _ e_x1 _ _ _ _ (s.arg (.tmp rfl)) (s.arg (.tmp rfl))) (by exact fun _ => rfl)) fun v1 a9 w9 s9 => ?_; clear s8
  refine seq_op s9 rfl rfl (of_decide_eq_true rfl) (ob_move rfl (.tmp rfl)) fun a10 w10 s10 => ?_; clear s9
  refine seq_op s10 rfl rfl (of_decide_eq_true rfl) (ob_extract rfl (.tmp rfl) rfl) fun a11 w11 s11 => ?_; clear s10
  refine seq_op s11 rfl rfl (of_decide_eq_true rfl) (ob_extract rfl (.tmp rfl) rfl) fun a12 w12 s12 => ?_; clear s11
  refine seq_op s12 rfl rfl (of_decide_eq_true rfl) (ob_assign rfl (.tmp rfl)) fun a13 w13 s13 => ?_; clear s12
  refine seq_op s13 rfl rfl (of_decide_eq_true rfl) (ob_assign rfl (.tmp rfl)) fun a14 w14 s14 => ?_; clear s13
  refine wpList_nil ?_
  refine then_normal ?_
  refine hK2 _ _ ?_
  have s15 := s14.sub (.cons (t := 0) rfl (.cons (t := 3) rfl (.cons (t := 5) rfl (.cons (t := 6) rfl .nil)))); clear s14
  refine wp_seq_k fun K3 hK3 => ?_
  refine wp_region_lit ?_
  refine seq_op s15 rfl rfl (of_decide_eq_true rfl) (ob_move rfl (.tmp rfl)) fun a16 w16 s16 => ?_; clear s15
  refine seq_op s16 rfl rfl (of_decide_eq_true rfl) (ob_eql rfl (.tmp rfl) (opd_int rfl)) fun a17 w17 s17 => ?_; clear s16
  refine seq_op s17 rfl rfl (of_decide_eq_true rfl) (ob_move rfl (.tmp rfl)) fun a18 w18 s18 => ?_; clear s17
  refine seq_opg s18 rfl rfl rfl rfl (of_decide_eq_true rfl) (fun hb => ob_fieldAddr (off' := 32) rfl Try.underlying46 rfl sz44 (by decide) (.tmp rfl) rfl) fun a19 w19 s19 => ?_; clear s18
  refine seq_opg s19 rfl rfl rfl rfl (of_decide_eq_true rfl) (fun hb => (Ob.uncond (t := 18) hb rfl (ob_load rfl tk44 (.tmp rfl) (.tail _ (.head _)) (lg_api_Node_Op p2)))) fun a20 w20 s20 => ?_; clear s19
  obtain ⟨x2, e_x2, h2⟩ := bind_some h1; clear h1
  refine seq_opg s20 rfl rfl rfl rfl (of_decide_eq_true rfl) (fun hb => (Ob.uncond (t := 19) hb rfl (ob_callD (args := [_]) rfl .direct hb91 (fun a w s fs gs hf hg => by obtain rfl := hf.unnil; obtain rfl := hg.unnil; exact c_frame_Right k _ _ (ite_t hb e_x2) _ _ _ (s.arg (.tmp rfl)))))) fun a21 w21 s21 => ?_; clear s20
  refine seq_op s21 rfl rfl (of_decide_eq_true rfl) (ob_and2 rfl (.tmp rfl) (.tmp rfl) opd_bool) fun a22 w22 s22 => ?_; clear s21
  refine seq_op s22 rfl rfl (of_decide_eq_true rfl) (ob_move rfl (.tmp rfl)) fun a23 w23 s23 => ?_; clear s22
  refine seq_opg s23 rfl rfl rfl rfl (of_decide_eq_true rfl) (fun hb => ob_move rfl (.tmp rfl)) fun a24 w24 s24 => ?_; clear s23
  refine seq_opg s24 rfl rfl rfl rfl (of_decide_eq_true rfl) (fun hb => ob_fieldAddr (off' := 0) rfl Try.underlying46 rfl sz39 (by decide) (.tmp rfl) rfl) fun a25 w25 s25 => ?_; clear s24
  refine seq_opg s25 rfl rfl rfl rfl (of_decide_eq_true rfl) (fun hb => (Ob.uncond (t := 24) hb rfl (ob_load rfl tk39 (.tmp rfl) (.tail _ (.head _)) (lg_api_Node_Id p2)))) fun a26 w26 s26 => ?_; clear s25
  obtain ⟨x3, e_x3, h3⟩ := bind_some h2; clear h2
  refine seq_opg s26 rfl rfl rfl rfl (of_decide_eq_true rfl) (fun hb => (Ob.uncond (t := 25) hb rfl ((Ob.uncond (t := 23) hb rfl (ob_callD (args := [_, _]) rfl .direct hb48 (fun a w s fs gs hf hg => by obtain rfl := hf.unnil; obtain rfl := hg.unnil; exact c_graph_Find k _ _ _ (ite_t hb e_x3) _ _ _ _ (s.arg (.tmp rfl)) (s.arg (.tmp rfl)))))))) fun a27 w27 s27 => ?_; clear s26
  refine seq_opg s27 rfl rfl rfl rfl (of_decide_eq_true rfl) (fun hb => (Ob.uncond (t := 26) hb rfl (ob_lss rfl (.tmp rfl) (opd_int rfl)))) fun a28 w28 s28 => ?_; clear s27
  obtain ⟨x4, e_x4, h4⟩ := bind_some h3; clear h3; replace e_x4 := Option.some.inj e_x4
  refine seq_op s28 rfl rfl (of_decide_eq_true rfl) ((ob_and2 rfl (.tmp rfl) (.tmp rfl) opd_bool).nm e_x4) fun a29 w29 s29 => ?_; clear s28
  refine seq_op s29 rfl rfl (of_decide_eq_true rfl) (ob_move rfl (.tmp rfl)) fun a30 w30 s30 => ?_; clear s29
  refine seq_opg s30 rfl rfl rfl rfl (of_decide_eq_true rfl) (fun hb => ob_move rfl (.tmp rfl)) fun a31 w31 s31 => ?_; clear s30
  refine seq_opg s31 rfl rfl rfl rfl (of_decide_eq_true rfl) (fun hb => ob_fieldAddr (off' := 103) rfl Try.underlying46 rfl sz41 (by decide) (.tmp rfl) rfl) fun a32 w32 s32 => ?_; clear s31
  refine seq_opg s32 rfl rfl rfl rfl (of_decide_eq_true rfl) (fun hb => (Ob.uncond (t := 31) hb rfl (ob_load rfl tk41 (.tmp rfl) (.tail _ (.head _)) (lg_api_Node_Past p2)))) fun a33 w33 s33 => ?_; clear s32
  obtain ⟨x5, e_x5, h5⟩ := bind_some h4; clear h4
  refine seq_opg s33 rfl rfl rfl rfl (of_decide_eq_true rfl) (fun hb => (Ob.uncond (t := 32) hb rfl ((Ob.uncond (t := 30) hb rfl ((ob_lendG (L := [_]) (List.Perm.refl _) (.cons (t := 30) rfl (lendRow (.head _)) .nil) (Flat.res1 (Flat.V KFlat.bool)) (fun _ => ob_callD (args := [_, _]) rfl .direct hb106 (fun a w s fs gs hf hg => by obtain rfl := hf.unnil; obtain rfl := hg.unnil; exact c_slices_Equal_int_int k _ _ _ (ite_t hb e_x5) _ _ _ _ (s.arg (.tmp rfl)) (s.arg (.tmp rfl)))))))))) fun a34 w34 s34 => ?_; clear s33
  refine seq_op s34 rfl rfl (of_decide_eq_true rfl) (ob_and2 rfl (.tmp rfl) (.tmp rfl) opd_bool) fun a35 w35 s35 => ?_; clear s34
  refine seq_op s35 rfl rfl (of_decide_eq_true rfl) (ob_move rfl (.tmp rfl)) fun a36 w36 s36 => ?_; clear s35
  refine seq_opg s36 rfl rfl rfl rfl (of_decide_eq_true rfl) (fun hb => ob_move rfl (.tmp rfl)) fun a37 w37 s37 => ?_; clear s36
  refine seq_opg s37 rfl rfl rfl rfl (of_decide_eq_true rfl) (fun hb => ob_fieldAddr (off' := 32) rfl Try.underlying46 rfl sz44 (by decide) (.tmp rfl) rfl) fun a38 w38 s38 => ?_; clear s37
  refine seq_opg s38 rfl rfl rfl rfl (of_decide_eq_true rfl) (fun hb => (Ob.uncond (t := 37) hb rfl (ob_load rfl tk44 (.tmp rfl) (.tail _ (.head _)) (lg_api_Node_Op p2)))) fun a39 w39 s39 => ?_; clear s38
  refine seq_opg s39 rfl rfl rfl rfl (of_decide_eq_true rfl) (fun hb => ob_move rfl (.tmp rfl)) fun a40 w40 s40 => ?_; clear s39
  obtain ⟨x6, e_x6, h6⟩ := bind_some h5; clear h5
  refine seq_opg s40 rfl rfl rfl rfl (of_decide_eq_true rfl) (fun hb => (Ob.uncond (t := 39) hb rfl ((Ob.uncond (t := 38) hb rfl ((Ob.uncond (t := 36) hb rfl ((ob_lendG (L := [_]) (List.Perm.refl _) (.cons (t := 39) rfl (lendRow (.head _)) .nil) (Flat.res1 (Flat.V KFlat.bool)) (fun _ => ob_callD (args := [_, _, _]) rfl .direct hb93 (fun a w s fs gs hf hg => by obtain rfl := hf.unnil; obtain rfl := hg.unnil; exact c_graph_turn k _ _ _ _ (ite_t hb e_x6) _ _ _ _ _ (s.arg (.tmp rfl)) (s.arg (.tmp rfl)) (s.arg (.tmp rfl)))))))))))) fun a41 w41 s41 => ?_; clear s40
  refine seq_op s41 rfl rfl (of_decide_eq_true rfl) (ob_and2 rfl (.tmp rfl) (.tmp rfl) opd_bool) fun a42 w42 s42 => ?_; clear s41
  refine seq_op s42 rfl rfl (of_decide_eq_true rfl) (ob_assign rfl (.tmp rfl)) fun a43 w43 s43 => ?_; clear s42
  refine wpList_nil ?_
  refine then_normal ?_
  refine hK3 _ _ ?_
  have s44 := s43.sub (.cons (t := 4) rfl .nil); clear s43
  have s45 := St.drop (A := []) s44; clear s44
  have s46 := St.drop (A := []) s45; clear s45
  refine wp_ret ?_
  obtain rfl := Option.some.inj h6
  exact leave s46 (.inl rfl) rfl (.cons (.tmp rfl) .nil)

/- 24 cabal/graph.Right -/
theorem c_graph_Right (k : Nat) (p1 : (List api_Node)) (r : Bool) (h0 : graph_Right k p1 = some r) (ok : Ok) (w0 : World) (z0 : Value) (u0 : ((ksl k_api_Node).V p1).holds ok w0 z0) :
    Gives Try.prog 24 [z0] ok w0 (resFact [kbool.V r]) := by
  unfold graph_Right at h0
  refine enter (N := 22) Try.func24 rfl rfl (of_decide_eq_true rfl) (.cons u0 .nil) fun a1 s1 => ?_
  refine wp_seq_k fun K1 hK1 => ?_
  refine wp_region_lit ?_
  refine seq_op s1 rfl rfl (of_decide_eq_true rfl) (ob_assign rfl opd_bool) fun a2 w2 s2 => ?_; clear s1
  refine wpList_nil ?_
  refine then_normal ?_
  refine hK1 _ _ ?_
  have s3 := s2.sub (.cons (t := 0) rfl .nil); clear s2
  refine wp_seq_k fun K2 hK2 => ?_
  refine wp_seq_k fun K3 hK3 => ?_
  refine wp_region_lit ?_
  refine seq_op s3 rfl rfl (of_decide_eq_true rfl) (ob_move rfl (.tmp rfl)) fun a4 w4 s4 => ?_; clear s3
  refine seq_op s4 rfl rfl (of_decide_eq_true rfl) (ob_lens rfl Try.underlying22 (.tmp rfl)) fun a5 w5 s5 => ?_; clear s4
  refine seq_op s5 rfl rfl (of_decide_eq_true rfl) (ob_gtr rfl (.tmp rfl) (opd_int rfl)) fun a6 w6 s6 => ?_; clear s5
  refine wpList_nil ?_
  refine then_normal ?_
  refine hK3 _ _ ?_
  have s7 := s6.sub (.cons (t := 0) rfl (.cons (t := 7) rfl .nil)); clear s6
  refine cond_split s7 (.tmp rfl) (fun hc1 => ?_) (fun hc1 => ?_)
  · replace h0 := ite_t hc1 h0
    have h1 := h0; clear h0
    refine wp_seq_k fun K4 hK4 => ?_
    refine wp_region_lit ?_
    refine seq_op s7 rfl rfl (of_decide_eq_true rfl) (ob_assign rfl opd_bool) fun a8 w8 s8 => ?_; clear s7
    refine wpList_nil ?_
    refine then_normal ?_
    refine hK4 _ _ ?_
    have s9 := s8.sub (.cons (t := 2) rfl .nil); clear s8
    refine wp_ret ?_
    obtain rfl := Option.some.inj h1
    exact leave s9 (.inl rfl) rfl (.cons (.tmp rfl) .nil)
  · replace h0 := ite_f hc1 h0
    have h2 := h0; clear h0
    refine wp_skip ?_
    refine then_normal ?_
    refine hK2 _ _ ?_
    have s10 := s7.sub (.cons (t := 0) rfl .nil); clear s7
    refine wp_seq_k fun K5 hK5 => ?_
    refine wp_seq_k fun K6 hK6 => ?_
    refine wp_region_lit ?_
    refine seq_op s10 rfl rfl (of_decide_eq_true rfl) (ob_move rfl (.tmp rfl)) fun a11 w11 s11 => ?_; clear s10
    refine seq_op s11 rfl rfl (of_decide_eq_true rfl) (ob_lens rfl Try.underlying22 (.tmp rfl)) fun a12 w12 s12 => ?_; clear s11
    refine seq_op s12 rfl rfl (of_decide_eq_true rfl) (ob_move rfl (opd_int rfl)) fun a13 w13 s13 => ?_; clear s12
    refine wpList_nil ?_
    refine then_normal ?_
    refine hK6 _ _ ?_
    have s14 := s13.sub (.cons (t := 0) rfl (.cons (t := 8) rfl (.cons (t := 9) rfl (.cons (t := 10) rfl .nil)))); clear s13
    have hj1 : ∀ (a : Act) (w : World), (graph_Right.j1 k) = some r → St ⟨22, w0, ok, []⟩ [] [] a w → K5 a w := by
      intro a15 w15 h3 s15
      unfold graph_Right.j1 at h3
      refine hK5 _ _ ?_
      refine wp_seq_k fun K7 hK7 => ?_
      refine wp_region_lit ?_
      refine seq_op s15 rfl rfl (of_decide_eq_true rfl) (ob_assign rfl opd_bool) fun a16 w16 s16 => ?_; clear s15
      refine wpList_nil ?_
      refine then_normal ?_
      refine hK7 _ _ ?_
      have s17 := s16.sub (.cons (t := 2) rfl .nil); clear s16
      refine wp_ret ?_
      obtain rfl := Option.some.inj h3
      exact leave s17 (.inl rfl) rfl (.cons (.tmp rfl) .nil)
    refine wp_block ?_
    refine wp_loop_fuel (fun m (q : Int) => graph_Right.l1 k p1 m q) r (fun _ => rfl) (fun q a w => St ⟨22, w0, ok, []⟩ [] [(0, ((ksl k_api_Node).V p1)), (8, ((ksl k_api_Node).V p1)), (9, ((kint .i64).V (p1.length : Int))), (10, ((kint .i64).V q))] a w) ?_ k (0 : Int) _ _ h2 (s14.sub (.cons rfl (.cons rfl (.cons rfl (.cons rfl .nil)))))
    rintro n1 y1 a18 w18 h4 s18 K8 hK8
    replace h4 : graph_Right.l1 k p1 (n1 + 1) y1 = some r := h4; rw [graph_Right.l1] at h4
    have h5 := h4; clear h4
    refine wp_seq_k fun K9 hK9 => ?_
    refine wp_region_lit ?_
    refine seq_op s18 rfl rfl (of_decide_eq_true rfl) (ob_lss rfl (.tmp rfl) (.tmp rfl)) fun a19 w19 s19 => ?_; clear s18
    refine wpList_nil ?_
    refine then_normal ?_
    refine hK9 _ _ ?_
    have s20 := s19.sub (.cons (t := 0) rfl (.cons (t := 8) rfl (.cons (t := 9) rfl (.cons (t := 10) rfl (.cons (t := 11) rfl .nil))))); clear s19
    refine wp_seq_k fun K10 hK10 => ?_
    refine cond_split s20 (.tmp rfl) (fun hc2 => ?_) (fun hc2 => ?_)
    · replace h5 := ite_t hc2 h5
      have h6 := h5; clear h5
      refine wp_skip ?_
      refine then_normal ?_
      refine hK10 _ _ ?_
      have s21 := s20.sub (.cons (t := 0) rfl (.cons (t := 8) rfl (.cons (t := 9) rfl (.cons (t := 10) rfl .nil)))); clear s20
      refine wp_seq_k fun K11 hK11 => ?_
      refine wp_block ?_
      refine wp_seq_k fun K12 hK12 => ?_
      refine wp_region_lit ?_
      refine seq_op s21 rfl rfl (of_decide_eq_true rfl) (ob_move rfl (.tmp rfl)) fun a22 w22 s22 => ?_; clear s21
      obtain ⟨x1, e_x1, h7⟩ := bind_some h6; clear h6
      refine seq_op s22 rfl rfl (of_decide_eq_true rfl) (ob_indexAddrs rfl Try.underlying22 sz46 (.tmp rfl) (.tmp rfl) e_x1) fun a23 w23 s23 => ?_; clear s22
      refine seq_op s23 rfl rfl (of_decide_eq_true rfl) (ob_loadr rfl tk46 (.tmp rfl)) fun a24 w24 s24 => ?_; clear s23
      refine seq_opx (B' := (fun b1 : Nat => [BF b1 46 k_api_Node (⟨(List.replicate 32 (0 : Int)), (⟨(0 : Int), (0 : Int), [], (0 : Int), [], (List.replicate 32 (0 : Int)), (List.replicate 32 (0 : Int)), [], []⟩ : api_Op), []⟩ : api_Node)])) s24 rfl rfl (of_decide_eq_true rfl) (ob_new (k := k_api_Node) rfl zz46 (Zr.iso (f := t_api_Node) (x := (⟨(List.replicate 32 (0 : Int)), (⟨(0 : Int), (0 : Int), [], (0 : Int), [], (List.replicate 32 (0 : Int)), (List.replicate 32 (0 : Int)), [], []⟩ : api_Op), []⟩ : api_Node)) (Zr.pair (Zr.arr 32 (Zr.int .u8)) (Zr.pair (Zr.iso (f := t_api_Op) (x := (⟨(0 : Int), (0 : Int), [], (0 : Int), [], (List.replicate 32 (0 : Int)), (List.replicate 32 (0 : Int)), [], []⟩ : api_Op)) (Zr.pair (Zr.int .i64) (Zr.pair (Zr.int .u32) (Zr.pair (Zr.sl _) (Zr.pair (Zr.int .i64) (Zr.pair (Zr.sl _) (Zr.pair (Zr.arr 32 (Zr.int .u8)) (Zr.pair (Zr.arr 32 (Zr.int .u8)) (Zr.pair Zr.str (Zr.pair (Zr.sl _) Zr.nil)))))))))) (Zr.pair (Zr.sl _) Zr.nil))))) fun b1 a25 w25 s25 => ?_; clear s24
      refine seq_op s25 rfl rfl (of_decide_eq_true rfl) (ob_assign rfl (.tmp rfl)) fun a26 w26 s26 => ?_; clear s25
      refine seq_opx0 (B' := (fun _ : Unit => [BF b1 46 k_api_Node x1])) s26 rfl rfl (ob_store (A := []) rfl tk46 (.tmp rfl) (.tmp rfl) rfl (LS.refl _ _ _) rfl) fun _ a27 w27 s27 => ?_; clear s26
      refine wpList_nil ?_
      refine then_normal ?_
      refine hK12 _ _ ?_
      have s28 := s27.sub (.cons (t := 0) rfl (.cons (t := 3) rfl (.cons (t := 4) rfl (.cons (t := 8) rfl (.cons (t := 9) rfl (.cons (t := 10) rfl .nil)))))); clear s27
      refine wp_seq_k fun K13 hK13 => ?_
      obtain ⟨x2, e_x2, h8⟩ := bind_some h7; clear h7
      refine wp_goes (Fs := [((ksl k_api_Node).V p1), ((kint .i64).V y1), ((ksl k_api_Node).V x2), (k_api_Node.V x1)]) (bits := [0, 0, 3, 0, 15, 31]) (m := 4) (todo := 0) mx s28 ?_; clear s28
      refine goes_last (by kernel_rfl) rfl (opsS_cons (.plain _ (Av.old (t := 0) rfl rfl Av.nil) rfl rfl (ob_move rfl (.tmp rfl))) (opsS_cons (.plain _ (Av.old (t := 3) rfl rfl Av.nil) rfl rfl (ob_move rfl (.tmp rfl))) (opsS_cons (.plain _ (Av.new (j := 0) rfl rfl rfl (Av.new (j := 1) rfl rfl rfl Av.nil)) rfl rfl (ob_cuts rfl Try.underlying22 sz46 (.tmp rfl) .none (.some (.tmp rfl)) e_x2)) (opsS_cons (.plain _ (Av.old (t := 4) rfl rfl Av.nil) rfl rfl (ob_load rfl tk46 (.tmp rfl) (.head _) (LG.refl _ _))) opsS_nil)))) (out_old (t := 0) rfl rfl (out_old (t := 8) rfl rfl (out_old (t := 9) rfl rfl (out_old (t := 10) rfl rfl (out_new (i := 2) (by decide) rfl rfl (out_new (i := 3) (by decide) rfl rfl out_nil)))))) fun a29 w29 s29 => ?_
      obtain ⟨x3, e_x3, h9⟩ := bind_some h8; clear h8
      refine seq_op s29 rfl rfl (of_decide_eq_true rfl) (ob_callD (args := [_, _]) rfl .direct hb78 (fun a w s fs gs hf hg => by obtain rfl := hf.unnil; obtain rfl := hg.unnil; exact c_graph_fits k _ _ _ e_x3 _ _ _ _ (s.arg (.tmp rfl)) (s.arg (.tmp rfl)))) fun a30 w30 s30 => ?_; clear s29
      refine seq_op s30 rfl rfl (of_decide_eq_true rfl) (ob_not rfl (.tmp rfl)) fun a31 w31 s31 => ?_; clear s30
      refine wpList_nil ?_
      refine then_normal ?_
      refine hK13 _ _ ?_
      have s32 := s31.sub (.cons (t := 0) rfl (.cons (t := 8) rfl (.cons (t := 9) rfl (.cons (t := 10) rfl (.cons (t := 20) rfl .nil))))); clear s31
      have s33 := St.drop (A := []) s32; clear s32
      refine cond_split s33 (.tmp rfl) (fun hc3 => ?_) (fun hc3 => ?_)
      · replace h9 := ite_t hc3 h9
        have h10 := h9; clear h9
        refine wp_seq_k fun K14 hK14 => ?_
        refine wp_region_lit ?_
        refine seq_op s33 rfl rfl (of_decide_eq_true rfl) (ob_assign rfl opd_bool) fun a34 w34 s34 => ?_; clear s33
        refine wpList_nil ?_
        refine then_normal ?_
        refine hK14 _ _ ?_
        have s35 := s34.sub (.cons (t := 2) rfl .nil); clear s34
        refine wp_ret ?_
        obtain rfl := Option.some.inj h10
        exact leave s35 (.inl rfl) rfl (.cons (.tmp rfl) .nil)
      · replace h9 := ite_f hc3 h9
        have h11 := h9; clear h9
        refine wp_skip ?_
        refine in_normal ?_
        refine then_normal ?_
        refine hK11 _ _ ?_
        have s36 := s33.sub (.cons (t := 0) rfl (.cons (t := 8) rfl (.cons (t := 9) rfl (.cons (t := 10) rfl .nil)))); clear s33
        refine wp_region_lit ?_
        refine seq_op s36 rfl rfl (of_decide_eq_true rfl) (ob_add rfl (.tmp rfl) (opd_int rfl)) fun a37 w37 s37 => ?_; clear s36
        refine seq_op s37 rfl rfl (of_decide_eq_true rfl) (ob_move rfl (.tmp rfl)) fun a38 w38 s38 => ?_; clear s37
        refine wpList_nil ?_
        refine then_normal ?_
        exact hK8 (iadd .i64 y1 (1 : Int)) _ _ h11 (s38.sub (.cons rfl (.cons rfl (.cons rfl (.cons rfl .nil)))))
    · replace h5 := ite_f hc2 h5
      have h12 := h5; clear h5
      refine wp_exit ?_
      refine (then_exit (then_exit (in_here ?_)))
      refine then_normal ?_
      exact hj1 _ _ h12 (s20.sub .nil)

/- 174 math/bits.Len64 -/
theorem c_math_bits_Len64 (k : Nat) (p1 : Int) (r : Int) (h0 : math_bits_Len64 k p1 = some r) (ok : Ok) (w0 : World) (z0 : Value) (u0 : ((kint .u64).V p1).holds ok w0 z0) :
    Gives Try.prog 174 [z0] ok w0 (resFact [(kint .i64).V r]) := by
  unfold math_bits_Len64 at h0
  refine enter (N := 25) Try.func174 rfl rfl (of_decide_eq_true rfl) (.cons u0 .nil) fun a1 s1 => ?_
  refine wp_seq_k fun K1 hK1 => ?_
  refine wp_region_lit ?_
  refine seq_op s1 rfl rfl (of_decide_eq_true rfl) (ob_assign rfl (opd_int rfl)) fun a2 w2 s2 => ?_; clear s1
  refine wpList_nil ?_
  refine then_normal ?_
  refine hK1 _ _ ?_
  have s3 := s2.sub (.cons (t := 0) rfl (.cons (t := 2) rfl .nil)); clear s2
  refine wp_seq_k fun K2 hK2 => ?_
  refine wp_seq_k fun K3 hK3 => ?_
  refine wp_region_lit ?_
  refine seq_op s3 rfl rfl (of_decide_eq_true rfl) (ob_move rfl (.tmp rfl)) fun a4 w4 s4 => ?_; clear s3
  refine seq_op s4 rfl rfl (of_decide_eq_true rfl) (ob_geq rfl (.tmp rfl) (opd_int rfl)) fun a5 w5 s5 => ?_; clear s4
  refine wpList_nil ?_
  refine then_normal ?_
  refine hK3 _ _ ?_
  have s6 := s5.sub (.cons (t := 0) rfl (.cons (t := 2) rfl (.cons (t := 4) rfl .nil))); clear s5
  have hj1 : ∀ (y1 : Int) (y2 : Int) (a : Act) (w : World), (math_bits_Len64.j1 k) y1 y2 = some r → St ⟨25, w0, ok, []⟩ [] [(0, ((kint .u64).V y1)), (2, ((kint .i64).V y2))] a w → K2 a w := by
    intro y1 y2 a7 w7 h1 s7
    unfold math_bits_Len64.j1 at h1
    refine hK2 _ _ ?_
    refine wp_seq_k fun K4 hK4 => ?_
    refine wp_seq_k fun K5 hK5 => ?_
    refine wp_region_lit ?_
    refine seq_op s7 rfl rfl (of_decide_eq_true rfl) (ob_move rfl (.tmp rfl)) fun a8 w8 s8 => ?_; clear s7
    refine seq_op s8 rfl rfl (of_decide_eq_true rfl) (ob_geq rfl (.tmp rfl) (opd_int rfl)) fun a9 w9 s9 => ?_; clear s8
    refine wpList_nil ?_
    refine then_normal ?_
    refine hK5 _ _ ?_
    have s10 := s9.sub (.cons (t := 0) rfl (.cons (t := 2) rfl (.cons (t := 8) rfl .nil))); clear s9
    have hj2 : ∀ (y3 : Int) (y4 : Int) (a : Act) (w : World), (math_bits_Len64.j2 k) y3 y4 = some r → St ⟨25, w0, ok, []⟩ [] [(0, ((kint .u64).V y3)), (2, ((kint .i64).V y4))] a w → K4 a w := by
      intro y3 y4 a11 w11 h2 s11
      unfold math_bits_Len64.j2 at h2
      refine hK4 _ _ ?_
      refine wp_seq_k fun K6 hK6 => ?_
      refine wp_seq_k fun K7 hK7 => ?_
      refine wp_region_lit ?_
      refine seq_op s11 rfl rfl (of_decide_eq_true rfl) (ob_move rfl (.tmp rfl)) fun a12 w12 s12 => ?_; clear s11
      refine seq_op s12 rfl rfl (of_decide_eq_true rfl) (ob_geq rfl (.tmp rfl) (opd_int rfl)) fun a13 w13 s13 => ?_; clear s12
      refine wpList_nil ?_
      refine then_normal ?_
      refine hK7 _ _ ?_
      have s14 := s13.sub (.cons (t := 0) rfl (.cons (t := 2) rfl (.cons (t := 14) rfl .nil))); clear s13
      have hj3 : ∀ (y5 : Int) (y6 : Int) (a : Act) (w : World), (math_bits_Len64.j3 k) y5 y6 = some r → St ⟨25, w0, ok, []⟩ [] [(0, ((kint .u64).V y5)), (2, ((kint .i64).V y6))] a w → K6 a w := by
        intro y5 y6 a15 w15 h3 s15
        unfold math_bits_Len64.j3 at h3
        refine hK6 _ _ ?_
        refine wp_seq_k fun K8 hK8 => ?_
        refine wp_region_lit ?_
        refine seq_op s15 rfl rfl (of_decide_eq_true rfl) (ob_move rfl (.tmp rfl)) fun a16 w16 s16 => ?_; clear s15
        refine seq_op s16 rfl rfl (of_decide_eq_true rfl) (ob_move rfl (.tmp rfl)) fun a17 w17 s17 => ?_; clear s16
        refine seq_op s17 rfl rfl (of_decide_eq_true rfl) (ob_conv rfl _ Try.underlying185 Try.underlying5 (.tmp rfl)) fun a18 w18 s18 => ?_; clear s17
        obtain ⟨x1, e_x1, h4⟩ := bind_some h3; clear h3
        refine seq_op s18 rfl rfl (of_decide_eq_true rfl) (ob_indexStr rfl Try.underlying9 (opd_str (by rfl) (by decide)) (.tmp rfl) e_x1) fun a19 w19 s19 => ?_; clear s18
        refine seq_op s19 rfl rfl (of_decide_eq_true rfl) (ob_conv rfl _ Try.underlying5 Try.underlying3 (.tmp rfl)) fun a20 w20 s20 => ?_; clear s19
        refine seq_op s20 rfl rfl (of_decide_eq_true rfl) (ob_add rfl (.tmp rfl) (.tmp rfl)) fun a21 w21 s21 => ?_; clear s20
        refine seq_op s21 rfl rfl (of_decide_eq_true rfl) (ob_assign rfl (.tmp rfl)) fun a22 w22 s22 => ?_; clear s21
        refine wpList_nil ?_
        refine then_normal ?_
        refine hK8 _ _ ?_
        have s23 := s22.sub (.cons (t := 2) rfl .nil); clear s22
        refine wp_ret ?_
        obtain rfl := Option.some.inj h4
        exact leave s23 (.inl rfl) rfl (.cons (.tmp rfl) .nil)
      refine cond_split s14 (.tmp rfl) (fun hc1 => ?_) (fun hc1 => ?_)
      · replace h2 := ite_t hc1 h2
        have h5 := h2; clear h2
        refine wp_seq_k fun K9 hK9 => ?_
        refine wp_region_lit ?_
        refine seq_op s14 rfl rfl (of_decide_eq_true rfl) (ob_move rfl (.tmp rfl)) fun a24 w24 s24 => ?_; clear s14
        refine seq_op s24 rfl rfl (of_decide_eq_true rfl) (ob_shr rfl (.tmp rfl) (opd_int rfl) (by decide)) fun a25 w25 s25 => ?_; clear s24
        refine seq_op s25 rfl rfl (of_decide_eq_true rfl) (ob_assign rfl (.tmp rfl)) fun a26 w26 s26 => ?_; clear s25
        refine wpList_nil ?_
        refine then_normal ?_
        refine hK9 _ _ ?_
        have s27 := s26.sub (.cons (t := 0) rfl (.cons (t := 2) rfl .nil)); clear s26
        refine wp_region_lit ?_
        refine seq_op s27 rfl rfl (of_decide_eq_true rfl) (ob_move rfl (.tmp rfl)) fun a28 w28 s28 => ?_; clear s27
        refine seq_op s28 rfl rfl (of_decide_eq_true rfl) (ob_add rfl (.tmp rfl) (opd_int rfl)) fun a29 w29 s29 => ?_; clear s28
        refine seq_op s29 rfl rfl (of_decide_eq_true rfl) (ob_assign rfl (.tmp rfl)) fun a30 w30 s30 => ?_; clear s29
        refine wpList_nil ?_
        refine then_normal ?_
        exact hj3 (ishr .u64 y3 (8 : Int)) (iadd .i64 y4 (8 : Int)) _ _ h5 (s30.sub (.cons rfl (.cons rfl .nil)))
      · replace h2 := ite_f hc1 h2
        have h6 := h2; clear h2
        refine wp_skip ?_
        refine then_normal ?_
        exact hj3 y3 y4 _ _ h6 (s14.sub (.cons rfl (.cons rfl .nil)))
    refine cond_split s10 (.tmp rfl) (fun hc2 => ?_) (fun hc2 => ?_)
    · replace h1 := ite_t hc2 h1
      have h7 := h1; clear h1
      refine wp_seq_k fun K10 hK10 => ?_
      refine wp_region_lit ?_
      refine seq_op s10 rfl rfl (of_decide_eq_true rfl) (ob_move rfl (.tmp rfl)) fun a31 w31 s31 => ?_; clear s10
      refine seq_op s31 rfl rfl (of_decide_eq_true rfl) (ob_shr rfl (.tmp rfl) (opd_int rfl) (by decide)) fun a32 w32 s32 => ?_; clear s31
      refine seq_op s32 rfl rfl (of_decide_eq_true rfl) (ob_assign rfl (.tmp rfl)) fun a33 w33 s33 => ?_; clear s32
      refine wpList_nil ?_
      refine then_normal ?_
      refine hK10 _ _ ?_
      have s34 := s33.sub (.cons (t := 0) rfl (.cons (t := 2) rfl .nil)); clear s33
      refine wp_region_lit ?_
      refine seq_op s34 rfl rfl (of_decide_eq_true rfl) (ob_move rfl (.tmp rfl)) fun a35 w35 s35 => ?_; clear s34
      refine seq_op s35 rfl rfl (of_decide_eq_true rfl) (ob_add rfl (.tmp rfl) (opd_int rfl)) fun a36 w36 s36 => ?_; clear s35
      refine seq_op s36 rfl rfl (of_decide_eq_true rfl) (ob_assign rfl (.tmp rfl)) fun a37 w37 s37 => ?_; clear s36
      refine wpList_nil ?_
      refine then_normal ?_
      exact hj2 (ishr .u64 y1 (16 : Int)) (iadd .i64 y2 (16 : Int)) _ _ h7 (s37.sub (.cons rfl (.cons rfl .nil)))
    · replace h1 := ite_f hc2 h1
      have h8 := h1; clear h1
      refine wp_skip ?_
      refine then_normal ?_
      exact hj2 y1 y2 _ _ h8 (s10.sub (.cons rfl (.cons rfl .nil)))
  refine cond_split s6 (.tmp rfl) (fun hc3 => ?_) (fun hc3 => ?_)
  · replace h0 := ite_t hc3 h0
    have h9 := h0; clear h0
    refine wp_seq_k fun K11 hK11 => ?_
    refine wp_region_lit ?_
    refine seq_op s6 rfl rfl (of_decide_eq_true rfl) (ob_move rfl (.tmp rfl)) fun a38 w38 s38 => ?_; clear s6
    refine seq_op s38 rfl rfl (of_decide_eq_true rfl) (ob_shr rfl (.tmp rfl) (opd_int rfl) (by decide)) fun a39 w39 s39 => ?_; clear s38
    refine seq_op s39 rfl rfl (of_decide_eq_true rfl) (ob_assign rfl (.tmp rfl)) fun a40 w40 s40 => ?_; clear s39
    refine wpList_nil ?_
    refine then_normal ?_
    refine hK11 _ _ ?_
    have s41 := s40.sub (.cons (t := 0) rfl .nil); clear s40
    refine wp_region_lit ?_
    refine seq_op s41 rfl rfl (of_decide_eq_true rfl) (ob_assign rfl (opd_int rfl)) fun a42 w42 s42 => ?_; clear s41
    refine wpList_nil ?_
    refine then_normal ?_
    exact hj1 (ishr .u64 p1 (32 : Int)) (32 : Int) _ _ h9 (s42.sub (.cons rfl (.cons rfl .nil)))
  · replace h0 := ite_f hc3 h0
    have h10 := h0; clear h0
    refine wp_skip ?_
    refine then_normal ?_
    exact hj1 p1 (0 : Int) _ _ h10 (s6.sub (.cons rfl (.cons rfl .nil)))

/- 146 math/bits.Len -/
theorem c_math_bits_Len (k : Nat) (p1 : Int) (r : Int) (h0 : math_bits_Len k p1 = some r) (ok : Ok) (w0 : World) (z0 : Value) (u0 : ((kint .u64).V p1).holds ok w0 z0) :
    Gives Try.prog 146 [z0] ok w0 (resFact [(kint .i64).V r]) := by
  unfold math_bits_Len at h0
  refine enter (N := 8) Try.func146 rfl rfl (of_decide_eq_true rfl) (.cons u0 .nil) fun a1 s1 => ?_
  refine wp_seq_k fun K1 hK1 => ?_
  refine wp_region_lit ?_
  refine seq_op s1 rfl rfl (of_decide_eq_true rfl) (ob_assign rfl (opd_int rfl)) fun a2 w2 s2 => ?_; clear s1
  refine wpList_nil ?_
  refine then_normal ?_
  refine hK1 _ _ ?_
  have s3 := s2.sub (.cons (t := 0) rfl .nil); clear s2
  refine wp_seq_k fun K2 hK2 => ?_
  refine cond_f s3 opd_bool ?_
  refine wp_skip ?_
  refine then_normal ?_
  refine hK2 _ _ ?_
  have s4 := s3.sub (.cons (t := 0) rfl .nil); clear s3
  refine wp_seq_k fun K3 hK3 => ?_
  refine wp_region_lit ?_
  refine seq_op s4 rfl rfl (of_decide_eq_true rfl) (ob_move rfl (.tmp rfl)) fun a5 w5 s5 => ?_; clear s4
  obtain ⟨x1, e_x1, h1⟩ := bind_some h0; clear h0
  refine seq_op s5 rfl rfl (of_decide_eq_true rfl) (ob_callD (args := [_]) rfl .direct hb174 (fun a w s fs gs hf hg => by obtain rfl := hf.unnil; obtain rfl := hg.unnil; exact c_math_bits_Len64 k _ _ e_x1 _ _ _ (s.arg (.tmp rfl)))) fun a6 w6 s6 => ?_; clear s5
  refine seq_op s6 rfl rfl (of_decide_eq_true rfl) (ob_assign rfl (.tmp rfl)) fun a7 w7 s7 => ?_; clear s6
  refine wpList_nil ?_
  refine then_normal ?_
  refine hK3 _ _ ?_
  have s8 := s7.sub (.cons (t := 2) rfl .nil); clear s7
  refine wp_ret ?_
  obtain rfl := Option.some.inj h1
  exact leave s8 (.inl rfl) rfl (.cons (.tmp rfl) .nil)

/- 115 cabal/queue.Wanted$1 -/
theorem c_queue_Wanted_1 (k : Nat) (p1 : (List Int)) (p2 : (List Int)) (r : Int) (h0 : queue_Wanted_1 k p1 p2 = some r) (ok : Ok) (w0 : World) (z0 : Value) (z1 : Value) (u0 : ((karr 32 (kint .u8)).V p1).holds ok w0 z0) (u1 : ((karr 32 (kint .u8)).V p2).holds ok w0 z1) :
    Gives Try.prog 115 [z0, z1] ok w0 (resFact [(kint .i64).V r]) := by
  unfold queue_Wanted_1 at h0
  refine enter (N := 8) Try.func115 rfl rfl (of_decide_eq_true rfl) (.cons u0 (.cons u1 .nil)) fun a1 s1 => ?_
  refine wp_seq_k fun K1 hK1 => ?_
  refine wp_region_lit ?_
  refine seq_opx (B' := (fun b1 : Nat => [BF b1 39 (karr 32 (kint .u8)) p1])) s1 rfl rfl (of_decide_eq_true rfl) (ob_box rfl (.tmp rfl)) fun b1 a2 w2 s2 => ?_; clear s1
  refine seq_opx (B' := (fun b2 : Nat => [BF b2 39 (karr 32 (kint .u8)) p2, BF b1 39 (karr 32 (kint .u8)) p1])) s2 rfl rfl (of_decide_eq_true rfl) (ob_box rfl (.tmp rfl)) fun b2 a3 w3 s3 => ?_; clear s2
  refine seq_op s3 rfl rfl (of_decide_eq_true rfl) (ob_assign rfl (opd_int rfl)) fun a4 w4 s4 => ?_; clear s3
  refine wpList_nil ?_
  refine then_normal ?_
  refine hK1 _ _ ?_
  have s5 := s4.sub (.cons (t := 2) rfl (.cons (t := 3) rfl .nil)); clear s4
  refine wp_seq_k fun K2 hK2 => ?_
  refine wp_goes (Fs := [(is (.slice (some ⟨b1, soff 32 0 (0 : Int).toNat 1, none⟩) ((32 : Int).toNat - (0 : Int).toNat) (32 - (0 : Int).toNat))), (is (.slice (some ⟨b2, soff 32 0 (0 : Int).toNat 1, none⟩) ((32 : Int).toNat - (0 : Int).toNat) (32 - (0 : Int).toNat)))]) (bits := [0, 0, 3, 7]) (m := 2) (todo := 0) mx s5 ?_; clear s5
  refine goes_last (by kernel_rfl) rfl (opsS_cons (.plain _ (Av.old (t := 2) rfl rfl Av.nil) rfl rfl (ob_sliceArr rfl Try.underlying39 sz5 (.tmp rfl) .none .none (show (0 : Int) ≤ (0 : Int) ∧ (0 : Int) ≤ (32 : Int) ∧ (32 : Int) ≤ ((32 : Nat) : Int) by decide))) (opsS_cons (.plain _ (Av.old (t := 3) rfl rfl Av.nil) rfl rfl (ob_sliceArr rfl Try.underlying39 sz5 (.tmp rfl) .none .none (show (0 : Int) ≤ (0 : Int) ∧ (0 : Int) ≤ (32 : Int) ∧ (32 : Int) ≤ ((32 : Nat) : Int) by decide))) opsS_nil)) (out_new (i := 0) (by decide) rfl rfl (out_new (i := 1) (by decide) rfl rfl out_nil)) fun a6 w6 s6 => ?_
  obtain ⟨x1, e_x1, h1⟩ := bind_some h0; clear h0
  obtain ⟨x2, e_x2, h2⟩ := bind_some h1; clear h1
  obtain ⟨x3, e_x3, h3⟩ := bind_some h2; clear h2
  refine seq_op s6 rfl rfl (of_decide_eq_true rfl) ((ob_lendG (L := [_, _]) (toFront [_] (toFront [] (List.Perm.refl _))) (.cons (t := 5) rfl (lendSlB (.head _) (LG.refl _ _) e_x1 rfl (cut_len e_x1) (cut_cap e_x1 (show (0 : Int) ≤ (0 : Int) ∧ (0 : Int) ≤ (32 : Int) ∧ (32 : Int) ≤ ((32 : Nat) : Int) by decide) (by decide))) (.cons (t := 6) rfl (lendSlB (.tail _ (.head _)) (LG.refl _ _) e_x2 rfl (cut_len e_x2) (cut_cap e_x2 (show (0 : Int) ≤ (0 : Int) ∧ (0 : Int) ≤ (32 : Int) ∧ (32 : Int) ≤ ((32 : Nat) : Int) by decide) (by decide))) .nil)) (Flat.res1 (Flat.V (KFlat.int _))) (fun _ => ob_callD (args := [_, _]) rfl .direct hb102 (fun a w s fs gs hf hg => by obtain rfl := hf.unnil; obtain rfl := hg.unnil; exact c_bytes_Compare k _ _ _ e_x3 _ _ _ _ (s.arg (.tmp rfl)) (s.arg (.tmp rfl)))))) fun a7 w7 s7 => ?_; clear s6
  refine seq_op s7 rfl rfl (of_decide_eq_true rfl) (ob_assign rfl (.tmp rfl)) fun a8 w8 s8 => ?_; clear s7
  refine wpList_nil ?_
  refine then_normal ?_
  refine hK2 _ _ ?_
  have s9 := s8.sub (.cons (t := 4) rfl .nil); clear s8
  have s10 := St.drop (A := []) s9; clear s9
  have s11 := St.drop (A := []) s10; clear s10
  refine wp_ret ?_
  obtain rfl := Option.some.inj h3
  exact leave s11 (.inl rfl) rfl (.cons (.tmp rfl) .nil)

/- 165 slices.insertionSortCmpFunc[cabal/api.Key] -/
theorem c_slices_insertionSortCmpFunc_api_Key_queue_Wanted_1 (k : Nat) (p1 : (List (List Int))) (p2 : Int) (p3 : Int) (r : (List (List Int))) (h0 : slices_insertionSortCmpFunc_api_Key_queue_Wanted_1 k p1 p2 p3 = some r) (ok : Ok) (w0 : World) (z0 : Value) (z1 : Value) (z2 : Value) (z3 : Value) (wr0 : Value) (l0 : ∀ q, q ∈ [RowF wr0 39 (karr 32 (kint .u8)) p1] → q.holds ok w0) (d0 : ∀ c, c ∈ idsOf [RowF wr0 39 (karr 32 (kint .u8)) p1] → ¬ ok c) (nd : (idsOf [RowF wr0 39 (karr 32 (kint .u8)) p1]).Nodup) (u0 : (is wr0).holds ok w0 z0) (u1 : ((kint .i64).V p2).holds ok w0 z1) (u2 : ((kint .i64).V p3).holds ok w0 z2) (u3 : (is (.func (.func 115) #[] #[])).holds ok w0 z3) :
    GivesX Try.prog 165 [z0, z1, z2, z3] ok w0 [RowF wr0 39 (karr 32 (kint .u8)) p1] (fun g : Unit => resFact []) (fun g : Unit => [RowF wr0 39 (karr 32 (kint .u8)) r]) := by
  unfold slices_insertionSortCmpFunc_api_Key_queue_Wanted_1 at h0
  refine enterX (N := 53) Try.func165 rfl rfl (of_decide_eq_true rfl) (.cons u0 (.cons u1 (.cons u2 (.cons u3 .nil)))) nd l0 d0 fun a1 s1 => ?_
  refine wp_seq_k fun K1 hK1 => ?_
  refine wp_region_lit ?_
  refine seq_op s1 rfl rfl (of_decide_eq_true rfl) (ob_move rfl (.tmp rfl)) fun a2 w2 s2 => ?_; clear s1
  refine seq_op s2 rfl rfl (of_decide_eq_true rfl) (ob_add rfl (.tmp rfl) (opd_int rfl)) fun a3 w3 s3 => ?_; clear s2
  refine seq_op s3 rfl rfl (of_decide_eq_true rfl) (ob_assign rfl (.tmp rfl)) fun a4 w4 s4 => ?_; clear s3
  refine wpList_nil ?_
  refine then_normal ?_
  refine hK1 _ _ ?_
  have s5 := s4.sub (.cons (t := 0) rfl (.cons (t := 1) rfl (.cons (t := 2) rfl (.cons (t := 3) rfl (.cons (t := 8) rfl .nil))))); clear s4
  refine wp_block ?_
  refine wp_loop_fuel (fun m (q : Int × (List (List Int))) => slices_insertionSortCmpFunc_api_Key_queue_Wanted_1.l1 k p3 p2 m q.1 q.2) r (fun _ => rfl) (fun q a w => St ⟨53, w0, ok, (idsOf [RowF wr0 39 (karr 32 (kint .u8)) p1])⟩ [RowF wr0 39 (karr 32 (kint .u8)) q.2] [(0, (is wr0)), (1, ((kint .i64).V p2)), (2, ((kint .i64).V p3)), (3, (is (.func (.func 115) #[] #[]))), (8, ((kint .i64).V q.1))] a w) ?_ k ((iadd .i64 p2 (1 : Int)), p1) _ _ h0 (s5.sub (.cons rfl (.cons rfl (.cons rfl (.cons rfl (.cons rfl .nil))))))
  rintro n1 ⟨y1, y2⟩ a6 w6 h1 s6 K2 hK2
  replace h1 : slices_insertionSortCmpFunc_api_Key_queue_Wanted_1.l1 k p3 p2 (n1 + 1) y1 y2 = some r := h1; rw [slices_insertionSortCmpFunc_api_Key_queue_Wanted_1.l1] at h1
  have h2 := h1; clear h1
  refine wp_seq_k fun K3 hK3 => ?_
  refine wp_seq_k fun K4 hK4 => ?_
  refine wp_region_lit ?_
  refine seq_op s6 rfl rfl (of_decide_eq_true rfl) (ob_move rfl (.tmp rfl)) fun a7 w7 s7 => ?_; clear s6
  refine seq_op s7 rfl rfl (of_decide_eq_true rfl) (ob_move rfl (.tmp rfl)) fun a8 w8 s8 => ?_; clear s7
  refine seq_op s8 rfl rfl (of_decide_eq_true rfl) (ob_lss rfl (.tmp rfl) (.tmp rfl)) fun a9 w9 s9 => ?_; clear s8
  refine wpList_nil ?_
  refine then_normal ?_
  refine hK4 _ _ ?_
  have s10 := s9.sub (.cons (t := 0) rfl (.cons (t := 1) rfl (.cons (t := 2) rfl (.cons (t := 3) rfl (.cons (t := 8) rfl (.cons (t := 14) rfl .nil)))))); clear s9
  refine cond_split s10 (.tmp rfl) (fun hc1 => ?_) (fun hc1 => ?_)
  · replace h2 := ite_t hc1 h2
    have h3 := h2; clear h2
    refine wp_skip ?_
    refine then_normal ?_
    refine hK3 _ _ ?_
    have s11 := s10.sub (.cons (t := 0) rfl (.cons (t := 1) rfl (.cons (t := 2) rfl (.cons (t := 3) rfl (.cons (t := 8) rfl .nil))))); clear s10
    refine wp_seq_k fun K5 hK5 => ?_
    have hj1 : ∀ (y3 : (List (List Int))) (a : Act) (w : World), (slices_insertionSortCmpFunc_api_Key_queue_Wanted_1.j1 k y1 (slices_insertionSortCmpFunc_api_Key_queue_Wanted_1.l1 k p3 p2 n1)) y3 = some r → St ⟨53, w0, ok, (idsOf [RowF wr0 39 (karr 32 (kint .u8)) p1])⟩ [RowF wr0 39 (karr 32 (kint .u8)) y3] [(0, (is wr0)), (1, ((kint .i64).V p2)), (2, ((kint .i64).V p3)), (3, (is (.func (.func 115) #[] #[]))), (8, ((kint .i64).V y1))] a w → K5 a w := by
      intro y3 a12 w12 h4 s12
      unfold slices_insertionSortCmpFunc_api_Key_queue_Wanted_1.j1 at h4
      refine hK5 _ _ ?_
      refine wp_region_lit ?_
      refine seq_op s12 rfl rfl (of_decide_eq_true rfl) (ob_move rfl (.tmp rfl)) fun a13 w13 s13 => ?_; clear s12
      refine seq_op s13 rfl rfl (of_decide_eq_true rfl) (ob_add rfl (.tmp rfl) (opd_int rfl)) fun a14 w14 s14 => ?_; clear s13
      refine seq_op s14 rfl rfl (of_decide_eq_true rfl) (ob_assign rfl (.tmp rfl)) fun a15 w15 s15 => ?_; clear s14
      refine wpList_nil ?_
      refine then_normal ?_
      exact hK2 ((iadd .i64 y1 (1 : Int)), y3) _ _ h4 (s15.sub (.cons rfl (.cons rfl (.cons rfl (.cons rfl (.cons rfl .nil))))))
    refine wp_block ?_
    refine wp_seq_k fun K6 hK6 => ?_
    refine wp_region_lit ?_
    refine seq_op s11 rfl rfl (of_decide_eq_true rfl) (ob_move rfl (.tmp rfl)) fun a16 w16 s16 => ?_; clear s11
    refine seq_op s16 rfl rfl (of_decide_eq_true rfl) (ob_assign rfl (.tmp rfl)) fun a17 w17 s17 => ?_; clear s16
    refine wpList_nil ?_
    refine then_normal ?_
    refine hK6 _ _ ?_
    have s18 := s17.sub (.cons (t := 0) rfl (.cons (t := 1) rfl (.cons (t := 2) rfl (.cons (t := 3) rfl (.cons (t := 8) rfl (.cons (t := 9) rfl .nil)))))); clear s17
    refine wp_block ?_
    refine wp_loop_fuel (fun m (q : Int × (List (List Int))) => slices_insertionSortCmpFunc_api_Key_queue_Wanted_1.l2 k p2 y1 (slices_insertionSortCmpFunc_api_Key_queue_Wanted_1.l1 k p3 p2 n1) m q.1 q.2) r (fun _ => rfl) (fun q a w => St ⟨53, w0, ok, (idsOf [RowF wr0 39 (karr 32 (kint .u8)) p1])⟩ [RowF wr0 39 (karr 32 (kint .u8)) q.2] [(0, (is wr0)), (1, ((kint .i64).V p2)), (2, ((kint .i64).V p3)), (3, (is (.func (.func 115) #[] #[]))), (8, ((kint .i64).V y1)), (9, ((kint .i64).V q.1))] a w) ?_ k (y1, y2) _ _ h3 (s18.sub (.cons rfl (.cons rfl (.cons rfl (.cons rfl (.cons rfl (.cons rfl .nil)))))))
    rintro n2 ⟨y4, y5⟩ a19 w19 h5 s19 K7 hK7
    replace h5 : slices_insertionSortCmpFunc_api_Key_queue_Wanted_1.l2 k p2 y1 (slices_insertionSortCmpFunc_api_Key_queue_Wanted_1.l1 k p3 p2 n1) (n2 + 1) y4 y5 = some r := h5; rw [slices_insertionSortCmpFunc_api_Key_queue_Wanted_1.l2] at h5
    have h6 := h5; clear h5
    refine wp_seq_k fun K8 hK8 => ?_
    refine wp_seq_k fun K9 hK9 => ?_
    obtain ⟨g1, h7⟩ := guard_some h6; clear h6
    obtain ⟨x1, e_x1, h8⟩ := bind_some h7; clear h7
    obtain ⟨g2, h9⟩ := guard_some h8; clear h8
    obtain ⟨x2, e_x2, h10⟩ := bind_some h9; clear h9
    refine wp_goes (Fs := [((kint .i64).V y4), ((kint .i64).V p2), (kbool.V (decide (y4 > p2))), (kbool.V (decide (y4 > p2))), (Fact.when ((decide (y4 > p2)) == true) (is (.func (.func 115) #[] #[]))), (Fact.when ((decide (y4 > p2)) == true) (is wr0)), (Fact.when ((decide (y4 > p2)) == true) ((kint .i64).V y4)), (Fact.when ((decide (y4 > p2)) == true) (ptrR wr0 (y4.toNat * 32))), (Fact.when ((decide (y4 > p2)) == true) ((karr 32 (kint .u8)).V x1)), (Fact.when ((decide (y4 > p2)) == true) (is wr0)), (Fact.when ((decide (y4 > p2)) == true) ((kint .i64).V y4)), (Fact.when ((decide (y4 > p2)) == true) ((kint .i64).V (isub .i64 y4 (1 : Int)))), (Fact.when ((decide (y4 > p2)) == true) (ptrR wr0 ((isub .i64 y4 (1 : Int)).toNat * 32))), (Fact.when ((decide (y4 > p2)) == true) ((karr 32 (kint .u8)).V x2))]) (bits := [0, 0, 3, 7, 15, 15, 15, 111, 239, 15, 15, 1039, 3599, 7695, 16383, 32767, 65535]) (m := 14) (todo := 0) mx s19 ?_; clear s19
    refine goes_last (by kernel_rfl) rfl (opsS_cons (.plain _ (Av.old (t := 9) rfl rfl Av.nil) rfl rfl (ob_move rfl (.tmp rfl))) (opsS_cons (.plain _ (Av.old (t := 1) rfl rfl Av.nil) rfl rfl (ob_move rfl (.tmp rfl))) (opsS_cons (.plain _ (Av.new (j := 0) rfl rfl rfl (Av.new (j := 1) rfl rfl rfl Av.nil)) rfl rfl (ob_gtr rfl (.tmp rfl) (.tmp rfl))) (opsS_cons (.plain _ (Av.new (j := 2) rfl rfl rfl Av.nil) rfl rfl (ob_move rfl (.tmp rfl))) (opsS_cons (.guarded _ (Av.old (t := 3) rfl rfl (Av.new (j := 3) rfl rfl rfl Av.nil)) rfl rfl rfl rfl (fun hb => ob_move rfl (.tmp rfl))) (opsS_cons (.guarded _ (Av.old (t := 0) rfl rfl (Av.new (j := 3) rfl rfl rfl Av.nil)) rfl rfl rfl rfl (fun hb => ob_move rfl (.tmp rfl))) (opsS_cons (.guarded _ (Av.old (t := 9) rfl rfl (Av.new (j := 3) rfl rfl rfl Av.nil)) rfl rfl rfl rfl (fun hb => ob_move rfl (.tmp rfl))) (opsS_cons (.guarded _ (Av.new (j := 3) rfl rfl rfl (Av.new (j := 5) rfl rfl rfl (Av.new (j := 6) rfl rfl rfl Av.nil))) rfl rfl rfl rfl (fun hb => (Ob.uncond (t := 24) hb rfl ((Ob.uncond (t := 23) hb rfl (ob_rowAt rfl Try.underlying40 sz39 (.tmp rfl) (.head _) (.tmp rfl) (g1 hb))))))) (opsS_cons (.guarded _ (Av.new (j := 3) rfl rfl rfl (Av.new (j := 7) rfl rfl rfl Av.nil)) rfl rfl rfl rfl (fun hb => (Ob.uncond (t := 25) hb rfl (ob_rowLoad rfl tk39 (.tmp rfl) (.head _) (LG.arrA (ite_t hb e_x1)))))) (opsS_cons (.guarded _ (Av.old (t := 0) rfl rfl (Av.new (j := 3) rfl rfl rfl Av.nil)) rfl rfl rfl rfl (fun hb => ob_move rfl (.tmp rfl))) (opsS_cons (.guarded _ (Av.old (t := 9) rfl rfl (Av.new (j := 3) rfl rfl rfl Av.nil)) rfl rfl rfl rfl (fun hb => ob_move rfl (.tmp rfl))) (opsS_cons (.guarded _ (Av.new (j := 3) rfl rfl rfl (Av.new (j := 10) rfl rfl rfl Av.nil)) rfl rfl rfl rfl (fun hb => (Ob.uncond (t := 28) hb rfl (ob_sub rfl (.tmp rfl) (opd_int rfl))))) (opsS_cons (.guarded _ (Av.new (j := 3) rfl rfl rfl (Av.new (j := 9) rfl rfl rfl (Av.new (j := 11) rfl rfl rfl Av.nil))) rfl rfl rfl rfl (fun hb => (Ob.uncond (t := 29) hb rfl ((Ob.uncond (t := 27) hb rfl (ob_rowAt rfl Try.underlying40 sz39 (.tmp rfl) (.head _) (.tmp rfl) (g2 hb))))))) (opsS_cons (.guarded _ (Av.new (j := 3) rfl rfl rfl (Av.new (j := 12) rfl rfl rfl Av.nil)) rfl rfl rfl rfl (fun hb => (Ob.uncond (t := 30) hb rfl (ob_rowLoad rfl tk39 (.tmp rfl) (.head _) (LG.arrA (ite_t hb e_x2)))))) opsS_nil)))))))))))))) (out_old (t := 0) rfl rfl (out_old (t := 1) rfl rfl (out_old (t := 2) rfl rfl (out_old (t := 3) rfl rfl (out_old (t := 8) rfl rfl (out_old (t := 9) rfl rfl (out_new (i := 3) (by decide) rfl rfl (out_new (i := 4) (by decide) rfl rfl (out_new (i := 8) (by decide) rfl rfl (out_new (i := 13) (by decide) rfl rfl out_nil)))))))))) fun a20 w20 s20 => ?_
    obtain ⟨x3, e_x3, h11⟩ := bind_some h10; clear h10
    refine seq_opg s20 rfl rfl rfl rfl (of_decide_eq_true rfl) (fun hb => (Ob.uncond (t := 31) hb rfl ((Ob.uncond (t := 26) hb rfl ((Ob.uncond (t := 22) hb rfl (ob_callD (args := [_, _]) rfl (.fn (.tmp rfl)) hb115 (fun a w s fs gs hf hg => by obtain rfl := hf.unnil; obtain rfl := hg.unnil; exact c_queue_Wanted_1 k _ _ _ (ite_t hb e_x3) _ _ _ _ (s.arg (.tmp rfl)) (s.arg (.tmp rfl)))))))))) fun a21 w21 s21 => ?_; clear s20
    refine seq_opg s21 rfl rfl rfl rfl (of_decide_eq_true rfl) (fun hb => (Ob.uncond (t := 32) hb rfl (ob_lss rfl (.tmp rfl) (opd_int rfl)))) fun a22 w22 s22 => ?_; clear s21
    refine seq_op s22 rfl rfl (of_decide_eq_true rfl) (ob_and2 rfl (.tmp rfl) (.tmp rfl) opd_bool) fun a23 w23 s23 => ?_; clear s22
    refine wpList_nil ?_
    refine then_normal ?_
    refine hK9 _ _ ?_
    have s24 := s23.sub (.cons (t := 0) rfl (.cons (t := 1) rfl (.cons (t := 2) rfl (.cons (t := 3) rfl (.cons (t := 8) rfl (.cons (t := 9) rfl (.cons (t := 34) rfl .nil))))))); clear s23
    refine cond_split s24 (.tmp rfl) (fun hc2 => ?_) (fun hc2 => ?_)
    · replace h11 := ite_t hc2 h11
      have h12 := h11; clear h11
      refine wp_skip ?_
      refine then_normal ?_
      refine hK8 _ _ ?_
      have s25 := s24.sub (.cons (t := 0) rfl (.cons (t := 1) rfl (.cons (t := 2) rfl (.cons (t := 3) rfl (.cons (t := 8) rfl (.cons (t := 9) rfl .nil)))))); clear s24
      refine wp_seq_k fun K10 hK10 => ?_
      refine wp_block ?_
      obtain ⟨g3, h13⟩ := guard_some h12; clear h12
      obtain ⟨x4, e_x4, h14⟩ := bind_some h13; clear h13
      obtain ⟨g4, h15⟩ := guard_some h14; clear h14
      obtain ⟨x5, e_x5, h16⟩ := bind_some h15; clear h15
      obtain ⟨g5, h17⟩ := guard_some h16; clear h16
      obtain ⟨x6, e_x6, h18⟩ := bind_some h17; clear h17
      refine wp_goes (Fs := [(is wr0), ((kint .i64).V y4), (is wr0), ((kint .i64).V y4), ((kint .i64).V (isub .i64 y4 (1 : Int))), (is wr0), ((kint .i64).V y4), ((kint .i64).V (isub .i64 y4 (1 : Int))), (ptrR wr0 ((isub .i64 y4 (1 : Int)).toNat * 32)), ((karr 32 (kint .u8)).V x4), (is wr0), ((kint .i64).V y4), (ptrR wr0 (y4.toNat * 32)), ((karr 32 (kint .u8)).V x5), (ptrR wr0 (y4.toNat * 32)), nofact]) (bits := [0, 0, 0, 0, 8, 0, 0, 64, 224, 480, 0, 0, 3072, 7168, 16355, 32739, 65535, 131071]) (m := 16) (todo := 32768) mx s25 ?_; clear s25
      refine goes_turn (B' := (fun _ : Unit => [RowF wr0 39 (karr 32 (kint .u8)) x6])) (Fs' := (fun _ : Unit => setAll ([(is wr0), ((kint .i64).V y4), (is wr0), ((kint .i64).V y4), ((kint .i64).V (isub .i64 y4 (1 : Int))), (is wr0), ((kint .i64).V y4), ((kint .i64).V (isub .i64 y4 (1 : Int))), (ptrR wr0 ((isub .i64 y4 (1 : Int)).toNat * 32)), ((karr 32 (kint .u8)).V x4), (is wr0), ((kint .i64).V y4), (ptrR wr0 (y4.toNat * 32)), ((karr 32 (kint .u8)).V x5), (ptrR wr0 (y4.toNat * 32)), nofact]) [(15, nofact)])) 15 32768 65507 0 (by kernel_rfl) rfl rfl rfl (opsS_cons (.plain _ (Av.old (t := 0) rfl rfl Av.nil) rfl rfl (ob_move rfl (.tmp rfl))) (opsS_cons (.plain _ (Av.old (t := 9) rfl rfl Av.nil) rfl rfl (ob_move rfl (.tmp rfl))) (opsS_cons (.plain _ (Av.old (t := 0) rfl rfl Av.nil) rfl rfl (ob_move rfl (.tmp rfl))) (opsS_cons (.plain _ (Av.old (t := 9) rfl rfl Av.nil) rfl rfl (ob_move rfl (.tmp rfl))) (opsS_cons (.plain _ (Av.new (j := 3) rfl rfl rfl Av.nil) rfl rfl (ob_sub rfl (.tmp rfl) (opd_int rfl))) (opsS_cons (.plain _ (Av.old (t := 0) rfl rfl Av.nil) rfl rfl (ob_move rfl (.tmp rfl))) (opsS_cons (.plain _ (Av.old (t := 9) rfl rfl Av.nil) rfl rfl (ob_move rfl (.tmp rfl))) (opsS_cons (.plain _ (Av.new (j := 6) rfl rfl rfl Av.nil) rfl rfl (ob_sub rfl (.tmp rfl) (opd_int rfl))) (opsS_cons (.plain _ (Av.new (j := 5) rfl rfl rfl (Av.new (j := 7) rfl rfl rfl Av.nil)) rfl rfl (ob_rowAt rfl Try.underlying40 sz39 (.tmp rfl) (.head _) (.tmp rfl) g3)) (opsS_cons (.plain _ (Av.new (j := 8) rfl rfl rfl Av.nil) rfl rfl (ob_rowLoad rfl tk39 (.tmp rfl) (.head _) (LG.arrA e_x4))) (opsS_cons (.plain _ (Av.old (t := 0) rfl rfl Av.nil) rfl rfl (ob_move rfl (.tmp rfl))) (opsS_cons (.plain _ (Av.old (t := 9) rfl rfl Av.nil) rfl rfl (ob_move rfl (.tmp rfl))) (opsS_cons (.plain _ (Av.new (j := 10) rfl rfl rfl (Av.new (j := 11) rfl rfl rfl Av.nil)) rfl rfl (ob_rowAt rfl Try.underlying40 sz39 (.tmp rfl) (.head _) (.tmp rfl) g4)) (opsS_cons (.plain _ (Av.new (j := 12) rfl rfl rfl Av.nil) rfl rfl (ob_rowLoad rfl tk39 (.tmp rfl) (.head _) (LG.arrA e_x5))) (opsS_cons (.plain _ (Av.new (j := 0) rfl rfl rfl (Av.new (j := 1) rfl rfl rfl Av.nil)) rfl rfl (ob_rowAt rfl Try.underlying40 sz39 (.tmp rfl) (.head _) (.tmp rfl) g5)) (opsS_skip (by rfl) opsS_nil)))))))))))))))) (.plain _ (Av.new (j := 9) rfl rfl rfl (Av.new (j := 14) rfl rfl rfl Av.nil)) rfl (fun _ => rfl) (fun R => ob_rowStore (A := []) rfl tk39 (.tmp rfl) (.tmp rfl) rfl (LS.arrS e_x6) rfl)) (setAll_same (us := (fun _ : Unit => [(15, nofact)])) fun _ => by kernel_rfl) fun _ => ?_
      refine goes_last (by kernel_rfl) rfl (opsS_skip (by rfl) (opsS_skip (by rfl) (opsS_cons (.plain _ (Av.old (t := 0) rfl rfl Av.nil) rfl rfl (ob_move rfl (.tmp rfl))) (opsS_cons (.plain _ (Av.old (t := 9) rfl rfl Av.nil) rfl rfl (ob_move rfl (.tmp rfl))) (opsS_cons (.plain _ (Av.new (j := 3) rfl rfl rfl Av.nil) rfl rfl (ob_sub rfl (.tmp rfl) (opd_int rfl))) (opsS_skip (by rfl) (opsS_skip (by rfl) (opsS_skip (by rfl) (opsS_skip (by rfl) (opsS_skip (by rfl) (opsS_skip (by rfl) (opsS_skip (by rfl) (opsS_skip (by rfl) (opsS_skip (by rfl) (opsS_skip (by rfl) (opsS_skip (by rfl) opsS_nil)))))))))))))))) (out_old (t := 0) rfl rfl (out_old (t := 1) rfl rfl (out_old (t := 2) rfl rfl (out_old (t := 3) rfl rfl (out_old (t := 8) rfl rfl (out_old (t := 9) rfl rfl (out_new (i := 2) (by decide) rfl rfl (out_new (i := 4) (by decide) rfl rfl (out_new (i := 13) (by decide) rfl rfl out_nil))))))))) fun a26 w26 s26 => ?_
      obtain ⟨g6, h19⟩ := guard_some h18; clear h18
      refine seq_op s26 rfl rfl (of_decide_eq_true rfl) (ob_rowAt rfl Try.underlying40 sz39 (.tmp rfl) (.head _) (.tmp rfl) g6) fun a27 w27 s27 => ?_; clear s26
      obtain ⟨x7, e_x7, h20⟩ := bind_some h19; clear h19
      refine seq_opx0 (B' := (fun _ : Unit => [RowF wr0 39 (karr 32 (kint .u8)) x7])) s27 rfl rfl (ob_rowStore (A := []) rfl tk39 (.tmp rfl) (.tmp rfl) rfl (LS.arrS e_x7) rfl) fun _ a28 w28 s28 => ?_; clear s27
      refine wpList_nil ?_
      refine in_normal ?_
      refine then_normal ?_
      refine hK10 _ _ ?_
      have s29 := s28.sub (.cons (t := 0) rfl (.cons (t := 1) rfl (.cons (t := 2) rfl (.cons (t := 3) rfl (.cons (t := 8) rfl (.cons (t := 9) rfl .nil)))))); clear s28
      refine wp_region_lit ?_
      refine seq_op s29 rfl rfl (of_decide_eq_true rfl) (ob_move rfl (.tmp rfl)) fun a30 w30 s30 => ?_; clear s29
      refine seq_op s30 rfl rfl (of_decide_eq_true rfl) (ob_sub rfl (.tmp rfl) (opd_int rfl)) fun a31 w31 s31 => ?_; clear s30
      refine seq_op s31 rfl rfl (of_decide_eq_true rfl) (ob_assign rfl (.tmp rfl)) fun a32 w32 s32 => ?_; clear s31
      refine wpList_nil ?_
      refine then_normal ?_
      exact hK7 ((isub .i64 y4 (1 : Int)), x7) _ _ h20 (s32.sub (.cons rfl (.cons rfl (.cons rfl (.cons rfl (.cons rfl (.cons rfl .nil)))))))
    · replace h11 := ite_f hc2 h11
      have h21 := h11; clear h11
      refine wp_exit ?_
      refine (then_exit (then_exit (in_here ?_)))
      refine in_normal ?_
      refine then_normal ?_
      exact hj1 y5 _ _ h21 (s24.sub (.cons rfl (.cons rfl (.cons rfl (.cons rfl (.cons rfl .nil))))))
  · replace h2 := ite_f hc1 h2
    have h22 := h2; clear h2
    refine wp_exit ?_
    refine (then_exit (then_exit (in_here ?_)))
    obtain rfl := Option.some.inj h22
    exact leaveXD (D := []) () s10 rfl (.inr rfl) rfl .nil rfl

/- 145 slices.pdqsortCmpFunc[cabal/api.Key] -/
theorem c_slices_pdqsortCmpFunc_api_Key_queue_Wanted_1 (k : Nat) (p1 : (List (List Int))) (p2 : Int) (p3 : Int) (p4 : Int) (r : (List (List Int))) (h0 : slices_pdqsortCmpFunc_api_Key_queue_Wanted_1 k p1 p2 p3 p4 = some r) (ok : Ok) (w0 : World) (z0 : Value) (z1 : Value) (z2 : Value) (z3 : Value) (z4 : Value) (wr0 : Value) (l0 : ∀ q, q ∈ [RowF wr0 39 (karr 32 (kint .u8)) p1] → q.holds ok w0) (d0 : ∀ c, c ∈ idsOf [RowF wr0 39 (karr 32 (kint .u8)) p1] → ¬ ok c) (nd : (idsOf [RowF wr0 39 (karr 32 (kint .u8)) p1]).Nodup) (u0 : (is wr0).holds ok w0 z0) (u1 : ((kint .i64).V p2).holds ok w0 z1) (u2 : ((kint .i64).V p3).holds ok w0 z2) (u3 : ((kint .i64).V p4).holds ok w0 z3) (u4 : (is (.func (.func 115) #[] #[])).holds ok w0 z4) :
    GivesX Try.prog 145 [z0, z1, z2, z3, z4] ok w0 [RowF wr0 39 (karr 32 (kint .u8)) p1] (fun g : Unit => resFact []) (fun g : Unit => [RowF wr0 39 (karr 32 (kint .u8)) r]) := by
  unfold slices_pdqsortCmpFunc_api_Key_queue_Wanted_1 at h0
  refine enterX (N := 148) Try.func145 rfl rfl (of_decide_eq_true rfl) (.cons u0 (.cons u1 (.cons u2 (.cons u3 (.cons u4 .nil))))) nd l0 d0 fun a1 s1 => ?_
  refine wp_seq_k fun K1 hK1 => ?_
  refine wp_region_lit ?_
  refine seq_op s1 rfl rfl (of_decide_eq_true rfl) (ob_assign rfl opd_bool) fun a2 w2 s2 => ?_; clear s1
  refine wpList_nil ?_
  refine then_normal ?_
  refine hK1 _ _ ?_
  have s3 := s2.sub (.cons (t := 0) rfl (.cons (t := 1) rfl (.cons (t := 2) rfl (.cons (t := 3) rfl (.cons (t := 4) rfl (.cons (t := 10) rfl .nil)))))); clear s2
  refine wp_seq_k fun K2 hK2 => ?_
  refine wp_region_lit ?_
  refine seq_op s3 rfl rfl (of_decide_eq_true rfl) (ob_assign rfl opd_bool) fun a4 w4 s4 => ?_; clear s3
  refine wpList_nil ?_
  refine then_normal ?_
  refine hK2 _ _ ?_
  have s5 := s4.sub (.cons (t := 0) rfl (.cons (t := 1) rfl (.cons (t := 2) rfl (.cons (t := 3) rfl (.cons (t := 4) rfl (.cons (t := 10) rfl (.cons (t := 11) rfl .nil))))))); clear s4
  refine wp_block ?_
  refine wp_loop_fuel (fun m (q : Unit) => slices_pdqsortCmpFunc_api_Key_queue_Wanted_1.l1 k p3 p2 p1 p4 m) r (fun _ => rfl) (fun q a w => St ⟨148, w0, ok, (idsOf [RowF wr0 39 (karr 32 (kint .u8)) p1])⟩ [RowF wr0 39 (karr 32 (kint .u8)) p1] [(0, (is wr0)), (1, ((kint .i64).V p2)), (2, ((kint .i64).V p3)), (3, ((kint .i64).V p4)), (4, (is (.func (.func 115) #[] #[]))), (10, (kbool.V true)), (11, (kbool.V true))] a w) ?_ k () _ _ h0 (s5.sub (.cons rfl (.cons rfl (.cons rfl (.cons rfl (.cons rfl (.cons rfl (.cons rfl .nil))))))))
  rintro n1 _ a6 w6 h1 s6 K3 hK3
  replace h1 : slices_pdqsortCmpFunc_api_Key_queue_Wanted_1.l1 k p3 p2 p1 p4 (n1 + 1) = some r := h1; rw [slices_pdqsortCmpFunc_api_Key_queue_Wanted_1.l1] at h1
  have h2 := h1; clear h1
  refine wp_block ?_
  refine wp_seq_k fun K4 hK4 => ?_
  refine wp_region_lit ?_
  refine seq_op s6 rfl rfl (of_decide_eq_true rfl) (ob_move rfl (.tmp rfl)) fun a7 w7 s7 => ?_; clear s6
  refine seq_op s7 rfl rfl (of_decide_eq_true rfl) (ob_move rfl (.tmp rfl)) fun a8 w8 s8 => ?_; clear s7
  refine seq_op s8 rfl rfl (of_decide_eq_true rfl) (ob_sub rfl (.tmp rfl) (.tmp rfl)) fun a9 w9 s9 => ?_; clear s8
  refine seq_op s9 rfl rfl (of_decide_eq_true rfl) (ob_assign rfl (.tmp rfl)) fun a10 w10 s10 => ?_; clear s9
  refine wpList_nil ?_
  refine then_normal ?_
  refine hK4 _ _ ?_
  have s11 := s10.sub (.cons (t := 0) rfl (.cons (t := 1) rfl (.cons (t := 2) rfl (.cons (t := 3) rfl (.cons (t := 4) rfl (.cons (t := 10) rfl (.cons (t := 11) rfl (.cons (t := 12) rfl .nil)))))))); clear s10
  refine wp_seq_k fun K5 hK5 => ?_
  refine wp_seq_k fun K6 hK6 => ?_
  refine wp_region_lit ?_
  refine seq_op s11 rfl rfl (of_decide_eq_true rfl) (ob_move rfl (.tmp rfl)) fun a12 w12 s12 => ?_; clear s11
  refine seq_op s12 rfl rfl (of_decide_eq_true rfl) (ob_leq rfl (.tmp rfl) (opd_int rfl)) fun a13 w13 s13 => ?_; clear s12
  refine wpList_nil ?_
  refine then_normal ?_
  refine hK6 _ _ ?_
  have s14 := s13.sub (.cons (t := 0) rfl (.cons (t := 1) rfl (.cons (t := 2) rfl (.cons (t := 3) rfl (.cons (t := 4) rfl (.cons (t := 10) rfl (.cons (t := 11) rfl (.cons (t := 12) rfl (.cons (t := 25) rfl .nil))))))))); clear s13
  refine cond_split s14 (.tmp rfl) (fun hc1 => ?_) (fun hc1 => ?_)
  · replace h2 := ite_t hc1 h2
    have h3 := h2; clear h2
    refine wp_seq_k fun K7 hK7 => ?_
    refine wp_region_lit ?_
    refine seq_op s14 rfl rfl (of_decide_eq_true rfl) (ob_move rfl (.tmp rfl)) fun a15 w15 s15 => ?_; clear s14
    refine seq_op s15 rfl rfl (of_decide_eq_true rfl) (ob_move rfl (.tmp rfl)) fun a16 w16 s16 => ?_; clear s15
    refine seq_op s16 rfl rfl (of_decide_eq_true rfl) (ob_move rfl (.tmp rfl)) fun a17 w17 s17 => ?_; clear s16
    refine seq_op s17 rfl rfl (of_decide_eq_true rfl) (ob_move rfl (.tmp rfl)) fun a18 w18 s18 => ?_; clear s17
    obtain ⟨x1, e_x1, h4⟩ := bind_some h3; clear h3
    refine seq_opx (B' := (fun _ : Unit => [RowF wr0 39 (karr 32 (kint .u8)) x1])) s18 rfl rfl (of_decide_eq_true rfl) (ob_callL (args := [_, _, _, _]) (L := [_]) rfl .direct hb165 (List.Perm.refl _) (fun a w s fs gs hf hg => by obtain rfl := hf.unnil; obtain rfl := hg.unnil; exact c_slices_insertionSortCmpFunc_api_Key_queue_Wanted_1 k _ _ _ _ e_x1 _ _ _ _ _ _ _ (ownL s) (disL s) (nodL s) (s.arg (.tmp rfl)) (s.arg (.tmp rfl)) (s.arg (.tmp rfl)) (s.arg (.tmp rfl))) (by exact fun _ => rfl)) fun _ a19 w19 s19 => ?_; clear s18
    refine wpList_nil ?_
    refine then_normal ?_
    refine hK7 _ _ ?_
    have s20 := s19.sub .nil; clear s19
    refine wp_ret ?_
    obtain rfl := Option.some.inj h4
    exact leaveXD (D := []) () s20 rfl (.inl rfl) rfl .nil rfl
  · replace h2 := ite_f hc1 h2
    have h5 := h2; clear h2
    refine wp_skip ?_
    refine then_normal ?_
    refine hK5 _ _ ?_
    have s21 := s14.sub (.cons (t := 0) rfl (.cons (t := 1) rfl (.cons (t := 2) rfl (.cons (t := 3) rfl (.cons (t := 4) rfl (.cons (t := 10) rfl (.cons (t := 11) rfl (.cons (t := 12) rfl .nil)))))))); clear s14
    refine wp_seq_k fun K8 hK8 => ?_
    refine wp_seq_k fun K9 hK9 => ?_
    refine wp_region_lit ?_
    refine seq_op s21 rfl rfl (of_decide_eq_true rfl) (ob_move rfl (.tmp rfl)) fun a22 w22 s22 => ?_; clear s21
    refine seq_op s22 rfl rfl (of_decide_eq_true rfl) (ob_eql rfl (.tmp rfl) (opd_int rfl)) fun a23 w23 s23 => ?_; clear s22
    refine wpList_nil ?_
    refine then_normal ?_
    refine hK9 _ _ ?_
    have s24 := s23.sub (.cons (t := 0) rfl (.cons (t := 1) rfl (.cons (t := 2) rfl (.cons (t := 3) rfl (.cons (t := 4) rfl (.cons (t := 10) rfl (.cons (t := 11) rfl (.cons (t := 12) rfl (.cons (t := 32) rfl .nil))))))))); clear s23
    refine cond_split s24 (.tmp rfl) (fun hc2 => ?_) (fun hc2 => ?_)
    · replace h5 := ite_t hc2 h5
      have h6 := h5; clear h5
      refine wp_seq_k fun K10 hK10 => ?_
      refine wp_region_lit ?_
      refine seq_op s24 rfl rfl (of_decide_eq_true rfl) (ob_move rfl (.tmp rfl)) fun a25 w25 s25 => ?_; clear s24
      refine seq_op s25 rfl rfl (of_decide_eq_true rfl) (ob_move rfl (.tmp rfl)) fun a26 w26 s26 => ?_; clear s25
      refine seq_op s26 rfl rfl (of_decide_eq_true rfl) (ob_move rfl (.tmp rfl)) fun a27 w27 s27 => ?_; clear s26
      refine seq_op s27 rfl rfl (of_decide_eq_true rfl) (ob_move rfl (.tmp rfl)) fun a28 w28 s28 => ?_; clear s27
      cases h6
    · replace h5 := ite_f hc2 h5
      have h7 := h5; clear h5
      refine wp_skip ?_
      refine then_normal ?_
      refine hK8 _ _ ?_
      have s29 := s24.sub (.cons (t := 0) rfl (.cons (t := 1) rfl (.cons (t := 2) rfl (.cons (t := 3) rfl (.cons (t := 4) rfl (.cons (t := 10) rfl (.cons (t := 11) rfl (.cons (t := 12) rfl .nil)))))))); clear s24
      refine wp_seq_k fun K11 hK11 => ?_
      refine wp_seq_k fun K12 hK12 => ?_
      refine wp_region_lit ?_
      refine seq_op s29 rfl rfl (of_decide_eq_true rfl) (ob_move rfl (.tmp rfl)) fun a30 w30 s30 => ?_; clear s29
      refine seq_op s30 rfl rfl (of_decide_eq_true rfl) (ob_not rfl (.tmp rfl)) fun a31 w31 s31 => ?_; clear s30
      refine wpList_nil ?_
      refine then_normal ?_
      refine hK12 _ _ ?_
      have s32 := s31.sub (.cons (t := 0) rfl (.cons (t := 1) rfl (.cons (t := 2) rfl (.cons (t := 3) rfl (.cons (t := 4) rfl (.cons (t := 10) rfl (.cons (t := 11) rfl (.cons (t := 12) rfl (.cons (t := 39) rfl .nil))))))))); clear s31
      refine cond_split s32 (.tmp rfl) (fun hc3 => ?_) (fun hc3 => ?_)
      · replace h7 := ite_t hc3 h7
        have h8 := h7; clear h7
        refine wp_seq_k fun K13 hK13 => ?_
        refine wp_region_lit ?_
        refine seq_op s32 rfl rfl (of_decide_eq_true rfl) (ob_move rfl (.tmp rfl)) fun a33 w33 s33 => ?_; clear s32
        refine seq_op s33 rfl rfl (of_decide_eq_true rfl) (ob_move rfl (.tmp rfl)) fun a34 w34 s34 => ?_; clear s33
        refine seq_op s34 rfl rfl (of_decide_eq_true rfl) (ob_move rfl (.tmp rfl)) fun a35 w35 s35 => ?_; clear s34
        refine seq_op s35 rfl rfl (of_decide_eq_true rfl) (ob_move rfl (.tmp rfl)) fun a36 w36 s36 => ?_; clear s35
        cases h8
      · replace h7 := ite_f hc3 h7
        have h9 := h7; clear h7
        refine wp_skip ?_
        refine then_normal ?_
        refine hK11 _ _ ?_
        have s37 := s32.sub (.cons (t := 0) rfl (.cons (t := 1) rfl (.cons (t := 2) rfl (.cons (t := 3) rfl (.cons (t := 4) rfl (.cons (t := 10) rfl (.cons (t := 11) rfl (.cons (t := 12) rfl .nil)))))))); clear s32
        refine wp_seq_k fun K14 hK14 => ?_
        refine wp_region_lit ?_
        refine seq_op s37 rfl rfl (of_decide_eq_true rfl) (ob_move rfl (.tmp rfl)) fun a38 w38 s38 => ?_; clear s37
        refine seq_op s38 rfl rfl (of_decide_eq_true rfl) (ob_move rfl (.tmp rfl)) fun a39 w39 s39 => ?_; clear s38
        refine seq_op s39 rfl rfl (of_decide_eq_true rfl) (ob_move rfl (.tmp rfl)) fun a40 w40 s40 => ?_; clear s39
        refine seq_op s40 rfl rfl (of_decide_eq_true rfl) (ob_move rfl (.tmp rfl)) fun a41 w41 s41 => ?_; clear s40
        cases h9

/- 100 slices.SortFunc[[]cabal/api.Key,cabal/api.Key] -/
theorem c_slices_SortFunc_api_Key_api_Key_queue_Wanted_1 (k : Nat) (p1 : (List (List Int))) (r : (List (List Int))) (h0 : slices_SortFunc_api_Key_api_Key_queue_Wanted_1 k p1 = some r) (ok : Ok) (w0 : World) (z0 : Value) (z1 : Value) (wr0 : Value) (l0 : ∀ q, q ∈ [RowF wr0 39 (karr 32 (kint .u8)) p1] → q.holds ok w0) (d0 : ∀ c, c ∈ idsOf [RowF wr0 39 (karr 32 (kint .u8)) p1] → ¬ ok c) (nd : (idsOf [RowF wr0 39 (karr 32 (kint .u8)) p1]).Nodup) (u0 : (is wr0).holds ok w0 z0) (u1 : (is (.func (.func 115) #[] #[])).holds ok w0 z1) :
    GivesX Try.prog 100 [z0, z1] ok w0 [RowF wr0 39 (karr 32 (kint .u8)) p1] (fun g : Unit => resFact []) (fun g : Unit => [RowF wr0 39 (karr 32 (kint .u8)) r]) := by
  unfold slices_SortFunc_api_Key_api_Key_queue_Wanted_1 at h0
  refine enterX (N := 14) Try.func100 rfl rfl (of_decide_eq_true rfl) (.cons u0 (.cons u1 .nil)) nd l0 d0 fun a1 s1 => ?_
  refine wp_seq_k fun K1 hK1 => ?_
  refine wp_region_lit ?_
  refine seq_op s1 rfl rfl (of_decide_eq_true rfl) (ob_move rfl (.tmp rfl)) fun a2 w2 s2 => ?_; clear s1
  refine seq_op s2 rfl rfl (of_decide_eq_true rfl) (ob_lenRow rfl Try.underlying40 (.tmp rfl) (.head _)) fun a3 w3 s3 => ?_; clear s2
  refine seq_op s3 rfl rfl (of_decide_eq_true rfl) (ob_assign rfl (.tmp rfl)) fun a4 w4 s4 => ?_; clear s3
  refine wpList_nil ?_
  refine then_normal ?_
  refine hK1 _ _ ?_
  have s5 := s4.sub (.cons (t := 0) rfl (.cons (t := 1) rfl (.cons (t := 4) rfl .nil))); clear s4
  refine wp_region_lit ?_
  refine seq_op s5 rfl rfl (of_decide_eq_true rfl) (ob_move rfl (.tmp rfl)) fun a6 w6 s6 => ?_; clear s5
  refine seq_op s6 rfl rfl (of_decide_eq_true rfl) (ob_move rfl (.tmp rfl)) fun a7 w7 s7 => ?_; clear s6
  refine seq_op s7 rfl rfl (of_decide_eq_true rfl) (ob_move rfl (.tmp rfl)) fun a8 w8 s8 => ?_; clear s7
  refine seq_op s8 rfl rfl (of_decide_eq_true rfl) (ob_conv rfl _ Try.underlying3 Try.underlying37 (.tmp rfl)) fun a9 w9 s9 => ?_; clear s8
  obtain ⟨x1, e_x1, h1⟩ := bind_some h0; clear h0
  refine seq_op s9 rfl rfl (of_decide_eq_true rfl) (ob_callD (args := [_]) rfl .direct hb146 (fun a w s fs gs hf hg => by obtain rfl := hf.unnil; obtain rfl := hg.unnil; exact c_math_bits_Len k _ _ e_x1 _ _ _ (s.arg (.tmp rfl)))) fun a10 w10 s10 => ?_; clear s9
  refine seq_op s10 rfl rfl (of_decide_eq_true rfl) (ob_move rfl (.tmp rfl)) fun a11 w11 s11 => ?_; clear s10
  obtain ⟨x2, e_x2, h2⟩ := bind_some h1; clear h1
  refine seq_opx (B' := (fun _ : Unit => [RowF wr0 39 (karr 32 (kint .u8)) x2])) s11 rfl rfl (of_decide_eq_true rfl) (ob_callL (args := [_, _, _, _, _]) (L := [_]) rfl .direct hb145 (List.Perm.refl _) (fun a w s fs gs hf hg => by obtain rfl := hf.unnil; obtain rfl := hg.unnil; exact c_slices_pdqsortCmpFunc_api_Key_queue_Wanted_1 k _ _ _ _ _ e_x2 _ _ _ _ _ _ _ _ (ownL s) (disL s) (nodL s) (s.arg (.tmp rfl)) (s.arg (opd_int rfl)) (s.arg (.tmp rfl)) (s.arg (.tmp rfl)) (s.arg (.tmp rfl))) (by exact fun _ => rfl)) fun _ a12 w12 s12 => ?_; clear s11
  refine wpList_nil ?_
  obtain rfl := Option.some.inj h2
  exact leaveXD (D := []) () s12 rfl (.inr rfl) rfl .nil rfl

/- 150 slices.Compact[[]cabal/api.Key,cabal/api.Key] -/
theorem c_slices_Compact_api_Key_api_Key (k : Nat) (p1 : (List (List Int))) (r : (List (List Int))) (h0 : slices_Compact_api_Key_api_Key k p1 = some r) (ok : Ok) (w0 : World) (z0 : Value) (wr0 : Value) (l0 : ∀ q, q ∈ [RowF wr0 39 (karr 32 (kint .u8)) p1] → q.holds ok w0) (d0 : ∀ c, c ∈ idsOf [RowF wr0 39 (karr 32 (kint .u8)) p1] → ¬ ok c) (nd : (idsOf [RowF wr0 39 (karr 32 (kint .u8)) p1]).Nodup) (u0 : (is wr0).holds ok w0 z0) :
    GivesX Try.prog 150 [z0] ok w0 [RowF wr0 39 (karr 32 (kint .u8)) p1] (fun g : Value => resFact [is g]) (fun g : Value => [RowF (g) 39 (karr 32 (kint .u8)) r]) := by
  unfold slices_Compact_api_Key_api_Key at h0
  refine enterX (N := 61) Try.func150 rfl rfl (of_decide_eq_true rfl) (.cons u0 .nil) nd l0 d0 fun a1 s1 => ?_
  refine wp_seq_k fun K1 hK1 => ?_
  refine wp_region_lit ?_
  refine seq_op s1 rfl rfl (of_decide_eq_true rfl) (ob_assign rfl opd_is) fun a2 w2 s2 => ?_; clear s1
  have s3 := St.adopt s2 (G := RowF (nilRow 20) 39 (karr 32 (kint .u8)) []) rfl (rowNilN _ _ _ _ _); clear s2
  refine wpList_nil ?_
  refine then_normal ?_
  refine hK1 _ _ ?_
  have s4 := s3.sub (.cons (t := 0) rfl .nil); clear s3
  have s5 := St.drop (A := []) s4; clear s4
  refine wp_seq_k fun K2 hK2 => ?_
  refine wp_seq_k fun K3 hK3 => ?_
  refine wp_region_lit ?_
  refine seq_op s5 rfl rfl (of_decide_eq_true rfl) (ob_move rfl (.tmp rfl)) fun a6 w6 s6 => ?_; clear s5
  refine seq_op s6 rfl rfl (of_decide_eq_true rfl) (ob_lenRow rfl Try.underlying40 (.tmp rfl) (.head _)) fun a7 w7 s7 => ?_; clear s6
  refine seq_op s7 rfl rfl (of_decide_eq_true rfl) (ob_lss rfl (.tmp rfl) (opd_int rfl)) fun a8 w8 s8 => ?_; clear s7
  refine wpList_nil ?_
  refine then_normal ?_
  refine hK3 _ _ ?_
  have s9 := s8.sub (.cons (t := 0) rfl (.cons (t := 8) rfl .nil)); clear s8
  refine cond_split s9 (.tmp rfl) (fun hc1 => ?_) (fun hc1 => ?_)
  · replace h0 := ite_t hc1 h0
    have h1 := h0; clear h0
    refine wp_seq_k fun K4 hK4 => ?_
    refine wp_region_lit ?_
    refine seq_op s9 rfl rfl (of_decide_eq_true rfl) (ob_move rfl (.tmp rfl)) fun a10 w10 s10 => ?_; clear s9
    refine seq_op s10 rfl rfl (of_decide_eq_true rfl) (ob_assign rfl (.tmp rfl)) fun a11 w11 s11 => ?_; clear s10
    refine wpList_nil ?_
    refine then_normal ?_
    refine hK4 _ _ ?_
    have s12 := s11.sub (.cons (t := 2) rfl .nil); clear s11
    refine wp_ret ?_
    obtain rfl := Option.some.inj h1
    exact leaveXD (D := []) wr0 s12 rfl (.inl rfl) rfl (.cons (.tmp rfl) .nil) rfl
  · replace h0 := ite_f hc1 h0
    have h2 := h0; clear h0
    refine wp_skip ?_
    refine then_normal ?_
    refine hK2 _ _ ?_
    have s13 := s9.sub (.cons (t := 0) rfl .nil); clear s9
    refine wp_seq_k fun K5 hK5 => ?_
    refine wp_seq_k fun K6 hK6 => ?_
    refine wp_region_lit ?_
    refine seq_op s13 rfl rfl (of_decide_eq_true rfl) (ob_assign rfl (opd_int rfl)) fun a14 w14 s14 => ?_; clear s13
    refine wpList_nil ?_
    refine then_normal ?_
    refine hK6 _ _ ?_
    have s15 := s14.sub (.cons (t := 0) rfl (.cons (t := 3) rfl .nil)); clear s14
    have hj1 : ∀ (a : Act) (w : World), (slices_Compact_api_Key_api_Key.j1 k p1) = some r → St ⟨61, w0, ok, (idsOf [RowF wr0 39 (karr 32 (kint .u8)) p1])⟩ [RowF wr0 39 (karr 32 (kint .u8)) p1] [(0, (is wr0))] a w → K5 a w := by
      intro a16 w16 h3 s16
      unfold slices_Compact_api_Key_api_Key.j1 at h3
      refine hK5 _ _ ?_
      refine wp_seq_k fun K7 hK7 => ?_
      refine wp_region_lit ?_
      refine seq_op s16 rfl rfl (of_decide_eq_true rfl) (ob_move rfl (.tmp rfl)) fun a17 w17 s17 => ?_; clear s16
      refine seq_op s17 rfl rfl (of_decide_eq_true rfl) (ob_assign rfl (.tmp rfl)) fun a18 w18 s18 => ?_; clear s17
      refine wpList_nil ?_
      refine then_normal ?_
      refine hK7 _ _ ?_
      have s19 := s18.sub (.cons (t := 2) rfl .nil); clear s18
      refine wp_ret ?_
      obtain rfl := Option.some.inj h3
      exact leaveXD (D := []) wr0 s19 rfl (.inl rfl) rfl (.cons (.tmp rfl) .nil) rfl
    refine wp_block ?_
    refine wp_loop_fuel (fun m (q : Int) => slices_Compact_api_Key_api_Key.l1 k p1 m q) r (fun _ => rfl) (fun q a w => St ⟨61, w0, ok, (idsOf [RowF wr0 39 (karr 32 (kint .u8)) p1])⟩ [RowF wr0 39 (karr 32 (kint .u8)) p1] [(0, (is wr0)), (3, ((kint .i64).V q))] a w) ?_ k (1 : Int) _ _ h2 (s15.sub (.cons rfl (.cons rfl .nil)))
    rintro n1 y1 a20 w20 h4 s20 K8 hK8
    replace h4 : slices_Compact_api_Key_api_Key.l1 k p1 (n1 + 1) y1 = some r := h4; rw [slices_Compact_api_Key_api_Key.l1] at h4
    have h5 := h4; clear h4
    refine wp_seq_k fun K9 hK9 => ?_
    refine wp_seq_k fun K10 hK10 => ?_
    refine wp_region_lit ?_
    refine seq_op s20 rfl rfl (of_decide_eq_true rfl) (ob_move rfl (.tmp rfl)) fun a21 w21 s21 => ?_; clear s20
    refine seq_op s21 rfl rfl (of_decide_eq_true rfl) (ob_move rfl (.tmp rfl)) fun a22 w22 s22 => ?_; clear s21
    refine seq_op s22 rfl rfl (of_decide_eq_true rfl) (ob_lenRow rfl Try.underlying40 (.tmp rfl) (.head _)) fun a23 w23 s23 => ?_; clear s22
    refine seq_op s23 rfl rfl (of_decide_eq_true rfl) (ob_lss rfl (.tmp rfl) (.tmp rfl)) fun a24 w24 s24 => ?_; clear s23
    refine wpList_nil ?_
    refine then_normal ?_
    refine hK10 _ _ ?_
    have s25 := s24.sub (.cons (t := 0) rfl (.cons (t := 3) rfl (.cons (t := 13) rfl .nil))); clear s24
    refine cond_split s25 (.tmp rfl) (fun hc2 => ?_) (fun hc2 => ?_)
    · replace h5 := ite_t hc2 h5
      have h6 := h5; clear h5
      refine wp_skip ?_
      refine then_normal ?_
      refine hK9 _ _ ?_
      have s26 := s25.sub (.cons (t := 0) rfl (.cons (t := 3) rfl .nil)); clear s25
      refine wp_seq_k fun K11 hK11 => ?_
      have hj2 : ∀ (a : Act) (w : World), (slices_Compact_api_Key_api_Key.j2 k y1 (slices_Compact_api_Key_api_Key.l1 k p1 n1)) = some r → St ⟨61, w0, ok, (idsOf [RowF wr0 39 (karr 32 (kint .u8)) p1])⟩ [RowF wr0 39 (karr 32 (kint .u8)) p1] [(0, (is wr0)), (3, ((kint .i64).V y1))] a w → K11 a w := by
        intro a27 w27 h7 s27
        unfold slices_Compact_api_Key_api_Key.j2 at h7
        refine hK11 _ _ ?_
        refine wp_region_lit ?_
        refine seq_op s27 rfl rfl (of_decide_eq_true rfl) (ob_move rfl (.tmp rfl)) fun a28 w28 s28 => ?_; clear s27
        refine seq_op s28 rfl rfl (of_decide_eq_true rfl) (ob_add rfl (.tmp rfl) (opd_int rfl)) fun a29 w29 s29 => ?_; clear s28
        refine seq_op s29 rfl rfl (of_decide_eq_true rfl) (ob_assign rfl (.tmp rfl)) fun a30 w30 s30 => ?_; clear s29
        refine wpList_nil ?_
        refine then_normal ?_
        exact hK8 (iadd .i64 y1 (1 : Int)) _ _ h7 (s30.sub (.cons rfl (.cons rfl .nil)))
      refine wp_block ?_
      refine wp_seq_k fun K12 hK12 => ?_
      obtain ⟨g1, h8⟩ := guard_some h6; clear h6
      obtain ⟨x1, e_x1, h9⟩ := bind_some h8; clear h8
      obtain ⟨g2, h10⟩ := guard_some h9; clear h9
      obtain ⟨x2, e_x2, h11⟩ := bind_some h10; clear h10
      refine wp_goes (Fs := [(is wr0), ((kint .i64).V y1), (ptrR wr0 (y1.toNat * 32)), ((karr 32 (kint .u8)).V x1), (is wr0), ((kint .i64).V y1), ((kint .i64).V (isub .i64 y1 (1 : Int))), (ptrR wr0 ((isub .i64 y1 (1 : Int)).toNat * 32)), ((karr 32 (kint .u8)).V x2)]) (bits := [0, 0, 3, 7, 0, 0, 32, 112, 240, 511]) (m := 9) (todo := 0) mx s26 ?_; clear s26
      refine goes_last (by kernel_rfl) rfl (opsS_cons (.plain _ (Av.old (t := 0) rfl rfl Av.nil) rfl rfl (ob_move rfl (.tmp rfl))) (opsS_cons (.plain _ (Av.old (t := 3) rfl rfl Av.nil) rfl rfl (ob_move rfl (.tmp rfl))) (opsS_cons (.plain _ (Av.new (j := 0) rfl rfl rfl (Av.new (j := 1) rfl rfl rfl Av.nil)) rfl rfl (ob_rowAt rfl Try.underlying40 sz39 (.tmp rfl) (.head _) (.tmp rfl) g1)) (opsS_cons (.plain _ (Av.new (j := 2) rfl rfl rfl Av.nil) rfl rfl (ob_rowLoad rfl tk39 (.tmp rfl) (.head _) (LG.arrA e_x1))) (opsS_cons (.plain _ (Av.old (t := 0) rfl rfl Av.nil) rfl rfl (ob_move rfl (.tmp rfl))) (opsS_cons (.plain _ (Av.old (t := 3) rfl rfl Av.nil) rfl rfl (ob_move rfl (.tmp rfl))) (opsS_cons (.plain _ (Av.new (j := 5) rfl rfl rfl Av.nil) rfl rfl (ob_sub rfl (.tmp rfl) (opd_int rfl))) (opsS_cons (.plain _ (Av.new (j := 4) rfl rfl rfl (Av.new (j := 6) rfl rfl rfl Av.nil)) rfl rfl (ob_rowAt rfl Try.underlying40 sz39 (.tmp rfl) (.head _) (.tmp rfl) g2)) (opsS_cons (.plain _ (Av.new (j := 7) rfl rfl rfl Av.nil) rfl rfl (ob_rowLoad rfl tk39 (.tmp rfl) (.head _) (LG.arrA e_x2))) opsS_nil))))))))) (out_old (t := 0) rfl rfl (out_old (t := 3) rfl rfl (out_new (i := 3) (by decide) rfl rfl (out_new (i := 8) (by decide) rfl rfl out_nil)))) fun a31 w31 s31 => ?_
      refine seq_op s31 rfl rfl (of_decide_eq_true rfl) (ob_eqAgg rfl rfl (by kernel_rfl) eq39 (by decide) (.tmp rfl) (.tmp rfl)) fun a32 w32 s32 => ?_; clear s31
      refine wpList_nil ?_
      refine then_normal ?_
      refine hK12 _ _ ?_
      have s33 := s32.sub (.cons (t := 0) rfl (.cons (t := 3) rfl (.cons (t := 25) rfl .nil))); clear s32
      refine cond_split s33 (.tmp rfl) (fun hc3 => ?_) (fun hc3 => ?_)
      · replace h11 := ite_t hc3 h11
        have h12 := h11; clear h11
        refine wp_seq_k fun K13 hK13 => ?_
        refine wp_region_lit ?_
        refine seq_op s33 rfl rfl (of_decide_eq_true rfl) (ob_move rfl (.tmp rfl)) fun a34 w34 s34 => ?_; clear s33
        refine seq_op s34 rfl rfl (of_decide_eq_true rfl) (ob_move rfl (.tmp rfl)) fun a35 w35 s35 => ?_; clear s34
        obtain ⟨g3, h13⟩ := guard_some h12; clear h12
        refine seq_op s35 rfl rfl (of_decide_eq_true rfl) (ob_cutT rfl Try.underlying40 sz39 (.tmp rfl) (.head _) (.some (.tmp rfl)) g3) fun a36 w36 s36 => ?_; clear s35
        refine seq_op s36 rfl rfl (of_decide_eq_true rfl) (ob_assign rfl (.tmp rfl)) fun a37 w37 s37 => ?_; clear s36
        refine wpList_nil ?_
        refine then_normal ?_
        refine hK13 _ _ ?_
        have s38 := s37.sub (.cons (t := 0) rfl (.cons (t := 3) rfl (.cons (t := 4) rfl .nil))); clear s37
        refine wp_seq_k fun K14 hK14 => ?_
        refine wp_seq_k fun K15 hK15 => ?_
        refine wp_region_lit ?_
        refine seq_op s38 rfl rfl (of_decide_eq_true rfl) (ob_assign rfl (opd_int rfl)) fun a39 w39 s39 => ?_; clear s38
        refine wpList_nil ?_
        refine then_normal ?_
        refine hK15 _ _ ?_
        have s40 := s39.sub (.cons (t := 0) rfl (.cons (t := 3) rfl (.cons (t := 4) rfl (.cons (t := 5) rfl .nil)))); clear s39
        have hj3 : ∀ (y2 : Int) (y3 : (List (List Int))) (a : Act) (w : World), (slices_Compact_api_Key_api_Key.j3 k) y2 y3 = some r → St ⟨61, w0, ok, (idsOf [RowF wr0 39 (karr 32 (kint .u8)) p1])⟩ [RowF wr0 39 (karr 32 (kint .u8)) y3] [(0, (is wr0)), (3, ((kint .i64).V y2))] a w → K14 a w := by
          intro y2 y3 a41 w41 h14 s41
          unfold slices_Compact_api_Key_api_Key.j3 at h14
          refine hK14 _ _ ?_
          refine wp_seq_k fun K16 hK16 => ?_
          refine wp_region_lit ?_
          refine seq_op s41 rfl rfl (of_decide_eq_true rfl) (ob_move rfl (.tmp rfl)) fun a42 w42 s42 => ?_; clear s41
          refine seq_op s42 rfl rfl (of_decide_eq_true rfl) (ob_move rfl (.tmp rfl)) fun a43 w43 s43 => ?_; clear s42
          obtain ⟨g4, h15⟩ := guard_some h14; clear h14
          refine seq_op s43 rfl rfl (of_decide_eq_true rfl) (ob_cutT rfl Try.underlying40 sz39 (.tmp rfl) (.head _) (.some (.tmp rfl)) g4) fun a44 w44 s44 => ?_; clear s43
          obtain ⟨g5, h16⟩ := guard_some h15; clear h15
          refine seq_opx0 (B' := (fun _ : Unit => [RowF wr0 39 (karr 32 (kint .u8)) (y3.take y2.toNat ++ List.replicate (y3.length - y2.toNat) (List.replicate 32 (0 : Int)) ++ y3.drop (y2.toNat + (y3.length - y2.toNat)))])) s44 rfl rfl (ob_clearT (A := []) rfl Try.underlying40 ap39 (Zr.arr 32 (Zr.int .u8)) (by decide) (.tmp rfl) rfl g5 rfl) fun _ a45 w45 s45 => ?_; clear s44
          refine wpList_nil ?_
          refine then_normal ?_
          refine hK16 _ _ ?_
          have s46 := s45.sub (.cons (t := 0) rfl (.cons (t := 3) rfl .nil)); clear s45
          refine wp_seq_k fun K17 hK17 => ?_
          refine wp_region_lit ?_
          refine seq_op s46 rfl rfl (of_decide_eq_true rfl) (ob_move rfl (.tmp rfl)) fun a47 w47 s47 => ?_; clear s46
          refine seq_op s47 rfl rfl (of_decide_eq_true rfl) (ob_move rfl (.tmp rfl)) fun a48 w48 s48 => ?_; clear s47
          obtain ⟨g6, h17⟩ := guard_some h16; clear h16
          refine seq_opx (B' := (fun v1 : Value => [RowF v1 39 (karr 32 (kint .u8)) ((y3.take y2.toNat ++ List.replicate (y3.length - y2.toNat) (List.replicate 32 (0 : Int)) ++ y3.drop (y2.toNat + (y3.length - y2.toNat))).take y2.toNat)])) s48 rfl rfl (of_decide_eq_true rfl) (ob_cutRow (A := []) rfl Try.underlying40 sz39 (.tmp rfl) rfl .none (.some (.tmp rfl)) g6) fun v1 a49 w49 s49 => ?_; clear s48
          refine seq_op s49 rfl rfl (of_decide_eq_true rfl) (ob_assign rfl (.tmp rfl)) fun a50 w50 s50 => ?_; clear s49
          refine wpList_nil ?_
          refine then_normal ?_
          refine hK17 _ _ ?_
          have s51 := s50.sub (.cons (t := 2) rfl .nil); clear s50
          refine wp_ret ?_
          obtain rfl := Option.some.inj h17
          exact leaveXD (D := []) v1 s51 rfl (.inl rfl) rfl (.cons (.tmp rfl) .nil) rfl
        refine wp_block ?_
        refine wp_loop_fuel (fun m (q : Int × Int × (List (List Int))) => slices_Compact_api_Key_api_Key.l2 k p1 y1 m q.1 q.2.1 q.2.2) r (fun _ => rfl) (fun q a w => St ⟨61, w0, ok, (idsOf [RowF wr0 39 (karr 32 (kint .u8)) p1])⟩ [RowF wr0 39 (karr 32 (kint .u8)) q.2.2] [(0, (is wr0)), (3, ((kint .i64).V q.1)), (4, (slT wr0 32 y1.toNat (p1.length - y1.toNat))), (5, ((kint .i64).V q.2.1))] a w) ?_ k (y1, (1 : Int), p1) _ _ h13 (s40.sub (.cons rfl (.cons rfl (.cons rfl (.cons rfl .nil)))))
        rintro n2 ⟨y4, y5, y6⟩ a52 w52 h18 s52 K18 hK18
        replace h18 : slices_Compact_api_Key_api_Key.l2 k p1 y1 (n2 + 1) y4 y5 y6 = some r := h18; rw [slices_Compact_api_Key_api_Key.l2] at h18
        have h19 := h18; clear h18
        refine wp_seq_k fun K19 hK19 => ?_
        refine wp_seq_k fun K20 hK20 => ?_
        refine wp_region_lit ?_
        refine seq_op s52 rfl rfl (of_decide_eq_true rfl) (ob_move rfl (.tmp rfl)) fun a53 w53 s53 => ?_; clear s52
        refine seq_op s53 rfl rfl (of_decide_eq_true rfl) (ob_move rfl (.tmp rfl)) fun a54 w54 s54 => ?_; clear s53
        refine seq_op s54 rfl rfl (of_decide_eq_true rfl) (ob_lenT rfl Try.underlying40 (.tmp rfl)) fun a55 w55 s55 => ?_; clear s54
        refine seq_op s55 rfl rfl (of_decide_eq_true rfl) (ob_lss rfl (.tmp rfl) (.tmp rfl)) fun a56 w56 s56 => ?_; clear s55
        refine wpList_nil ?_
        refine then_normal ?_
        refine hK20 _ _ ?_
        have s57 := s56.sub (.cons (t := 0) rfl (.cons (t := 3) rfl (.cons (t := 4) rfl (.cons (t := 5) rfl (.cons (t := 32) rfl .nil))))); clear s56
        refine cond_split s57 (.tmp rfl) (fun hc4 => ?_) (fun hc4 => ?_)
        · replace h19 := ite_t hc4 h19
          have h20 := h19; clear h19
          refine wp_skip ?_
          refine then_normal ?_
          refine hK19 _ _ ?_
          have s58 := s57.sub (.cons (t := 0) rfl (.cons (t := 3) rfl (.cons (t := 4) rfl (.cons (t := 5) rfl .nil)))); clear s57
          refine wp_seq_k fun K21 hK21 => ?_
          have hj4 : ∀ (y7 : Int) (y8 : (List (List Int))) (a : Act) (w : World), (slices_Compact_api_Key_api_Key.j4 k y5 (slices_Compact_api_Key_api_Key.l2 k p1 y1 n2)) y7 y8 = some r → St ⟨61, w0, ok, (idsOf [RowF wr0 39 (karr 32 (kint .u8)) p1])⟩ [RowF wr0 39 (karr 32 (kint .u8)) y8] [(0, (is wr0)), (3, ((kint .i64).V y7)), (4, (slT wr0 32 y1.toNat (p1.length - y1.toNat))), (5, ((kint .i64).V y5))] a w → K21 a w := by
            intro y7 y8 a59 w59 h21 s59
            unfold slices_Compact_api_Key_api_Key.j4 at h21
            refine hK21 _ _ ?_
            refine wp_region_lit ?_
            refine seq_op s59 rfl rfl (of_decide_eq_true rfl) (ob_move rfl (.tmp rfl)) fun a60 w60 s60 => ?_; clear s59
            refine seq_op s60 rfl rfl (of_decide_eq_true rfl) (ob_add rfl (.tmp rfl) (opd_int rfl)) fun a61 w61 s61 => ?_; clear s60
            refine seq_op s61 rfl rfl (of_decide_eq_true rfl) (ob_assign rfl (.tmp rfl)) fun a62 w62 s62 => ?_; clear s61
            refine wpList_nil ?_
            refine then_normal ?_
            exact hK18 (y7, (iadd .i64 y5 (1 : Int)), y8) _ _ h21 (s62.sub (.cons rfl (.cons rfl (.cons rfl (.cons rfl .nil)))))
          refine wp_block ?_
          refine wp_seq_k fun K22 hK22 => ?_
          obtain ⟨g7, h22⟩ := guard_some h20; clear h20
          obtain ⟨g8, h23⟩ := guard_some h22; clear h22
          obtain ⟨x3, e_x3, h24⟩ := bind_some h23; clear h23
          obtain ⟨g9, h25⟩ := guard_some h24; clear h24
          obtain ⟨g10, h26⟩ := guard_some h25; clear h25
          obtain ⟨x4, e_x4, h27⟩ := bind_some h26; clear h26
          refine wp_goes (Fs := [(slT wr0 32 y1.toNat (p1.length - y1.toNat)), ((kint .i64).V y5), (ptrR wr0 ((y1 + y5).toNat * 32)), ((karr 32 (kint .u8)).V x3), (slT wr0 32 y1.toNat (p1.length - y1.toNat)), ((kint .i64).V y5), ((kint .i64).V (isub .i64 y5 (1 : Int))), (ptrR wr0 ((y1 + (isub .i64 y5 (1 : Int))).toNat * 32)), ((karr 32 (kint .u8)).V x4)]) (bits := [0, 0, 3, 7, 0, 0, 32, 112, 240, 511]) (m := 9) (todo := 0) mx s58 ?_; clear s58
          refine goes_last (by kernel_rfl) rfl (opsS_cons (.plain _ (Av.old (t := 4) rfl rfl Av.nil) rfl rfl (ob_move rfl (.tmp rfl))) (opsS_cons (.plain _ (Av.old (t := 5) rfl rfl Av.nil) rfl rfl (ob_move rfl (.tmp rfl))) (opsS_cons (.plain _ (Av.new (j := 0) rfl rfl rfl (Av.new (j := 1) rfl rfl rfl Av.nil)) rfl rfl (ob_restAt (k := (karr 32 (kint .u8))) rfl Try.underlying40 sz39 (.tmp rfl) g8 (.tmp rfl) g7)) (opsS_cons (.plain _ (Av.new (j := 2) rfl rfl rfl Av.nil) rfl rfl (ob_rowLoad rfl tk39 (.tmp rfl) (.head _) (LG.arrA e_x3))) (opsS_cons (.plain _ (Av.old (t := 4) rfl rfl Av.nil) rfl rfl (ob_move rfl (.tmp rfl))) (opsS_cons (.plain _ (Av.old (t := 5) rfl rfl Av.nil) rfl rfl (ob_move rfl (.tmp rfl))) (opsS_cons (.plain _ (Av.new (j := 5) rfl rfl rfl Av.nil) rfl rfl (ob_sub rfl (.tmp rfl) (opd_int rfl))) (opsS_cons (.plain _ (Av.new (j := 4) rfl rfl rfl (Av.new (j := 6) rfl rfl rfl Av.nil)) rfl rfl (ob_restAt (k := (karr 32 (kint .u8))) rfl Try.underlying40 sz39 (.tmp rfl) g10 (.tmp rfl) g9)) (opsS_cons (.plain _ (Av.new (j := 7) rfl rfl rfl Av.nil) rfl rfl (ob_rowLoad rfl tk39 (.tmp rfl) (.head _) (LG.arrA e_x4))) opsS_nil))))))))) (out_old (t := 0) rfl rfl (out_old (t := 3) rfl rfl (out_old (t := 4) rfl rfl (out_old (t := 5) rfl rfl (out_new (i := 3) (by decide) rfl rfl (out_new (i := 8) (by decide) rfl rfl out_nil)))))) fun a63 w63 s63 => ?_
          refine seq_op s63 rfl rfl (of_decide_eq_true rfl) (ob_neqAgg rfl rfl (by kernel_rfl) eq39 (by decide) (.tmp rfl) (.tmp rfl)) fun a64 w64 s64 => ?_; clear s63
          refine wpList_nil ?_
          refine then_normal ?_
          refine hK22 _ _ ?_
          have s65 := s64.sub (.cons (t := 0) rfl (.cons (t := 3) rfl (.cons (t := 4) rfl (.cons (t := 5) rfl (.cons (t := 44) rfl .nil))))); clear s64
          refine cond_split s65 (.tmp rfl) (fun hc5 => ?_) (fun hc5 => ?_)
          · replace h27 := ite_t hc5 h27
            have h28 := h27; clear h27
            refine wp_seq_k fun K23 hK23 => ?_
            refine wp_region_lit ?_
            refine seq_op s65 rfl rfl (of_decide_eq_true rfl) (ob_move rfl (.tmp rfl)) fun a66 w66 s66 => ?_; clear s65
            refine seq_op s66 rfl rfl (of_decide_eq_true rfl) (ob_move rfl (.tmp rfl)) fun a67 w67 s67 => ?_; clear s66
            refine seq_op s67 rfl rfl (of_decide_eq_true rfl) (ob_move rfl (.tmp rfl)) fun a68 w68 s68 => ?_; clear s67
            refine seq_op s68 rfl rfl (of_decide_eq_true rfl) (ob_move rfl (.tmp rfl)) fun a69 w69 s69 => ?_; clear s68
            obtain ⟨g11, h29⟩ := guard_some h28; clear h28
            obtain ⟨g12, h30⟩ := guard_some h29; clear h29
            refine seq_op s69 rfl rfl (of_decide_eq_true rfl) (ob_restAt (k := (karr 32 (kint .u8))) rfl Try.underlying40 sz39 (.tmp rfl) g12 (.tmp rfl) g11) fun a70 w70 s70 => ?_; clear s69
            obtain ⟨x5, e_x5, h31⟩ := bind_some h30; clear h30
            refine seq_op s70 rfl rfl (of_decide_eq_true rfl) (ob_rowLoad rfl tk39 (.tmp rfl) (.head _) (LG.arrA e_x5)) fun a71 w71 s71 => ?_; clear s70
            obtain ⟨g13, h32⟩ := guard_some h31; clear h31
            refine seq_op s71 rfl rfl (of_decide_eq_true rfl) (ob_rowAt rfl Try.underlying40 sz39 (.tmp rfl) (.head _) (.tmp rfl) g13) fun a72 w72 s72 => ?_; clear s71
            obtain ⟨x6, e_x6, h33⟩ := bind_some h32; clear h32
            refine seq_opx0 (B' := (fun _ : Unit => [RowF wr0 39 (karr 32 (kint .u8)) x6])) s72 rfl rfl (ob_rowStore (A := []) rfl tk39 (.tmp rfl) (.tmp rfl) rfl (LS.arrS e_x6) rfl) fun _ a73 w73 s73 => ?_; clear s72
            refine wpList_nil ?_
            refine then_normal ?_
            refine hK23 _ _ ?_
            have s74 := s73.sub (.cons (t := 0) rfl (.cons (t := 3) rfl (.cons (t := 4) rfl (.cons (t := 5) rfl .nil)))); clear s73
            refine wp_region_lit ?_
            refine seq_op s74 rfl rfl (of_decide_eq_true rfl) (ob_move rfl (.tmp rfl)) fun a75 w75 s75 => ?_; clear s74
            refine seq_op s75 rfl rfl (of_decide_eq_true rfl) (ob_add rfl (.tmp rfl) (opd_int rfl)) fun a76 w76 s76 => ?_; clear s75
            refine seq_op s76 rfl rfl (of_decide_eq_true rfl) (ob_assign rfl (.tmp rfl)) fun a77 w77 s77 => ?_; clear s76
            refine wpList_nil ?_
            refine in_normal ?_
            refine then_normal ?_
            exact hj4 (iadd .i64 y4 (1 : Int)) x6 _ _ h33 (s77.sub (.cons rfl (.cons rfl (.cons rfl (.cons rfl .nil)))))
          · replace h27 := ite_f hc5 h27
            have h34 := h27; clear h27
            refine wp_skip ?_
            refine in_normal ?_
            refine then_normal ?_
            exact hj4 y4 y6 _ _ h34 (s65.sub (.cons rfl (.cons rfl (.cons rfl (.cons rfl .nil)))))
        · replace h19 := ite_f hc4 h19
          have h35 := h19; clear h19
          refine wp_exit ?_
          refine (then_exit (then_exit (in_here ?_)))
          refine then_normal ?_
          exact hj3 y4 y6 _ _ h35 (s57.sub (.cons rfl (.cons rfl .nil)))
      · replace h11 := ite_f hc3 h11
        have h36 := h11; clear h11
        refine wp_skip ?_
        refine in_normal ?_
        refine then_normal ?_
        exact hj2 _ _ h36 (s33.sub (.cons rfl (.cons rfl .nil)))
    · replace h5 := ite_f hc2 h5
      have h37 := h5; clear h5
      refine wp_exit ?_
      refine (then_exit (then_exit (in_here ?_)))
      refine then_normal ?_
      exact hj1 _ _ h37 (s25.sub (.cons rfl .nil))

/- 114 cabal/queue.once[cabal/api.Key] -/
theorem c_queue_once_api_Key_queue_Wanted_1 (k : Nat) (p1 : (List (List Int))) (r : (List (List Int))) (h0 : queue_once_api_Key_queue_Wanted_1 k p1 = some r) (ok : Ok) (w0 : World) (z0 : Value) (z1 : Value) (wr0 : Value) (l0 : ∀ q, q ∈ [RowF wr0 39 (karr 32 (kint .u8)) p1] → q.holds ok w0) (d0 : ∀ c, c ∈ idsOf [RowF wr0 39 (karr 32 (kint .u8)) p1] → ¬ ok c) (nd : (idsOf [RowF wr0 39 (karr 32 (kint .u8)) p1]).Nodup) (u0 : (is wr0).holds ok w0 z0) (u1 : (is (.func (.func 115) #[] #[])).holds ok w0 z1) :
    GivesX Try.prog 114 [z0, z1] ok w0 [RowF wr0 39 (karr 32 (kint .u8)) p1] (fun g : Value => resFact [is g]) (fun g : Value => [RowF (g) 39 (karr 32 (kint .u8)) r]) := by
  unfold queue_once_api_Key_queue_Wanted_1 at h0
  refine enterX (N := 10) Try.func114 rfl rfl (of_decide_eq_true rfl) (.cons u0 (.cons u1 .nil)) nd l0 d0 fun a1 s1 => ?_
  refine wp_seq_k fun K1 hK1 => ?_
  refine wp_region_lit ?_
  refine seq_op s1 rfl rfl (of_decide_eq_true rfl) (ob_assign rfl opd_is) fun a2 w2 s2 => ?_; clear s1
  have s3 := St.adopt s2 (G := RowF (nilRow 19) 39 (karr 32 (kint .u8)) []) rfl (rowNilN _ _ _ _ _); clear s2
  refine wpList_nil ?_
  refine then_normal ?_
  refine hK1 _ _ ?_
  have s4 := s3.sub (.cons (t := 0) rfl (.cons (t := 1) rfl .nil)); clear s3
  have s5 := St.drop (A := []) s4; clear s4
  refine wp_seq_k fun K2 hK2 => ?_
  refine wp_region_lit ?_
  refine seq_op s5 rfl rfl (of_decide_eq_true rfl) (ob_move rfl (.tmp rfl)) fun a6 w6 s6 => ?_; clear s5
  refine seq_op s6 rfl rfl (of_decide_eq_true rfl) (ob_move rfl (.tmp rfl)) fun a7 w7 s7 => ?_; clear s6
  obtain ⟨x1, e_x1, h1⟩ := bind_some h0; clear h0
  refine seq_opx (B' := (fun _ : Unit => [RowF wr0 39 (karr 32 (kint .u8)) x1])) s7 rfl rfl (of_decide_eq_true rfl) (ob_callL (args := [_, _]) (L := [_]) rfl .direct hb100 (List.Perm.refl _) (fun a w s fs gs hf hg => by obtain rfl := hf.unnil; obtain rfl := hg.unnil; exact c_slices_SortFunc_api_Key_api_Key_queue_Wanted_1 k _ _ e_x1 _ _ _ _ _ (ownL s) (disL s) (nodL s) (s.arg (.tmp rfl)) (s.arg (.tmp rfl))) (by exact fun _ => rfl)) fun _ a8 w8 s8 => ?_; clear s7
  refine wpList_nil ?_
  refine then_normal ?_
  refine hK2 _ _ ?_
  have s9 := s8.sub (.cons (t := 0) rfl .nil); clear s8
  refine wp_seq_k fun K3 hK3 => ?_
  refine wp_region_lit ?_
  refine seq_op s9 rfl rfl (of_decide_eq_true rfl) (ob_move rfl (.tmp rfl)) fun a10 w10 s10 => ?_; clear s9
  obtain ⟨x2, e_x2, h2⟩ := bind_some h1; clear h1
  refine seq_opx (B' := (fun v1 : Value => [RowF v1 39 (karr 32 (kint .u8)) x2])) s10 rfl rfl (of_decide_eq_true rfl) (ob_callL (args := [_]) (L := [_]) rfl .direct hb150 (List.Perm.refl _) (fun a w s fs gs hf hg => by obtain rfl := hf.unnil; obtain rfl := hg.unnil; exact c_slices_Compact_api_Key_api_Key k _ _ e_x2 _ _ _ _ (ownL s) (disL s) (nodL s) (s.arg (.tmp rfl))) (by exact fun _ => rfl)) fun v1 a11 w11 s11 => ?_; clear s10
  refine seq_op s11 rfl rfl (of_decide_eq_true rfl) (ob_assign rfl (.tmp rfl)) fun a12 w12 s12 => ?_; clear s11
  refine wpList_nil ?_
  refine then_normal ?_
  refine hK3 _ _ ?_
  have s13 := s12.sub (.cons (t := 4) rfl .nil); clear s12
  refine wp_ret ?_
  obtain rfl := Option.some.inj h2
  exact leaveXD (D := []) v1 s13 rfl (.inl rfl) rfl (.cons (.tmp rfl) .nil) rfl

/- 62 cabal/queue.Wanted -/
theorem c_queue_Wanted (k : Nat) (p1 : (List api_Node)) (p2 : (List api_Held)) (r : (List (List Int))) (h0 : queue_Wanted k p1 p2 = some r) (ok : Ok) (w0 : World) (z0 : Value) (z1 : Value) (u0 : ((ksl k_api_Node).V p1).holds ok w0 z0) (u1 : ((ksl k_api_Held).V p2).holds ok w0 z1) :
    GivesX Try.prog 62 [z0, z1] ok w0 [] (fun g : Value => resFact [is g]) (fun g : Value => [RowF (g) 39 (karr 32 (kint .u8)) r]) := by
  unfold queue_Wanted at h0
  refine enterX (N := 50) Try.func62 rfl rfl (of_decide_eq_true rfl) (.cons u0 (.cons u1 .nil)) List.nodup_nil (fun _ h => by cases h) (fun _ h => by cases h) fun a1 s1 => ?_
  refine wp_seq_k fun K1 hK1 => ?_
  refine wp_region_lit ?_
  refine seq_op s1 rfl rfl (of_decide_eq_true rfl) (ob_assign rfl opd_is) fun a2 w2 s2 => ?_; clear s1
  have s3 := St.adopt s2 (G := RowF (nilRow 13) 39 (karr 32 (kint .u8)) []) rfl (rowNilN _ _ _ _ _); clear s2
  refine wpList_nil ?_
  refine then_normal ?_
  refine hK1 _ _ ?_
  have s4 := s3.sub (.cons (t := 0) rfl (.cons (t := 1) rfl .nil)); clear s3
  have s5 := St.drop (A := []) s4; clear s4
  refine wp_seq_k fun K2 hK2 => ?_
  refine wp_seq_k fun K3 hK3 => ?_
  refine wp_region_lit ?_
  refine seq_op s5 rfl rfl (of_decide_eq_true rfl) (ob_move rfl (.tmp rfl)) fun a6 w6 s6 => ?_; clear s5
  obtain ⟨x1, e_x1, h1⟩ := bind_some h0; clear h0
  refine seq_op s6 rfl rfl (of_decide_eq_true rfl) (ob_callD (args := [_]) rfl .direct hb24 (fun a w s fs gs hf hg => by obtain rfl := hf.unnil; obtain rfl := hg.unnil; exact c_graph_Right k _ _ e_x1 _ _ _ (s.arg (.tmp rfl)))) fun a7 w7 s7 => ?_; clear s6
  refine seq_op s7 rfl rfl (of_decide_eq_true rfl) (ob_not rfl (.tmp rfl)) fun a8 w8 s8 => ?_; clear s7
  refine seq_op s8 rfl rfl (of_decide_eq_true rfl) (ob_move rfl (.tmp rfl)) fun a9 w9 s9 => ?_; clear s8
  refine seq_opg s9 rfl rfl rfl rfl (of_decide_eq_true rfl) (fun hb => ob_move rfl (.tmp rfl)) fun a10 w10 s10 => ?_; clear s9
  obtain ⟨x2, e_x2, h2⟩ := bind_some h1; clear h1
  refine seq_opg s10 rfl rfl rfl rfl (of_decide_eq_true rfl) (fun hb => (Ob.uncond (t := 14) hb rfl (ob_callD (args := [_]) rfl .direct hb71 (fun a w s fs gs hf hg => by obtain rfl := hf.unnil; obtain rfl := hg.unnil; exact c_queue_Right k _ _ (ite_t hb e_x2) _ _ _ (s.arg (.tmp rfl)))))) fun a11 w11 s11 => ?_; clear s10
  refine seq_opg s11 rfl rfl rfl rfl (of_decide_eq_true rfl) (fun hb => (Ob.uncond (t := 15) hb rfl (ob_not rfl (.tmp rfl)))) fun a12 w12 s12 => ?_; clear s11
  refine seq_op s12 rfl rfl (of_decide_eq_true rfl) (ob_or2 rfl (.tmp rfl) opd_bool (.tmp rfl)) fun a13 w13 s13 => ?_; clear s12
  refine wpList_nil ?_
  refine then_normal ?_
  refine hK3 _ _ ?_
  have s14 := s13.sub (.cons (t := 0) rfl (.cons (t := 1) rfl (.cons (t := 17) rfl .nil))); clear s13
  refine cond_split s14 (.tmp rfl) (fun hc1 => ?_) (fun hc1 => ?_)
  · replace h2 := ite_t hc1 h2
    have h3 := h2; clear h2
    refine wp_seq_k fun K4 hK4 => ?_
    refine wp_region_lit ?_
    refine seq_op s14 rfl rfl (of_decide_eq_true rfl) (ob_assign rfl opd_is) fun a15 w15 s15 => ?_; clear s14
    have s16 := St.adopt s15 (G := RowF (nilRow 17) 39 (karr 32 (kint .u8)) []) rfl (rowNilN _ _ _ _ _); clear s15
    refine wpList_nil ?_
    refine then_normal ?_
    refine hK4 _ _ ?_
    have s17 := s16.sub (.cons (t := 4) rfl .nil); clear s16
    refine wp_ret ?_
    obtain rfl := Option.some.inj h3
    exact leaveXD (D := []) (nilRow 17) s17 rfl (.inl rfl) rfl (.cons (.tmp rfl) .nil) rfl
  · replace h2 := ite_f hc1 h2
    have h4 := h2; clear h2
    refine wp_skip ?_
    refine then_normal ?_
    refine hK2 _ _ ?_
    have s18 := s14.sub (.cons (t := 0) rfl (.cons (t := 1) rfl .nil)); clear s14
    refine wp_seq_k fun K5 hK5 => ?_
    refine wp_region_lit ?_
    refine seq_op s18 rfl rfl (of_decide_eq_true rfl) (ob_assign rfl opd_is) fun a19 w19 s19 => ?_; clear s18
    have s20 := St.adopt s19 (G := RowF (nilRow 18) 39 (karr 32 (kint .u8)) []) rfl (rowNilN _ _ _ _ _); clear s19
    refine wpList_nil ?_
    refine then_normal ?_
    refine hK5 _ _ ?_
    have s21 := s20.sub (.cons (t := 0) rfl (.cons (t := 1) rfl (.cons (t := 5) rfl .nil))); clear s20
    refine wp_seq_k fun K6 hK6 => ?_
    refine wp_seq_k fun K7 hK7 => ?_
    refine wp_region_lit ?_
    refine seq_op s21 rfl rfl (of_decide_eq_true rfl) (ob_move rfl (.tmp rfl)) fun a22 w22 s22 => ?_; clear s21
    refine seq_op s22 rfl rfl (of_decide_eq_true rfl) (ob_lens rfl Try.underlying85 (.tmp rfl)) fun a23 w23 s23 => ?_; clear s22
    refine seq_op s23 rfl rfl (of_decide_eq_true rfl) (ob_move rfl (opd_int rfl)) fun a24 w24 s24 => ?_; clear s23
    refine wpList_nil ?_
    refine then_normal ?_
    refine hK7 _ _ ?_
    have s25 := s24.sub (.cons (t := 0) rfl (.cons (t := 1) rfl (.cons (t := 5) rfl (.cons (t := 18) rfl (.cons (t := 19) rfl (.cons (t := 20) rfl .nil)))))); clear s24
    have hj1 : ∀ (y1 : (List (List Int))) (v1 : Value) (a : Act) (w : World), (queue_Wanted.j1 k) y1 = some r → St ⟨50, w0, ok, (idsOf [])⟩ [RowF v1 39 (karr 32 (kint .u8)) y1] [(5, (is v1))] a w → K6 a w := by
      intro y1 v1 a26 w26 h5 s26
      unfold queue_Wanted.j1 at h5
      refine hK6 _ _ ?_
      refine wp_seq_k fun K8 hK8 => ?_
      refine wp_region_lit ?_
      refine seq_op s26 rfl rfl (of_decide_eq_true rfl) (ob_move rfl (.tmp rfl)) fun a27 w27 s27 => ?_; clear s26
      obtain ⟨x3, e_x3, h6⟩ := bind_some h5; clear h5
      refine seq_opx (B' := (fun v2 : Value => [RowF v2 39 (karr 32 (kint .u8)) x3])) s27 rfl rfl (of_decide_eq_true rfl) (ob_callL (args := [_, _]) (L := [_]) rfl .direct hb114 (List.Perm.refl _) (fun a w s fs gs hf hg => by obtain rfl := hf.unnil; obtain rfl := hg.unnil; exact c_queue_once_api_Key_queue_Wanted_1 k _ _ e_x3 _ _ _ _ _ (ownL s) (disL s) (nodL s) (s.arg (.tmp rfl)) (s.arg .func)) (by exact fun _ => rfl)) fun v2 a28 w28 s28 => ?_; clear s27
      refine seq_op s28 rfl rfl (of_decide_eq_true rfl) (ob_assign rfl (.tmp rfl)) fun a29 w29 s29 => ?_; clear s28
      refine wpList_nil ?_
      refine then_normal ?_
      refine hK8 _ _ ?_
      have s30 := s29.sub (.cons (t := 4) rfl .nil); clear s29
      refine wp_ret ?_
      obtain rfl := Option.some.inj h6
      exact leaveXD (D := []) v2 s30 rfl (.inl rfl) rfl (.cons (.tmp rfl) .nil) rfl
    refine wp_block ?_
    refine wp_loop_fuel (fun m (q : Int × (List (List Int))) => queue_Wanted.l1 k p2 p1 m q.1 q.2) r (fun _ => rfl) (fun q a w => ∃ (v3 : Value), St ⟨50, w0, ok, (idsOf [])⟩ [RowF v3 39 (karr 32 (kint .u8)) q.2] [(0, ((ksl k_api_Node).V p1)), (1, ((ksl k_api_Held).V p2)), (5, (is v3)), (18, ((ksl k_api_Held).V p2)), (19, ((kint .i64).V (p2.length : Int))), (20, ((kint .i64).V q.1))] a w) ?_ k ((0 : Int), ([] : (List (List Int)))) _ _ h4 ⟨(nilRow 18), (s25.sub (.cons rfl (.cons rfl (.cons rfl (.cons rfl (.cons rfl (.cons rfl .nil)))))))⟩
    rintro n1 ⟨y2, y3⟩ a31 w31 h7 ⟨v3, s31⟩ K9 hK9
    replace h7 : queue_Wanted.l1 k p2 p1 (n1 + 1) y2 y3 = some r := h7; rw [queue_Wanted.l1] at h7
    have h8 := h7; clear h7
    refine wp_seq_k fun K10 hK10 => ?_
    refine wp_region_lit ?_
    refine seq_op s31 rfl rfl (of_decide_eq_true rfl) (ob_lss rfl (.tmp rfl) (.tmp rfl)) fun a32 w32 s32 => ?_; clear s31
    refine wpList_nil ?_
    refine then_normal ?_
    refine hK10 _ _ ?_
    have s33 := s32.sub (.cons (t := 0) rfl (.cons (t := 1) rfl (.cons (t := 5) rfl (.cons (t := 18) rfl (.cons (t := 19) rfl (.cons (t := 20) rfl (.cons (t := 21) rfl .nil))))))); clear s32
    refine wp_seq_k fun K11 hK11 => ?_
    refine cond_split s33 (.tmp rfl) (fun hc2 => ?_) (fun hc2 => ?_)
    · replace h8 := ite_t hc2 h8
      have h9 := h8; clear h8
      refine wp_skip ?_
      refine then_normal ?_
      refine hK11 _ _ ?_
      have s34 := s33.sub (.cons (t := 0) rfl (.cons (t := 1) rfl (.cons (t := 5) rfl (.cons (t := 18) rfl (.cons (t := 19) rfl (.cons (t := 20) rfl .nil)))))); clear s33
      refine wp_seq_k fun K12 hK12 => ?_
      have hj2 : ∀ (y4 : (List (List Int))) (v4 : Value) (a : Act) (w : World), (queue_Wanted.j2 k y2 (queue_Wanted.l1 k p2 p1 n1)) y4 = some r → St ⟨50, w0, ok, (idsOf [])⟩ [RowF v4 39 (karr 32 (kint .u8)) y4] [(0, ((ksl k_api_Node).V p1)), (1, ((ksl k_api_Held).V p2)), (5, (is v4)), (18, ((ksl k_api_Held).V p2)), (19, ((kint .i64).V (p2.length : Int))), (20, ((kint .i64).V y2))] a w → K12 a w := by
        intro y4 v4 a35 w35 h10 s35
        unfold queue_Wanted.j2 at h10
        refine hK12 _ _ ?_
        refine wp_region_lit ?_
        refine seq_op s35 rfl rfl (of_decide_eq_true rfl) (ob_add rfl (.tmp rfl) (opd_int rfl)) fun a36 w36 s36 => ?_; clear s35
        refine seq_op s36 rfl rfl (of_decide_eq_true rfl) (ob_move rfl (.tmp rfl)) fun a37 w37 s37 => ?_; clear s36
        refine wpList_nil ?_
        refine then_normal ?_
        exact hK9 ((iadd .i64 y2 (1 : Int)), y4) _ _ h10 ⟨v4, (s37.sub (.cons rfl (.cons rfl (.cons rfl (.cons rfl (.cons rfl (.cons rfl .nil)))))))⟩
      refine wp_block ?_
      refine wp_seq_k fun K13 hK13 => ?_
      refine wp_region_lit ?_
      obtain ⟨x4, e_x4, h11⟩ := bind_some h9; clear h9
      refine seq_op s34 rfl rfl (of_decide_eq_true rfl) (ob_indexAddrs rfl Try.underlying85 sz91 (.tmp rfl) (.tmp rfl) e_x4) fun a38 w38 s38 => ?_; clear s34
      refine seq_op s38 rfl rfl (of_decide_eq_true rfl) (ob_loadr rfl tk91 (.tmp rfl)) fun a39 w39 s39 => ?_; clear s38
      refine seq_opx (B' := (fun b1 : Nat => [BF b1 91 k_api_Held (⟨(List.replicate 32 (0 : Int)), (⟨(0 : Int), (0 : Int), [], (0 : Int), [], (List.replicate 32 (0 : Int)), (List.replicate 32 (0 : Int)), [], []⟩ : api_Op), []⟩ : api_Held), RowF v3 39 (karr 32 (kint .u8)) y3])) s39 rfl rfl (of_decide_eq_true rfl) (ob_new (k := k_api_Held) rfl zz91 (Zr.iso (f := t_api_Held) (x := (⟨(List.replicate 32 (0 : Int)), (⟨(0 : Int), (0 : Int), [], (0 : Int), [], (List.replicate 32 (0 : Int)), (List.replicate 32 (0 : Int)), [], []⟩ : api_Op), []⟩ : api_Held)) (Zr.pair (Zr.arr 32 (Zr.int .u8)) (Zr.pair (Zr.iso (f := t_api_Op) (x := (⟨(0 : Int), (0 : Int), [], (0 : Int), [], (List.replicate 32 (0 : Int)), (List.replicate 32 (0 : Int)), [], []⟩ : api_Op)) (Zr.pair (Zr.int .i64) (Zr.pair (Zr.int .u32) (Zr.pair (Zr.sl _) (Zr.pair (Zr.int .i64) (Zr.pair (Zr.sl _) (Zr.pair (Zr.arr 32 (Zr.int .u8)) (Zr.pair (Zr.arr 32 (Zr.int .u8)) (Zr.pair Zr.str (Zr.pair (Zr.sl _) Zr.nil)))))))))) (Zr.pair (Zr.sl _) Zr.nil))))) fun b1 a40 w40 s40 => ?_; clear s39
      refine seq_opx0 (B' := (fun _ : Unit => [BF b1 91 k_api_Held x4, RowF v3 39 (karr 32 (kint .u8)) y3])) s40 rfl rfl (ob_store (A := []) rfl tk91 (.tmp rfl) (.tmp rfl) rfl (LS.refl _ _ _) rfl) fun _ a41 w41 s41 => ?_; clear s40
      refine wpList_nil ?_
      refine then_normal ?_
      refine hK13 _ _ ?_
      have s42 := s41.sub (.cons (t := 0) rfl (.cons (t := 1) rfl (.cons (t := 5) rfl (.cons (t := 7) rfl (.cons (t := 18) rfl (.cons (t := 19) rfl (.cons (t := 20) rfl .nil))))))); clear s41
      refine wp_seq_k fun K14 hK14 => ?_
      refine wp_region_lit ?_
      refine seq_op s42 rfl rfl (of_decide_eq_true rfl) (ob_fieldAddr (off' := 32) rfl Try.underlying91 rfl sz44 (by decide) (.tmp rfl) rfl) fun a43 w43 s43 => ?_; clear s42
      refine seq_op s43 rfl rfl (of_decide_eq_true rfl) (ob_fieldAddr (off' := 34) rfl Try.underlying44 rfl sz40 (by decide) (.tmp rfl) rfl) fun a44 w44 s44 => ?_; clear s43
      refine seq_op s44 rfl rfl (of_decide_eq_true rfl) (ob_load rfl tk40 (.tmp rfl) (.head _) (LG.trans (lg_api_Held_Op x4) (lg_api_Op_Parents x4.Op) (by decide))) fun a45 w45 s45 => ?_; clear s44
      refine seq_op s45 rfl rfl (of_decide_eq_true rfl) (ob_lens rfl Try.underlying40 (.tmp rfl)) fun a46 w46 s46 => ?_; clear s45
      refine seq_op s46 rfl rfl (of_decide_eq_true rfl) (ob_move rfl (opd_int rfl)) fun a47 w47 s47 => ?_; clear s46
      refine wpList_nil ?_
      refine then_normal ?_
      refine hK14 _ _ ?_
      have s48 := s47.sub (.cons (t := 0) rfl (.cons (t := 1) rfl (.cons (t := 5) rfl (.cons (t := 18) rfl (.cons (t := 19) rfl (.cons (t := 20) rfl (.cons (t := 26) rfl (.cons (t := 27) rfl (.cons (t := 28) rfl .nil))))))))); clear s47
      have s49 := St.drop (A := []) s48; clear s48
      refine wp_block ?_
      refine wp_loop_fuel (fun m (q : Int × (List (List Int))) => queue_Wanted.l2 k x4 p1 p2 y2 (queue_Wanted.l1 k p2 p1 n1) m q.1 q.2) r (fun _ => rfl) (fun q a w => ∃ (v5 : Value), St ⟨50, w0, ok, (idsOf [])⟩ [RowF v5 39 (karr 32 (kint .u8)) q.2] [(0, ((ksl k_api_Node).V p1)), (1, ((ksl k_api_Held).V p2)), (5, (is v5)), (18, ((ksl k_api_Held).V p2)), (19, ((kint .i64).V (p2.length : Int))), (20, ((kint .i64).V y2)), (26, ((ksl (karr 32 (kint .u8))).V x4.Op.Parents)), (27, ((kint .i64).V (x4.Op.Parents.length : Int))), (28, ((kint .i64).V q.1))] a w) ?_ k ((0 : Int), y3) _ _ h11 ⟨v3, (s49.sub (.cons rfl (.cons rfl (.cons rfl (.cons rfl (.cons rfl (.cons rfl (.cons rfl (.cons rfl (.cons rfl .nil))))))))))⟩
      rintro n2 ⟨y5, y6⟩ a50 w50 h12 ⟨v5, s50⟩ K15 hK15
      replace h12 : queue_Wanted.l2 k x4 p1 p2 y2 (queue_Wanted.l1 k p2 p1 n1) (n2 + 1) y5 y6 = some r := h12; rw [queue_Wanted.l2] at h12
      have h13 := h12; clear h12
      refine wp_seq_k fun K16 hK16 => ?_
      refine wp_region_lit ?_
      refine seq_op s50 rfl rfl (of_decide_eq_true rfl) (ob_lss rfl (.tmp rfl) (.tmp rfl)) fun a51 w51 s51 => ?_; clear s50
      refine wpList_nil ?_
      refine then_normal ?_
      refine hK16 _ _ ?_
      have s52 := s51.sub (.cons (t := 0) rfl (.cons (t := 1) rfl (.cons (t := 5) rfl (.cons (t := 18) rfl (.cons (t := 19) rfl (.cons (t := 20) rfl (.cons (t := 26) rfl (.cons (t := 27) rfl (.cons (t := 28) rfl (.cons (t := 29) rfl .nil)))))))))); clear s51
      refine wp_seq_k fun K17 hK17 => ?_
      refine cond_split s52 (.tmp rfl) (fun hc3 => ?_) (fun hc3 => ?_)
      · replace h13 := ite_t hc3 h13
        have h14 := h13; clear h13
        refine wp_skip ?_
        refine then_normal ?_
        refine hK17 _ _ ?_
        have s53 := s52.sub (.cons (t := 0) rfl (.cons (t := 1) rfl (.cons (t := 5) rfl (.cons (t := 18) rfl (.cons (t := 19) rfl (.cons (t := 20) rfl (.cons (t := 26) rfl (.cons (t := 27) rfl (.cons (t := 28) rfl .nil))))))))); clear s52
        refine wp_seq_k fun K18 hK18 => ?_
        have hj3 : ∀ (y7 : (List (List Int))) (v6 : Value) (a : Act) (w : World), (queue_Wanted.j3 k y5 (queue_Wanted.l2 k x4 p1 p2 y2 (queue_Wanted.l1 k p2 p1 n1) n2)) y7 = some r → St ⟨50, w0, ok, (idsOf [])⟩ [RowF v6 39 (karr 32 (kint .u8)) y7] [(0, ((ksl k_api_Node).V p1)), (1, ((ksl k_api_Held).V p2)), (5, (is v6)), (18, ((ksl k_api_Held).V p2)), (19, ((kint .i64).V (p2.length : Int))), (20, ((kint .i64).V y2)), (26, ((ksl (karr 32 (kint .u8))).V x4.Op.Parents)), (27, ((kint .i64).V (x4.Op.Parents.length : Int))), (28, ((kint .i64).V y5))] a w → K18 a w := by
          intro y7 v6 a54 w54 h15 s54
          unfold queue_Wanted.j3 at h15
          refine hK18 _ _ ?_
          refine wp_region_lit ?_
          refine seq_op s54 rfl rfl (of_decide_eq_true rfl) (ob_add rfl (.tmp rfl) (opd_int rfl)) fun a55 w55 s55 => ?_; clear s54
          refine seq_op s55 rfl rfl (of_decide_eq_true rfl) (ob_move rfl (.tmp rfl)) fun a56 w56 s56 => ?_; clear s55
          refine wpList_nil ?_
          refine then_normal ?_
          exact hK15 ((iadd .i64 y5 (1 : Int)), y7) _ _ h15 ⟨v6, (s56.sub (.cons rfl (.cons rfl (.cons rfl (.cons rfl (.cons rfl (.cons rfl (.cons rfl (.cons rfl (.cons rfl .nil))))))))))⟩
        refine wp_block ?_
        refine wp_seq_k fun K19 hK19 => ?_
        refine wp_region_lit ?_
        obtain ⟨x5, e_x5, h16⟩ := bind_some h14; clear h14
        refine seq_op s53 rfl rfl (of_decide_eq_true rfl) (ob_indexAddrs rfl Try.underlying40 sz39 (.tmp rfl) (.tmp rfl) e_x5) fun a57 w57 s57 => ?_; clear s53
        refine seq_op s57 rfl rfl (of_decide_eq_true rfl) (ob_loadr rfl tk39 (.tmp rfl)) fun a58 w58 s58 => ?_; clear s57
        refine seq_opx (B' := (fun b2 : Nat => [BF b2 39 (karr 32 (kint .u8)) (List.replicate 32 (0 : Int)), RowF v5 39 (karr 32 (kint .u8)) y6])) s58 rfl rfl (of_decide_eq_true rfl) (ob_new (k := (karr 32 (kint .u8))) rfl zz39 (Zr.arr 32 (Zr.int .u8))) fun b2 a59 w59 s59 => ?_; clear s58
        refine seq_opx0 (B' := (fun _ : Unit => [BF b2 39 (karr 32 (kint .u8)) x5, RowF v5 39 (karr 32 (kint .u8)) y6])) s59 rfl rfl (ob_store (A := []) rfl tk39 (.tmp rfl) (.tmp rfl) rfl (LS.refl _ _ _) rfl) fun _ a60 w60 s60 => ?_; clear s59
        refine wpList_nil ?_
        refine then_normal ?_
        refine hK19 _ _ ?_
        have s61 := s60.sub (.cons (t := 0) rfl (.cons (t := 1) rfl (.cons (t := 5) rfl (.cons (t := 9) rfl (.cons (t := 18) rfl (.cons (t := 19) rfl (.cons (t := 20) rfl (.cons (t := 26) rfl (.cons (t := 27) rfl (.cons (t := 28) rfl .nil)))))))))); clear s60
        refine wp_seq_k fun K20 hK20 => ?_
        refine wp_region_lit ?_
        refine seq_op s61 rfl rfl (of_decide_eq_true rfl) (ob_move rfl (.tmp rfl)) fun a62 w62 s62 => ?_; clear s61
        refine seq_op s62 rfl rfl (of_decide_eq_true rfl) (ob_load rfl tk39 (.tmp rfl) (.head _) (LG.refl _ _)) fun a63 w63 s63 => ?_; clear s62
        obtain ⟨x6, e_x6, h17⟩ := bind_some h16; clear h16
        refine seq_op s63 rfl rfl (of_decide_eq_true rfl) (ob_callD (args := [_, _]) rfl .direct hb48 (fun a w s fs gs hf hg => by obtain rfl := hf.unnil; obtain rfl := hg.unnil; exact c_graph_Find k _ _ _ e_x6 _ _ _ _ (s.arg (.tmp rfl)) (s.arg (.tmp rfl)))) fun a64 w64 s64 => ?_; clear s63
        refine seq_op s64 rfl rfl (of_decide_eq_true rfl) (ob_lss rfl (.tmp rfl) (opd_int rfl)) fun a65 w65 s65 => ?_; clear s64
        refine seq_op s65 rfl rfl (of_decide_eq_true rfl) (ob_move rfl (.tmp rfl)) fun a66 w66 s66 => ?_; clear s65
        refine seq_opg s66 rfl rfl rfl rfl (of_decide_eq_true rfl) (fun hb => ob_move rfl (.tmp rfl)) fun a67 w67 s67 => ?_; clear s66
        refine seq_opg s67 rfl rfl rfl rfl (of_decide_eq_true rfl) (fun hb => ob_load rfl tk39 (.tmp rfl) (.head _) (LG.refl _ _)) fun a68 w68 s68 => ?_; clear s67
        obtain ⟨x7, e_x7, h18⟩ := bind_some h17; clear h17
        refine seq_opg s68 rfl rfl rfl rfl (of_decide_eq_true rfl) (fun hb => (Ob.uncond (t := 38) hb rfl ((Ob.uncond (t := 37) hb rfl (ob_callD (args := [_, _]) rfl .direct hb72 (fun a w s fs gs hf hg => by obtain rfl := hf.unnil; obtain rfl := hg.unnil; exact c_queue_Find k _ _ _ (ite_t hb e_x7) _ _ _ _ (s.arg (.tmp rfl)) (s.arg (.tmp rfl)))))))) fun a69 w69 s69 => ?_; clear s68
        refine seq_opg s69 rfl rfl rfl rfl (of_decide_eq_true rfl) (fun hb => (Ob.uncond (t := 39) hb rfl (ob_lss rfl (.tmp rfl) (opd_int rfl)))) fun a70 w70 s70 => ?_; clear s69
        obtain ⟨x8, e_x8, h19⟩ := bind_some h18; clear h18; replace e_x8 := Option.some.inj e_x8
        refine seq_op s70 rfl rfl (of_decide_eq_true rfl) ((ob_and2 rfl (.tmp rfl) (.tmp rfl) opd_bool).nm e_x8) fun a71 w71 s71 => ?_; clear s70
        refine wpList_nil ?_
        refine then_normal ?_
        refine hK20 _ _ ?_
        have s72 := s71.sub (.cons (t := 0) rfl (.cons (t := 1) rfl (.cons (t := 5) rfl (.cons (t := 9) rfl (.cons (t := 18) rfl (.cons (t := 19) rfl (.cons (t := 20) rfl (.cons (t := 26) rfl (.cons (t := 27) rfl (.cons (t := 28) rfl (.cons (t := 41) rfl .nil))))))))))); clear s71
        refine cond_split s72 (.tmp rfl) (fun hc4 => ?_) (fun hc4 => ?_)
        · replace h19 := ite_t hc4 h19
          have h20 := h19; clear h19
          refine wp_region_lit ?_
          refine seq_op s72 rfl rfl (of_decide_eq_true rfl) (ob_move rfl (.tmp rfl)) fun a73 w73 s73 => ?_; clear s72
          refine seq_op s73 rfl rfl (of_decide_eq_true rfl) (ob_load rfl tk39 (.tmp rfl) (.head _) (LG.refl _ _)) fun a74 w74 s74 => ?_; clear s73
          refine seq_op s74 rfl rfl (of_decide_eq_true rfl) (ob_mkSlice (k := (karr 32 (kint .u8))) (xs := ([x5] : (List (List Int)))) rfl Try.underlying40 zz39 sz39 (Zr.arr 32 (Zr.int .u8)) (by decide) (by decide) (.cons (.tmp rfl) rfl (LS.arr' (i := 0) (ys := ([x5] : (List (List Int)))) (by simp) (by rfl)) (.nil _))) fun a75 w75 s75 => ?_; clear s74
          obtain ⟨g1, h21⟩ := guard_some h20; clear h20
          refine seq_opx (B' := (fun v7 : Value => [BF b2 39 (karr 32 (kint .u8)) x5, RowF v7 39 (karr 32 (kint .u8)) (y6 ++ ([x5] : (List (List Int))))])) s75 rfl rfl (of_decide_eq_true rfl) (ob_appendL2 (A := [_]) rfl Try.underlying40 ap39 (Zr.arr 32 (Zr.int .u8)) (by decide) (.tmp rfl) (.tmp rfl) rfl g1) fun v7 a76 w76 s76 => ?_; clear s75
          refine seq_op s76 rfl rfl (of_decide_eq_true rfl) (ob_assign rfl (.tmp rfl)) fun a77 w77 s77 => ?_; clear s76
          refine wpList_nil ?_
          refine in_normal ?_
          refine then_normal ?_
          have s78 := St.drop (A := []) s77; clear s77
          exact hj3 (y6 ++ ([x5] : (List (List Int)))) v7 _ _ h21 (s78.sub (.cons rfl (.cons rfl (.cons rfl (.cons rfl (.cons rfl (.cons rfl (.cons rfl (.cons rfl (.cons rfl .nil))))))))))
        · replace h19 := ite_f hc4 h19
          have h22 := h19; clear h19
          refine wp_skip ?_
          refine in_normal ?_
          refine then_normal ?_
          have s79 := St.drop (A := []) s72; clear s72
          exact hj3 y6 v5 _ _ h22 (s79.sub (.cons rfl (.cons rfl (.cons rfl (.cons rfl (.cons rfl (.cons rfl (.cons rfl (.cons rfl (.cons rfl .nil))))))))))
      · replace h13 := ite_f hc3 h13
        have h23 := h13; clear h13
        refine wp_exit ?_
        refine (then_exit (then_exit (in_here ?_)))
        refine in_normal ?_
        refine then_normal ?_
        exact hj2 y6 v5 _ _ h23 (s52.sub (.cons rfl (.cons rfl (.cons rfl (.cons rfl (.cons rfl (.cons rfl .nil)))))))
    · replace h8 := ite_f hc2 h8
      have h24 := h8; clear h8
      refine wp_exit ?_
      refine (then_exit (then_exit (in_here ?_)))
      refine then_normal ?_
      exact hj1 y3 v3 _ _ h24 (s33.sub (.cons rfl .nil))

/- 69 cabal/queue.Without -/
theorem c_queue_Without (k : Nat) (p1 : (List api_Held)) (p2 : Int) (r : ((List api_Held) × Int)) (h0 : queue_Without k p1 p2 = some r) (ok : Ok) (w0 : World) (z0 : Value) (z1 : Value) (u0 : ((ksl k_api_Held).V p1).holds ok w0 z0) (u1 : ((kint .i64).V p2).holds ok w0 z1) :
    GivesX Try.prog 69 [z0, z1] ok w0 [] (fun g : Value => resFact [is g, (kint .i64).V r.2]) (fun g : Value => [RowF (g) 91 k_api_Held r.1]) := by
  unfold queue_Without at h0
  refine enterX (N := 22) Try.func69 rfl rfl (of_decide_eq_true rfl) (.cons u0 (.cons u1 .nil)) List.nodup_nil (fun _ h => by cases h) (fun _ h => by cases h) fun a1 s1 => ?_
  refine wp_seq_k fun K1 hK1 => ?_
  refine wp_region_lit ?_
  refine seq_op s1 rfl rfl (of_decide_eq_true rfl) (ob_assign rfl opd_is) fun a2 w2 s2 => ?_; clear s1
  have s3 := St.adopt s2 (G := RowF (nilRow 21) 91 k_api_Held []) rfl (rowNilN _ _ _ _ _); clear s2
  refine seq_op s3 rfl rfl (of_decide_eq_true rfl) (ob_assign rfl (opd_int rfl)) fun a4 w4 s4 => ?_; clear s3
  refine wpList_nil ?_
  refine then_normal ?_
  refine hK1 _ _ ?_
  have s5 := s4.sub (.cons (t := 0) rfl (.cons (t := 1) rfl .nil)); clear s4
  have s6 := St.drop (A := []) s5; clear s5
  refine wp_seq_k fun K2 hK2 => ?_
  refine wp_block ?_
  refine wp_seq_k fun K3 hK3 => ?_
  refine wp_region_lit ?_
  refine seq_op s6 rfl rfl (of_decide_eq_true rfl) (ob_move rfl (.tmp rfl)) fun a7 w7 s7 => ?_; clear s6
  obtain ⟨x1, e_x1, h1⟩ := bind_some h0; clear h0
  refine seq_op s7 rfl rfl (of_decide_eq_true rfl) (ob_callD (args := [_]) rfl .direct hb71 (fun a w s fs gs hf hg => by obtain rfl := hf.unnil; obtain rfl := hg.unnil; exact c_queue_Right k _ _ e_x1 _ _ _ (s.arg (.tmp rfl)))) fun a8 w8 s8 => ?_; clear s7
  refine seq_op s8 rfl rfl (of_decide_eq_true rfl) (ob_not rfl (.tmp rfl)) fun a9 w9 s9 => ?_; clear s8
  refine seq_op s9 rfl rfl (of_decide_eq_true rfl) (ob_assign rfl (.tmp rfl)) fun a10 w10 s10 => ?_; clear s9
  refine wpList_nil ?_
  refine then_normal ?_
  refine hK3 _ _ ?_
  have s11 := s10.sub (.cons (t := 0) rfl (.cons (t := 1) rfl (.cons (t := 6) rfl .nil))); clear s10
  refine cond_split s11 (.tmp rfl) (fun hc1 => ?_) (fun hc1 => ?_)
  · replace h1 := ite_t hc1 h1
    have h2 := h1; clear h1
    refine wp_seq_k fun K4 hK4 => ?_
    refine wp_region_lit ?_
    refine seq_op s11 rfl rfl (of_decide_eq_true rfl) (ob_assign rfl opd_is) fun a12 w12 s12 => ?_; clear s11
    have s13 := St.adopt s12 (G := RowF (nilRow 22) 91 k_api_Held []) rfl (rowNilN _ _ _ _ _); clear s12
    refine seq_op s13 rfl rfl (of_decide_eq_true rfl) (ob_assign rfl (opd_int rfl)) fun a14 w14 s14 => ?_; clear s13
    refine wpList_nil ?_
    refine then_normal ?_
    refine hK4 _ _ ?_
    have s15 := s14.sub (.cons (t := 4) rfl (.cons (t := 5) rfl .nil)); clear s14
    refine wp_ret ?_
    obtain rfl := Option.some.inj h2
    exact leaveXD (D := []) (nilRow 22) s15 rfl (.inl rfl) rfl (.cons (.tmp rfl) (.cons (.tmp rfl) .nil)) rfl
  · replace h1 := ite_f hc1 h1
    have h3 := h1; clear h1
    refine wp_seq_k fun K5 hK5 => ?_
    refine wp_region_lit ?_
    refine seq_op s11 rfl rfl (of_decide_eq_true rfl) (ob_move rfl (.tmp rfl)) fun a16 w16 s16 => ?_; clear s11
    refine seq_op s16 rfl rfl (of_decide_eq_true rfl) (ob_lss rfl (.tmp rfl) (opd_int rfl)) fun a17 w17 s17 => ?_; clear s16
    refine seq_op s17 rfl rfl (of_decide_eq_true rfl) (ob_move rfl (.tmp rfl)) fun a18 w18 s18 => ?_; clear s17
    refine seq_opg s18 rfl rfl rfl rfl (of_decide_eq_true rfl) (fun hb => ob_move rfl (.tmp rfl)) fun a19 w19 s19 => ?_; clear s18
    refine seq_opg s19 rfl rfl rfl rfl (of_decide_eq_true rfl) (fun hb => ob_move rfl (.tmp rfl)) fun a20 w20 s20 => ?_; clear s19
    refine seq_opg s20 rfl rfl rfl rfl (of_decide_eq_true rfl) (fun hb => (Ob.uncond (t := 15) hb rfl (ob_lens rfl Try.underlying85 (.tmp rfl)))) fun a21 w21 s21 => ?_; clear s20
    refine seq_opg s21 rfl rfl rfl rfl (of_decide_eq_true rfl) (fun hb => (Ob.uncond (t := 16) hb rfl ((Ob.uncond (t := 14) hb rfl (ob_geq rfl (.tmp rfl) (.tmp rfl)))))) fun a22 w22 s22 => ?_; clear s21
    obtain ⟨x2, e_x2, h4⟩ := bind_some h3; clear h3; replace e_x2 := Option.some.inj e_x2
    refine seq_op s22 rfl rfl (of_decide_eq_true rfl) ((ob_or2 rfl (.tmp rfl) opd_bool (.tmp rfl)).nm e_x2) fun a23 w23 s23 => ?_; clear s22
    refine seq_op s23 rfl rfl (of_decide_eq_true rfl) (ob_assign rfl (.tmp rfl)) fun a24 w24 s24 => ?_; clear s23
    refine wpList_nil ?_
    refine then_normal ?_
    refine hK5 _ _ ?_
    have s25 := s24.sub (.cons (t := 0) rfl (.cons (t := 1) rfl (.cons (t := 10) rfl .nil))); clear s24
    refine cond_split s25 (.tmp rfl) (fun hc2 => ?_) (fun hc2 => ?_)
    · replace h4 := ite_t hc2 h4
      have h5 := h4; clear h4
      refine wp_seq_k fun K6 hK6 => ?_
      refine wp_region_lit ?_
      refine seq_op s25 rfl rfl (of_decide_eq_true rfl) (ob_assign rfl opd_is) fun a26 w26 s26 => ?_; clear s25
      have s27 := St.adopt s26 (G := RowF (nilRow 23) 91 k_api_Held []) rfl (rowNilN _ _ _ _ _); clear s26
      refine seq_op s27 rfl rfl (of_decide_eq_true rfl) (ob_assign rfl (opd_int rfl)) fun a28 w28 s28 => ?_; clear s27
      refine wpList_nil ?_
      refine then_normal ?_
      refine hK6 _ _ ?_
      have s29 := s28.sub (.cons (t := 4) rfl (.cons (t := 5) rfl .nil)); clear s28
      refine wp_ret ?_
      obtain rfl := Option.some.inj h5
      exact leaveXD (D := []) (nilRow 23) s29 rfl (.inl rfl) rfl (.cons (.tmp rfl) (.cons (.tmp rfl) .nil)) rfl
    · replace h4 := ite_f hc2 h4
      have h6 := h4; clear h4
      refine wp_skip ?_
      refine in_normal ?_
      refine then_normal ?_
      refine hK2 _ _ ?_
      have s30 := s25.sub (.cons (t := 0) rfl (.cons (t := 1) rfl .nil)); clear s25
      refine wp_seq_k fun K7 hK7 => ?_
      refine wp_region_lit ?_
      refine seq_op s30 rfl rfl (of_decide_eq_true rfl) (ob_move rfl (.tmp rfl)) fun a31 w31 s31 => ?_; clear s30
      refine seq_op s31 rfl rfl (of_decide_eq_true rfl) (ob_move rfl (.tmp rfl)) fun a32 w32 s32 => ?_; clear s31
      obtain ⟨x3, e_x3, h7⟩ := bind_some h6; clear h6
      refine seq_opx (B' := (fun v1 : Value => [RowF v1 91 k_api_Held x3])) s32 rfl rfl (of_decide_eq_true rfl) (ob_callL (args := [_, _]) (L := []) rfl .direct hb117 (List.Perm.refl _) (fun a w s fs gs hf hg => by obtain rfl := hf.unnil; obtain rfl := hg.unnil; exact c_queue_copied k _ _ _ e_x3 _ _ _ _ (s.arg (.tmp rfl)) (s.arg (.tmp rfl))) (by exact fun _ => rfl)) fun v1 a33 w33 s33 => ?_; clear s32
      refine seq_op s33 rfl rfl (of_decide_eq_true rfl) (ob_assign rfl (.tmp rfl)) fun a34 w34 s34 => ?_; clear s33
      refine seq_op s34 rfl rfl (of_decide_eq_true rfl) (ob_assign rfl (opd_int rfl)) fun a35 w35 s35 => ?_; clear s34
      refine wpList_nil ?_
      refine then_normal ?_
      refine hK7 _ _ ?_
      have s36 := s35.sub (.cons (t := 4) rfl (.cons (t := 5) rfl .nil)); clear s35
      refine wp_ret ?_
      obtain rfl := Option.some.inj h7
      exact leaveXD (D := []) v1 s36 rfl (.inl rfl) rfl (.cons (.tmp rfl) (.cons (.tmp rfl) .nil)) rfl

/- 113 cabal/queue.Ready$1$1 -/
theorem c_queue_Ready_1_1 (k : Nat) (p1 : (List Int)) (p2 : (List api_Node)) (r : Bool) (h0 : queue_Ready_1_1 k p1 p2 = some r) (ok : Ok) (w0 : World) (z0 : Value) (z1 : Value) (u0 : ((karr 32 (kint .u8)).V p1).holds ok w0 z0) (u1 : (ptrTo (ksl k_api_Node) p2).holds ok w0 z1) :
    Gives Try.prog 113 [z0, z1] ok w0 (resFact [kbool.V r]) := by
  unfold queue_Ready_1_1 at h0
  refine enter (N := 8) Try.func113 rfl rfl (of_decide_eq_true rfl) (.cons u0 (.cons u1 .nil)) fun a1 s1 => ?_
  refine wp_seq_k fun K1 hK1 => ?_
  refine wp_region_lit ?_
  refine seq_opx (B' := (fun b1 : Nat => [BF b1 39 (karr 32 (kint .u8)) p1])) s1 rfl rfl (of_decide_eq_true rfl) (ob_box rfl (.tmp rfl)) fun b1 a2 w2 s2 => ?_; clear s1
  refine seq_op s2 rfl rfl (of_decide_eq_true rfl) (ob_assign rfl opd_bool) fun a3 w3 s3 => ?_; clear s2
  refine wpList_nil ?_
  refine then_normal ?_
  refine hK1 _ _ ?_
  have s4 := s3.sub (.cons (t := 1) rfl (.cons (t := 2) rfl .nil)); clear s3
  refine wp_seq_k fun K2 hK2 => ?_
  refine wp_region_lit ?_
  refine seq_op s4 rfl rfl (of_decide_eq_true rfl) (ob_loadr rfl tk22 (.tmp rfl)) fun a5 w5 s5 => ?_; clear s4
  refine seq_op s5 rfl rfl (of_decide_eq_true rfl) (ob_load rfl tk39 (.tmp rfl) (.head _) (LG.refl _ _)) fun a6 w6 s6 => ?_; clear s5
  obtain ⟨x1, e_x1, h1⟩ := bind_some h0; clear h0
  refine seq_op s6 rfl rfl (of_decide_eq_true rfl) (ob_callD (args := [_, _]) rfl .direct hb48 (fun a w s fs gs hf hg => by obtain rfl := hf.unnil; obtain rfl := hg.unnil; exact c_graph_Find k _ _ _ e_x1 _ _ _ _ (s.arg (.tmp rfl)) (s.arg (.tmp rfl)))) fun a7 w7 s7 => ?_; clear s6
  refine seq_op s7 rfl rfl (of_decide_eq_true rfl) (ob_lss rfl (.tmp rfl) (opd_int rfl)) fun a8 w8 s8 => ?_; clear s7
  refine seq_op s8 rfl rfl (of_decide_eq_true rfl) (ob_assign rfl (.tmp rfl)) fun a9 w9 s9 => ?_; clear s8
  refine wpList_nil ?_
  refine then_normal ?_
  refine hK2 _ _ ?_
  have s10 := s9.sub (.cons (t := 3) rfl .nil); clear s9
  have s11 := St.drop (A := []) s10; clear s10
  refine wp_ret ?_
  obtain rfl := Option.some.inj h1
  exact leave s11 (.inl rfl) rfl (.cons (.tmp rfl) .nil)

/- 149 slices.IndexFunc[[]cabal/api.Key,cabal/api.Key] -/
theorem c_slices_IndexFunc_api_Key_api_Key_queue_Ready_1_1 (k : Nat) (p1 : (List (List Int))) (p2 : (List api_Node)) (r : Int) (h0 : slices_IndexFunc_api_Key_api_Key_queue_Ready_1_1 k p1 p2 = some r) (ok : Ok) (w0 : World) (z0 : Value) (z1 : Value) (u0 : ((ksl (karr 32 (kint .u8))).V p1).holds ok w0 z0) (u1 : (cloF 113 [] [(ptrTo (ksl k_api_Node) p2)]).holds ok w0 z1) :
    Gives Try.prog 149 [z0, z1] ok w0 (resFact [(kint .i64).V r]) := by
  unfold slices_IndexFunc_api_Key_api_Key_queue_Ready_1_1 at h0
  refine enter (N := 19) Try.func149 rfl rfl (of_decide_eq_true rfl) (.cons u0 (.cons u1 .nil)) fun a1 s1 => ?_
  refine wp_seq_k fun K1 hK1 => ?_
  refine wp_region_lit ?_
  refine seq_op s1 rfl rfl (of_decide_eq_true rfl) (ob_assign rfl (opd_int rfl)) fun a2 w2 s2 => ?_; clear s1
  refine wpList_nil ?_
  refine then_normal ?_
  refine hK1 _ _ ?_
  have s3 := s2.sub (.cons (t := 0) rfl (.cons (t := 1) rfl .nil)); clear s2
  refine wp_seq_k fun K2 hK2 => ?_
  refine wp_seq_k fun K3 hK3 => ?_
  refine wp_region_lit ?_
  refine seq_op s3 rfl rfl (of_decide_eq_true rfl) (ob_move rfl (.tmp rfl)) fun a4 w4 s4 => ?_; clear s3
  refine seq_op s4 rfl rfl (of_decide_eq_true rfl) (ob_lens rfl Try.underlying40 (.tmp rfl)) fun a5 w5 s5 => ?_; clear s4
  refine seq_op s5 rfl rfl (of_decide_eq_true rfl) (ob_move rfl (opd_int rfl)) fun a6 w6 s6 => ?_; clear s5
  refine wpList_nil ?_
  refine then_normal ?_
  refine hK3 _ _ ?_
  have s7 := s6.sub (.cons (t := 0) rfl (.cons (t := 1) rfl (.cons (t := 7) rfl (.cons (t := 8) rfl .nil)))); clear s6
  have hj1 : ∀ (a : Act) (w : World), (slices_IndexFunc_api_Key_api_Key_queue_Ready_1_1.j1 k) = some r → St ⟨19, w0, ok, []⟩ [] [] a w → K2 a w := by
    intro a8 w8 h1 s8
    unfold slices_IndexFunc_api_Key_api_Key_queue_Ready_1_1.j1 at h1
    refine hK2 _ _ ?_
    refine wp_seq_k fun K4 hK4 => ?_
    refine wp_region_lit ?_
    refine seq_op s8 rfl rfl (of_decide_eq_true rfl) (ob_assign rfl (opd_int rfl)) fun a9 w9 s9 => ?_; clear s8
    refine wpList_nil ?_
    refine then_normal ?_
    refine hK4 _ _ ?_
    have s10 := s9.sub (.cons (t := 4) rfl .nil); clear s9
    refine wp_ret ?_
    obtain rfl := Option.some.inj h1
    exact leave s10 (.inl rfl) rfl (.cons (.tmp rfl) .nil)
  refine wp_block ?_
  refine wp_loop_fuel (fun m (q : Int) => slices_IndexFunc_api_Key_api_Key_queue_Ready_1_1.l1 k p1 p2 m q) r (fun _ => rfl) (fun q a w => St ⟨19, w0, ok, []⟩ [] [(0, ((ksl (karr 32 (kint .u8))).V p1)), (1, (cloF 113 [] [(ptrTo (ksl k_api_Node) p2)])), (7, ((kint .i64).V (p1.length : Int))), (8, ((kint .i64).V q))] a w) ?_ k (0 : Int) _ _ h0 (s7.sub (.cons rfl (.cons rfl (.cons rfl (.cons rfl .nil)))))
  rintro n1 y1 a11 w11 h2 s11 K5 hK5
  replace h2 : slices_IndexFunc_api_Key_api_Key_queue_Ready_1_1.l1 k p1 p2 (n1 + 1) y1 = some r := h2; rw [slices_IndexFunc_api_Key_api_Key_queue_Ready_1_1.l1] at h2
  have h3 := h2; clear h2
  refine wp_seq_k fun K6 hK6 => ?_
  refine wp_region_lit ?_
  refine seq_op s11 rfl rfl (of_decide_eq_true rfl) (ob_lss rfl (.tmp rfl) (.tmp rfl)) fun a12 w12 s12 => ?_; clear s11
  refine wpList_nil ?_
  refine then_normal ?_
  refine hK6 _ _ ?_
  have s13 := s12.sub (.cons (t := 0) rfl (.cons (t := 1) rfl (.cons (t := 7) rfl (.cons (t := 8) rfl (.cons (t := 9) rfl .nil))))); clear s12
  refine wp_seq_k fun K7 hK7 => ?_
  refine cond_split s13 (.tmp rfl) (fun hc1 => ?_) (fun hc1 => ?_)
  · replace h3 := ite_t hc1 h3
    have h4 := h3; clear h3
    refine wp_skip ?_
    refine then_normal ?_
    refine hK7 _ _ ?_
    have s14 := s13.sub (.cons (t := 0) rfl (.cons (t := 1) rfl (.cons (t := 7) rfl (.cons (t := 8) rfl .nil)))); clear s13
    refine wp_seq_k fun K8 hK8 => ?_
    refine wp_block ?_
    refine wp_seq_k fun K9 hK9 => ?_
    refine wp_region_lit ?_
    refine seq_op s14 rfl rfl (of_decide_eq_true rfl) (ob_move rfl (.tmp rfl)) fun a15 w15 s15 => ?_; clear s14
    refine seq_op s15 rfl rfl (of_decide_eq_true rfl) (ob_assign rfl (.tmp rfl)) fun a16 w16 s16 => ?_; clear s15
    refine wpList_nil ?_
    refine then_normal ?_
    refine hK9 _ _ ?_
    have s17 := s16.sub (.cons (t := 0) rfl (.cons (t := 1) rfl (.cons (t := 5) rfl (.cons (t := 7) rfl (.cons (t := 8) rfl .nil))))); clear s16
    refine wp_seq_k fun K10 hK10 => ?_
    refine wp_region_lit ?_
    refine seq_op s17 rfl rfl (of_decide_eq_true rfl) (ob_move rfl (.tmp rfl)) fun a18 w18 s18 => ?_; clear s17
    refine seq_op s18 rfl rfl (of_decide_eq_true rfl) (ob_move rfl (.tmp rfl)) fun a19 w19 s19 => ?_; clear s18
    refine seq_op s19 rfl rfl (of_decide_eq_true rfl) (ob_move rfl (.tmp rfl)) fun a20 w20 s20 => ?_; clear s19
    obtain ⟨x1, e_x1, h5⟩ := bind_some h4; clear h4
    refine seq_op s20 rfl rfl (of_decide_eq_true rfl) (ob_indexAddrs rfl Try.underlying40 sz39 (.tmp rfl) (.tmp rfl) e_x1) fun a21 w21 s21 => ?_; clear s20
    refine seq_op s21 rfl rfl (of_decide_eq_true rfl) (ob_loadr rfl tk39 (.tmp rfl)) fun a22 w22 s22 => ?_; clear s21
    obtain ⟨x2, e_x2, h6⟩ := bind_some h5; clear h5
    refine seq_op s22 rfl rfl (of_decide_eq_true rfl) (ob_callD (args := [_]) rfl (.clo (.tmp rfl)) hb113 (fun a w s fs gs hf hg => by obtain rfl := hf.unnil; obtain ⟨u0, _, rfl, fu0, hg⟩ := hg.uncons; obtain rfl := hg.unnil; exact c_queue_Ready_1_1 k _ _ _ e_x2 _ _ _ _ (s.arg (.tmp rfl)) fu0)) fun a23 w23 s23 => ?_; clear s22
    refine wpList_nil ?_
    refine then_normal ?_
    refine hK10 _ _ ?_
    have s24 := s23.sub (.cons (t := 0) rfl (.cons (t := 1) rfl (.cons (t := 5) rfl (.cons (t := 7) rfl (.cons (t := 8) rfl (.cons (t := 16) rfl .nil)))))); clear s23
    refine cond_split s24 (.tmp rfl) (fun hc2 => ?_) (fun hc2 => ?_)
    · replace h6 := ite_t hc2 h6
      have h7 := h6; clear h6
      refine wp_seq_k fun K11 hK11 => ?_
      refine wp_region_lit ?_
      refine seq_op s24 rfl rfl (of_decide_eq_true rfl) (ob_move rfl (.tmp rfl)) fun a25 w25 s25 => ?_; clear s24
      refine seq_op s25 rfl rfl (of_decide_eq_true rfl) (ob_assign rfl (.tmp rfl)) fun a26 w26 s26 => ?_; clear s25
      refine wpList_nil ?_
      refine then_normal ?_
      refine hK11 _ _ ?_
      have s27 := s26.sub (.cons (t := 4) rfl .nil); clear s26
      refine wp_ret ?_
      obtain rfl := Option.some.inj h7
      exact leave s27 (.inl rfl) rfl (.cons (.tmp rfl) .nil)
    · replace h6 := ite_f hc2 h6
      have h8 := h6; clear h6
      refine wp_skip ?_
      refine in_normal ?_
      refine then_normal ?_
      refine hK8 _ _ ?_
      have s28 := s24.sub (.cons (t := 0) rfl (.cons (t := 1) rfl (.cons (t := 7) rfl (.cons (t := 8) rfl .nil)))); clear s24
      refine wp_region_lit ?_
      refine seq_op s28 rfl rfl (of_decide_eq_true rfl) (ob_add rfl (.tmp rfl) (opd_int rfl)) fun a29 w29 s29 => ?_; clear s28
      refine seq_op s29 rfl rfl (of_decide_eq_true rfl) (ob_move rfl (.tmp rfl)) fun a30 w30 s30 => ?_; clear s29
      refine wpList_nil ?_
      refine then_normal ?_
      exact hK5 (iadd .i64 y1 (1 : Int)) _ _ h8 (s30.sub (.cons rfl (.cons rfl (.cons rfl (.cons rfl .nil)))))
  · replace h3 := ite_f hc1 h3
    have h9 := h3; clear h3
    refine wp_exit ?_
    refine (then_exit (then_exit (in_here ?_)))
    refine then_normal ?_
    exact hj1 _ _ h9 (s13.sub .nil)

/- 112 slices.ContainsFunc[[]cabal/api.Key,cabal/api.Key] -/
theorem c_slices_ContainsFunc_api_Key_api_Key_queue_Ready_1_1 (k : Nat) (p1 : (List (List Int))) (p2 : (List api_Node)) (r : Bool) (h0 : slices_ContainsFunc_api_Key_api_Key_queue_Ready_1_1 k p1 p2 = some r) (ok : Ok) (w0 : World) (z0 : Value) (z1 : Value) (u0 : ((ksl (karr 32 (kint .u8))).V p1).holds ok w0 z0) (u1 : (cloF 113 [] [(ptrTo (ksl k_api_Node) p2)]).holds ok w0 z1) :
    Gives Try.prog 112 [z0, z1] ok w0 (resFact [kbool.V r]) := by
  unfold slices_ContainsFunc_api_Key_api_Key_queue_Ready_1_1 at h0
  refine enter (N := 9) Try.func112 rfl rfl (of_decide_eq_true rfl) (.cons u0 (.cons u1 .nil)) fun a1 s1 => ?_
  refine wp_seq_k fun K1 hK1 => ?_
  refine wp_region_lit ?_
  refine seq_op s1 rfl rfl (of_decide_eq_true rfl) (ob_assign rfl opd_bool) fun a2 w2 s2 => ?_; clear s1
  refine wpList_nil ?_
  refine then_normal ?_
  refine hK1 _ _ ?_
  have s3 := s2.sub (.cons (t := 0) rfl (.cons (t := 1) rfl .nil)); clear s2
  refine wp_seq_k fun K2 hK2 => ?_
  refine wp_region_lit ?_
  refine seq_op s3 rfl rfl (of_decide_eq_true rfl) (ob_move rfl (.tmp rfl)) fun a4 w4 s4 => ?_; clear s3
  refine seq_op s4 rfl rfl (of_decide_eq_true rfl) (ob_move rfl (.tmp rfl)) fun a5 w5 s5 => ?_; clear s4
  obtain ⟨x1, e_x1, h1⟩ := bind_some h0; clear h0
  refine seq_op s5 rfl rfl (of_decide_eq_true rfl) (ob_callD (args := [_, _]) rfl .direct hb149 (fun a w s fs gs hf hg => by obtain rfl := hf.unnil; obtain rfl := hg.unnil; exact c_slices_IndexFunc_api_Key_api_Key_queue_Ready_1_1 k _ _ _ e_x1 _ _ _ _ (s.arg (.tmp rfl)) (s.arg (.tmp rfl)))) fun a6 w6 s6 => ?_; clear s5
  refine seq_op s6 rfl rfl (of_decide_eq_true rfl) (ob_geq rfl (.tmp rfl) (opd_int rfl)) fun a7 w7 s7 => ?_; clear s6
  refine seq_op s7 rfl rfl (of_decide_eq_true rfl) (ob_assign rfl (.tmp rfl)) fun a8 w8 s8 => ?_; clear s7
  refine wpList_nil ?_
  refine then_normal ?_
  refine hK2 _ _ ?_
  have s9 := s8.sub (.cons (t := 4) rfl .nil); clear s8
  refine wp_ret ?_
  obtain rfl := Option.some.inj h1
  exact leave s9 (.inl rfl) rfl (.cons (.tmp rfl) .nil)

/- 111 cabal/queue.Ready$1 -/
theorem c_queue_Ready_1 (k : Nat) (p1 : api_Held) (p2 : (List api_Node)) (r : Bool) (h0 : queue_Ready_1 k p1 p2 = some r) (ok : Ok) (w0 : World) (z0 : Value) (z1 : Value) (u0 : (k_api_Held.V p1).holds ok w0 z0) (u1 : (ptrTo (ksl k_api_Node) p2).holds ok w0 z1) :
    Gives Try.prog 111 [z0, z1] ok w0 (resFact [kbool.V r]) := by
  unfold queue_Ready_1 at h0
  refine enter (N := 10) Try.func111 rfl rfl (of_decide_eq_true rfl) (.cons u0 (.cons u1 .nil)) fun a1 s1 => ?_
  refine wp_seq_k fun K1 hK1 => ?_
  refine wp_region_lit ?_
  refine seq_opx (B' := (fun b1 : Nat => [BF b1 91 k_api_Held p1])) s1 rfl rfl (of_decide_eq_true rfl) (ob_box rfl (.tmp rfl)) fun b1 a2 w2 s2 => ?_; clear s1
  refine seq_op s2 rfl rfl (of_decide_eq_true rfl) (ob_assign rfl opd_bool) fun a3 w3 s3 => ?_; clear s2
  refine wpList_nil ?_
  refine then_normal ?_
  refine hK1 _ _ ?_
  have s4 := s3.sub (.cons (t := 1) rfl (.cons (t := 2) rfl .nil)); clear s3
  refine wp_seq_k fun K2 hK2 => ?_
  refine wp_region_lit ?_
  refine seq_op s4 rfl rfl (of_decide_eq_true rfl) (ob_fieldAddr (off' := 32) rfl Try.underlying91 rfl sz44 (by decide) (.tmp rfl) rfl) fun a5 w5 s5 => ?_; clear s4
  refine seq_op s5 rfl rfl (of_decide_eq_true rfl) (ob_fieldAddr (off' := 34) rfl Try.underlying44 rfl sz40 (by decide) (.tmp rfl) rfl) fun a6 w6 s6 => ?_; clear s5
  refine seq_op s6 rfl rfl (of_decide_eq_true rfl) (ob_load rfl tk40 (.tmp rfl) (.head _) (LG.trans (lg_api_Held_Op p1) (lg_api_Op_Parents p1.Op) (by decide))) fun a7 w7 s7 => ?_; clear s6
  refine seq_op s7 rfl rfl (of_decide_eq_true rfl) (ob_makeFn (xs := []) (ys := [_]) rfl .nil (.cons (.tmp rfl) .nil)) fun a8 w8 s8 => ?_; clear s7
  obtain ⟨x1, e_x1, h1⟩ := bind_some h0; clear h0
  refine seq_op s8 rfl rfl (of_decide_eq_true rfl) (ob_callD (args := [_, _]) rfl .direct hb112 (fun a w s fs gs hf hg => by obtain rfl := hf.unnil; obtain rfl := hg.unnil; exact c_slices_ContainsFunc_api_Key_api_Key_queue_Ready_1_1 k _ _ _ e_x1 _ _ _ _ (s.arg (.tmp rfl)) (s.arg (.tmp rfl)))) fun a9 w9 s9 => ?_; clear s8
  refine seq_op s9 rfl rfl (of_decide_eq_true rfl) (ob_not rfl (.tmp rfl)) fun a10 w10 s10 => ?_; clear s9
  refine seq_op s10 rfl rfl (of_decide_eq_true rfl) (ob_assign rfl (.tmp rfl)) fun a11 w11 s11 => ?_; clear s10
  refine wpList_nil ?_
  refine then_normal ?_
  refine hK2 _ _ ?_
  have s12 := s11.sub (.cons (t := 3) rfl .nil); clear s11
  have s13 := St.drop (A := []) s12; clear s12
  refine wp_ret ?_
  obtain rfl := Option.some.inj h1
  exact leave s13 (.inl rfl) rfl (.cons (.tmp rfl) .nil)

/- 110 slices.IndexFunc[[]cabal/api.Held,cabal/api.Held] -/
theorem c_slices_IndexFunc_api_Held_api_Held_queue_Ready_1 (k : Nat) (p1 : (List api_Held)) (p2 : (List api_Node)) (r : Int) (h0 : slices_IndexFunc_api_Held_api_Held_queue_Ready_1 k p1 p2 = some r) (ok : Ok) (w0 : World) (z0 : Value) (z1 : Value) (u0 : ((ksl k_api_Held).V p1).holds ok w0 z0) (u1 : (cloF 111 [] [(ptrTo (ksl k_api_Node) p2)]).holds ok w0 z1) :
    Gives Try.prog 110 [z0, z1] ok w0 (resFact [(kint .i64).V r]) := by
  unfold slices_IndexFunc_api_Held_api_Held_queue_Ready_1 at h0
  refine enter (N := 19) Try.func110 rfl rfl (of_decide_eq_true rfl) (.cons u0 (.cons u1 .nil)) fun a1 s1 => ?_
  refine wp_seq_k fun K1 hK1 => ?_
  refine wp_region_lit ?_
  refine seq_op s1 rfl rfl (of_decide_eq_true rfl) (ob_assign rfl (opd_int rfl)) fun a2 w2 s2 => ?_; clear s1
  refine wpList_nil ?_
  refine then_normal ?_
  refine hK1 _ _ ?_
  have s3 := s2.sub (.cons (t := 0) rfl (.cons (t := 1) rfl .nil)); clear s2
  refine wp_seq_k fun K2 hK2 => ?_
  refine wp_seq_k fun K3 hK3 => ?_
  refine wp_region_lit ?_
  refine seq_op s3 rfl rfl (of_decide_eq_true rfl) (ob_move rfl (.tmp rfl)) fun a4 w4 s4 => ?_; clear s3
  refine seq_op s4 rfl rfl (of_decide_eq_true rfl) (ob_lens rfl Try.underlying85 (.tmp rfl)) fun a5 w5 s5 => ?_; clear s4
  refine seq_op s5 rfl rfl (of_decide_eq_true rfl) (ob_move rfl (opd_int rfl)) fun a6 w6 s6 => ?_; clear s5
  refine wpList_nil ?_
  refine then_normal ?_
  refine hK3 _ _ ?_
  have s7 := s6.sub (.cons (t := 0) rfl (.cons (t := 1) rfl (.cons (t := 7) rfl (.cons (t := 8) rfl .nil)))); clear s6
  have hj1 : ∀ (a : Act) (w : World), (slices_IndexFunc_api_Held_api_Held_queue_Ready_1.j1 k) = some r → St ⟨19, w0, ok, []⟩ [] [] a w → K2 a w := by
    intro a8 w8 h1 s8
    unfold slices_IndexFunc_api_Held_api_Held_queue_Ready_1.j1 at h1
    refine hK2 _ _ ?_
    refine wp_seq_k fun K4 hK4 => ?_
    refine wp_region_lit ?_
    refine seq_op s8 rfl rfl (of_decide_eq_true rfl) (ob_assign rfl (opd_int rfl)) fun a9 w9 s9 => ?_; clear s8
    refine wpList_nil ?_
    refine then_normal ?_
    refine hK4 _ _ ?_
    have s10 := s9.sub (.cons (t := 4) rfl .nil); clear s9
    refine wp_ret ?_
    obtain rfl := Option.some.inj h1
    exact leave s10 (.inl rfl) rfl (.cons (.tmp rfl) .nil)
  refine wp_block ?_
  refine wp_loop_fuel (fun m (q : Int) => slices_IndexFunc_api_Held_api_Held_queue_Ready_1.l1 k p1 p2 m q) r (fun _ => rfl) (fun q a w => St ⟨19, w0, ok, []⟩ [] [(0, ((ksl k_api_Held).V p1)), (1, (cloF 111 [] [(ptrTo (ksl k_api_Node) p2)])), (7, ((kint .i64).V (p1.length : Int))), (8, ((kint .i64).V q))] a w) ?_ k (0 : Int) _ _ h0 (s7.sub (.cons rfl (.cons rfl (.cons rfl (.cons rfl .nil)))))
  rintro n1 y1 a11 w11 h2 s11 K5 hK5
  replace h2 : slices_IndexFunc_api_Held_api_Held_queue_Ready_1.l1 k p1 p2 (n1 + 1) y1 = some r := h2; rw [slices_IndexFunc_api_Held_api_Held_queue_Ready_1.l1] at h2
  have h3 := h2; clear h2
  refine wp_seq_k fun K6 hK6 => ?_
  refine wp_region_lit ?_
  refine seq_op s11 rfl rfl (of_decide_eq_true rfl) (ob_lss rfl (.tmp rfl) (.tmp rfl)) fun a12 w12 s12 => ?_; clear s11
  refine wpList_nil ?_
  refine then_normal ?_
  refine hK6 _ _ ?_
  have s13 := s12.sub (.cons (t := 0) rfl (.cons (t := 1) rfl (.cons (t := 7) rfl (.cons (t := 8) rfl (.cons (t := 9) rfl .nil))))); clear s12
  refine wp_seq_k fun K7 hK7 => ?_
  refine cond_split s13 (.tmp rfl) (fun hc1 => ?_) (fun hc1 => ?_)
  · replace h3 := ite_t hc1 h3
    have h4 := h3; clear h3
    refine wp_skip ?_
    refine then_normal ?_
    refine hK7 _ _ ?_
    have s14 := s13.sub (.cons (t := 0) rfl (.cons (t := 1) rfl (.cons (t := 7) rfl (.cons (t := 8) rfl .nil)))); clear s13
    refine wp_seq_k fun K8 hK8 => ?_
    refine wp_block ?_
    refine wp_seq_k fun K9 hK9 => ?_
    refine wp_region_lit ?_
    refine seq_op s14 rfl rfl (of_decide_eq_true rfl) (ob_move rfl (.tmp rfl)) fun a15 w15 s15 => ?_; clear s14
    refine seq_op s15 rfl rfl (of_decide_eq_true rfl) (ob_assign rfl (.tmp rfl)) fun a16 w16 s16 => ?_; clear s15
    refine wpList_nil ?_
    refine then_normal ?_
    refine hK9 _ _ ?_
    have s17 := s16.sub (.cons (t := 0) rfl (.cons (t := 1) rfl (.cons (t := 5) rfl (.cons (t := 7) rfl (.cons (t := 8) rfl .nil))))); clear s16
    refine wp_seq_k fun K10 hK10 => ?_
    refine wp_region_lit ?_
    refine seq_op s17 rfl rfl (of_decide_eq_true rfl) (ob_move rfl (.tmp rfl)) fun a18 w18 s18 => ?_; clear s17
    refine seq_op s18 rfl rfl (of_decide_eq_true rfl) (ob_move rfl (.tmp rfl)) fun a19 w19 s19 => ?_; clear s18
    refine seq_op s19 rfl rfl (of_decide_eq_true rfl) (ob_move rfl (.tmp rfl)) fun a20 w20 s20 => ?_; clear s19
    obtain ⟨x1, e_x1, h5⟩ := bind_some h4; clear h4
    refine seq_op s20 rfl rfl (of_decide_eq_true rfl) (ob_indexAddrs rfl Try.underlying85 sz91 (.tmp rfl) (.tmp rfl) e_x1) fun a21 w21 s21 => ?_; clear s20
    refine seq_op s21 rfl rfl (of_decide_eq_true rfl) (ob_loadr rfl tk91 (.tmp rfl)) fun a22 w22 s22 => ?_; clear s21
    obtain ⟨x2, e_x2, h6⟩ := bind_some h5; clear h5
    refine seq_op s22 rfl rfl (of_decide_eq_true rfl) (ob_callD (args := [_]) rfl (.clo (.tmp rfl)) hb111 (fun a w s fs gs hf hg => by obtain rfl := hf.unnil; obtain ⟨u0, _, rfl, fu0, hg⟩ := hg.uncons; obtain rfl := hg.unnil; exact c_queue_Ready_1 k _ _ _ e_x2 _ _ _ _ (s.arg (.tmp rfl)) fu0)) fun a23 w23 s23 => ?_; clear s22
    refine wpList_nil ?_
    refine then_normal ?_
    refine hK10 _ _ ?_
    have s24 := s23.sub (.cons (t := 0) rfl (.cons (t := 1) rfl (.cons (t := 5) rfl (.cons (t := 7) rfl (.cons (t := 8) rfl (.cons (t := 16) rfl .nil)))))); clear s23
    refine cond_split s24 (.tmp rfl) (fun hc2 => ?_) (fun hc2 => ?_)
    · replace h6 := ite_t hc2 h6
      have h7 := h6; clear h6
      refine wp_seq_k fun K11 hK11 => ?_
      refine wp_region_lit ?_
      refine seq_op s24 rfl rfl (of_decide_eq_true rfl) (ob_move rfl (.tmp rfl)) fun a25 w25 s25 => ?_; clear s24
      refine seq_op s25 rfl rfl (of_decide_eq_true rfl) (ob_assign rfl (.tmp rfl)) fun a26 w26 s26 => ?_; clear s25
      refine wpList_nil ?_
      refine then_normal ?_
      refine hK11 _ _ ?_
      have s27 := s26.sub (.cons (t := 4) rfl .nil); clear s26
      refine wp_ret ?_
      obtain rfl := Option.some.inj h7
      exact leave s27 (.inl rfl) rfl (.cons (.tmp rfl) .nil)
    · replace h6 := ite_f hc2 h6
      have h8 := h6; clear h6
      refine wp_skip ?_
      refine in_normal ?_
      refine then_normal ?_
      refine hK8 _ _ ?_
      have s28 := s24.sub (.cons (t := 0) rfl (.cons (t := 1) rfl (.cons (t := 7) rfl (.cons (t := 8) rfl .nil)))); clear s24
      refine wp_region_lit ?_
      refine seq_op s28 rfl rfl (of_decide_eq_true rfl) (ob_add rfl (.tmp rfl) (opd_int rfl)) fun a29 w29 s29 => ?_; clear s28
      refine seq_op s29 rfl rfl (of_decide_eq_true rfl) (ob_move rfl (.tmp rfl)) fun a30 w30 s30 => ?_; clear s29
      refine wpList_nil ?_
      refine then_normal ?_
      exact hK5 (iadd .i64 y1 (1 : Int)) _ _ h8 (s30.sub (.cons rfl (.cons rfl (.cons rfl (.cons rfl .nil)))))
  · replace h3 := ite_f hc1 h3
    have h9 := h3; clear h3
    refine wp_exit ?_
    refine (then_exit (then_exit (in_here ?_)))
    refine then_normal ?_
    exact hj1 _ _ h9 (s13.sub .nil)

/- 61 cabal/queue.Ready -/
theorem c_queue_Ready (k : Nat) (p1 : (List api_Node)) (p2 : (List api_Held)) (r : Int) (h0 : queue_Ready k p1 p2 = some r) (ok : Ok) (w0 : World) (z0 : Value) (z1 : Value) (u0 : ((ksl k_api_Node).V p1).holds ok w0 z0) (u1 : ((ksl k_api_Held).V p2).holds ok w0 z1) :
    Gives Try.prog 61 [z0, z1] ok w0 (resFact [(kint .i64).V r]) := by
  unfold queue_Ready at h0
  refine enter (N := 16) Try.func61 rfl rfl (of_decide_eq_true rfl) (.cons u0 (.cons u1 .nil)) fun a1 s1 => ?_
  refine wp_seq_k fun K1 hK1 => ?_
  refine wp_region_lit ?_
  refine seq_opx (B' := (fun b1 : Nat => [BF b1 22 (ksl k_api_Node) p1])) s1 rfl rfl (of_decide_eq_true rfl) (ob_box rfl (.tmp rfl)) fun b1 a2 w2 s2 => ?_; clear s1
  refine seq_op s2 rfl rfl (of_decide_eq_true rfl) (ob_assign rfl (opd_int rfl)) fun a3 w3 s3 => ?_; clear s2
  refine wpList_nil ?_
  refine then_normal ?_
  refine hK1 _ _ ?_
  have s4 := s3.sub (.cons (t := 1) rfl (.cons (t := 2) rfl .nil)); clear s3
  refine wp_seq_k fun K2 hK2 => ?_
  refine wp_seq_k fun K3 hK3 => ?_
  refine wp_region_lit ?_
  refine seq_op s4 rfl rfl (of_decide_eq_true rfl) (ob_load rfl tk22 (.tmp rfl) (.head _) (LG.refl _ _)) fun a5 w5 s5 => ?_; clear s4
  obtain ⟨x1, e_x1, h1⟩ := bind_some h0; clear h0
  refine seq_op s5 rfl rfl (of_decide_eq_true rfl) (ob_callD (args := [_]) rfl .direct hb24 (fun a w s fs gs hf hg => by obtain rfl := hf.unnil; obtain rfl := hg.unnil; exact c_graph_Right k _ _ e_x1 _ _ _ (s.arg (.tmp rfl)))) fun a6 w6 s6 => ?_; clear s5
  refine seq_op s6 rfl rfl (of_decide_eq_true rfl) (ob_not rfl (.tmp rfl)) fun a7 w7 s7 => ?_; clear s6
  refine seq_op s7 rfl rfl (of_decide_eq_true rfl) (ob_move rfl (.tmp rfl)) fun a8 w8 s8 => ?_; clear s7
  refine seq_opg s8 rfl rfl rfl rfl (of_decide_eq_true rfl) (fun hb => ob_move rfl (.tmp rfl)) fun a9 w9 s9 => ?_; clear s8
  obtain ⟨x2, e_x2, h2⟩ := bind_some h1; clear h1
  refine seq_opg s9 rfl rfl rfl rfl (of_decide_eq_true rfl) (fun hb => (Ob.uncond (t := 9) hb rfl (ob_callD (args := [_]) rfl .direct hb71 (fun a w s fs gs hf hg => by obtain rfl := hf.unnil; obtain rfl := hg.unnil; exact c_queue_Right k _ _ (ite_t hb e_x2) _ _ _ (s.arg (.tmp rfl)))))) fun a10 w10 s10 => ?_; clear s9
  refine seq_opg s10 rfl rfl rfl rfl (of_decide_eq_true rfl) (fun hb => (Ob.uncond (t := 10) hb rfl (ob_not rfl (.tmp rfl)))) fun a11 w11 s11 => ?_; clear s10
  refine seq_op s11 rfl rfl (of_decide_eq_true rfl) (ob_or2 rfl (.tmp rfl) opd_bool (.tmp rfl)) fun a12 w12 s12 => ?_; clear s11
  refine wpList_nil ?_
  refine then_normal ?_
  refine hK3 _ _ ?_
  have s13 := s12.sub (.cons (t := 1) rfl (.cons (t := 2) rfl (.cons (t := 12) rfl .nil))); clear s12
  refine cond_split s13 (.tmp rfl) (fun hc1 => ?_) (fun hc1 => ?_)
  · replace h2 := ite_t hc1 h2
    have h3 := h2; clear h2
    refine wp_seq_k fun K4 hK4 => ?_
    refine wp_region_lit ?_
    refine seq_op s13 rfl rfl (of_decide_eq_true rfl) (ob_assign rfl (opd_int rfl)) fun a14 w14 s14 => ?_; clear s13
    refine wpList_nil ?_
    refine then_normal ?_
    refine hK4 _ _ ?_
    have s15 := s14.sub (.cons (t := 4) rfl .nil); clear s14
    have s16 := St.drop (A := []) s15; clear s15
    refine wp_ret ?_
    obtain rfl := Option.some.inj h3
    exact leave s16 (.inl rfl) rfl (.cons (.tmp rfl) .nil)
  · replace h2 := ite_f hc1 h2
    have h4 := h2; clear h2
    refine wp_skip ?_
    refine then_normal ?_
    refine hK2 _ _ ?_
    have s17 := s13.sub (.cons (t := 1) rfl (.cons (t := 2) rfl .nil)); clear s13
    refine wp_seq_k fun K5 hK5 => ?_
    refine wp_region_lit ?_
    refine seq_op s17 rfl rfl (of_decide_eq_true rfl) (ob_move rfl (.tmp rfl)) fun a18 w18 s18 => ?_; clear s17
    refine seq_op s18 rfl rfl (of_decide_eq_true rfl) (ob_makeFn (xs := []) (ys := [_]) rfl .nil (.cons (.tmp rfl) .nil)) fun a19 w19 s19 => ?_; clear s18
    obtain ⟨x3, e_x3, h5⟩ := bind_some h4; clear h4
    refine seq_op s19 rfl rfl (of_decide_eq_true rfl) ((ob_lendG (L := [_]) (List.Perm.refl _) (.cons (t := 14) rfl (lendClo .nil (.cons (lendPtrB (.head _) (LG.refl _ _)) .nil)) .nil) (Flat.res1 (Flat.V (KFlat.int _))) (fun _ => ob_callD (args := [_, _]) rfl .direct hb110 (fun a w s fs gs hf hg => by obtain rfl := hf.unnil; obtain rfl := hg.unnil; exact c_slices_IndexFunc_api_Held_api_Held_queue_Ready_1 k _ _ _ e_x3 _ _ _ _ (s.arg (.tmp rfl)) (s.arg (.tmp rfl)))))) fun a20 w20 s20 => ?_; clear s19
    refine seq_op s20 rfl rfl (of_decide_eq_true rfl) (ob_assign rfl (.tmp rfl)) fun a21 w21 s21 => ?_; clear s20
    refine wpList_nil ?_
    refine then_normal ?_
    refine hK5 _ _ ?_
    have s22 := s21.sub (.cons (t := 4) rfl .nil); clear s21
    have s23 := St.drop (A := []) s22; clear s22
    refine wp_ret ?_
    obtain rfl := Option.some.inj h5
    exact leave s23 (.inl rfl) rfl (.cons (.tmp rfl) .nil)

/- 59 cabal/caballaw19.alive -/
theorem c_caballaw19_alive (k : Nat) (r : Bool) (h0 : caballaw19_alive k = some r) (ok : Ok) (w0 : World) :
    Gives Try.prog 59 [] ok w0 (resFact [kbool.V r]) := by
  unfold caballaw19_alive at h0
  refine enter (N := 80) Try.func59 rfl rfl (of_decide_eq_true rfl) .nil fun a1 s1 => ?_
  refine wp_seq_k fun K1 hK1 => ?_
  refine wp_region_lit ?_
  refine seq_op s1 rfl rfl (of_decide_eq_true rfl) (ob_assign rfl opd_bool) fun a2 w2 s2 => ?_; clear s1
  refine wpList_nil ?_
  refine then_normal ?_
  refine hK1 _ _ ?_
  have s3 := s2.sub .nil; clear s2
  refine wp_seq_k fun K2 hK2 => ?_
  refine wp_region_lit ?_
  obtain ⟨x1, e_x1, h1⟩ := bind_some h0; clear h0; replace e_x1 := Option.some.inj e_x1
  refine seq_op s3 rfl rfl (of_decide_eq_true rfl) (((ob_mkArr (k := (kint .u8)) rfl Try.underlying39 zz39 sz5 (Zr.arr 32 (Zr.int .u8)) (.cons (opd_int rfl) rfl (LS.arr' (i := 0) (ys := ([(3 : Int), (0 : Int), (0 : Int), (0 : Int), (0 : Int), (0 : Int), (0 : Int), (0 : Int), (0 : Int), (0 : Int), (0 : Int), (0 : Int), (0 : Int), (0 : Int), (0 : Int), (0 : Int), (0 : Int), (0 : Int), (0 : Int), (0 : Int), (0 : Int), (0 : Int), (0 : Int), (0 : Int), (0 : Int), (0 : Int), (0 : Int), (0 : Int), (0 : Int), (0 : Int), (0 : Int), (0 : Int)] : (List Int))) (by simp) (by rfl)) (.nil _)) : Ob _ _ _ _ _ ((karr 32 (kint .u8)).V ([(3 : Int), (0 : Int), (0 : Int), (0 : Int), (0 : Int), (0 : Int), (0 : Int), (0 : Int), (0 : Int), (0 : Int), (0 : Int), (0 : Int), (0 : Int), (0 : Int), (0 : Int), (0 : Int), (0 : Int), (0 : Int), (0 : Int), (0 : Int), (0 : Int), (0 : Int), (0 : Int), (0 : Int), (0 : Int), (0 : Int), (0 : Int), (0 : Int), (0 : Int), (0 : Int), (0 : Int), (0 : Int)] : (List Int))))).nm e_x1) fun a4 w4 s4 => ?_; clear s3
  obtain ⟨x2, e_x2, h2⟩ := bind_some h1; clear h1; replace e_x2 := Option.some.inj e_x2
  refine seq_op s4 rfl rfl (of_decide_eq_true rfl) (((ob_mkArr (k := (kint .u8)) rfl Try.underlying39 zz39 sz5 (Zr.arr 32 (Zr.int .u8)) (.cons (opd_int rfl) rfl (LS.arr' (i := 0) (ys := ([(2 : Int), (0 : Int), (0 : Int), (0 : Int), (0 : Int), (0 : Int), (0 : Int), (0 : Int), (0 : Int), (0 : Int), (0 : Int), (0 : Int), (0 : Int), (0 : Int), (0 : Int), (0 : Int), (0 : Int), (0 : Int), (0 : Int), (0 : Int), (0 : Int), (0 : Int), (0 : Int), (0 : Int), (0 : Int), (0 : Int), (0 : Int), (0 : Int), (0 : Int), (0 : Int), (0 : Int), (0 : Int)] : (List Int))) (by simp) (by rfl)) (.nil _)) : Ob _ _ _ _ _ ((karr 32 (kint .u8)).V ([(2 : Int), (0 : Int), (0 : Int), (0 : Int), (0 : Int), (0 : Int), (0 : Int), (0 : Int), (0 : Int), (0 : Int), (0 : Int), (0 : Int), (0 : Int), (0 : Int), (0 : Int), (0 : Int), (0 : Int), (0 : Int), (0 : Int), (0 : Int), (0 : Int), (0 : Int), (0 : Int), (0 : Int), (0 : Int), (0 : Int), (0 : Int), (0 : Int), (0 : Int), (0 : Int), (0 : Int), (0 : Int)] : (List Int))))).nm e_x2) fun a5 w5 s5 => ?_; clear s4
  obtain ⟨x3, e_x3, h3⟩ := bind_some h2; clear h2
  refine seq_op s5 rfl rfl (of_decide_eq_true rfl) (ob_callD (args := [_]) rfl .direct hb109 (fun a w s fs gs hf hg => by obtain rfl := hf.unnil; obtain rfl := hg.unnil; exact c_caballaw19_update k _ _ e_x3 _ _ _ (s.arg (.tmp rfl)))) fun a6 w6 s6 => ?_; clear s5
  refine seq_op s6 rfl rfl (of_decide_eq_true rfl) (ob_mkStruct (K := k_api_Held) (X0 := (⟨(List.replicate 32 (0 : Int)), (⟨(0 : Int), (0 : Int), [], (0 : Int), [], (List.replicate 32 (0 : Int)), (List.replicate 32 (0 : Int)), [], []⟩ : api_Op), []⟩ : api_Held)) rfl Try.underlying91 zz91 rfl pl91 (Zr.iso (f := t_api_Held) (x := (⟨(List.replicate 32 (0 : Int)), (⟨(0 : Int), (0 : Int), [], (0 : Int), [], (List.replicate 32 (0 : Int)), (List.replicate 32 (0 : Int)), [], []⟩ : api_Op), []⟩ : api_Held)) (Zr.pair (Zr.arr 32 (Zr.int .u8)) (Zr.pair (Zr.iso (f := t_api_Op) (x := (⟨(0 : Int), (0 : Int), [], (0 : Int), [], (List.replicate 32 (0 : Int)), (List.replicate 32 (0 : Int)), [], []⟩ : api_Op)) (Zr.pair (Zr.int .i64) (Zr.pair (Zr.int .u32) (Zr.pair (Zr.sl _) (Zr.pair (Zr.int .i64) (Zr.pair (Zr.sl _) (Zr.pair (Zr.arr 32 (Zr.int .u8)) (Zr.pair (Zr.arr 32 (Zr.int .u8)) (Zr.pair Zr.str (Zr.pair (Zr.sl _) Zr.nil)))))))))) (Zr.pair (Zr.sl _) Zr.nil)))) (.cons (.tmp rfl) rfl (ls_api_Held_Id (⟨(List.replicate 32 (0 : Int)), (⟨(0 : Int), (0 : Int), [], (0 : Int), [], (List.replicate 32 (0 : Int)), (List.replicate 32 (0 : Int)), [], []⟩ : api_Op), []⟩ : api_Held) x1) (.cons (.tmp rfl) rfl (ls_api_Held_Op (⟨x1, (⟨(0 : Int), (0 : Int), [], (0 : Int), [], (List.replicate 32 (0 : Int)), (List.replicate 32 (0 : Int)), [], []⟩ : api_Op), []⟩ : api_Held) x3) (.nil _)))) fun a7 w7 s7 => ?_; clear s6
  obtain ⟨x4, e_x4, h4⟩ := bind_some h3; clear h3
  refine seq_opx (B' := (fun v1 : Value => [RowF v1 91 k_api_Held x4.1])) s7 rfl rfl (of_decide_eq_true rfl) (ob_callL (args := [_, _]) (L := []) rfl .direct hb66 (List.Perm.refl _) (fun a w s fs gs hf hg => by obtain rfl := hf.unnil; obtain rfl := hg.unnil; exact c_queue_Put k _ _ _ e_x4 _ _ _ _ (s.arg opd_nil) (s.arg (.tmp rfl))) (by exact fun _ => rfl)) fun v1 a8 w8 s8 => ?_; clear s7
  refine seq_op s8 rfl rfl (of_decide_eq_true rfl) (ob_move rfl (.tmp rfl)) fun a9 w9 s9 => ?_; clear s8
  refine seq_op s9 rfl rfl (of_decide_eq_true rfl) (ob_extract rfl (.tmp rfl) rfl) fun a10 w10 s10 => ?_; clear s9
  refine seq_op s10 rfl rfl (of_decide_eq_true rfl) (ob_extract rfl (.tmp rfl) rfl) fun a11 w11 s11 => ?_; clear s10
  refine seq_op s11 rfl rfl (of_decide_eq_true rfl) (ob_assign rfl (.tmp rfl)) fun a12 w12 s12 => ?_; clear s11
  refine seq_op s12 rfl rfl (of_decide_eq_true rfl) (ob_assign rfl (.tmp rfl)) fun a13 w13 s13 => ?_; clear s12
  refine wpList_nil ?_
  refine then_normal ?_
  refine hK2 _ _ ?_
  have s14 := s13.sub (.cons (t := 1) rfl (.cons (t := 2) rfl .nil)); clear s13
  refine wp_seq_k fun K3 hK3 => ?_
  refine wp_region_lit ?_
  refine seq_op s14 rfl rfl (of_decide_eq_true rfl) (ob_move rfl (.tmp rfl)) fun a15 w15 s15 => ?_; clear s14
  obtain ⟨x5, e_x5, h5⟩ := bind_some h4; clear h4
  refine seq_opx (B' := (fun v2 : Value => [RowF v1 91 k_api_Held x4.1, RowF v2 39 (karr 32 (kint .u8)) x5])) s15 rfl rfl (of_decide_eq_true rfl) ((ob_lendX (L := [_]) (List.Perm.refl _) (.cons (t := 16) rfl (lendRow (.head _)) .nil) (fun _ => (Flat.res1 Flat.is)) (fun _ => (.cons (FlatO.row (KFlat.arr (KFlat.int _))) FlatL.nil)) (fun _ _ => ob_callL (args := [_, _]) (L := []) (D := []) rfl .direct hb62 (List.Perm.refl _) (fun a w s fs gs hf hg => by obtain rfl := hf.unnil; obtain rfl := hg.unnil; exact c_queue_Wanted k _ _ _ e_x5 _ _ _ _ (s.arg opd_nil) (s.arg (.tmp rfl))) (by exact fun _ => rfl)))) fun v2 a16 w16 s16 => ?_; clear s15
  refine seq_op s16 rfl rfl (of_decide_eq_true rfl) (ob_assign rfl (.tmp rfl)) fun a17 w17 s17 => ?_; clear s16
  refine wpList_nil ?_
  refine then_normal ?_
  refine hK3 _ _ ?_
  have s18 := s17.sub (.cons (t := 1) rfl (.cons (t := 2) rfl (.cons (t := 3) rfl .nil))); clear s17
  refine wp_seq_k fun K4 hK4 => ?_
  refine wp_region_lit ?_
  refine seq_op s18 rfl rfl (of_decide_eq_true rfl) (ob_move rfl (.tmp rfl)) fun a19 w19 s19 => ?_; clear s18
  obtain ⟨x6, e_x6, h6⟩ := bind_some h5; clear h5; replace e_x6 := Option.some.inj e_x6
  refine seq_op s19 rfl rfl (of_decide_eq_true rfl) (((ob_mkArr (k := (kint .u8)) rfl Try.underlying39 zz39 sz5 (Zr.arr 32 (Zr.int .u8)) (.cons (opd_int rfl) rfl (LS.arr' (i := 0) (ys := ([(2 : Int), (0 : Int), (0 : Int), (0 : Int), (0 : Int), (0 : Int), (0 : Int), (0 : Int), (0 : Int), (0 : Int), (0 : Int), (0 : Int), (0 : Int), (0 : Int), (0 : Int), (0 : Int), (0 : Int), (0 : Int), (0 : Int), (0 : Int), (0 : Int), (0 : Int), (0 : Int), (0 : Int), (0 : Int), (0 : Int), (0 : Int), (0 : Int), (0 : Int), (0 : Int), (0 : Int), (0 : Int)] : (List Int))) (by simp) (by rfl)) (.nil _)) : Ob _ _ _ _ _ ((karr 32 (kint .u8)).V ([(2 : Int), (0 : Int), (0 : Int), (0 : Int), (0 : Int), (0 : Int), (0 : Int), (0 : Int), (0 : Int), (0 : Int), (0 : Int), (0 : Int), (0 : Int), (0 : Int), (0 : Int), (0 : Int), (0 : Int), (0 : Int), (0 : Int), (0 : Int), (0 : Int), (0 : Int), (0 : Int), (0 : Int), (0 : Int), (0 : Int), (0 : Int), (0 : Int), (0 : Int), (0 : Int), (0 : Int), (0 : Int)] : (List Int))))).nm e_x6) fun a20 w20 s20 => ?_; clear s19
  refine seq_op s20 rfl rfl (of_decide_eq_true rfl) (ob_mkSlice (k := (kint .i64)) (xs := ([(0 : Int)] : (List Int))) rfl Try.underlying41 zz3 sz3 (Zr.int .i64) (by decide) (by decide) (.cons (opd_int rfl) rfl (LS.arr' (i := 0) (ys := ([(0 : Int)] : (List Int))) (by simp) (by rfl)) (.nil _))) fun a21 w21 s21 => ?_; clear s20
  obtain ⟨x7, e_x7, h7⟩ := bind_some h6; clear h6; replace e_x7 := Option.some.inj e_x7
  refine seq_op s21 rfl rfl (of_decide_eq_true rfl) (((ob_mkArr (k := (kint .u8)) rfl Try.underlying39 zz39 sz5 (Zr.arr 32 (Zr.int .u8)) (.cons (opd_int rfl) rfl (LS.arr' (i := 0) (ys := ([(1 : Int), (0 : Int), (0 : Int), (0 : Int), (0 : Int), (0 : Int), (0 : Int), (0 : Int), (0 : Int), (0 : Int), (0 : Int), (0 : Int), (0 : Int), (0 : Int), (0 : Int), (0 : Int), (0 : Int), (0 : Int), (0 : Int), (0 : Int), (0 : Int), (0 : Int), (0 : Int), (0 : Int), (0 : Int), (0 : Int), (0 : Int), (0 : Int), (0 : Int), (0 : Int), (0 : Int), (0 : Int)] : (List Int))) (by simp) (by rfl)) (.nil _)) : Ob _ _ _ _ _ ((karr 32 (kint .u8)).V ([(1 : Int), (0 : Int), (0 : Int), (0 : Int), (0 : Int), (0 : Int), (0 : Int), (0 : Int), (0 : Int), (0 : Int), (0 : Int), (0 : Int), (0 : Int), (0 : Int), (0 : Int), (0 : Int), (0 : Int), (0 : Int), (0 : Int), (0 : Int), (0 : Int), (0 : Int), (0 : Int), (0 : Int), (0 : Int), (0 : Int), (0 : Int), (0 : Int), (0 : Int), (0 : Int), (0 : Int), (0 : Int)] : (List Int))))).nm e_x7) fun a22 w22 s22 => ?_; clear s21
  obtain ⟨x8, e_x8, h8⟩ := bind_some h7; clear h7; replace e_x8 := Option.some.inj e_x8
  refine seq_op s22 rfl rfl (of_decide_eq_true rfl) ((ob_mkStruct (K := k_api_Op) (X0 := (⟨(0 : Int), (0 : Int), [], (0 : Int), [], (List.replicate 32 (0 : Int)), (List.replicate 32 (0 : Int)), [], []⟩ : api_Op)) rfl Try.underlying44 zz44 rfl pl44 (Zr.iso (f := t_api_Op) (x := (⟨(0 : Int), (0 : Int), [], (0 : Int), [], (List.replicate 32 (0 : Int)), (List.replicate 32 (0 : Int)), [], []⟩ : api_Op)) (Zr.pair (Zr.int .i64) (Zr.pair (Zr.int .u32) (Zr.pair (Zr.sl _) (Zr.pair (Zr.int .i64) (Zr.pair (Zr.sl _) (Zr.pair (Zr.arr 32 (Zr.int .u8)) (Zr.pair (Zr.arr 32 (Zr.int .u8)) (Zr.pair Zr.str (Zr.pair (Zr.sl _) Zr.nil)))))))))) (.cons (opd_int rfl) rfl (ls_api_Op_Seq (⟨(0 : Int), (0 : Int), [], (0 : Int), [], (List.replicate 32 (0 : Int)), (List.replicate 32 (0 : Int)), [], []⟩ : api_Op) (1 : Int)) (.cons (opd_int rfl) rfl (ls_api_Op_Kind (⟨(0 : Int), (1 : Int), [], (0 : Int), [], (List.replicate 32 (0 : Int)), (List.replicate 32 (0 : Int)), [], []⟩ : api_Op) (1 : Int)) (.cons (.tmp rfl) rfl (ls_api_Op_Who (⟨(0 : Int), (1 : Int), [], (1 : Int), [], (List.replicate 32 (0 : Int)), (List.replicate 32 (0 : Int)), [], []⟩ : api_Op) ([(0 : Int)] : (List Int))) (.cons (.tmp rfl) rfl (ls_api_Op_Check (⟨(0 : Int), (1 : Int), [], (1 : Int), ([(0 : Int)] : (List Int)), (List.replicate 32 (0 : Int)), (List.replicate 32 (0 : Int)), [], []⟩ : api_Op) x7) (.nil _)))))).nm e_x8) fun a23 w23 s23 => ?_; clear s22
  refine seq_op s23 rfl rfl (of_decide_eq_true rfl) (ob_mkStruct (K := k_api_Held) (X0 := (⟨(List.replicate 32 (0 : Int)), (⟨(0 : Int), (0 : Int), [], (0 : Int), [], (List.replicate 32 (0 : Int)), (List.replicate 32 (0 : Int)), [], []⟩ : api_Op), []⟩ : api_Held)) rfl Try.underlying91 zz91 rfl pl91 (Zr.iso (f := t_api_Held) (x := (⟨(List.replicate 32 (0 : Int)), (⟨(0 : Int), (0 : Int), [], (0 : Int), [], (List.replicate 32 (0 : Int)), (List.replicate 32 (0 : Int)), [], []⟩ : api_Op), []⟩ : api_Held)) (Zr.pair (Zr.arr 32 (Zr.int .u8)) (Zr.pair (Zr.iso (f := t_api_Op) (x := (⟨(0 : Int), (0 : Int), [], (0 : Int), [], (List.replicate 32 (0 : Int)), (List.replicate 32 (0 : Int)), [], []⟩ : api_Op)) (Zr.pair (Zr.int .i64) (Zr.pair (Zr.int .u32) (Zr.pair (Zr.sl _) (Zr.pair (Zr.int .i64) (Zr.pair (Zr.sl _) (Zr.pair (Zr.arr 32 (Zr.int .u8)) (Zr.pair (Zr.arr 32 (Zr.int .u8)) (Zr.pair Zr.str (Zr.pair (Zr.sl _) Zr.nil)))))))))) (Zr.pair (Zr.sl _) Zr.nil)))) (.cons (.tmp rfl) rfl (ls_api_Held_Id (⟨(List.replicate 32 (0 : Int)), (⟨(0 : Int), (0 : Int), [], (0 : Int), [], (List.replicate 32 (0 : Int)), (List.replicate 32 (0 : Int)), [], []⟩ : api_Op), []⟩ : api_Held) x6) (.cons (.tmp rfl) rfl (ls_api_Held_Op (⟨x6, (⟨(0 : Int), (0 : Int), [], (0 : Int), [], (List.replicate 32 (0 : Int)), (List.replicate 32 (0 : Int)), [], []⟩ : api_Op), []⟩ : api_Held) x8) (.nil _)))) fun a24 w24 s24 => ?_; clear s23
  have s25 := St.freezeAllM (A := []) s24 (ts := [1, 19]) (.cons rfl (.cons rfl .nil)); clear s24
  obtain ⟨x9, e_x9, h9⟩ := bind_some h8; clear h8
  refine seq_opx (B' := (fun v3 : Value => [RowF v3 91 k_api_Held x9.1, RowF v2 39 (karr 32 (kint .u8)) x5])) s25 rfl rfl (of_decide_eq_true rfl) (ob_callL (args := [_, _]) (L := []) rfl .direct hb66 (List.Perm.refl _) (fun a w s fs gs hf hg => by obtain rfl := hf.unnil; obtain rfl := hg.unnil; exact c_queue_Put k _ _ _ e_x9 _ _ _ _ (s.arg (.tmp rfl)) (s.arg (.tmp rfl))) (by exact fun _ => rfl)) fun v3 a26 w26 s26 => ?_; clear s25
  refine seq_op s26 rfl rfl (of_decide_eq_true rfl) (ob_move rfl (.tmp rfl)) fun a27 w27 s27 => ?_; clear s26
  refine seq_op s27 rfl rfl (of_decide_eq_true rfl) (ob_extract rfl (.tmp rfl) rfl) fun a28 w28 s28 => ?_; clear s27
  refine seq_op s28 rfl rfl (of_decide_eq_true rfl) (ob_extract rfl (.tmp rfl) rfl) fun a29 w29 s29 => ?_; clear s28
  refine seq_op s29 rfl rfl (of_decide_eq_true rfl) (ob_assign rfl (.tmp rfl)) fun a30 w30 s30 => ?_; clear s29
  refine seq_op s30 rfl rfl (of_decide_eq_true rfl) (ob_assign rfl (.tmp rfl)) fun a31 w31 s31 => ?_; clear s30
  refine wpList_nil ?_
  refine then_normal ?_
  refine hK4 _ _ ?_
  have s32 := s31.sub (.cons (t := 1) rfl (.cons (t := 2) rfl (.cons (t := 3) rfl (.cons (t := 4) rfl (.cons (t := 5) rfl .nil))))); clear s31
  refine wp_seq_k fun K5 hK5 => ?_
  refine wp_region_lit ?_
  refine seq_op s32 rfl rfl (of_decide_eq_true rfl) (ob_move rfl (.tmp rfl)) fun a33 w33 s33 => ?_; clear s32
  have s34 := St.freezeAllM (A := []) s33 (ts := [4, 29]) (.cons rfl (.cons rfl .nil)); clear s33
  obtain ⟨x10, e_x10, h10⟩ := bind_some h9; clear h9
  refine seq_opx (B' := (fun v4 : Value => [RowF v4 91 k_api_Held x10.1, RowF v2 39 (karr 32 (kint .u8)) x5])) s34 rfl rfl (of_decide_eq_true rfl) (ob_callL (args := [_, _]) (L := []) rfl .direct hb69 (List.Perm.refl _) (fun a w s fs gs hf hg => by obtain rfl := hf.unnil; obtain rfl := hg.unnil; exact c_queue_Without k _ _ _ e_x10 _ _ _ _ (s.arg (.tmp rfl)) (s.arg (opd_int rfl))) (by exact fun _ => rfl)) fun v4 a35 w35 s35 => ?_; clear s34
  refine seq_op s35 rfl rfl (of_decide_eq_true rfl) (ob_move rfl (.tmp rfl)) fun a36 w36 s36 => ?_; clear s35
  refine seq_op s36 rfl rfl (of_decide_eq_true rfl) (ob_extract rfl (.tmp rfl) rfl) fun a37 w37 s37 => ?_; clear s36
  refine seq_op s37 rfl rfl (of_decide_eq_true rfl) (ob_extract rfl (.tmp rfl) rfl) fun a38 w38 s38 => ?_; clear s37
  refine seq_op s38 rfl rfl (of_decide_eq_true rfl) (ob_assign rfl (.tmp rfl)) fun a39 w39 s39 => ?_; clear s38
  refine seq_op s39 rfl rfl (of_decide_eq_true rfl) (ob_assign rfl (.tmp rfl)) fun a40 w40 s40 => ?_; clear s39
  refine wpList_nil ?_
  refine then_normal ?_
  refine hK5 _ _ ?_
  have s41 := s40.sub (.cons (t := 1) rfl (.cons (t := 2) rfl (.cons (t := 3) rfl (.cons (t := 4) rfl (.cons (t := 5) rfl (.cons (t := 6) rfl (.cons (t := 7) rfl .nil))))))); clear s40
  refine wp_seq_k fun K6 hK6 => ?_
  refine wp_region_lit ?_
  refine seq_op s41 rfl rfl (of_decide_eq_true rfl) (ob_move rfl (.tmp rfl)) fun a42 w42 s42 => ?_; clear s41
  refine seq_op s42 rfl rfl (of_decide_eq_true rfl) (ob_eql rfl (.tmp rfl) (opd_int rfl)) fun a43 w43 s43 => ?_; clear s42
  refine seq_op s43 rfl rfl (of_decide_eq_true rfl) (ob_move rfl (.tmp rfl)) fun a44 w44 s44 => ?_; clear s43
  refine seq_opg s44 rfl rfl rfl rfl (of_decide_eq_true rfl) (fun hb => ob_move rfl (.tmp rfl)) fun a45 w45 s45 => ?_; clear s44
  refine seq_opg s45 rfl rfl rfl rfl (of_decide_eq_true rfl) (fun hb => (Ob.uncond (t := 36) hb rfl (ob_eql rfl (.tmp rfl) (opd_int rfl)))) fun a46 w46 s46 => ?_; clear s45
  refine seq_op s46 rfl rfl (of_decide_eq_true rfl) (ob_and2 rfl (.tmp rfl) (.tmp rfl) opd_bool) fun a47 w47 s47 => ?_; clear s46
  refine seq_op s47 rfl rfl (of_decide_eq_true rfl) (ob_move rfl (.tmp rfl)) fun a48 w48 s48 => ?_; clear s47
  refine seq_opg s48 rfl rfl rfl rfl (of_decide_eq_true rfl) (fun hb => ob_move rfl (.tmp rfl)) fun a49 w49 s49 => ?_; clear s48
  refine seq_opg s49 rfl rfl rfl rfl (of_decide_eq_true rfl) (fun hb => (Ob.uncond (t := 40) hb rfl (ob_eql rfl (.tmp rfl) (opd_int rfl)))) fun a50 w50 s50 => ?_; clear s49
  obtain ⟨x11, e_x11, h11⟩ := bind_some h10; clear h10; replace e_x11 := Option.some.inj e_x11
  refine seq_op s50 rfl rfl (of_decide_eq_true rfl) ((ob_and2 rfl (.tmp rfl) (.tmp rfl) opd_bool).nm e_x11) fun a51 w51 s51 => ?_; clear s50
  refine seq_op s51 rfl rfl (of_decide_eq_true rfl) (ob_move rfl (.tmp rfl)) fun a52 w52 s52 => ?_; clear s51
  refine seq_opg s52 rfl rfl rfl rfl (of_decide_eq_true rfl) (fun hb => ob_move rfl (.tmp rfl)) fun a53 w53 s53 => ?_; clear s52
  refine seq_opg s53 rfl rfl rfl rfl (of_decide_eq_true rfl) (fun hb => (Ob.uncond (t := 44) hb rfl (ob_lenRow rfl Try.underlying40 (.tmp rfl) (.tail _ (.head _))))) fun a54 w54 s54 => ?_; clear s53
  refine seq_opg s54 rfl rfl rfl rfl (of_decide_eq_true rfl) (fun hb => (Ob.uncond (t := 45) hb rfl (ob_eql rfl (.tmp rfl) (opd_int rfl)))) fun a55 w55 s55 => ?_; clear s54
  refine seq_op s55 rfl rfl (of_decide_eq_true rfl) (ob_and2 rfl (.tmp rfl) (.tmp rfl) opd_bool) fun a56 w56 s56 => ?_; clear s55
  refine seq_op s56 rfl rfl (of_decide_eq_true rfl) (ob_move rfl (.tmp rfl)) fun a57 w57 s57 => ?_; clear s56
  refine seq_opg s57 rfl rfl rfl rfl (of_decide_eq_true rfl) (fun hb => ob_move rfl (.tmp rfl)) fun a58 w58 s58 => ?_; clear s57
  obtain ⟨g1, h12⟩ := guard_some h11; clear h11
  refine seq_opg s58 rfl rfl rfl rfl (of_decide_eq_true rfl) (fun hb => (Ob.uncond (t := 49) hb rfl (ob_rowAt rfl Try.underlying40 sz39 (.tmp rfl) (.tail _ (.head _)) (opd_int rfl) (g1 hb)))) fun a59 w59 s59 => ?_; clear s58
  obtain ⟨x12, e_x12, h13⟩ := bind_some h12; clear h12
  refine seq_opg s59 rfl rfl rfl rfl (of_decide_eq_true rfl) (fun hb => (Ob.uncond (t := 50) hb rfl (ob_rowLoad rfl tk39 (.tmp rfl) (.tail _ (.head _)) (LG.arrA (ite_t hb e_x12))))) fun a60 w60 s60 => ?_; clear s59
  obtain ⟨x13, e_x13, h14⟩ := bind_some h13; clear h13; replace e_x13 := Option.some.inj e_x13
  refine seq_opg s60 rfl rfl rfl rfl (of_decide_eq_true rfl) (fun hb => ((ob_mkArr (k := (kint .u8)) rfl Try.underlying39 zz39 sz5 (Zr.arr 32 (Zr.int .u8)) (.cons (opd_int rfl) rfl (LS.arr' (i := 0) (ys := ([(2 : Int), (0 : Int), (0 : Int), (0 : Int), (0 : Int), (0 : Int), (0 : Int), (0 : Int), (0 : Int), (0 : Int), (0 : Int), (0 : Int), (0 : Int), (0 : Int), (0 : Int), (0 : Int), (0 : Int), (0 : Int), (0 : Int), (0 : Int), (0 : Int), (0 : Int), (0 : Int), (0 : Int), (0 : Int), (0 : Int), (0 : Int), (0 : Int), (0 : Int), (0 : Int), (0 : Int), (0 : Int)] : (List Int))) (by simp) (by rfl)) (.nil _)) : Ob _ _ _ _ _ ((karr 32 (kint .u8)).V ([(2 : Int), (0 : Int), (0 : Int), (0 : Int), (0 : Int), (0 : Int), (0 : Int), (0 : Int), (0 : Int), (0 : Int), (0 : Int), (0 : Int), (0 : Int), (0 : Int), (0 : Int), (0 : Int), (0 : Int), (0 : Int), (0 : Int), (0 : Int), (0 : Int), (0 : Int), (0 : Int), (0 : Int), (0 : Int), (0 : Int), (0 : Int), (0 : Int), (0 : Int), (0 : Int), (0 : Int), (0 : Int)] : (List Int))))).nm e_x13) fun a61 w61 s61 => ?_; clear s60
  refine seq_opg s61 rfl rfl rfl rfl (of_decide_eq_true rfl) (fun hb => (Ob.uncond (t := 52) hb rfl ((Ob.uncond (t := 51) hb rfl (ob_eqAgg rfl rfl (by kernel_rfl) eq39 (by decide) (.tmp rfl) (.tmp rfl)))))) fun a62 w62 s62 => ?_; clear s61
  obtain ⟨x14, e_x14, h15⟩ := bind_some h14; clear h14; replace e_x14 := Option.some.inj e_x14
  refine seq_op s62 rfl rfl (of_decide_eq_true rfl) ((ob_and2 rfl (.tmp rfl) (.tmp rfl) opd_bool).nm e_x14) fun a63 w63 s63 => ?_; clear s62
  refine seq_op s63 rfl rfl (of_decide_eq_true rfl) (ob_move rfl (.tmp rfl)) fun a64 w64 s64 => ?_; clear s63
  refine seq_opg s64 rfl rfl rfl rfl (of_decide_eq_true rfl) (fun hb => ob_move rfl (.tmp rfl)) fun a65 w65 s65 => ?_; clear s64
  obtain ⟨x15, e_x15, h16⟩ := bind_some h15; clear h15
  refine seq_opg s65 rfl rfl rfl rfl (of_decide_eq_true rfl) (fun hb => (Ob.uncond (t := 56) hb rfl (ob_callD (args := [_, _]) rfl .direct hb61 (fun a w s fs gs hf hg => by obtain rfl := hf.unnil; obtain rfl := hg.unnil; exact c_queue_Ready k _ _ _ (ite_t hb e_x15) _ _ _ _ (s.arg opd_nil) (s.arg (.tmp rfl)))))) fun a66 w66 s66 => ?_; clear s65
  refine seq_opg s66 rfl rfl rfl rfl (of_decide_eq_true rfl) (fun hb => (Ob.uncond (t := 57) hb rfl (ob_eql rfl (.tmp rfl) (opd_int rfl)))) fun a67 w67 s67 => ?_; clear s66
  refine seq_op s67 rfl rfl (of_decide_eq_true rfl) (ob_and2 rfl (.tmp rfl) (.tmp rfl) opd_bool) fun a68 w68 s68 => ?_; clear s67
  refine seq_op s68 rfl rfl (of_decide_eq_true rfl) (ob_move rfl (.tmp rfl)) fun a69 w69 s69 => ?_; clear s68
  refine seq_opg s69 rfl rfl rfl rfl (of_decide_eq_true rfl) (fun hb => ob_move rfl (.tmp rfl)) fun a70 w70 s70 => ?_; clear s69
  obtain ⟨x16, e_x16, h17⟩ := bind_some h16; clear h16
  refine seq_opg s70 rfl rfl rfl rfl (of_decide_eq_true rfl) (fun hb => (Ob.uncond (t := 61) hb rfl (ob_callD (args := [_, _]) rfl .direct hb61 (fun a w s fs gs hf hg => by obtain rfl := hf.unnil; obtain rfl := hg.unnil; exact c_queue_Ready k _ _ _ (ite_t hb e_x16) _ _ _ _ (s.arg opd_nil) (s.arg (.tmp rfl)))))) fun a71 w71 s71 => ?_; clear s70
  refine seq_opg s71 rfl rfl rfl rfl (of_decide_eq_true rfl) (fun hb => (Ob.uncond (t := 62) hb rfl (ob_eql rfl (.tmp rfl) (opd_int rfl)))) fun a72 w72 s72 => ?_; clear s71
  obtain ⟨x17, e_x17, h18⟩ := bind_some h17; clear h17; replace e_x17 := Option.some.inj e_x17
  refine seq_op s72 rfl rfl (of_decide_eq_true rfl) ((ob_and2 rfl (.tmp rfl) (.tmp rfl) opd_bool).nm e_x17) fun a73 w73 s73 => ?_; clear s72
  refine seq_op s73 rfl rfl (of_decide_eq_true rfl) (ob_move rfl (.tmp rfl)) fun a74 w74 s74 => ?_; clear s73
  refine seq_opg s74 rfl rfl rfl rfl (of_decide_eq_true rfl) (fun hb => ob_move rfl (.tmp rfl)) fun a75 w75 s75 => ?_; clear s74
  refine seq_opg s75 rfl rfl rfl rfl (of_decide_eq_true rfl) (fun hb => (Ob.uncond (t := 66) hb rfl (ob_lenRow rfl Try.underlying85 (.tmp rfl) (.head _)))) fun a76 w76 s76 => ?_; clear s75
  refine seq_opg s76 rfl rfl rfl rfl (of_decide_eq_true rfl) (fun hb => (Ob.uncond (t := 67) hb rfl (ob_eql rfl (.tmp rfl) (opd_int rfl)))) fun a77 w77 s77 => ?_; clear s76
  refine seq_op s77 rfl rfl (of_decide_eq_true rfl) (ob_and2 rfl (.tmp rfl) (.tmp rfl) opd_bool) fun a78 w78 s78 => ?_; clear s77
  refine seq_op s78 rfl rfl (of_decide_eq_true rfl) (ob_move rfl (.tmp rfl)) fun a79 w79 s79 => ?_; clear s78
  refine seq_opg s79 rfl rfl rfl rfl (of_decide_eq_true rfl) (fun hb => ob_move rfl (.tmp rfl)) fun a80 w80 s80 => ?_; clear s79
  obtain ⟨x18, e_x18, h19⟩ := bind_some h18; clear h18; replace e_x18 := Option.some.inj e_x18
  refine seq_opg s80 rfl rfl rfl rfl (of_decide_eq_true rfl) (fun hb => ((ob_mkArr (k := (kint .u8)) rfl Try.underlying39 zz39 sz5 (Zr.arr 32 (Zr.int .u8)) (.cons (opd_int rfl) rfl (LS.arr' (i := 0) (ys := ([(2 : Int), (0 : Int), (0 : Int), (0 : Int), (0 : Int), (0 : Int), (0 : Int), (0 : Int), (0 : Int), (0 : Int), (0 : Int), (0 : Int), (0 : Int), (0 : Int), (0 : Int), (0 : Int), (0 : Int), (0 : Int), (0 : Int), (0 : Int), (0 : Int), (0 : Int), (0 : Int), (0 : Int), (0 : Int), (0 : Int), (0 : Int), (0 : Int), (0 : Int), (0 : Int), (0 : Int), (0 : Int)] : (List Int))) (by simp) (by rfl)) (.nil _)) : Ob _ _ _ _ _ ((karr 32 (kint .u8)).V ([(2 : Int), (0 : Int), (0 : Int), (0 : Int), (0 : Int), (0 : Int), (0 : Int), (0 : Int), (0 : Int), (0 : Int), (0 : Int), (0 : Int), (0 : Int), (0 : Int), (0 : Int), (0 : Int), (0 : Int), (0 : Int), (0 : Int), (0 : Int), (0 : Int), (0 : Int), (0 : Int), (0 : Int), (0 : Int), (0 : Int), (0 : Int), (0 : Int), (0 : Int), (0 : Int), (0 : Int), (0 : Int)] : (List Int))))).nm e_x18) fun a81 w81 s81 => ?_; clear s80
  obtain ⟨x19, e_x19, h20⟩ := bind_some h19; clear h19
  refine seq_opg s81 rfl rfl rfl rfl (of_decide_eq_true rfl) (fun hb => (Ob.uncond (t := 72) hb rfl ((Ob.uncond (t := 71) hb rfl (ob_callD (args := [_, _]) rfl .direct hb72 (fun a w s fs gs hf hg => by obtain rfl := hf.unnil; obtain rfl := hg.unnil; exact c_queue_Find k _ _ _ (ite_t hb e_x19) _ _ _ _ (s.arg (.tmp rfl)) (s.arg (.tmp rfl)))))))) fun a82 w82 s82 => ?_; clear s81
  refine seq_opg s82 rfl rfl rfl rfl (of_decide_eq_true rfl) (fun hb => (Ob.uncond (t := 73) hb rfl (ob_eql rfl (.tmp rfl) (opd_int rfl)))) fun a83 w83 s83 => ?_; clear s82
  obtain ⟨x20, e_x20, h21⟩ := bind_some h20; clear h20; replace e_x20 := Option.some.inj e_x20
  refine seq_op s83 rfl rfl (of_decide_eq_true rfl) ((ob_and2 rfl (.tmp rfl) (.tmp rfl) opd_bool).nm e_x20) fun a84 w84 s84 => ?_; clear s83
  refine seq_op s84 rfl rfl (of_decide_eq_true rfl) (ob_move rfl (.tmp rfl)) fun a85 w85 s85 => ?_; clear s84
  refine seq_opg s85 rfl rfl rfl rfl (of_decide_eq_true rfl) (fun hb => ob_move rfl (.tmp rfl)) fun a86 w86 s86 => ?_; clear s85
  obtain ⟨x21, e_x21, h22⟩ := bind_some h21; clear h21
  refine seq_opg s86 rfl rfl rfl rfl (of_decide_eq_true rfl) (fun hb => (Ob.uncond (t := 77) hb rfl (ob_callD (args := [_]) rfl .direct hb71 (fun a w s fs gs hf hg => by obtain rfl := hf.unnil; obtain rfl := hg.unnil; exact c_queue_Right k _ _ (ite_t hb e_x21) _ _ _ (s.arg (.tmp rfl)))))) fun a87 w87 s87 => ?_; clear s86
  refine seq_op s87 rfl rfl (of_decide_eq_true rfl) (ob_and2 rfl (.tmp rfl) (.tmp rfl) opd_bool) fun a88 w88 s88 => ?_; clear s87
  refine seq_op s88 rfl rfl (of_decide_eq_true rfl) (ob_assign rfl (.tmp rfl)) fun a89 w89 s89 => ?_; clear s88
  refine wpList_nil ?_
  refine then_normal ?_
  refine hK6 _ _ ?_
  have s90 := s89.sub (.cons (t := 0) rfl .nil); clear s89
  have s91 := St.drop (A := []) s90; clear s90
  have s92 := St.drop (A := []) s91; clear s91
  refine wp_ret ?_
  obtain rfl := Option.some.inj h22
  exact leave s92 (.inl rfl) rfl (.cons (.tmp rfl) .nil)

/- 51 cabal/cabalref11.Great -/
theorem c_cabalref11_Great (k : Nat) (p1 : api_Op) (r : Bool) (h0 : cabalref11_Great k p1 = some r) (ok : Ok) (w0 : World) (z0 : Value) (u0 : (k_api_Op.V p1).holds ok w0 z0) :
    Gives Try.prog 51 [z0] ok w0 (resFact [kbool.V r]) := by
  unfold cabalref11_Great at h0
  refine enter (N := 41) Try.func51 rfl rfl (of_decide_eq_true rfl) (.cons u0 .nil) fun a1 s1 => ?_
  refine wp_seq_k fun K1 hK1 => ?_
  refine wp_region_lit ?_
  refine seq_opx (B' := (fun b1 : Nat => [BF b1 44 k_api_Op p1])) s1 rfl rfl (of_decide_eq_true rfl) (ob_box rfl (.tmp rfl)) fun b1 a2 w2 s2 => ?_; clear s1
  refine seq_op s2 rfl rfl (of_decide_eq_true rfl) (ob_assign rfl opd_bool) fun a3 w3 s3 => ?_; clear s2
  refine wpList_nil ?_
  refine then_normal ?_
  refine hK1 _ _ ?_
  have s4 := s3.sub (.cons (t := 1) rfl .nil); clear s3
  refine wp_seq_k fun K2 hK2 => ?_
  refine wp_seq_k fun K3 hK3 => ?_
  refine wp_region_lit ?_
  refine seq_op s4 rfl rfl (of_decide_eq_true rfl) (ob_fieldAddr (off' := 2) rfl Try.underlying44 rfl sz40 (by decide) (.tmp rfl) rfl) fun a5 w5 s5 => ?_; clear s4
  refine seq_op s5 rfl rfl (of_decide_eq_true rfl) (ob_load rfl tk40 (.tmp rfl) (.head _) (lg_api_Op_Parents p1)) fun a6 w6 s6 => ?_; clear s5
  refine seq_op s6 rfl rfl (of_decide_eq_true rfl) (ob_lens rfl Try.underlying40 (.tmp rfl)) fun a7 w7 s7 => ?_; clear s6
  refine seq_op s7 rfl rfl (of_decide_eq_true rfl) (ob_gtr rfl (.tmp rfl) (opd_int rfl)) fun a8 w8 s8 => ?_; clear s7
  refine seq_op s8 rfl rfl (of_decide_eq_true rfl) (ob_move rfl (.tmp rfl)) fun a9 w9 s9 => ?_; clear s8
  refine seq_opg s9 rfl rfl rfl rfl (of_decide_eq_true rfl) (fun hb => ob_fieldAddr (off' := 4) rfl Try.underlying44 rfl sz41 (by decide) (.tmp rfl) rfl) fun a10 w10 s10 => ?_; clear s9
  refine seq_opg s10 rfl rfl rfl rfl (of_decide_eq_true rfl) (fun hb => (Ob.uncond (t := 9) hb rfl (ob_load rfl tk41 (.tmp rfl) (.head _) (lg_api_Op_Who p1)))) fun a11 w11 s11 => ?_; clear s10
  refine seq_opg s11 rfl rfl rfl rfl (of_decide_eq_true rfl) (fun hb => (Ob.uncond (t := 10) hb rfl (ob_lens rfl Try.underlying41 (.tmp rfl)))) fun a12 w12 s12 => ?_; clear s11
  refine seq_opg s12 rfl rfl rfl rfl (of_decide_eq_true rfl) (fun hb => (Ob.uncond (t := 11) hb rfl (ob_gtr rfl (.tmp rfl) (opd_int rfl)))) fun a13 w13 s13 => ?_; clear s12
  obtain ⟨x1, e_x1, h1⟩ := bind_some h0; clear h0; replace e_x1 := Option.some.inj e_x1
  refine seq_op s13 rfl rfl (of_decide_eq_true rfl) ((ob_or2 rfl (.tmp rfl) opd_bool (.tmp rfl)).nm e_x1) fun a14 w14 s14 => ?_; clear s13
  refine seq_op s14 rfl rfl (of_decide_eq_true rfl) (ob_move rfl (.tmp rfl)) fun a15 w15 s15 => ?_; clear s14
  refine seq_opg s15 rfl rfl rfl rfl (of_decide_eq_true rfl) (fun hb => ob_fieldAddr (off' := 70) rfl Try.underlying44 rfl sz42 (by decide) (.tmp rfl) rfl) fun a16 w16 s16 => ?_; clear s15
  refine seq_opg s16 rfl rfl rfl rfl (of_decide_eq_true rfl) (fun hb => (Ob.uncond (t := 15) hb rfl (ob_load rfl tk42 (.tmp rfl) (.head _) (lg_api_Op_Boxes p1)))) fun a17 w17 s17 => ?_; clear s16
  refine seq_opg s17 rfl rfl rfl rfl (of_decide_eq_true rfl) (fun hb => (Ob.uncond (t := 16) hb rfl (ob_lens rfl Try.underlying42 (.tmp rfl)))) fun a18 w18 s18 => ?_; clear s17
  refine seq_opg s18 rfl rfl rfl rfl (of_decide_eq_true rfl) (fun hb => (Ob.uncond (t := 17) hb rfl (ob_gtr rfl (.tmp rfl) (opd_int rfl)))) fun a19 w19 s19 => ?_; clear s18
  refine seq_op s19 rfl rfl (of_decide_eq_true rfl) (ob_or2 rfl (.tmp rfl) opd_bool (.tmp rfl)) fun a20 w20 s20 => ?_; clear s19
  refine seq_op s20 rfl rfl (of_decide_eq_true rfl) (ob_move rfl (.tmp rfl)) fun a21 w21 s21 => ?_; clear s20
  refine seq_opg s21 rfl rfl rfl rfl (of_decide_eq_true rfl) (fun hb => ob_fieldAddr (off' := 69) rfl Try.underlying44 rfl sz9 (by decide) (.tmp rfl) rfl) fun a22 w22 s22 => ?_; clear s21
  refine seq_opg s22 rfl rfl rfl rfl (of_decide_eq_true rfl) (fun hb => (Ob.uncond (t := 21) hb rfl (ob_load rfl tk9 (.tmp rfl) (.head _) (lg_api_Op_Text p1)))) fun a23 w23 s23 => ?_; clear s22
  refine seq_opg s23 rfl rfl rfl rfl (of_decide_eq_true rfl) (fun hb => (Ob.uncond (t := 22) hb rfl (ob_lenStr rfl Try.underlying9 (.tmp rfl)))) fun a24 w24 s24 => ?_; clear s23
  refine seq_opg s24 rfl rfl rfl rfl (of_decide_eq_true rfl) (fun hb => (Ob.uncond (t := 23) hb rfl (ob_gtr rfl (.tmp rfl) (opd_int rfl)))) fun a25 w25 s25 => ?_; clear s24
  obtain ⟨x2, e_x2, h2⟩ := bind_some h1; clear h1; replace e_x2 := Option.some.inj e_x2
  refine seq_op s25 rfl rfl (of_decide_eq_true rfl) ((ob_or2 rfl (.tmp rfl) opd_bool (.tmp rfl)).nm e_x2) fun a26 w26 s26 => ?_; clear s25
  refine wpList_nil ?_
  refine then_normal ?_
  refine hK3 _ _ ?_
  have s27 := s26.sub (.cons (t := 1) rfl (.cons (t := 25) rfl .nil)); clear s26
  refine cond_split s27 (.tmp rfl) (fun hc1 => ?_) (fun hc1 => ?_)
  · replace h2 := ite_t hc1 h2
    have h3 := h2; clear h2
    refine wp_seq_k fun K4 hK4 => ?_
    refine wp_region_lit ?_
    refine seq_op s27 rfl rfl (of_decide_eq_true rfl) (ob_assign rfl opd_bool) fun a28 w28 s28 => ?_; clear s27
    refine wpList_nil ?_
    refine then_normal ?_
    refine hK4 _ _ ?_
    have s29 := s28.sub (.cons (t := 2) rfl .nil); clear s28
    have s30 := St.drop (A := []) s29; clear s29
    refine wp_ret ?_
    obtain rfl := Option.some.inj h3
    exact leave s30 (.inl rfl) rfl (.cons (.tmp rfl) .nil)
  · replace h2 := ite_f hc1 h2
    have h4 := h2; clear h2
    refine wp_skip ?_
    refine then_normal ?_
    refine hK2 _ _ ?_
    have s31 := s27.sub (.cons (t := 1) rfl .nil); clear s27
    refine wp_seq_k fun K5 hK5 => ?_
    refine wp_seq_k fun K6 hK6 => ?_
    refine wp_region_lit ?_
    refine seq_op s31 rfl rfl (of_decide_eq_true rfl) (ob_assign rfl (opd_int rfl)) fun a32 w32 s32 => ?_; clear s31
    refine wpList_nil ?_
    refine then_normal ?_
    refine hK6 _ _ ?_
    have s33 := s32.sub (.cons (t := 1) rfl (.cons (t := 3) rfl .nil)); clear s32
    have hj1 : ∀ (a : Act) (w : World), (cabalref11_Great.j1 k) = some r → St ⟨41, w0, ok, []⟩ [] [] a w → K5 a w := by
      intro a34 w34 h5 s34
      unfold cabalref11_Great.j1 at h5
      refine hK5 _ _ ?_
      refine wp_seq_k fun K7 hK7 => ?_
      refine wp_region_lit ?_
      refine seq_op s34 rfl rfl (of_decide_eq_true rfl) (ob_assign rfl opd_bool) fun a35 w35 s35 => ?_; clear s34
      refine wpList_nil ?_
      refine then_normal ?_
      refine hK7 _ _ ?_
      have s36 := s35.sub (.cons (t := 2) rfl .nil); clear s35
      refine wp_ret ?_
      obtain rfl := Option.some.inj h5
      exact leave s36 (.inl rfl) rfl (.cons (.tmp rfl) .nil)
    refine wp_block ?_
    refine wp_loop_fuel (fun m (q : Int) => cabalref11_Great.l1 k p1 m q) r (fun _ => rfl) (fun q a w => St ⟨41, w0, ok, []⟩ [BF b1 44 k_api_Op p1] [(1, (ptrB b1 0)), (3, ((kint .i64).V q))] a w) ?_ k (0 : Int) _ _ h4 (s33.sub (.cons rfl (.cons rfl .nil)))
    rintro n1 y1 a37 w37 h6 s37 K8 hK8
    replace h6 : cabalref11_Great.l1 k p1 (n1 + 1) y1 = some r := h6; rw [cabalref11_Great.l1] at h6
    have h7 := h6; clear h6
    refine wp_seq_k fun K9 hK9 => ?_
    refine wp_seq_k fun K10 hK10 => ?_
    refine wp_region_lit ?_
    refine seq_op s37 rfl rfl (of_decide_eq_true rfl) (ob_move rfl (.tmp rfl)) fun a38 w38 s38 => ?_; clear s37
    refine seq_op s38 rfl rfl (of_decide_eq_true rfl) (ob_fieldAddr (off' := 70) rfl Try.underlying44 rfl sz42 (by decide) (.tmp rfl) rfl) fun a39 w39 s39 => ?_; clear s38
    refine seq_op s39 rfl rfl (of_decide_eq_true rfl) (ob_load rfl tk42 (.tmp rfl) (.head _) (lg_api_Op_Boxes p1)) fun a40 w40 s40 => ?_; clear s39
    refine seq_op s40 rfl rfl (of_decide_eq_true rfl) (ob_lens rfl Try.underlying42 (.tmp rfl)) fun a41 w41 s41 => ?_; clear s40
    refine seq_op s41 rfl rfl (of_decide_eq_true rfl) (ob_lss rfl (.tmp rfl) (.tmp rfl)) fun a42 w42 s42 => ?_; clear s41
    refine wpList_nil ?_
    refine then_normal ?_
    refine hK10 _ _ ?_
    have s43 := s42.sub (.cons (t := 1) rfl (.cons (t := 3) rfl (.cons (t := 30) rfl .nil))); clear s42
    refine cond_split s43 (.tmp rfl) (fun hc2 => ?_) (fun hc2 => ?_)
    · replace h7 := ite_t hc2 h7
      have h8 := h7; clear h7
      refine wp_skip ?_
      refine then_normal ?_
      refine hK9 _ _ ?_
      have s44 := s43.sub (.cons (t := 1) rfl (.cons (t := 3) rfl .nil)); clear s43
      refine wp_seq_k fun K11 hK11 => ?_
      refine wp_block ?_
      refine wp_seq_k fun K12 hK12 => ?_
      refine wp_region_lit ?_
      refine seq_op s44 rfl rfl (of_decide_eq_true rfl) (ob_fieldAddr (off' := 70) rfl Try.underlying44 rfl sz42 (by decide) (.tmp rfl) rfl) fun a45 w45 s45 => ?_; clear s44
      refine seq_op s45 rfl rfl (of_decide_eq_true rfl) (ob_load rfl tk42 (.tmp rfl) (.head _) (lg_api_Op_Boxes p1)) fun a46 w46 s46 => ?_; clear s45
      refine seq_op s46 rfl rfl (of_decide_eq_true rfl) (ob_move rfl (.tmp rfl)) fun a47 w47 s47 => ?_; clear s46
      obtain ⟨x3, e_x3, h9⟩ := bind_some h8; clear h8
      refine seq_op s47 rfl rfl (of_decide_eq_true rfl) (ob_indexAddrs rfl Try.underlying42 sz78 (.tmp rfl) (.tmp rfl) e_x3) fun a48 w48 s48 => ?_; clear s47
      refine seq_op s48 rfl rfl (of_decide_eq_true rfl) (ob_fieldAddrr rfl Try.underlying78 rfl sz9 (by decide) (.tmp rfl) (lg_api_Box_Body x3)) fun a49 w49 s49 => ?_; clear s48
      refine seq_op s49 rfl rfl (of_decide_eq_true rfl) (ob_loadr rfl tk9 (.tmp rfl)) fun a50 w50 s50 => ?_; clear s49
      refine seq_op s50 rfl rfl (of_decide_eq_true rfl) (ob_lenStr rfl Try.underlying9 (.tmp rfl)) fun a51 w51 s51 => ?_; clear s50
      refine seq_op s51 rfl rfl (of_decide_eq_true rfl) (ob_gtr rfl (.tmp rfl) (opd_int rfl)) fun a52 w52 s52 => ?_; clear s51
      refine wpList_nil ?_
      refine then_normal ?_
      refine hK12 _ _ ?_
      have s53 := s52.sub (.cons (t := 1) rfl (.cons (t := 3) rfl (.cons (t := 40) rfl .nil))); clear s52
      refine cond_split s53 (.tmp rfl) (fun hc3 => ?_) (fun hc3 => ?_)
      · replace h9 := ite_t hc3 h9
        have h10 := h9; clear h9
        refine wp_seq_k fun K13 hK13 => ?_
        refine wp_region_lit ?_
        refine seq_op s53 rfl rfl (of_decide_eq_true rfl) (ob_assign rfl opd_bool) fun a54 w54 s54 => ?_; clear s53
        refine wpList_nil ?_
        refine then_normal ?_
        refine hK13 _ _ ?_
        have s55 := s54.sub (.cons (t := 2) rfl .nil); clear s54
        have s56 := St.drop (A := []) s55; clear s55
        refine wp_ret ?_
        obtain rfl := Option.some.inj h10
        exact leave s56 (.inl rfl) rfl (.cons (.tmp rfl) .nil)
      · replace h9 := ite_f hc3 h9
        have h11 := h9; clear h9
        refine wp_skip ?_
        refine in_normal ?_
        refine then_normal ?_
        refine hK11 _ _ ?_
        have s57 := s53.sub (.cons (t := 1) rfl (.cons (t := 3) rfl .nil)); clear s53
        refine wp_region_lit ?_
        refine seq_op s57 rfl rfl (of_decide_eq_true rfl) (ob_move rfl (.tmp rfl)) fun a58 w58 s58 => ?_; clear s57
        refine seq_op s58 rfl rfl (of_decide_eq_true rfl) (ob_add rfl (.tmp rfl) (opd_int rfl)) fun a59 w59 s59 => ?_; clear s58
        refine seq_op s59 rfl rfl (of_decide_eq_true rfl) (ob_assign rfl (.tmp rfl)) fun a60 w60 s60 => ?_; clear s59
        refine wpList_nil ?_
        refine then_normal ?_
        exact hK8 (iadd .i64 y1 (1 : Int)) _ _ h11 (s60.sub (.cons rfl (.cons rfl .nil)))
    · replace h7 := ite_f hc2 h7
      have h12 := h7; clear h7
      refine wp_exit ?_
      refine (then_exit (then_exit (in_here ?_)))
      refine then_normal ?_
      have s61 := St.drop (A := []) s43; clear s43
      exact hj1 _ _ h12 (s61.sub .nil)

end Go.Proofs.Ytdlnfgpcnfbjiaa
