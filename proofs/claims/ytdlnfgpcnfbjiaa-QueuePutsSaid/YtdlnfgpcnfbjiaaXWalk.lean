/- Each function's code comes to what its plain function answers. No condition. -/
import Derived.Test.YtdlnfgpcnfbjiaaXWalk3
namespace Go.Proofs.Ytdlnfgpcnfbjiaa
open Go Go.RowKit Go.Proofs.Kit Go.Proofs.Pure
set_option linter.unusedVariables false
set_option linter.unusedSimpArgs false
set_option maxRecDepth 100000
set_option maxHeartbeats 2000000

/- 49 cabal/cabalref08.SameKeys -/
theorem c_cabalref08_SameKeys (k : Nat) (p1 : (List (List Int))) (p2 : (List (List Int))) (r : Bool) (h0 : cabalref08_SameKeys k p1 p2 = some r) (ok : Ok) (w0 : World) (z0 : Value) (z1 : Value) (u0 : ((ksl (karr 32 (kint .u8))).V p1).holds ok w0 z0) (u1 : ((ksl (karr 32 (kint .u8))).V p2).holds ok w0 z1) :
    Gives Try.prog 49 [z0, z1] ok w0 (resFact [kbool.V r]) := by
  unfold cabalref08_SameKeys at h0
  refine enter (N := 26) Try.func49 rfl rfl (of_decide_eq_true rfl) (.cons u0 (.cons u1 .nil)) fun a1 s1 => ?_
  refine wp_seq_k fun K1 hK1 => ?_
  refine wp_region_lit ?_
  refine seq_op s1 rfl rfl (of_decide_eq_true rfl) (ob_assign rfl opd_bool) fun a2 w2 s2 => ?_; clear s1
  refine wpList_nil ?_
  refine then_normal ?_
  refine hK1 _ _ ?_
  have s3 := s2.sub (.cons (t := 0) rfl (.cons (t := 1) rfl .nil)); clear s2
  refine wp_seq_k fun K2 hK2 => ?_
  refine wp_seq_k fun K3 hK3 => ?_
  refine wp_region_lit ?_
  refine seq_op s3 rfl rfl (of_decide_eq_true rfl) (ob_move rfl (.tmp rfl)) fun a4 w4 s4 => ?_; clear s3
  refine seq_op s4 rfl rfl (of_decide_eq_true rfl) (ob_lens rfl Try.underlying40 (.tmp rfl)) fun a5 w5 s5 => ?_; clear s4
  refine seq_op s5 rfl rfl (of_decide_eq_true rfl) (ob_move rfl (.tmp rfl)) fun a6 w6 s6 => ?_; clear s5
  refine seq_op s6 rfl rfl (of_decide_eq_true rfl) (ob_lens rfl Try.underlying40 (.tmp rfl)) fun a7 w7 s7 => ?_; clear s6
  refine seq_op s7 rfl rfl (of_decide_eq_true rfl) (ob_neq rfl (.tmp rfl) (.tmp rfl)) fun a8 w8 s8 => ?_; clear s7
  refine wpList_nil ?_
  refine then_normal ?_
  refine hK3 _ _ ?_
  have s9 := s8.sub (.cons (t := 0) rfl (.cons (t := 1) rfl (.cons (t := 10) rfl .nil))); clear s8
  refine cond_split s9 (.tmp rfl) (fun hc1 => ?_) (fun hc1 => ?_)
  · replace h0 := ite_t hc1 h0
    have h1 := h0; clear h0
    refine wp_seq_k fun K4 hK4 => ?_
    refine wp_region_lit ?_
    refine seq_op s9 rfl rfl (of_decide_eq_true rfl) (ob_assign rfl opd_bool) fun a10 w10 s10 => ?_; clear s9
    refine wpList_nil ?_
    refine then_normal ?_
    refine hK4 _ _ ?_
    have s11 := s10.sub (.cons (t := 4) rfl .nil); clear s10
    refine wp_ret ?_
    obtain rfl := Option.some.inj h1
    exact leave s11 (.inl rfl) rfl (.cons (.tmp rfl) .nil)
  · replace h0 := ite_f hc1 h0
    have h2 := h0; clear h0
    refine wp_skip ?_
    refine then_normal ?_
    refine hK2 _ _ ?_
    have s12 := s9.sub (.cons (t := 0) rfl (.cons (t := 1) rfl .nil)); clear s9
    refine wp_seq_k fun K5 hK5 => ?_
    refine wp_seq_k fun K6 hK6 => ?_
    refine wp_region_lit ?_
    refine seq_op s12 rfl rfl (of_decide_eq_true rfl) (ob_assign rfl (opd_int rfl)) fun a13 w13 s13 => ?_; clear s12
    refine wpList_nil ?_
    refine then_normal ?_
    refine hK6 _ _ ?_
    have s14 := s13.sub (.cons (t := 0) rfl (.cons (t := 1) rfl (.cons (t := 5) rfl .nil))); clear s13
    have hj1 : ∀ (a : Act) (w : World), (cabalref08_SameKeys.j1 k) = some r → St ⟨26, w0, ok, []⟩ [] [] a w → K5 a w := by
      intro a15 w15 h3 s15
      unfold cabalref08_SameKeys.j1 at h3
      refine hK5 _ _ ?_
      refine wp_seq_k fun K7 hK7 => ?_
      refine wp_region_lit ?_
      refine seq_op s15 rfl rfl (of_decide_eq_true rfl) (ob_assign rfl opd_bool) fun a16 w16 s16 => ?_; clear s15
      refine wpList_nil ?_
      refine then_normal ?_
      refine hK7 _ _ ?_
      have s17 := s16.sub (.cons (t := 4) rfl .nil); clear s16
      refine wp_ret ?_
      obtain rfl := Option.some.inj h3
      exact leave s17 (.inl rfl) rfl (.cons (.tmp rfl) .nil)
    refine wp_block ?_
    refine wp_loop_fuel (fun m (q : Int) => cabalref08_SameKeys.l1 k p1 p2 m q) r (fun _ => rfl) (fun q a w => St ⟨26, w0, ok, []⟩ [] [(0, ((ksl (karr 32 (kint .u8))).V p1)), (1, ((ksl (karr 32 (kint .u8))).V p2)), (5, ((kint .i64).V q))] a w) ?_ k (0 : Int) _ _ h2 (s14.sub (.cons rfl (.cons rfl (.cons rfl .nil))))
    rintro n1 y1 a18 w18 h4 s18 K8 hK8
    replace h4 : cabalref08_SameKeys.l1 k p1 p2 (n1 + 1) y1 = some r := h4; rw [cabalref08_SameKeys.l1] at h4
    have h5 := h4; clear h4
    refine wp_seq_k fun K9 hK9 => ?_
    refine wp_seq_k fun K10 hK10 => ?_
    refine wp_region_lit ?_
    refine seq_op s18 rfl rfl (of_decide_eq_true rfl) (ob_move rfl (.tmp rfl)) fun a19 w19 s19 => ?_; clear s18
    refine seq_op s19 rfl rfl (of_decide_eq_true rfl) (ob_move rfl (.tmp rfl)) fun a20 w20 s20 => ?_; clear s19
    refine seq_op s20 rfl rfl (of_decide_eq_true rfl) (ob_lens rfl Try.underlying40 (.tmp rfl)) fun a21 w21 s21 => ?_; clear s20
    refine seq_op s21 rfl rfl (of_decide_eq_true rfl) (ob_lss rfl (.tmp rfl) (.tmp rfl)) fun a22 w22 s22 => ?_; clear s21
    refine wpList_nil ?_
    refine then_normal ?_
    refine hK10 _ _ ?_
    have s23 := s22.sub (.cons (t := 0) rfl (.cons (t := 1) rfl (.cons (t := 5) rfl (.cons (t := 14) rfl .nil)))); clear s22
    refine cond_split s23 (.tmp rfl) (fun hc2 => ?_) (fun hc2 => ?_)
    · replace h5 := ite_t hc2 h5
      have h6 := h5; clear h5
      refine wp_skip ?_
      refine then_normal ?_
      refine hK9 _ _ ?_
      have s24 := s23.sub (.cons (t := 0) rfl (.cons (t := 1) rfl (.cons (t := 5) rfl .nil))); clear s23
      refine wp_seq_k fun K11 hK11 => ?_
      refine wp_block ?_
      refine wp_seq_k fun K12 hK12 => ?_
      obtain ⟨x1, e_x1, h7⟩ := bind_some h6; clear h6
      obtain ⟨x2, e_x2, h8⟩ := bind_some h7; clear h7
      refine wp_goes (Fs := [((ksl (karr 32 (kint .u8))).V p1), ((kint .i64).V y1), (ptrTo (karr 32 (kint .u8)) x1), ((karr 32 (kint .u8)).V x1), ((ksl (karr 32 (kint .u8))).V p2), ((kint .i64).V y1), (ptrTo (karr 32 (kint .u8)) x2), ((karr 32 (kint .u8)).V x2)]) (bits := [0, 0, 3, 7, 0, 0, 48, 112, 255]) (m := 8) (todo := 0) mx s24 ?_; clear s24
      refine goes_last (by kernel_rfl) rfl (opsS_cons (.plain _ (Av.old (t := 0) rfl rfl Av.nil) rfl rfl (ob_move rfl (.tmp rfl))) (opsS_cons (.plain _ (Av.old (t := 5) rfl rfl Av.nil) rfl rfl (ob_move rfl (.tmp rfl))) (opsS_cons (.plain _ (Av.new (j := 0) rfl rfl rfl (Av.new (j := 1) rfl rfl rfl Av.nil)) rfl rfl (ob_indexAddrs rfl Try.underlying40 sz39 (.tmp rfl) (.tmp rfl) e_x1)) (opsS_cons (.plain _ (Av.new (j := 2) rfl rfl rfl Av.nil) rfl rfl (ob_loadr rfl tk39 (.tmp rfl))) (opsS_cons (.plain _ (Av.old (t := 1) rfl rfl Av.nil) rfl rfl (ob_move rfl (.tmp rfl))) (opsS_cons (.plain _ (Av.old (t := 5) rfl rfl Av.nil) rfl rfl (ob_move rfl (.tmp rfl))) (opsS_cons (.plain _ (Av.new (j := 4) rfl rfl rfl (Av.new (j := 5) rfl rfl rfl Av.nil)) rfl rfl (ob_indexAddrs rfl Try.underlying40 sz39 (.tmp rfl) (.tmp rfl) e_x2)) (opsS_cons (.plain _ (Av.new (j := 6) rfl rfl rfl Av.nil) rfl rfl (ob_loadr rfl tk39 (.tmp rfl))) opsS_nil)))))))) (out_old (t := 0) rfl rfl (out_old (t := 1) rfl rfl (out_old (t := 5) rfl rfl (out_new (i := 3) (by decide) rfl rfl (out_new (i := 7) (by decide) rfl rfl out_nil))))) fun a25 w25 s25 => ?_
      refine seq_op s25 rfl rfl (of_decide_eq_true rfl) (ob_neqAgg rfl rfl (by kernel_rfl) eq39 (by decide) (.tmp rfl) (.tmp rfl)) fun a26 w26 s26 => ?_; clear s25
      refine wpList_nil ?_
      refine then_normal ?_
      refine hK12 _ _ ?_
      have s27 := s26.sub (.cons (t := 0) rfl (.cons (t := 1) rfl (.cons (t := 5) rfl (.cons (t := 25) rfl .nil)))); clear s26
      refine cond_split s27 (.tmp rfl) (fun hc3 => ?_) (fun hc3 => ?_)
      · replace h8 := ite_t hc3 h8
        have h9 := h8; clear h8
        refine wp_seq_k fun K13 hK13 => ?_
        refine wp_region_lit ?_
        refine seq_op s27 rfl rfl (of_decide_eq_true rfl) (ob_assign rfl opd_bool) fun a28 w28 s28 => ?_; clear s27
        refine wpList_nil ?_
        refine then_normal ?_
        refine hK13 _ _ ?_
        have s29 := s28.sub (.cons (t := 4) rfl .nil); clear s28
        refine wp_ret ?_
        obtain rfl := Option.some.inj h9
        exact leave s29 (.inl rfl) rfl (.cons (.tmp rfl) .nil)
      · replace h8 := ite_f hc3 h8
        have h10 := h8; clear h8
        refine wp_skip ?_
        refine in_normal ?_
        refine then_normal ?_
        refine hK11 _ _ ?_
        have s30 := s27.sub (.cons (t := 0) rfl (.cons (t := 1) rfl (.cons (t := 5) rfl .nil))); clear s27
        refine wp_region_lit ?_
        refine seq_op s30 rfl rfl (of_decide_eq_true rfl) (ob_move rfl (.tmp rfl)) fun a31 w31 s31 => ?_; clear s30
        refine seq_op s31 rfl rfl (of_decide_eq_true rfl) (ob_add rfl (.tmp rfl) (opd_int rfl)) fun a32 w32 s32 => ?_; clear s31
        refine seq_op s32 rfl rfl (of_decide_eq_true rfl) (ob_assign rfl (.tmp rfl)) fun a33 w33 s33 => ?_; clear s32
        refine wpList_nil ?_
        refine then_normal ?_
        exact hK8 (iadd .i64 y1 (1 : Int)) _ _ h10 (s33.sub (.cons rfl (.cons rfl (.cons rfl .nil))))
    · replace h5 := ite_f hc2 h5
      have h11 := h5; clear h5
      refine wp_exit ?_
      refine (then_exit (then_exit (in_here ?_)))
      refine then_normal ?_
      exact hj1 _ _ h11 (s23.sub .nil)

/- 68 cabal/cabalref19.Same -/
theorem c_cabalref19_Same (k : Nat) (p1 : (List api_Held)) (p2 : (List api_Held)) (r : Bool) (h0 : cabalref19_Same k p1 p2 = some r) (ok : Ok) (w0 : World) (z0 : Value) (z1 : Value) (u0 : ((ksl k_api_Held).V p1).holds ok w0 z0) (u1 : ((ksl k_api_Held).V p2).holds ok w0 z1) :
    Gives Try.prog 68 [z0, z1] ok w0 (resFact [kbool.V r]) := by
  unfold cabalref19_Same at h0
  refine enter (N := 56) Try.func68 rfl rfl (of_decide_eq_true rfl) (.cons u0 (.cons u1 .nil)) fun a1 s1 => ?_
  refine wp_seq_k fun K1 hK1 => ?_
  refine wp_region_lit ?_
  refine seq_op s1 rfl rfl (of_decide_eq_true rfl) (ob_assign rfl opd_bool) fun a2 w2 s2 => ?_; clear s1
  refine wpList_nil ?_
  refine then_normal ?_
  refine hK1 _ _ ?_
  have s3 := s2.sub (.cons (t := 0) rfl (.cons (t := 1) rfl .nil)); clear s2
  refine wp_seq_k fun K2 hK2 => ?_
  refine wp_seq_k fun K3 hK3 => ?_
  refine wp_region_lit ?_
  refine seq_op s3 rfl rfl (of_decide_eq_true rfl) (ob_move rfl (.tmp rfl)) fun a4 w4 s4 => ?_; clear s3
  refine seq_op s4 rfl rfl (of_decide_eq_true rfl) (ob_lens rfl Try.underlying85 (.tmp rfl)) fun a5 w5 s5 => ?_; clear s4
  refine seq_op s5 rfl rfl (of_decide_eq_true rfl) (ob_move rfl (.tmp rfl)) fun a6 w6 s6 => ?_; clear s5
  refine seq_op s6 rfl rfl (of_decide_eq_true rfl) (ob_lens rfl Try.underlying85 (.tmp rfl)) fun a7 w7 s7 => ?_; clear s6
  refine seq_op s7 rfl rfl (of_decide_eq_true rfl) (ob_neq rfl (.tmp rfl) (.tmp rfl)) fun a8 w8 s8 => ?_; clear s7
  refine wpList_nil ?_
  refine then_normal ?_
  refine hK3 _ _ ?_
  have s9 := s8.sub (.cons (t := 0) rfl (.cons (t := 1) rfl (.cons (t := 10) rfl .nil))); clear s8
  refine cond_split s9 (.tmp rfl) (fun hc1 => ?_) (fun hc1 => ?_)
  · replace h0 := ite_t hc1 h0
    have h1 := h0; clear h0
    refine wp_seq_k fun K4 hK4 => ?_
    refine wp_region_lit ?_
    refine seq_op s9 rfl rfl (of_decide_eq_true rfl) (ob_assign rfl opd_bool) fun a10 w10 s10 => ?_; clear s9
    refine wpList_nil ?_
    refine then_normal ?_
    refine hK4 _ _ ?_
    have s11 := s10.sub (.cons (t := 4) rfl .nil); clear s10
    refine wp_ret ?_
    obtain rfl := Option.some.inj h1
    exact leave s11 (.inl rfl) rfl (.cons (.tmp rfl) .nil)
  · replace h0 := ite_f hc1 h0
    have h2 := h0; clear h0
    refine wp_skip ?_
    refine then_normal ?_
    refine hK2 _ _ ?_
    have s12 := s9.sub (.cons (t := 0) rfl (.cons (t := 1) rfl .nil)); clear s9
    refine wp_seq_k fun K5 hK5 => ?_
    refine wp_seq_k fun K6 hK6 => ?_
    refine wp_region_lit ?_
    refine seq_op s12 rfl rfl (of_decide_eq_true rfl) (ob_assign rfl (opd_int rfl)) fun a13 w13 s13 => ?_; clear s12
    refine wpList_nil ?_
    refine then_normal ?_
    refine hK6 _ _ ?_
    have s14 := s13.sub (.cons (t := 0) rfl (.cons (t := 1) rfl (.cons (t := 5) rfl .nil))); clear s13
    have hj1 : ∀ (a : Act) (w : World), (cabalref19_Same.j1 k) = some r → St ⟨56, w0, ok, []⟩ [] [] a w → K5 a w := by
      intro a15 w15 h3 s15
      unfold cabalref19_Same.j1 at h3
      refine hK5 _ _ ?_
      refine wp_seq_k fun K7 hK7 => ?_
      refine wp_region_lit ?_
      refine seq_op s15 rfl rfl (of_decide_eq_true rfl) (ob_assign rfl opd_bool) fun a16 w16 s16 => ?_; clear s15
      refine wpList_nil ?_
      refine then_normal ?_
      refine hK7 _ _ ?_
      have s17 := s16.sub (.cons (t := 4) rfl .nil); clear s16
      refine wp_ret ?_
      obtain rfl := Option.some.inj h3
      exact leave s17 (.inl rfl) rfl (.cons (.tmp rfl) .nil)
    refine wp_block ?_
    refine wp_loop_fuel (fun m (q : Int) => cabalref19_Same.l1 k p1 p2 m q) r (fun _ => rfl) (fun q a w => St ⟨56, w0, ok, []⟩ [] [(0, ((ksl k_api_Held).V p1)), (1, ((ksl k_api_Held).V p2)), (5, ((kint .i64).V q))] a w) ?_ k (0 : Int) _ _ h2 (s14.sub (.cons rfl (.cons rfl (.cons rfl .nil))))
    rintro n1 y1 a18 w18 h4 s18 K8 hK8
    replace h4 : cabalref19_Same.l1 k p1 p2 (n1 + 1) y1 = some r := h4; rw [cabalref19_Same.l1] at h4
    have h5 := h4; clear h4
    refine wp_seq_k fun K9 hK9 => ?_
    refine wp_seq_k fun K10 hK10 => ?_
    refine wp_region_lit ?_
    refine seq_op s18 rfl rfl (of_decide_eq_true rfl) (ob_move rfl (.tmp rfl)) fun a19 w19 s19 => ?_; clear s18
    refine seq_op s19 rfl rfl (of_decide_eq_true rfl) (ob_move rfl (.tmp rfl)) fun a20 w20 s20 => ?_; clear s19
    refine seq_op s20 rfl rfl (of_decide_eq_true rfl) (ob_lens rfl Try.underlying85 (.tmp rfl)) fun a21 w21 s21 => ?_; clear s20
    refine seq_op s21 rfl rfl (of_decide_eq_true rfl) (ob_lss rfl (.tmp rfl) (.tmp rfl)) fun a22 w22 s22 => ?_; clear s21
    refine wpList_nil ?_
    refine then_normal ?_
    refine hK10 _ _ ?_
    have s23 := s22.sub (.cons (t := 0) rfl (.cons (t := 1) rfl (.cons (t := 5) rfl (.cons (t := 14) rfl .nil)))); clear s22
    refine cond_split s23 (.tmp rfl) (fun hc2 => ?_) (fun hc2 => ?_)
    · replace h5 := ite_t hc2 h5
      have h6 := h5; clear h5
      refine wp_skip ?_
      refine then_normal ?_
      refine hK9 _ _ ?_
      have s24 := s23.sub (.cons (t := 0) rfl (.cons (t := 1) rfl (.cons (t := 5) rfl .nil))); clear s23
      refine wp_seq_k fun K11 hK11 => ?_
      refine wp_block ?_
      refine wp_seq_k fun K12 hK12 => ?_
      obtain ⟨x1, e_x1, h7⟩ := bind_some h6; clear h6
      obtain ⟨x2, e_x2, h8⟩ := bind_some h7; clear h7
      obtain ⟨x3, e_x3, h9⟩ := bind_some h8; clear h8
      obtain ⟨x4, e_x4, h10⟩ := bind_some h9; clear h9
      obtain ⟨x5, e_x5, h11⟩ := bind_some h10; clear h10
      obtain ⟨x6, e_x6, h12⟩ := bind_some h11; clear h11
      obtain ⟨x7, e_x7, h13⟩ := bind_some h12; clear h12
      refine wp_goes (Fs := [((ksl k_api_Held).V p1), ((kint .i64).V y1), (ptrTo k_api_Held x1), (ptrTo (karr 32 (kint .u8)) x1.Id), ((karr 32 (kint .u8)).V x1.Id), ((ksl k_api_Held).V p2), ((kint .i64).V y1), (ptrTo k_api_Held x2), (ptrTo (karr 32 (kint .u8)) x2.Id), ((karr 32 (kint .u8)).V x2.Id), (kbool.V (!decide (x1.Id = x2.Id))), (kbool.V (!decide (x1.Id = x2.Id))), (Fact.when ((!decide (x1.Id = x2.Id)) == false) ((ksl k_api_Held).V p1)), (Fact.when ((!decide (x1.Id = x2.Id)) == false) ((kint .i64).V y1)), (Fact.when ((!decide (x1.Id = x2.Id)) == false) (ptrTo k_api_Held x3)), (Fact.when ((!decide (x1.Id = x2.Id)) == false) (ptrTo k_api_Op x3.Op)), (Fact.when ((!decide (x1.Id = x2.Id)) == false) (k_api_Op.V x3.Op)), (Fact.when ((!decide (x1.Id = x2.Id)) == false) ((ksl k_api_Held).V p2)), (Fact.when ((!decide (x1.Id = x2.Id)) == false) ((kint .i64).V y1)), (Fact.when ((!decide (x1.Id = x2.Id)) == false) (ptrTo k_api_Held x4)), (Fact.when ((!decide (x1.Id = x2.Id)) == false) (ptrTo k_api_Op x4.Op)), (Fact.when ((!decide (x1.Id = x2.Id)) == false) (k_api_Op.V x4.Op)), (Fact.when ((!decide (x1.Id = x2.Id)) == false) (kbool.V x5)), (Fact.when ((!decide (x1.Id = x2.Id)) == false) (kbool.V (!x5))), (kbool.V (if (!decide (x1.Id = x2.Id)) then true else (!x5))), (kbool.V (if (!decide (x1.Id = x2.Id)) then true else (!x5))), (Fact.when ((if (!decide (x1.Id = x2.Id)) then true else (!x5)) == false) ((ksl k_api_Held).V p1)), (Fact.when ((if (!decide (x1.Id = x2.Id)) then true else (!x5)) == false) ((kint .i64).V y1)), (Fact.when ((if (!decide (x1.Id = x2.Id)) then true else (!x5)) == false) (ptrTo k_api_Held x6)), (Fact.when ((if (!decide (x1.Id = x2.Id)) then true else (!x5)) == false) (ptrTo (ksl (karr 32 (kint .u8))) x6.Got)), (Fact.when ((if (!decide (x1.Id = x2.Id)) then true else (!x5)) == false) ((ksl (karr 32 (kint .u8))).V x6.Got)), (Fact.when ((if (!decide (x1.Id = x2.Id)) then true else (!x5)) == false) ((ksl k_api_Held).V p2)), (Fact.when ((if (!decide (x1.Id = x2.Id)) then true else (!x5)) == false) ((kint .i64).V y1)), (Fact.when ((if (!decide (x1.Id = x2.Id)) then true else (!x5)) == false) (ptrTo k_api_Held x7)), (Fact.when ((if (!decide (x1.Id = x2.Id)) then true else (!x5)) == false) (ptrTo (ksl (karr 32 (kint .u8))) x7.Got)), (Fact.when ((if (!decide (x1.Id = x2.Id)) then true else (!x5)) == false) ((ksl (karr 32 (kint .u8))).V x7.Got))]) (bits := [0, 0, 3, 7, 15, 0, 0, 96, 224, 480, 1023, 2047, 4095, 4095, 16383, 32767, 65535, 4095, 4095, 397311, 921599, 1970175, 4194303, 8388607, 16777215, 33554431, 67108863, 67108863, 268435455, 536870911, 1073741823, 67108863, 67108863, 6509559807, 15099494399, 32279363583, 68719476735, 137438953471, 274877906943]) (m := 36) (todo := 0) mx s24 ?_; clear s24
      refine goes_last (by kernel_rfl) rfl (opsS_cons (.plain _ (Av.old (t := 0) rfl rfl Av.nil) rfl rfl (ob_move rfl (.tmp rfl))) (opsS_cons (.plain _ (Av.old (t := 5) rfl rfl Av.nil) rfl rfl (ob_move rfl (.tmp rfl))) (opsS_cons (.plain _ (Av.new (j := 0) rfl rfl rfl (Av.new (j := 1) rfl rfl rfl Av.nil)) rfl rfl (ob_indexAddrs rfl Try.underlying85 sz91 (.tmp rfl) (.tmp rfl) e_x1)) (opsS_cons (.plain _ (Av.new (j := 2) rfl rfl rfl Av.nil) rfl rfl (ob_fieldAddrr rfl Try.underlying91 rfl sz39 (by decide) (.tmp rfl) (lg_api_Held_Id x1))) (opsS_cons (.plain _ (Av.new (j := 3) rfl rfl rfl Av.nil) rfl rfl (ob_loadr rfl tk39 (.tmp rfl))) (opsS_cons (.plain _ (Av.old (t := 1) rfl rfl Av.nil) rfl rfl (ob_move rfl (.tmp rfl))) (opsS_cons (.plain _ (Av.old (t := 5) rfl rfl Av.nil) rfl rfl (ob_move rfl (.tmp rfl))) (opsS_cons (.plain _ (Av.new (j := 5) rfl rfl rfl (Av.new (j := 6) rfl rfl rfl Av.nil)) rfl rfl (ob_indexAddrs rfl Try.underlying85 sz91 (.tmp rfl) (.tmp rfl) e_x2)) (opsS_cons (.plain _ (Av.new (j := 7) rfl rfl rfl Av.nil) rfl rfl (ob_fieldAddrr rfl Try.underlying91 rfl sz39 (by decide) (.tmp rfl) (lg_api_Held_Id x2))) (opsS_cons (.plain _ (Av.new (j := 8) rfl rfl rfl Av.nil) rfl rfl (ob_loadr rfl tk39 (.tmp rfl))) (opsS_cons (.plain _ (Av.new (j := 4) rfl rfl rfl (Av.new (j := 9) rfl rfl rfl Av.nil)) rfl rfl (ob_neqAgg rfl rfl (by kernel_rfl) eq39 (by decide) (.tmp rfl) (.tmp rfl))) (opsS_cons (.plain _ (Av.new (j := 10) rfl rfl rfl Av.nil) rfl rfl (ob_move rfl (.tmp rfl))) (opsS_cons (.guarded _ (Av.old (t := 0) rfl rfl (Av.new (j := 11) rfl rfl rfl Av.nil)) rfl rfl rfl rfl (fun hb => ob_move rfl (.tmp rfl))) (opsS_cons (.guarded _ (Av.old (t := 5) rfl rfl (Av.new (j := 11) rfl rfl rfl Av.nil)) rfl rfl rfl rfl (fun hb => ob_move rfl (.tmp rfl))) (opsS_cons (.guarded _ (Av.new (j := 11) rfl rfl rfl (Av.new (j := 12) rfl rfl rfl (Av.new (j := 13) rfl rfl rfl Av.nil))) rfl rfl rfl rfl (fun hb => (Ob.uncond (t := 30) hb rfl ((Ob.uncond (t := 29) hb rfl (ob_indexAddrs rfl Try.underlying85 sz91 (.tmp rfl) (.tmp rfl) (ite_t hb e_x3))))))) (opsS_cons (.guarded _ (Av.new (j := 11) rfl rfl rfl (Av.new (j := 14) rfl rfl rfl Av.nil)) rfl rfl rfl rfl (fun hb => (Ob.uncond (t := 31) hb rfl (ob_fieldAddrr rfl Try.underlying91 rfl sz44 (by decide) (.tmp rfl) (lg_api_Held_Op x3))))) (opsS_cons (.guarded _ (Av.new (j := 11) rfl rfl rfl (Av.new (j := 15) rfl rfl rfl Av.nil)) rfl rfl rfl rfl (fun hb => (Ob.uncond (t := 32) hb rfl (ob_loadr rfl tk44 (.tmp rfl))))) (opsS_cons (.guarded _ (Av.old (t := 1) rfl rfl (Av.new (j := 11) rfl rfl rfl Av.nil)) rfl rfl rfl rfl (fun hb => ob_move rfl (.tmp rfl))) (opsS_cons (.guarded _ (Av.old (t := 5) rfl rfl (Av.new (j := 11) rfl rfl rfl Av.nil)) rfl rfl rfl rfl (fun hb => ob_move rfl (.tmp rfl))) (opsS_cons (.guarded _ (Av.new (j := 11) rfl rfl rfl (Av.new (j := 17) rfl rfl rfl (Av.new (j := 18) rfl rfl rfl Av.nil))) rfl rfl rfl rfl (fun hb => (Ob.uncond (t := 35) hb rfl ((Ob.uncond (t := 34) hb rfl (ob_indexAddrs rfl Try.underlying85 sz91 (.tmp rfl) (.tmp rfl) (ite_t hb e_x4))))))) (opsS_cons (.guarded _ (Av.new (j := 11) rfl rfl rfl (Av.new (j := 19) rfl rfl rfl Av.nil)) rfl rfl rfl rfl (fun hb => (Ob.uncond (t := 36) hb rfl (ob_fieldAddrr rfl Try.underlying91 rfl sz44 (by decide) (.tmp rfl) (lg_api_Held_Op x4))))) (opsS_cons (.guarded _ (Av.new (j := 11) rfl rfl rfl (Av.new (j := 20) rfl rfl rfl Av.nil)) rfl rfl rfl rfl (fun hb => (Ob.uncond (t := 37) hb rfl (ob_loadr rfl tk44 (.tmp rfl))))) (opsS_cons (.guarded _ (Av.new (j := 11) rfl rfl rfl (Av.new (j := 16) rfl rfl rfl (Av.new (j := 21) rfl rfl rfl Av.nil))) rfl rfl rfl rfl (fun hb => (Ob.uncond (t := 38) hb rfl ((Ob.uncond (t := 33) hb rfl (ob_callD (args := [_, _]) rfl .direct hb103 (fun a w s fs gs hf hg => by obtain rfl := hf.unnil; obtain rfl := hg.unnil; exact c_cabalref11_SameOp k _ _ _ (ite_t hb e_x5) _ _ _ _ (s.arg (.tmp rfl)) (s.arg (.tmp rfl))))))))) (opsS_cons (.guarded _ (Av.new (j := 11) rfl rfl rfl (Av.new (j := 22) rfl rfl rfl Av.nil)) rfl rfl rfl rfl (fun hb => (Ob.uncond (t := 39) hb rfl (ob_not rfl (.tmp rfl))))) (opsS_cons (.plain _ (Av.new (j := 11) rfl rfl rfl (Av.new (j := 23) rfl rfl rfl Av.nil)) rfl rfl (ob_or2 rfl (.tmp rfl) opd_bool (.tmp rfl))) (opsS_cons (.plain _ (Av.new (j := 24) rfl rfl rfl Av.nil) rfl rfl (ob_move rfl (.tmp rfl))) (opsS_cons (.guarded _ (Av.old (t := 0) rfl rfl (Av.new (j := 25) rfl rfl rfl Av.nil)) rfl rfl rfl rfl (fun hb => ob_move rfl (.tmp rfl))) (opsS_cons (.guarded _ (Av.old (t := 5) rfl rfl (Av.new (j := 25) rfl rfl rfl Av.nil)) rfl rfl rfl rfl (fun hb => ob_move rfl (.tmp rfl))) (opsS_cons (.guarded _ (Av.new (j := 25) rfl rfl rfl (Av.new (j := 26) rfl rfl rfl (Av.new (j := 27) rfl rfl rfl Av.nil))) rfl rfl rfl rfl (fun hb => (Ob.uncond (t := 44) hb rfl ((Ob.uncond (t := 43) hb rfl (ob_indexAddrs rfl Try.underlying85 sz91 (.tmp rfl) (.tmp rfl) (ite_t hb e_x6))))))) (opsS_cons (.guarded _ (Av.new (j := 25) rfl rfl rfl (Av.new (j := 28) rfl rfl rfl Av.nil)) rfl rfl rfl rfl (fun hb => (Ob.uncond (t := 45) hb rfl (ob_fieldAddrr rfl Try.underlying91 rfl sz40 (by decide) (.tmp rfl) (lg_api_Held_Got x6))))) (opsS_cons (.guarded _ (Av.new (j := 25) rfl rfl rfl (Av.new (j := 29) rfl rfl rfl Av.nil)) rfl rfl rfl rfl (fun hb => (Ob.uncond (t := 46) hb rfl (ob_loadr rfl tk40 (.tmp rfl))))) (opsS_cons (.guarded _ (Av.old (t := 1) rfl rfl (Av.new (j := 25) rfl rfl rfl Av.nil)) rfl rfl rfl rfl (fun hb => ob_move rfl (.tmp rfl))) (opsS_cons (.guarded _ (Av.old (t := 5) rfl rfl (Av.new (j := 25) rfl rfl rfl Av.nil)) rfl rfl rfl rfl (fun hb => ob_move rfl (.tmp rfl))) (opsS_cons (.guarded _ (Av.new (j := 25) rfl rfl rfl (Av.new (j := 31) rfl rfl rfl (Av.new (j := 32) rfl rfl rfl Av.nil))) rfl rfl rfl rfl (fun hb => (Ob.uncond (t := 49) hb rfl ((Ob.uncond (t := 48) hb rfl (ob_indexAddrs rfl Try.underlying85 sz91 (.tmp rfl) (.tmp rfl) (ite_t hb e_x7))))))) (opsS_cons (.guarded _ (Av.new (j := 25) rfl rfl rfl (Av.new (j := 33) rfl rfl rfl Av.nil)) rfl rfl rfl rfl (fun hb => (Ob.uncond (t := 50) hb rfl (ob_fieldAddrr rfl Try.underlying91 rfl sz40 (by decide) (.tmp rfl) (lg_api_Held_Got x7))))) (opsS_cons (.guarded _ (Av.new (j := 25) rfl rfl rfl (Av.new (j := 34) rfl rfl rfl Av.nil)) rfl rfl rfl rfl (fun hb => (Ob.uncond (t := 51) hb rfl (ob_loadr rfl tk40 (.tmp rfl))))) opsS_nil)))))))))))))))))))))))))))))))))))) (out_old (t := 0) rfl rfl (out_old (t := 1) rfl rfl (out_old (t := 5) rfl rfl (out_new (i := 25) (by decide) rfl rfl (out_new (i := 30) (by decide) rfl rfl (out_new (i := 35) (by decide) rfl rfl out_nil)))))) fun a25 w25 s25 => ?_
      obtain ⟨x8, e_x8, h14⟩ := bind_some h13; clear h13
      refine seq_opg s25 rfl rfl rfl rfl (of_decide_eq_true rfl) (fun hb => (Ob.uncond (t := 52) hb rfl ((Ob.uncond (t := 47) hb rfl (ob_callD (args := [_, _]) rfl .direct hb49 (fun a w s fs gs hf hg => by obtain rfl := hf.unnil; obtain rfl := hg.unnil; exact c_cabalref08_SameKeys k _ _ _ (ite_t hb e_x8) _ _ _ _ (s.arg (.tmp rfl)) (s.arg (.tmp rfl)))))))) fun a26 w26 s26 => ?_; clear s25
      refine seq_opg s26 rfl rfl rfl rfl (of_decide_eq_true rfl) (fun hb => (Ob.uncond (t := 53) hb rfl (ob_not rfl (.tmp rfl)))) fun a27 w27 s27 => ?_; clear s26
      obtain ⟨x9, e_x9, h15⟩ := bind_some h14; clear h14; replace e_x9 := Option.some.inj e_x9
      refine seq_op s27 rfl rfl (of_decide_eq_true rfl) ((ob_or2 rfl (.tmp rfl) opd_bool (.tmp rfl)).nm e_x9) fun a28 w28 s28 => ?_; clear s27
      refine wpList_nil ?_
      refine then_normal ?_
      refine hK12 _ _ ?_
      have s29 := s28.sub (.cons (t := 0) rfl (.cons (t := 1) rfl (.cons (t := 5) rfl (.cons (t := 55) rfl .nil)))); clear s28
      refine cond_split s29 (.tmp rfl) (fun hc3 => ?_) (fun hc3 => ?_)
      · replace h15 := ite_t hc3 h15
        have h16 := h15; clear h15
        refine wp_seq_k fun K13 hK13 => ?_
        refine wp_region_lit ?_
        refine seq_op s29 rfl rfl (of_decide_eq_true rfl) (ob_assign rfl opd_bool) fun a30 w30 s30 => ?_; clear s29
        refine wpList_nil ?_
        refine then_normal ?_
        refine hK13 _ _ ?_
        have s31 := s30.sub (.cons (t := 4) rfl .nil); clear s30
        refine wp_ret ?_
        obtain rfl := Option.some.inj h16
        exact leave s31 (.inl rfl) rfl (.cons (.tmp rfl) .nil)
      · replace h15 := ite_f hc3 h15
        have h17 := h15; clear h15
        refine wp_skip ?_
        refine in_normal ?_
        refine then_normal ?_
        refine hK11 _ _ ?_
        have s32 := s29.sub (.cons (t := 0) rfl (.cons (t := 1) rfl (.cons (t := 5) rfl .nil))); clear s29
        refine wp_region_lit ?_
        refine seq_op s32 rfl rfl (of_decide_eq_true rfl) (ob_move rfl (.tmp rfl)) fun a33 w33 s33 => ?_; clear s32
        refine seq_op s33 rfl rfl (of_decide_eq_true rfl) (ob_add rfl (.tmp rfl) (opd_int rfl)) fun a34 w34 s34 => ?_; clear s33
        refine seq_op s34 rfl rfl (of_decide_eq_true rfl) (ob_assign rfl (.tmp rfl)) fun a35 w35 s35 => ?_; clear s34
        refine wpList_nil ?_
        refine then_normal ?_
        exact hK8 (iadd .i64 y1 (1 : Int)) _ _ h17 (s35.sub (.cons rfl (.cons rfl (.cons rfl .nil))))
    · replace h5 := ite_f hc2 h5
      have h18 := h5; clear h5
      refine wp_exit ?_
      refine (then_exit (then_exit (in_here ?_)))
      refine then_normal ?_
      exact hj1 _ _ h18 (s23.sub .nil)

/- 19 cabal/caballaw19.QueuePuts -/
theorem c_caballaw19_QueuePuts (k : Nat) (p1 : (List api_Held)) (p2 : (List api_Held)) (p3 : api_Held) (p4 : Int) (r : Bool) (h0 : caballaw19_QueuePuts k p1 p2 p3 p4 = some r) (ok : Ok) (w0 : World) (z0 : Value) (z1 : Value) (z2 : Value) (z3 : Value) (u0 : ((ksl k_api_Held).V p1).holds ok w0 z0) (u1 : ((ksl k_api_Held).V p2).holds ok w0 z1) (u2 : (k_api_Held.V p3).holds ok w0 z2) (u3 : ((kint .i64).V p4).holds ok w0 z3) :
    Gives Try.prog 19 [z0, z1, z2, z3] ok w0 (resFact [kbool.V r]) := by
  unfold caballaw19_QueuePuts at h0
  refine enter (N := 114) Try.func19 rfl rfl (of_decide_eq_true rfl) (.cons u0 (.cons u1 (.cons u2 (.cons u3 .nil)))) fun a1 s1 => ?_
  refine wp_seq_k fun K1 hK1 => ?_
  refine wp_region_lit ?_
  refine seq_opx (B' := (fun b1 : Nat => [BF b1 91 k_api_Held p3])) s1 rfl rfl (of_decide_eq_true rfl) (ob_box rfl (.tmp rfl)) fun b1 a2 w2 s2 => ?_; clear s1
  refine seq_op s2 rfl rfl (of_decide_eq_true rfl) (ob_assign rfl opd_bool) fun a3 w3 s3 => ?_; clear s2
  refine wpList_nil ?_
  refine then_normal ?_
  refine hK1 _ _ ?_
  have s4 := s3.sub (.cons (t := 0) rfl (.cons (t := 1) rfl (.cons (t := 3) rfl (.cons (t := 6) rfl .nil)))); clear s3
  refine wp_seq_k fun K2 hK2 => ?_
  refine wp_seq_k fun K3 hK3 => ?_
  refine wp_region_lit ?_
  obtain ⟨x1, e_x1, h1⟩ := bind_some h0; clear h0
  refine seq_op s4 rfl rfl (of_decide_eq_true rfl) (ob_callD (args := []) rfl .direct hb59 (fun a w s fs gs hf hg => by obtain rfl := hf.unnil; obtain rfl := hg.unnil; exact c_caballaw19_alive k _ e_x1 _ _)) fun a5 w5 s5 => ?_; clear s4
  refine seq_op s5 rfl rfl (of_decide_eq_true rfl) (ob_not rfl (.tmp rfl)) fun a6 w6 s6 => ?_; clear s5
  refine wpList_nil ?_
  refine then_normal ?_
  refine hK3 _ _ ?_
  have s7 := s6.sub (.cons (t := 0) rfl (.cons (t := 1) rfl (.cons (t := 3) rfl (.cons (t := 6) rfl (.cons (t := 18) rfl .nil))))); clear s6
  refine cond_split s7 (.tmp rfl) (fun hc1 => ?_) (fun hc1 => ?_)
  · replace h1 := ite_t hc1 h1
    have h2 := h1; clear h1
    refine wp_seq_k fun K4 hK4 => ?_
    refine wp_region_lit ?_
    refine seq_op s7 rfl rfl (of_decide_eq_true rfl) (ob_assign rfl opd_bool) fun a8 w8 s8 => ?_; clear s7
    refine wpList_nil ?_
    refine then_normal ?_
    refine hK4 _ _ ?_
    have s9 := s8.sub (.cons (t := 8) rfl .nil); clear s8
    have s10 := St.drop (A := []) s9; clear s9
    refine wp_ret ?_
    obtain rfl := Option.some.inj h2
    exact leave s10 (.inl rfl) rfl (.cons (.tmp rfl) .nil)
  · replace h1 := ite_f hc1 h1
    have h3 := h1; clear h1
    refine wp_skip ?_
    refine then_normal ?_
    refine hK2 _ _ ?_
    have s11 := s7.sub (.cons (t := 0) rfl (.cons (t := 1) rfl (.cons (t := 3) rfl (.cons (t := 6) rfl .nil)))); clear s7
    refine wp_seq_k fun K5 hK5 => ?_
    refine wp_seq_k fun K6 hK6 => ?_
    refine wp_region_lit ?_
    refine seq_op s11 rfl rfl (of_decide_eq_true rfl) (ob_move rfl (.tmp rfl)) fun a12 w12 s12 => ?_; clear s11
    obtain ⟨x2, e_x2, h4⟩ := bind_some h3; clear h3
    refine seq_op s12 rfl rfl (of_decide_eq_true rfl) (ob_callD (args := [_]) rfl .direct hb60 (fun a w s fs gs hf hg => by obtain rfl := hf.unnil; obtain rfl := hg.unnil; exact c_cabalref19_Great k _ _ e_x2 _ _ _ (s.arg (.tmp rfl)))) fun a13 w13 s13 => ?_; clear s12
    refine seq_op s13 rfl rfl (of_decide_eq_true rfl) (ob_move rfl (.tmp rfl)) fun a14 w14 s14 => ?_; clear s13
    refine seq_opg s14 rfl rfl rfl rfl (of_decide_eq_true rfl) (fun hb => ob_move rfl (.tmp rfl)) fun a15 w15 s15 => ?_; clear s14
    obtain ⟨x3, e_x3, h5⟩ := bind_some h4; clear h4
    refine seq_opg s15 rfl rfl rfl rfl (of_decide_eq_true rfl) (fun hb => (Ob.uncond (t := 22) hb rfl (ob_callD (args := [_]) rfl .direct hb60 (fun a w s fs gs hf hg => by obtain rfl := hf.unnil; obtain rfl := hg.unnil; exact c_cabalref19_Great k _ _ (ite_t hb e_x3) _ _ _ (s.arg (.tmp rfl)))))) fun a16 w16 s16 => ?_; clear s15
    refine seq_op s16 rfl rfl (of_decide_eq_true rfl) (ob_or2 rfl (.tmp rfl) opd_bool (.tmp rfl)) fun a17 w17 s17 => ?_; clear s16
    refine seq_op s17 rfl rfl (of_decide_eq_true rfl) (ob_move rfl (.tmp rfl)) fun a18 w18 s18 => ?_; clear s17
    refine seq_opg s18 rfl rfl rfl rfl (of_decide_eq_true rfl) (fun hb => ob_fieldAddr (off' := 32) rfl Try.underlying91 rfl sz44 (by decide) (.tmp rfl) rfl) fun a19 w19 s19 => ?_; clear s18
    refine seq_opg s19 rfl rfl rfl rfl (of_decide_eq_true rfl) (fun hb => (Ob.uncond (t := 26) hb rfl (ob_load rfl tk44 (.tmp rfl) (.head _) (lg_api_Held_Op p3)))) fun a20 w20 s20 => ?_; clear s19
    obtain ⟨x4, e_x4, h6⟩ := bind_some h5; clear h5
    refine seq_opg s20 rfl rfl rfl rfl (of_decide_eq_true rfl) (fun hb => (Ob.uncond (t := 27) hb rfl (ob_callD (args := [_]) rfl .direct hb51 (fun a w s fs gs hf hg => by obtain rfl := hf.unnil; obtain rfl := hg.unnil; exact c_cabalref11_Great k _ _ (ite_t hb e_x4) _ _ _ (s.arg (.tmp rfl)))))) fun a21 w21 s21 => ?_; clear s20
    refine seq_op s21 rfl rfl (of_decide_eq_true rfl) (ob_or2 rfl (.tmp rfl) opd_bool (.tmp rfl)) fun a22 w22 s22 => ?_; clear s21
    refine seq_op s22 rfl rfl (of_decide_eq_true rfl) (ob_move rfl (.tmp rfl)) fun a23 w23 s23 => ?_; clear s22
    refine seq_opg s23 rfl rfl rfl rfl (of_decide_eq_true rfl) (fun hb => ob_fieldAddr (off' := 103) rfl Try.underlying91 rfl sz40 (by decide) (.tmp rfl) rfl) fun a24 w24 s24 => ?_; clear s23
    refine seq_opg s24 rfl rfl rfl rfl (of_decide_eq_true rfl) (fun hb => (Ob.uncond (t := 31) hb rfl (ob_load rfl tk40 (.tmp rfl) (.head _) (lg_api_Held_Got p3)))) fun a25 w25 s25 => ?_; clear s24
    refine seq_opg s25 rfl rfl rfl rfl (of_decide_eq_true rfl) (fun hb => (Ob.uncond (t := 32) hb rfl (ob_lens rfl Try.underlying40 (.tmp rfl)))) fun a26 w26 s26 => ?_; clear s25
    refine seq_opg s26 rfl rfl rfl rfl (of_decide_eq_true rfl) (fun hb => (Ob.uncond (t := 33) hb rfl (ob_gtr rfl (.tmp rfl) (opd_int rfl)))) fun a27 w27 s27 => ?_; clear s26
    obtain ⟨x5, e_x5, h7⟩ := bind_some h6; clear h6; replace e_x5 := Option.some.inj e_x5
    refine seq_op s27 rfl rfl (of_decide_eq_true rfl) ((ob_or2 rfl (.tmp rfl) opd_bool (.tmp rfl)).nm e_x5) fun a28 w28 s28 => ?_; clear s27
    refine wpList_nil ?_
    refine then_normal ?_
    refine hK6 _ _ ?_
    have s29 := s28.sub (.cons (t := 0) rfl (.cons (t := 1) rfl (.cons (t := 3) rfl (.cons (t := 6) rfl (.cons (t := 35) rfl .nil))))); clear s28
    refine cond_split s29 (.tmp rfl) (fun hc2 => ?_) (fun hc2 => ?_)
    · replace h7 := ite_t hc2 h7
      have h8 := h7; clear h7
      refine wp_seq_k fun K7 hK7 => ?_
      refine wp_region_lit ?_
      obtain ⟨x6, e_x6, h9⟩ := bind_some h8; clear h8
      refine seq_op s29 rfl rfl (of_decide_eq_true rfl) (ob_callD (args := []) rfl .direct hb59 (fun a w s fs gs hf hg => by obtain rfl := hf.unnil; obtain rfl := hg.unnil; exact c_caballaw19_alive k _ e_x6 _ _)) fun a30 w30 s30 => ?_; clear s29
      refine seq_op s30 rfl rfl (of_decide_eq_true rfl) (ob_assign rfl (.tmp rfl)) fun a31 w31 s31 => ?_; clear s30
      refine wpList_nil ?_
      refine then_normal ?_
      refine hK7 _ _ ?_
      have s32 := s31.sub (.cons (t := 8) rfl .nil); clear s31
      have s33 := St.drop (A := []) s32; clear s32
      refine wp_ret ?_
      obtain rfl := Option.some.inj h9
      exact leave s33 (.inl rfl) rfl (.cons (.tmp rfl) .nil)
    · replace h7 := ite_f hc2 h7
      have h10 := h7; clear h7
      refine wp_skip ?_
      refine then_normal ?_
      refine hK5 _ _ ?_
      have s34 := s29.sub (.cons (t := 0) rfl (.cons (t := 1) rfl (.cons (t := 3) rfl (.cons (t := 6) rfl .nil)))); clear s29
      refine wp_seq_k fun K8 hK8 => ?_
      refine wp_region_lit ?_
      refine seq_op s34 rfl rfl (of_decide_eq_true rfl) (ob_move rfl (.tmp rfl)) fun a35 w35 s35 => ?_; clear s34
      refine seq_op s35 rfl rfl (of_decide_eq_true rfl) (ob_load rfl tk91 (.tmp rfl) (.head _) (LG.refl _ _)) fun a36 w36 s36 => ?_; clear s35
      obtain ⟨x7, e_x7, h11⟩ := bind_some h10; clear h10
      refine seq_opx (B' := (fun v1 : Value => [RowF v1 91 k_api_Held x7.1, BF b1 91 k_api_Held p3])) s36 rfl rfl (of_decide_eq_true rfl) (ob_callL (args := [_, _]) (L := []) rfl .direct hb66 (List.Perm.refl _) (fun a w s fs gs hf hg => by obtain rfl := hf.unnil; obtain rfl := hg.unnil; exact c_queue_Put k _ _ _ e_x7 _ _ _ _ (s.arg (.tmp rfl)) (s.arg (.tmp rfl))) (by exact fun _ => rfl)) fun v1 a37 w37 s37 => ?_; clear s36
      refine seq_op s37 rfl rfl (of_decide_eq_true rfl) (ob_move rfl (.tmp rfl)) fun a38 w38 s38 => ?_; clear s37
      refine seq_op s38 rfl rfl (of_decide_eq_true rfl) (ob_extract rfl (.tmp rfl) rfl) fun a39 w39 s39 => ?_; clear s38
      refine seq_op s39 rfl rfl (of_decide_eq_true rfl) (ob_extract rfl (.tmp rfl) rfl) fun a40 w40 s40 => ?_; clear s39
      refine seq_op s40 rfl rfl (of_decide_eq_true rfl) (ob_assign rfl (.tmp rfl)) fun a41 w41 s41 => ?_; clear s40
      refine seq_op s41 rfl rfl (of_decide_eq_true rfl) (ob_assign rfl (.tmp rfl)) fun a42 w42 s42 => ?_; clear s41
      refine wpList_nil ?_
      refine then_normal ?_
      refine hK8 _ _ ?_
      have s43 := s42.sub (.cons (t := 0) rfl (.cons (t := 1) rfl (.cons (t := 3) rfl (.cons (t := 6) rfl (.cons (t := 9) rfl (.cons (t := 10) rfl .nil)))))); clear s42
      refine wp_seq_k fun K9 hK9 => ?_
      refine wp_region_lit ?_
      refine seq_op s43 rfl rfl (of_decide_eq_true rfl) (ob_move rfl (.tmp rfl)) fun a44 w44 s44 => ?_; clear s43
      refine seq_op s44 rfl rfl (of_decide_eq_true rfl) (ob_load rfl tk91 (.tmp rfl) (.tail _ (.head _)) (LG.refl _ _)) fun a45 w45 s45 => ?_; clear s44
      obtain ⟨x8, e_x8, h12⟩ := bind_some h11; clear h11
      refine seq_opx (B' := (fun v2 : Value => [RowF v2 91 k_api_Held x8.1, RowF v1 91 k_api_Held x7.1, BF b1 91 k_api_Held p3])) s45 rfl rfl (of_decide_eq_true rfl) (ob_callL (args := [_, _]) (L := []) rfl .direct hb67 (List.Perm.refl _) (fun a w s fs gs hf hg => by obtain rfl := hf.unnil; obtain rfl := hg.unnil; exact c_cabalref19_Put k _ _ _ e_x8 _ _ _ _ (s.arg (.tmp rfl)) (s.arg (.tmp rfl))) (by exact fun _ => rfl)) fun v2 a46 w46 s46 => ?_; clear s45
      refine seq_op s46 rfl rfl (of_decide_eq_true rfl) (ob_move rfl (.tmp rfl)) fun a47 w47 s47 => ?_; clear s46
      refine seq_op s47 rfl rfl (of_decide_eq_true rfl) (ob_extract rfl (.tmp rfl) rfl) fun a48 w48 s48 => ?_; clear s47
      refine seq_op s48 rfl rfl (of_decide_eq_true rfl) (ob_extract rfl (.tmp rfl) rfl) fun a49 w49 s49 => ?_; clear s48
      refine seq_op s49 rfl rfl (of_decide_eq_true rfl) (ob_assign rfl (.tmp rfl)) fun a50 w50 s50 => ?_; clear s49
      refine seq_op s50 rfl rfl (of_decide_eq_true rfl) (ob_assign rfl (.tmp rfl)) fun a51 w51 s51 => ?_; clear s50
      refine wpList_nil ?_
      refine then_normal ?_
      refine hK9 _ _ ?_
      have s52 := s51.sub (.cons (t := 0) rfl (.cons (t := 1) rfl (.cons (t := 3) rfl (.cons (t := 6) rfl (.cons (t := 9) rfl (.cons (t := 10) rfl (.cons (t := 11) rfl (.cons (t := 12) rfl .nil)))))))); clear s51
      refine wp_seq_k fun K10 hK10 => ?_
      refine wp_region_lit ?_
      refine seq_op s52 rfl rfl (of_decide_eq_true rfl) (ob_move rfl (.tmp rfl)) fun a53 w53 s53 => ?_; clear s52
      refine seq_op s53 rfl rfl (of_decide_eq_true rfl) (ob_move rfl (.tmp rfl)) fun a54 w54 s54 => ?_; clear s53
      obtain ⟨x9, e_x9, h13⟩ := bind_some h12; clear h12
      refine seq_opx (B' := (fun v3 : Value => [RowF v3 91 k_api_Held x9.1, RowF v2 91 k_api_Held x8.1, RowF v1 91 k_api_Held x7.1, BF b1 91 k_api_Held p3])) s54 rfl rfl (of_decide_eq_true rfl) (ob_callL (args := [_, _]) (L := []) rfl .direct hb69 (List.Perm.refl _) (fun a w s fs gs hf hg => by obtain rfl := hf.unnil; obtain rfl := hg.unnil; exact c_queue_Without k _ _ _ e_x9 _ _ _ _ (s.arg (.tmp rfl)) (s.arg (.tmp rfl))) (by exact fun _ => rfl)) fun v3 a55 w55 s55 => ?_; clear s54
      refine seq_op s55 rfl rfl (of_decide_eq_true rfl) (ob_move rfl (.tmp rfl)) fun a56 w56 s56 => ?_; clear s55
      refine seq_op s56 rfl rfl (of_decide_eq_true rfl) (ob_extract rfl (.tmp rfl) rfl) fun a57 w57 s57 => ?_; clear s56
      refine seq_op s57 rfl rfl (of_decide_eq_true rfl) (ob_extract rfl (.tmp rfl) rfl) fun a58 w58 s58 => ?_; clear s57
      refine seq_op s58 rfl rfl (of_decide_eq_true rfl) (ob_assign rfl (.tmp rfl)) fun a59 w59 s59 => ?_; clear s58
      refine seq_op s59 rfl rfl (of_decide_eq_true rfl) (ob_assign rfl (.tmp rfl)) fun a60 w60 s60 => ?_; clear s59
      refine wpList_nil ?_
      refine then_normal ?_
      refine hK10 _ _ ?_
      have s61 := s60.sub (.cons (t := 0) rfl (.cons (t := 1) rfl (.cons (t := 3) rfl (.cons (t := 6) rfl (.cons (t := 9) rfl (.cons (t := 10) rfl (.cons (t := 11) rfl (.cons (t := 12) rfl (.cons (t := 13) rfl (.cons (t := 14) rfl .nil)))))))))); clear s60
      refine wp_seq_k fun K11 hK11 => ?_
      refine wp_region_lit ?_
      refine seq_op s61 rfl rfl (of_decide_eq_true rfl) (ob_move rfl (.tmp rfl)) fun a62 w62 s62 => ?_; clear s61
      refine seq_op s62 rfl rfl (of_decide_eq_true rfl) (ob_move rfl (.tmp rfl)) fun a63 w63 s63 => ?_; clear s62
      obtain ⟨x10, e_x10, h14⟩ := bind_some h13; clear h13
      refine seq_opx (B' := (fun v4 : Value => [RowF v4 91 k_api_Held x10.1, RowF v3 91 k_api_Held x9.1, RowF v2 91 k_api_Held x8.1, RowF v1 91 k_api_Held x7.1, BF b1 91 k_api_Held p3])) s63 rfl rfl (of_decide_eq_true rfl) (ob_callL (args := [_, _]) (L := []) rfl .direct hb70 (List.Perm.refl _) (fun a w s fs gs hf hg => by obtain rfl := hf.unnil; obtain rfl := hg.unnil; exact c_cabalref19_Without k _ _ _ e_x10 _ _ _ _ (s.arg (.tmp rfl)) (s.arg (.tmp rfl))) (by exact fun _ => rfl)) fun v4 a64 w64 s64 => ?_; clear s63
      refine seq_op s64 rfl rfl (of_decide_eq_true rfl) (ob_move rfl (.tmp rfl)) fun a65 w65 s65 => ?_; clear s64
      refine seq_op s65 rfl rfl (of_decide_eq_true rfl) (ob_extract rfl (.tmp rfl) rfl) fun a66 w66 s66 => ?_; clear s65
      refine seq_op s66 rfl rfl (of_decide_eq_true rfl) (ob_extract rfl (.tmp rfl) rfl) fun a67 w67 s67 => ?_; clear s66
      refine seq_op s67 rfl rfl (of_decide_eq_true rfl) (ob_assign rfl (.tmp rfl)) fun a68 w68 s68 => ?_; clear s67
      refine seq_op s68 rfl rfl (of_decide_eq_true rfl) (ob_assign rfl (.tmp rfl)) fun a69 w69 s69 => ?_; clear s68
      refine wpList_nil ?_
      refine then_normal ?_
      refine hK11 _ _ ?_
      have s70 := s69.sub (.cons (t := 0) rfl (.cons (t := 1) rfl (.cons (t := 6) rfl (.cons (t := 9) rfl (.cons (t := 10) rfl (.cons (t := 11) rfl (.cons (t := 12) rfl (.cons (t := 13) rfl (.cons (t := 14) rfl (.cons (t := 15) rfl (.cons (t := 16) rfl .nil))))))))))); clear s69
      refine wp_seq_k fun K12 hK12 => ?_
      obtain ⟨x11, e_x11, h15⟩ := bind_some h14; clear h14
      obtain ⟨x12, e_x12, h16⟩ := bind_some h15; clear h15
      obtain ⟨x13, e_x13, h17⟩ := bind_some h16; clear h16
      obtain ⟨x14, e_x14, h18⟩ := bind_some h17; clear h17
      obtain ⟨x15, e_x15, h19⟩ := bind_some h18; clear h18
      obtain ⟨x16, e_x16, h20⟩ := bind_some h19; clear h19; replace e_x16 := Option.some.inj e_x16
      obtain ⟨x17, e_x17, h21⟩ := bind_some h20; clear h20
      obtain ⟨x18, e_x18, h22⟩ := bind_some h21; clear h21
      obtain ⟨x19, e_x19, h23⟩ := bind_some h22; clear h22
      obtain ⟨x20, e_x20, h24⟩ := bind_some h23; clear h23; replace e_x20 := Option.some.inj e_x20
      obtain ⟨x21, e_x21, h25⟩ := bind_some h24; clear h24
      refine wp_goes (Fs := [(kbool.V x11), (kbool.V x11), (Fact.when (x11 == true) ((ksl k_api_Held).V p1)), (Fact.when (x11 == true) (kbool.V x12)), (Fact.when (x11 == true) ((ksl k_api_Held).V p1)), (Fact.when (x11 == true) (kbool.V x13)), (Fact.when (x11 == true) (kbool.V (decide (x12 = x13)))), (kbool.V (if x11 then (decide (x12 = x13)) else false)), (kbool.V (if x11 then (decide (x12 = x13)) else false)), (Fact.when ((if x11 then (decide (x12 = x13)) else false) == true) ((ksl k_api_Held).V p1)), (Fact.when ((if x11 then (decide (x12 = x13)) else false) == true) (ptrB b1 0)), (Fact.when ((if x11 then (decide (x12 = x13)) else false) == true) ((karr 32 (kint .u8)).V p3.Id)), (Fact.when ((if x11 then (decide (x12 = x13)) else false) == true) ((kint .i64).V x14)), (Fact.when ((if x11 then (decide (x12 = x13)) else false) == true) ((ksl k_api_Held).V p1)), (Fact.when ((if x11 then (decide (x12 = x13)) else false) == true) (ptrB b1 0)), (Fact.when ((if x11 then (decide (x12 = x13)) else false) == true) ((karr 32 (kint .u8)).V p3.Id)), (Fact.when ((if x11 then (decide (x12 = x13)) else false) == true) ((kint .i64).V x15)), (Fact.when ((if x11 then (decide (x12 = x13)) else false) == true) (kbool.V (x14 == x15))), (kbool.V x16), (kbool.V x16), (Fact.when (x16 == true) ((ksl k_api_Held).V p1)), (Fact.when (x16 == true) ((ksl k_api_Held).V p2)), (Fact.when (x16 == true) (kbool.V x17)), (Fact.when (x16 == true) ((ksl k_api_Held).V p1)), (Fact.when (x16 == true) ((ksl k_api_Held).V p2)), (Fact.when (x16 == true) (kbool.V x18)), (Fact.when (x16 == true) (kbool.V (decide (x17 = x18)))), (kbool.V (if x16 then (decide (x17 = x18)) else false)), (kbool.V (if x16 then (decide (x17 = x18)) else false)), (Fact.when ((if x16 then (decide (x17 = x18)) else false) == true) ((ksl k_api_Held).V p1)), (Fact.when ((if x16 then (decide (x17 = x18)) else false) == true) ((ksl k_api_Held).V p1)), (Fact.when ((if x16 then (decide (x17 = x18)) else false) == true) (kbool.V x19)), (kbool.V (if (if x16 then (decide (x17 = x18)) else false) then x19 else false)), (kbool.V (if (if x16 then (decide (x17 = x18)) else false) then x19 else false)), (Fact.when ((if (if x16 then (decide (x17 = x18)) else false) then x19 else false) == true) ((kint .i64).V x7.2)), (Fact.when ((if (if x16 then (decide (x17 = x18)) else false) then x19 else false) == true) ((kint .i64).V x8.2)), (Fact.when ((if (if x16 then (decide (x17 = x18)) else false) then x19 else false) == true) (kbool.V (x7.2 == x8.2))), (kbool.V x20), (kbool.V x20), (Fact.when (x20 == true) ((kint .i64).V x9.2)), (Fact.when (x20 == true) ((kint .i64).V x10.2)), (Fact.when (x20 == true) (kbool.V (x9.2 == x10.2))), (kbool.V (if x20 then (x9.2 == x10.2) else false)), (kbool.V (if x20 then (x9.2 == x10.2) else false)), (Fact.when ((if x20 then (x9.2 == x10.2) else false) == true) (is v1)), (Fact.when ((if x20 then (x9.2 == x10.2) else false) == true) (is v2)), (Fact.when ((if x20 then (x9.2 == x10.2) else false) == true) (kbool.V x21)), (kbool.V (if (if x20 then (x9.2 == x10.2) else false) then x21 else false)), (kbool.V (if (if x20 then (x9.2 == x10.2) else false) then x21 else false)), (Fact.when ((if (if x20 then (x9.2 == x10.2) else false) then x21 else false) == true) (is v3)), (Fact.when ((if (if x20 then (x9.2 == x10.2) else false) then x21 else false) == true) (is v4))]) (bits := [0, 1, 3, 7, 3, 31, 63, 127, 255, 511, 511, 1535, 4095, 511, 511, 16895, 65535, 131071, 262143, 524287, 1048575, 1048575, 4194303, 1048575, 1048575, 33554431, 67108863, 134217727, 268435455, 536870911, 536870911, 2147483647, 4294967295, 8589934591, 17179869183, 17179869183, 68719476735, 137438953471, 274877906943, 549755813887, 549755813887, 2199023255551, 4398046511103, 8796093022207, 17592186044415, 17592186044415, 70368744177663, 140737488355327, 281474976710655, 562949953421311, 562949953421311, 2251799813685247, 4503599627370495, 9007199254740991]) (m := 51) (todo := 0) mx s70 ?_; clear s70
      refine goes_last (by kernel_rfl) rfl (opsS_cons (.plain _ Av.nil rfl rfl (ob_callD (args := []) rfl .direct hb59 (fun a w s fs gs hf hg => by obtain rfl := hf.unnil; obtain rfl := hg.unnil; exact c_caballaw19_alive k _ e_x11 _ _))) (opsS_cons (.plain _ (Av.new (j := 0) rfl rfl rfl Av.nil) rfl rfl (ob_move rfl (.tmp rfl))) (opsS_cons (.guarded _ (Av.old (t := 0) rfl rfl (Av.new (j := 1) rfl rfl rfl Av.nil)) rfl rfl rfl rfl (fun hb => ob_move rfl (.tmp rfl))) (opsS_cons (.guarded _ (Av.new (j := 1) rfl rfl rfl (Av.new (j := 2) rfl rfl rfl Av.nil)) rfl rfl rfl rfl (fun hb => (Ob.uncond (t := 63) hb rfl (ob_callD (args := [_]) rfl .direct hb71 (fun a w s fs gs hf hg => by obtain rfl := hf.unnil; obtain rfl := hg.unnil; exact c_queue_Right k _ _ (ite_t hb e_x12) _ _ _ (s.arg (.tmp rfl))))))) (opsS_cons (.guarded _ (Av.old (t := 0) rfl rfl (Av.new (j := 1) rfl rfl rfl Av.nil)) rfl rfl rfl rfl (fun hb => ob_move rfl (.tmp rfl))) (opsS_cons (.guarded _ (Av.new (j := 1) rfl rfl rfl (Av.new (j := 4) rfl rfl rfl Av.nil)) rfl rfl rfl rfl (fun hb => (Ob.uncond (t := 65) hb rfl (ob_callD (args := [_]) rfl .direct hb63 (fun a w s fs gs hf hg => by obtain rfl := hf.unnil; obtain rfl := hg.unnil; exact c_cabalref19_Right k _ _ (ite_t hb e_x13) _ _ _ (s.arg (.tmp rfl))))))) (opsS_cons (.guarded _ (Av.new (j := 1) rfl rfl rfl (Av.new (j := 3) rfl rfl rfl (Av.new (j := 5) rfl rfl rfl Av.nil))) rfl rfl rfl rfl (fun hb => (Ob.uncond (t := 66) hb rfl ((Ob.uncond (t := 64) hb rfl (ob_beql rfl Try.underlying4 (.tmp rfl) (.tmp rfl))))))) (opsS_cons (.plain _ (Av.new (j := 1) rfl rfl rfl (Av.new (j := 6) rfl rfl rfl Av.nil)) rfl rfl (ob_and2 rfl (.tmp rfl) (.tmp rfl) opd_bool)) (opsS_cons (.plain _ (Av.new (j := 7) rfl rfl rfl Av.nil) rfl rfl (ob_move rfl (.tmp rfl))) (opsS_cons (.guarded _ (Av.old (t := 0) rfl rfl (Av.new (j := 8) rfl rfl rfl Av.nil)) rfl rfl rfl rfl (fun hb => ob_move rfl (.tmp rfl))) (opsS_cons (.guarded _ (Av.old (t := 6) rfl rfl (Av.new (j := 8) rfl rfl rfl Av.nil)) rfl rfl rfl rfl (fun hb => ob_fieldAddr (off' := 0) rfl Try.underlying91 rfl sz39 (by decide) (.tmp rfl) rfl)) (opsS_cons (.guarded _ (Av.new (j := 8) rfl rfl rfl (Av.new (j := 10) rfl rfl rfl Av.nil)) rfl rfl rfl rfl (fun hb => (Ob.uncond (t := 71) hb rfl (ob_load rfl tk39 (.tmp rfl) (.tail _ (.tail _ (.tail _ (.tail _ (.head _))))) (lg_api_Held_Id p3))))) (opsS_cons (.guarded _ (Av.new (j := 8) rfl rfl rfl (Av.new (j := 9) rfl rfl rfl (Av.new (j := 11) rfl rfl rfl Av.nil))) rfl rfl rfl rfl (fun hb => (Ob.uncond (t := 72) hb rfl ((Ob.uncond (t := 70) hb rfl (ob_callD (args := [_, _]) rfl .direct hb72 (fun a w s fs gs hf hg => by obtain rfl := hf.unnil; obtain rfl := hg.unnil; exact c_queue_Find k _ _ _ (ite_t hb e_x14) _ _ _ _ (s.arg (.tmp rfl)) (s.arg (.tmp rfl))))))))) (opsS_cons (.guarded _ (Av.old (t := 0) rfl rfl (Av.new (j := 8) rfl rfl rfl Av.nil)) rfl rfl rfl rfl (fun hb => ob_move rfl (.tmp rfl))) (opsS_cons (.guarded _ (Av.old (t := 6) rfl rfl (Av.new (j := 8) rfl rfl rfl Av.nil)) rfl rfl rfl rfl (fun hb => ob_fieldAddr (off' := 0) rfl Try.underlying91 rfl sz39 (by decide) (.tmp rfl) rfl)) (opsS_cons (.guarded _ (Av.new (j := 8) rfl rfl rfl (Av.new (j := 14) rfl rfl rfl Av.nil)) rfl rfl rfl rfl (fun hb => (Ob.uncond (t := 75) hb rfl (ob_load rfl tk39 (.tmp rfl) (.tail _ (.tail _ (.tail _ (.tail _ (.head _))))) (lg_api_Held_Id p3))))) (opsS_cons (.guarded _ (Av.new (j := 8) rfl rfl rfl (Av.new (j := 13) rfl rfl rfl (Av.new (j := 15) rfl rfl rfl Av.nil))) rfl rfl rfl rfl (fun hb => (Ob.uncond (t := 76) hb rfl ((Ob.uncond (t := 74) hb rfl (ob_callD (args := [_, _]) rfl .direct hb73 (fun a w s fs gs hf hg => by obtain rfl := hf.unnil; obtain rfl := hg.unnil; exact c_cabalref19_Find k _ _ _ (ite_t hb e_x15) _ _ _ _ (s.arg (.tmp rfl)) (s.arg (.tmp rfl))))))))) (opsS_cons (.guarded _ (Av.new (j := 8) rfl rfl rfl (Av.new (j := 12) rfl rfl rfl (Av.new (j := 16) rfl rfl rfl Av.nil))) rfl rfl rfl rfl (fun hb => (Ob.uncond (t := 77) hb rfl ((Ob.uncond (t := 73) hb rfl (ob_eql rfl (.tmp rfl) (.tmp rfl))))))) (opsS_cons (.plain _ (Av.new (j := 8) rfl rfl rfl (Av.new (j := 17) rfl rfl rfl Av.nil)) rfl rfl ((ob_and2 rfl (.tmp rfl) (.tmp rfl) opd_bool).nm e_x16)) (opsS_cons (.plain _ (Av.new (j := 18) rfl rfl rfl Av.nil) rfl rfl (ob_move rfl (.tmp rfl))) (opsS_cons (.guarded _ (Av.old (t := 0) rfl rfl (Av.new (j := 19) rfl rfl rfl Av.nil)) rfl rfl rfl rfl (fun hb => ob_move rfl (.tmp rfl))) (opsS_cons (.guarded _ (Av.old (t := 1) rfl rfl (Av.new (j := 19) rfl rfl rfl Av.nil)) rfl rfl rfl rfl (fun hb => ob_move rfl (.tmp rfl))) (opsS_cons (.guarded _ (Av.new (j := 19) rfl rfl rfl (Av.new (j := 20) rfl rfl rfl (Av.new (j := 21) rfl rfl rfl Av.nil))) rfl rfl rfl rfl (fun hb => (Ob.uncond (t := 82) hb rfl ((Ob.uncond (t := 81) hb rfl (ob_callD (args := [_, _]) rfl .direct hb74 (fun a w s fs gs hf hg => by obtain rfl := hf.unnil; obtain rfl := hg.unnil; exact c_queue_Same k _ _ _ (ite_t hb e_x17) _ _ _ _ (s.arg (.tmp rfl)) (s.arg (.tmp rfl))))))))) (opsS_cons (.guarded _ (Av.old (t := 0) rfl rfl (Av.new (j := 19) rfl rfl rfl Av.nil)) rfl rfl rfl rfl (fun hb => ob_move rfl (.tmp rfl))) (opsS_cons (.guarded _ (Av.old (t := 1) rfl rfl (Av.new (j := 19) rfl rfl rfl Av.nil)) rfl rfl rfl rfl (fun hb => ob_move rfl (.tmp rfl))) (opsS_cons (.guarded _ (Av.new (j := 19) rfl rfl rfl (Av.new (j := 23) rfl rfl rfl (Av.new (j := 24) rfl rfl rfl Av.nil))) rfl rfl rfl rfl (fun hb => (Ob.uncond (t := 85) hb rfl ((Ob.uncond (t := 84) hb rfl (ob_callD (args := [_, _]) rfl .direct hb68 (fun a w s fs gs hf hg => by obtain rfl := hf.unnil; obtain rfl := hg.unnil; exact c_cabalref19_Same k _ _ _ (ite_t hb e_x18) _ _ _ _ (s.arg (.tmp rfl)) (s.arg (.tmp rfl))))))))) (opsS_cons (.guarded _ (Av.new (j := 19) rfl rfl rfl (Av.new (j := 22) rfl rfl rfl (Av.new (j := 25) rfl rfl rfl Av.nil))) rfl rfl rfl rfl (fun hb => (Ob.uncond (t := 86) hb rfl ((Ob.uncond (t := 83) hb rfl (ob_beql rfl Try.underlying4 (.tmp rfl) (.tmp rfl))))))) (opsS_cons (.plain _ (Av.new (j := 19) rfl rfl rfl (Av.new (j := 26) rfl rfl rfl Av.nil)) rfl rfl (ob_and2 rfl (.tmp rfl) (.tmp rfl) opd_bool)) (opsS_cons (.plain _ (Av.new (j := 27) rfl rfl rfl Av.nil) rfl rfl (ob_move rfl (.tmp rfl))) (opsS_cons (.guarded _ (Av.old (t := 0) rfl rfl (Av.new (j := 28) rfl rfl rfl Av.nil)) rfl rfl rfl rfl (fun hb => ob_move rfl (.tmp rfl))) (opsS_cons (.guarded _ (Av.old (t := 0) rfl rfl (Av.new (j := 28) rfl rfl rfl Av.nil)) rfl rfl rfl rfl (fun hb => ob_move rfl (.tmp rfl))) (opsS_cons (.guarded _ (Av.new (j := 28) rfl rfl rfl (Av.new (j := 29) rfl rfl rfl (Av.new (j := 30) rfl rfl rfl Av.nil))) rfl rfl rfl rfl (fun hb => (Ob.uncond (t := 91) hb rfl ((Ob.uncond (t := 90) hb rfl (ob_callD (args := [_, _]) rfl .direct hb74 (fun a w s fs gs hf hg => by obtain rfl := hf.unnil; obtain rfl := hg.unnil; exact c_queue_Same k _ _ _ (ite_t hb e_x19) _ _ _ _ (s.arg (.tmp rfl)) (s.arg (.tmp rfl))))))))) (opsS_cons (.plain _ (Av.new (j := 28) rfl rfl rfl (Av.new (j := 31) rfl rfl rfl Av.nil)) rfl rfl (ob_and2 rfl (.tmp rfl) (.tmp rfl) opd_bool)) (opsS_cons (.plain _ (Av.new (j := 32) rfl rfl rfl Av.nil) rfl rfl (ob_move rfl (.tmp rfl))) (opsS_cons (.guarded _ (Av.old (t := 10) rfl rfl (Av.new (j := 33) rfl rfl rfl Av.nil)) rfl rfl rfl rfl (fun hb => ob_move rfl (.tmp rfl))) (opsS_cons (.guarded _ (Av.old (t := 12) rfl rfl (Av.new (j := 33) rfl rfl rfl Av.nil)) rfl rfl rfl rfl (fun hb => ob_move rfl (.tmp rfl))) (opsS_cons (.guarded _ (Av.new (j := 33) rfl rfl rfl (Av.new (j := 34) rfl rfl rfl (Av.new (j := 35) rfl rfl rfl Av.nil))) rfl rfl rfl rfl (fun hb => (Ob.uncond (t := 96) hb rfl ((Ob.uncond (t := 95) hb rfl (ob_eql rfl (.tmp rfl) (.tmp rfl))))))) (opsS_cons (.plain _ (Av.new (j := 33) rfl rfl rfl (Av.new (j := 36) rfl rfl rfl Av.nil)) rfl rfl ((ob_and2 rfl (.tmp rfl) (.tmp rfl) opd_bool).nm e_x20)) (opsS_cons (.plain _ (Av.new (j := 37) rfl rfl rfl Av.nil) rfl rfl (ob_move rfl (.tmp rfl))) (opsS_cons (.guarded _ (Av.old (t := 14) rfl rfl (Av.new (j := 38) rfl rfl rfl Av.nil)) rfl rfl rfl rfl (fun hb => ob_move rfl (.tmp rfl))) (opsS_cons (.guarded _ (Av.old (t := 16) rfl rfl (Av.new (j := 38) rfl rfl rfl Av.nil)) rfl rfl rfl rfl (fun hb => ob_move rfl (.tmp rfl))) (opsS_cons (.guarded _ (Av.new (j := 38) rfl rfl rfl (Av.new (j := 39) rfl rfl rfl (Av.new (j := 40) rfl rfl rfl Av.nil))) rfl rfl rfl rfl (fun hb => (Ob.uncond (t := 101) hb rfl ((Ob.uncond (t := 100) hb rfl (ob_eql rfl (.tmp rfl) (.tmp rfl))))))) (opsS_cons (.plain _ (Av.new (j := 38) rfl rfl rfl (Av.new (j := 41) rfl rfl rfl Av.nil)) rfl rfl (ob_and2 rfl (.tmp rfl) (.tmp rfl) opd_bool)) (opsS_cons (.plain _ (Av.new (j := 42) rfl rfl rfl Av.nil) rfl rfl (ob_move rfl (.tmp rfl))) (opsS_cons (.guarded _ (Av.old (t := 9) rfl rfl (Av.new (j := 43) rfl rfl rfl Av.nil)) rfl rfl rfl rfl (fun hb => ob_move rfl (.tmp rfl))) (opsS_cons (.guarded _ (Av.old (t := 11) rfl rfl (Av.new (j := 43) rfl rfl rfl Av.nil)) rfl rfl rfl rfl (fun hb => ob_move rfl (.tmp rfl))) (opsS_cons (.guarded _ (Av.new (j := 43) rfl rfl rfl (Av.new (j := 44) rfl rfl rfl (Av.new (j := 45) rfl rfl rfl Av.nil))) rfl rfl rfl rfl (fun hb => (Ob.uncond (t := 106) hb rfl ((Ob.uncond (t := 105) hb rfl ((ob_lendG (L := [_, _]) (toFront [_, _, _] (toFront [_, _] (List.Perm.refl _))) (.cons (t := 105) rfl (lendRow (.head _)) (.cons (t := 106) rfl (lendRow (.tail _ (.head _))) .nil)) (Flat.res1 (Flat.V KFlat.bool)) (fun _ => ob_callD (args := [_, _]) rfl .direct hb68 (fun a w s fs gs hf hg => by obtain rfl := hf.unnil; obtain rfl := hg.unnil; exact c_cabalref19_Same k _ _ _ (ite_t hb e_x21) _ _ _ _ (s.arg (.tmp rfl)) (s.arg (.tmp rfl))))))))))) (opsS_cons (.plain _ (Av.new (j := 43) rfl rfl rfl (Av.new (j := 46) rfl rfl rfl Av.nil)) rfl rfl (ob_and2 rfl (.tmp rfl) (.tmp rfl) opd_bool)) (opsS_cons (.plain _ (Av.new (j := 47) rfl rfl rfl Av.nil) rfl rfl (ob_move rfl (.tmp rfl))) (opsS_cons (.guarded _ (Av.old (t := 13) rfl rfl (Av.new (j := 48) rfl rfl rfl Av.nil)) rfl rfl rfl rfl (fun hb => ob_move rfl (.tmp rfl))) (opsS_cons (.guarded _ (Av.old (t := 15) rfl rfl (Av.new (j := 48) rfl rfl rfl Av.nil)) rfl rfl rfl rfl (fun hb => ob_move rfl (.tmp rfl))) opsS_nil))))))))))))))))))))))))))))))))))))))))))))))))))) (out_new (i := 48) (by decide) rfl rfl (out_new (i := 49) (by decide) rfl rfl (out_new (i := 50) (by decide) rfl rfl out_nil))) fun a71 w71 s71 => ?_
      obtain ⟨x22, e_x22, h26⟩ := bind_some h25; clear h25
      refine seq_opg s71 rfl rfl rfl rfl (of_decide_eq_true rfl) (fun hb => (Ob.uncond (t := 111) hb rfl ((Ob.uncond (t := 110) hb rfl ((ob_lendG (L := [_, _]) (toFront [_] (toFront [] (List.Perm.refl _))) (.cons (t := 110) rfl (lendRow (.head _)) (.cons (t := 111) rfl (lendRow (.tail _ (.head _))) .nil)) (Flat.res1 (Flat.V KFlat.bool)) (fun _ => ob_callD (args := [_, _]) rfl .direct hb68 (fun a w s fs gs hf hg => by obtain rfl := hf.unnil; obtain rfl := hg.unnil; exact c_cabalref19_Same k _ _ _ (ite_t hb e_x22) _ _ _ _ (s.arg (.tmp rfl)) (s.arg (.tmp rfl)))))))))) fun a72 w72 s72 => ?_; clear s71
      obtain ⟨x23, e_x23, h27⟩ := bind_some h26; clear h26; replace e_x23 := Option.some.inj e_x23
      refine seq_op s72 rfl rfl (of_decide_eq_true rfl) ((ob_and2 rfl (.tmp rfl) (.tmp rfl) opd_bool).nm e_x23) fun a73 w73 s73 => ?_; clear s72
      refine seq_op s73 rfl rfl (of_decide_eq_true rfl) (ob_assign rfl (.tmp rfl)) fun a74 w74 s74 => ?_; clear s73
      refine wpList_nil ?_
      refine then_normal ?_
      refine hK12 _ _ ?_
      have s75 := s74.sub (.cons (t := 8) rfl .nil); clear s74
      have s76 := St.drop (A := []) s75; clear s75
      have s77 := St.drop (A := []) s76; clear s76
      have s78 := St.drop (A := []) s77; clear s77
      have s79 := St.drop (A := []) s78; clear s78
      have s80 := St.drop (A := []) s79; clear s79
      refine wp_ret ?_
      obtain rfl := Option.some.inj h27
      exact leave s80 (.inl rfl) rfl (.cons (.tmp rfl) .nil)

end Go.Proofs.Ytdlnfgpcnfbjiaa
