/- Several parts of this proof in one file. No condition. -/
import Derived.Test.YtdlnfgpcnfbjiaaDyWalk2
namespace Go.Proofs.Ytdlnfgpcnfbjiaa
open Go Go.RowKit Go.Proofs.Kit Go.Proofs.Pure
set_option linter.unusedVariables false
set_option linter.unusedSimpArgs false
set_option maxRecDepth 100000
set_option maxHeartbeats 2000000
theorem c_slices_partialInsertionSortCmpFunc_api_Key_queue_Wanted_1 (k : Nat) (p1 : (List (List Int))) (p2 : Int) (p3 : Int) (r : (Bool × (List (List Int)))) (h0 : slices_partialInsertionSortCmpFunc_api_Key_queue_Wanted_1 k p1 p2 p3 = some r) (ok : Ok) (w0 : World) (z0 : Value) (z1 : Value) (z2 : Value) (z3 : Value) (wr0 : Value) (l0 : ∀ q, q ∈ [RowF wr0 39 (karr 32 (kint .u8)) p1] → q.holds ok w0) (d0 : ∀ c, c ∈ idsOf [RowF wr0 39 (karr 32 (kint .u8)) p1] → ¬ ok c) (nd : (idsOf [RowF wr0 39 (karr 32 (kint .u8)) p1]).Nodup) (u0 : (is wr0).holds ok w0 z0) (u1 : ((kint .i64).V p2).holds ok w0 z1) (u2 : ((kint .i64).V p3).holds ok w0 z2) (u3 : (is (.func (.func 115) #[] #[])).holds ok w0 z3) :
 GivesX Try.prog 170 [z0, z1, z2, z3] ok w0 [RowF wr0 39 (karr 32 (kint .u8)) p1] (fun g : Unit => resFact [kbool.V r.1]) (fun g : Unit => [RowF wr0 39 (karr 32 (kint .u8)) r.2]) := by
 unfold slices_partialInsertionSortCmpFunc_api_Key_queue_Wanted_1 at h0
 refine enterX (N := 141) Try.func170 rfl rfl (of_decide_eq_true rfl) (.cons u0 (.cons u1 (.cons u2 (.cons u3 .nil)))) nd l0 d0 fun a1 s1 => ?_
 refine wp_seq_k fun K1 hK1 => wp_region_lit (qs s1 (.c1 rfl (ob_assign rfl opd_bool) (.ce (u 0 rfl (u 1 rfl (u 2 rfl (u 3 rfl .nil)))))) fun _ _ s3 => wn hK1 ?_); clear s1
 refine wp_seq_k fun K2 hK2 => wp_region_lit (qs s3 (.c1 rfl (mv rfl rfl) (.c1 rfl (ob_add rfl (.tmp rfl) (opd_int rfl)) (.c1 rfl (ob_assign rfl (.tmp rfl)) (.ce (u 0 rfl (u 1 rfl (u 2 rfl (u 3 rfl (u 9 rfl .nil))))))))) fun _ _ s7 => wn hK2 ?_); clear s3
 refine wp_seq_k fun K3 hK3 => wp_seq_k fun K4 hK4 => ?_
 refine wp_region_lit (qs s7 (.c1 rfl (ob_assign rfl (opd_int rfl)) (.ce (u 0 rfl (u 1 rfl (u 2 rfl (u 3 rfl (u 9 rfl (u 10 rfl .nil)))))))) fun _ _ s9 => wn hK4 ?_); clear s7
 have hj1 : ∀ (y1 : (List (List Int))) (a : Act) (w : World), (slices_partialInsertionSortCmpFunc_api_Key_queue_Wanted_1.j1 k) y1 = some r → St ⟨141, w0, ok, (idsOf [RowF wr0 39 (karr 32 (kint .u8)) p1])⟩ [RowF wr0 39 (karr 32 (kint .u8)) y1] [] a w → K3 a w := by
  intro y1 a10 w10 h1 s10
  unfold slices_partialInsertionSortCmpFunc_api_Key_queue_Wanted_1.j1 at h1
  refine hK3 _ _ ?_
  refine wp_seq_k fun K5 hK5 => wp_region_lit (qs s10 (.c1 rfl (ob_assign rfl opd_bool) (.ce (u 8 rfl .nil))) fun _ _ s12 => wn hK5 ?_); clear s10
  refine wp_ret ?_
  obtain rfl := Option.some.inj h1
  exact leaveXD (D := []) () s12 rfl (.inl rfl) rfl (.cons (.tmp rfl) .nil) rfl
 refine wp_block ?_
 refine wp_loop_fuel (fun m (q : Int × Int × (List (List Int))) => slices_partialInsertionSortCmpFunc_api_Key_queue_Wanted_1.l1 k p3 p2 m q.1 q.2.1 q.2.2) r (fun _ => rfl) (fun q a w => St ⟨141, w0, ok, (idsOf [RowF wr0 39 (karr 32 (kint .u8)) p1])⟩ [RowF wr0 39 (karr 32 (kint .u8)) q.2.2] [(0, (is wr0)), (1, ((kint .i64).V p2)), (2, ((kint .i64).V p3)), (3, (is (.func (.func 115) #[] #[]))), (9, ((kint .i64).V q.1)), (10, ((kint .i64).V q.2.1))] a w) ?_ k ((iadd .i64 p2 (1 : Int)), (0 : Int), p1) _ _ h0 (s9.sub (.cons rfl (.cons rfl (.cons rfl (.cons rfl (.cons rfl (.cons rfl .nil)))))))
 rintro n1 ⟨y2, y3, y4⟩ a13 w13 h2 s13 K6 hK6
 replace h2 : slices_partialInsertionSortCmpFunc_api_Key_queue_Wanted_1.l1 k p3 p2 (n1 + 1) y2 y3 y4 = some r := h2; rw [slices_partialInsertionSortCmpFunc_api_Key_queue_Wanted_1.l1] at h2
 have h3 := h2; clear h2
 refine wp_seq_k fun K7 hK7 => wp_seq_k fun K8 hK8 => ?_
 refine wp_region_lit (qs s13 (.c1 rfl (mv rfl rfl) (.c1 rfl (ob_lss rfl (.tmp rfl) (opd_int rfl)) (.ce (u 0 rfl (u 1 rfl (u 2 rfl (u 3 rfl (u 9 rfl (u 10 rfl (u 16 rfl .nil)))))))))) fun _ _ s16 => wn hK8 ?_); clear s13
 refine cond_split s16 (.tmp rfl) (fun hc1 => ?_) (fun hc1 => ?_)
 ·have h4 := ite_t hc1 h3; clear h3
  refine wp_skip ?_
  refine then_normal (hK7 _ _ ?_)
  have s17 := s16.sub (u 0 rfl (u 1 rfl (u 2 rfl (u 3 rfl (u 9 rfl (u 10 rfl .nil)))))); clear s16
  refine wp_seq_k fun K9 hK9 => ?_
  have hj2 : ∀ (y5 : Int) (y6 : (List (List Int))) (a : Act) (w : World), (slices_partialInsertionSortCmpFunc_api_Key_queue_Wanted_1.j2 k y3 (slices_partialInsertionSortCmpFunc_api_Key_queue_Wanted_1.l1 k p3 p2 n1)) y5 y6 = some r → St ⟨141, w0, ok, (idsOf [RowF wr0 39 (karr 32 (kint .u8)) p1])⟩ [RowF wr0 39 (karr 32 (kint .u8)) y6] [(0, (is wr0)), (1, ((kint .i64).V p2)), (2, ((kint .i64).V p3)), (3, (is (.func (.func 115) #[] #[]))), (9, ((kint .i64).V y5)), (10, ((kint .i64).V y3))] a w → K9 a w := by
   intro y5 y6 a18 w18 h5 s18
   unfold slices_partialInsertionSortCmpFunc_api_Key_queue_Wanted_1.j2 at h5
   refine hK9 _ _ ?_
   refine wp_region_lit (qs s18 (.c1 rfl (mv rfl rfl) (.c1 rfl (ob_add rfl (.tmp rfl) (opd_int rfl)) (.c1 rfl (ob_assign rfl (.tmp rfl)) .cz))) fun _ _ s21 => ?_); clear s18
   refine wpList_nil ?_
   refine then_normal ?_
   exact hK6 (y5, (iadd .i64 y3 (1 : Int)), y6) _ _ h5 (s21.sub (.cons rfl (.cons rfl (.cons rfl (.cons rfl (.cons rfl (.cons rfl .nil)))))))
  refine wp_block ?_
  refine wp_seq_k fun K10 hK10 => ?_
  have hj3 : ∀ (y7 : Int) (a : Act) (w : World), (slices_partialInsertionSortCmpFunc_api_Key_queue_Wanted_1.j3 k p3 y4 p2 y3 (slices_partialInsertionSortCmpFunc_api_Key_queue_Wanted_1.l1 k p3 p2 n1)) y7 = some r → St ⟨141, w0, ok, (idsOf [RowF wr0 39 (karr 32 (kint .u8)) p1])⟩ [RowF wr0 39 (karr 32 (kint .u8)) y4] [(0, (is wr0)), (1, ((kint .i64).V p2)), (2, ((kint .i64).V p3)), (3, (is (.func (.func 115) #[] #[]))), (9, ((kint .i64).V y7)), (10, ((kint .i64).V y3))] a w → K10 a w := by
   intro y7 a22 w22 h6 s22
   unfold slices_partialInsertionSortCmpFunc_api_Key_queue_Wanted_1.j3 at h6
   refine hK10 _ _ ?_
   refine wp_seq_k fun K11 hK11 => wp_seq_k fun K12 hK12 => ?_
   refine wp_region_lit (qs s22 (.c1 rfl (mv rfl rfl) (.c1 rfl (mv rfl rfl) (.c1 rfl (ob_eql rfl (.tmp rfl) (.tmp rfl)) (.ce (u 0 rfl (u 1 rfl (u 2 rfl (u 3 rfl (u 9 rfl (u 10 rfl (u 41 rfl .nil))))))))))) fun _ _ s26 => wn hK12 ?_); clear s22
   refine cond_split s26 (.tmp rfl) (fun hc2 => ?_) (fun hc2 => ?_)
   ·have h7 := ite_t hc2 h6; clear h6
    refine wp_seq_k fun K13 hK13 => wp_region_lit (qs s26 (.c1 rfl (ob_assign rfl opd_bool) (.ce (u 8 rfl .nil))) fun _ _ s28 => wn hK13 ?_); clear s26
    refine wp_ret ?_
    obtain rfl := Option.some.inj h7
    exact leaveXD (D := []) () s28 rfl (.inl rfl) rfl (.cons (.tmp rfl) .nil) rfl
   ·have h8 := ite_f hc2 h6; clear h6
    refine wp_skip ?_
    refine then_normal (hK11 _ _ ?_)
    have s29 := s26.sub (u 0 rfl (u 1 rfl (u 2 rfl (u 3 rfl (u 9 rfl (u 10 rfl .nil)))))); clear s26
    refine wp_seq_k fun K14 hK14 => wp_seq_k fun K15 hK15 => ?_
    refine wp_region_lit (qs s29 (.c1 rfl (mv rfl rfl) (.c1 rfl (mv rfl rfl) (.c1 rfl (ob_sub rfl (.tmp rfl) (.tmp rfl)) (.c1 rfl (ob_lss rfl (.tmp rfl) (opd_int rfl)) (.ce (u 0 rfl (u 1 rfl (u 2 rfl (u 3 rfl (u 9 rfl (u 10 rfl (u 45 rfl .nil)))))))))))) fun _ _ s34 => wn hK15 ?_); clear s29
    refine cond_split s34 (.tmp rfl) (fun hc3 => ?_) (fun hc3 => ?_)
    ·have h9 := ite_t hc3 h8; clear h8
     refine wp_seq_k fun K16 hK16 => wp_region_lit (qs s34 (.c1 rfl (ob_assign rfl opd_bool) (.ce (u 8 rfl .nil))) fun _ _ s36 => wn hK16 ?_); clear s34
     refine wp_ret ?_
     obtain rfl := Option.some.inj h9
     exact leaveXD (D := []) () s36 rfl (.inl rfl) rfl (.cons (.tmp rfl) .nil) rfl
    ·have h10 := ite_f hc3 h8; clear h8
     refine wp_skip ?_
     refine then_normal (hK14 _ _ ?_)
     have s37 := s34.sub (u 0 rfl (u 1 rfl (u 2 rfl (u 3 rfl (u 9 rfl (u 10 rfl .nil)))))); clear s34
     refine wp_seq_k fun K17 hK17 => ?_
     obtain ⟨g1, h11⟩ := guard_some h10; clear h10
     obtain ⟨x1, e_x1, h12⟩ := bind_some h11; clear h11
     obtain ⟨g2, h13⟩ := guard_some h12; clear h12
     obtain ⟨x2, e_x2, h14⟩ := bind_some h13; clear h13
     obtain ⟨g3, h15⟩ := guard_some h14; clear h14
     obtain ⟨x3, e_x3, h16⟩ := bind_some h15; clear h15
     refine wp_goes (Fs := [(is wr0), ((kint .i64).V y7), (is wr0), ((kint .i64).V y7), ((kint .i64).V (isub .i64 y7 (1 : Int))), (is wr0), ((kint .i64).V y7), ((kint .i64).V (isub .i64 y7 (1 : Int))), (ptrR wr0 ((isub .i64 y7 (1 : Int)).toNat * 32)), ((karr 32 (kint .u8)).V x1), (is wr0), ((kint .i64).V y7), (ptrR wr0 (y7.toNat * 32)), ((karr 32 (kint .u8)).V x2), (ptrR wr0 (y7.toNat * 32)), nofact]) (bits := [0, 0, 0, 0, 8, 0, 0, 64, 224, 480, 0, 0, 3072, 7168, 16355, 32739, 65535, 131071]) (m := 16) (todo := 32768) mx s37 ?_; clear s37
     refine goes_turn (B' := (fun _ : Unit => [RowF wr0 39 (karr 32 (kint .u8)) x3])) (Fs' := (fun _ : Unit => setAll ([(is wr0), ((kint .i64).V y7), (is wr0), ((kint .i64).V y7), ((kint .i64).V (isub .i64 y7 (1 : Int))), (is wr0), ((kint .i64).V y7), ((kint .i64).V (isub .i64 y7 (1 : Int))), (ptrR wr0 ((isub .i64 y7 (1 : Int)).toNat * 32)), ((karr 32 (kint .u8)).V x1), (is wr0), ((kint .i64).V y7), (ptrR wr0 (y7.toNat * 32)), ((karr 32 (kint .u8)).V x2), (ptrR wr0 (y7.toNat * 32)), nofact]) [(15, nofact)])) 15 32768 65507 0 (by kernel_rfl) rfl rfl rfl (oc (av 0 rfl rfl Av.nil) rfl rfl (mv rfl rfl) (oc (av 9 rfl rfl Av.nil) rfl rfl (mv rfl rfl) (oc (av 0 rfl rfl Av.nil) rfl rfl (mv rfl rfl) (oc (av 9 rfl rfl Av.nil) rfl rfl (mv rfl rfl) (oc (an 3 rfl rfl rfl Av.nil) rfl rfl (ob_sub rfl (.tmp rfl) (opd_int rfl)) (oc (av 0 rfl rfl Av.nil) rfl rfl (mv rfl rfl) (oc (av 9 rfl rfl Av.nil) rfl rfl (mv rfl rfl) (oc (an 6 rfl rfl rfl Av.nil) rfl rfl (ob_sub rfl (.tmp rfl) (opd_int rfl)) (oc (an 5 rfl rfl rfl (an 7 rfl rfl rfl Av.nil)) rfl rfl (ob_rowAt rfl Try.underlying40 sz39 (.tmp rfl) (.head _) (.tmp rfl) g1) (oc (an 8 rfl rfl rfl Av.nil) rfl rfl (ob_rowLoad rfl tk39 (.tmp rfl) (.head _) (LG.arrA e_x1)) (oc (av 0 rfl rfl Av.nil) rfl rfl (mv rfl rfl) (oc (av 9 rfl rfl Av.nil) rfl rfl (mv rfl rfl) (oc (an 10 rfl rfl rfl (an 11 rfl rfl rfl Av.nil)) rfl rfl (ob_rowAt rfl Try.underlying40 sz39 (.tmp rfl) (.head _) (.tmp rfl) g2) (oc (an 12 rfl rfl rfl Av.nil) rfl rfl (ob_rowLoad rfl tk39 (.tmp rfl) (.head _) (LG.arrA e_x2)) (oc (an 0 rfl rfl rfl (an 1 rfl rfl rfl Av.nil)) rfl rfl (ob_rowAt rfl Try.underlying40 sz39 (.tmp rfl) (.head _) (.tmp rfl) g3) (opsS_skip (by rfl) opsS_nil)))))))))))))))) (.plain _ (an 9 rfl rfl rfl (an 14 rfl rfl rfl Av.nil)) rfl (fun _ => rfl) (fun R => ob_rowStore (A := []) rfl tk39 (.tmp rfl) (.tmp rfl) rfl (LS.arrS e_x3) rfl)) (setAll_same (us := (fun _ : Unit => [(15, nofact)])) fun _ => by kernel_rfl) fun _ => ?_
     refine goes_last (by kernel_rfl) rfl (opsS_skip (by rfl) (opsS_skip (by rfl) (oc (av 0 rfl rfl Av.nil) rfl rfl (mv rfl rfl) (oc (av 9 rfl rfl Av.nil) rfl rfl (mv rfl rfl) (oc (an 3 rfl rfl rfl Av.nil) rfl rfl (ob_sub rfl (.tmp rfl) (opd_int rfl)) (opsS_skip (by rfl) (opsS_skip (by rfl) (opsS_skip (by rfl) (opsS_skip (by rfl) (opsS_skip (by rfl) (opsS_skip (by rfl) (opsS_skip (by rfl) (opsS_skip (by rfl) (opsS_skip (by rfl) (opsS_skip (by rfl) (opsS_skip (by rfl) opsS_nil)))))))))))))))) (out_old (t := 0) rfl rfl (out_old (t := 1) rfl rfl (out_old (t := 2) rfl rfl (out_old (t := 3) rfl rfl (out_old (t := 9) rfl rfl (out_old (t := 10) rfl rfl (out_new (i := 2) (by decide) rfl rfl (out_new (i := 4) (by decide) rfl rfl (out_new (i := 13) (by decide) rfl rfl out_nil))))))))) fun _ _ s38 => ?_
     obtain ⟨g4, h17⟩ := guard_some h16; clear h16
     obtain ⟨x4, e_x4, h18⟩ := bind_some h17; clear h17
     refine qs s38 (.c1 rfl (ob_rowAt rfl Try.underlying40 sz39 (.tmp rfl) (.head _) (.tmp rfl) g4) .cz) fun _ _ s39 => ?_; clear s38
     refine seq_opx0 (B' := (fun _ : Unit => [RowF wr0 39 (karr 32 (kint .u8)) x4])) s39 rfl rfl (ob_rowStore (A := []) rfl tk39 (.tmp rfl) (.tmp rfl) rfl (LS.arrS e_x4) rfl) fun _ a40 w40 s40 => ?_; clear s39
     refine wn hK17 ?_
     have s41 := s40.sub (u 0 rfl (u 1 rfl (u 2 rfl (u 3 rfl (u 9 rfl (u 10 rfl .nil)))))); clear s40
     refine wp_seq_k fun K18 hK18 => wp_seq_k fun K19 hK19 => ?_
     refine wp_region_lit (qs s41 (.c1 rfl (mv rfl rfl) (.c1 rfl (mv rfl rfl) (.c1 rfl (ob_sub rfl (.tmp rfl) (.tmp rfl)) (.c1 rfl (ob_geq rfl (.tmp rfl) (opd_int rfl)) (.ce (u 0 rfl (u 1 rfl (u 2 rfl (u 3 rfl (u 9 rfl (u 10 rfl (u 65 rfl .nil)))))))))))) fun _ _ s46 => wn hK19 ?_); clear s41
     have hj4 : ∀ (y8 : (List (List Int))) (a : Act) (w : World), (slices_partialInsertionSortCmpFunc_api_Key_queue_Wanted_1.j4 k p3 y7 y3 (slices_partialInsertionSortCmpFunc_api_Key_queue_Wanted_1.l1 k p3 p2 n1)) y8 = some r → St ⟨141, w0, ok, (idsOf [RowF wr0 39 (karr 32 (kint .u8)) p1])⟩ [RowF wr0 39 (karr 32 (kint .u8)) y8] [(0, (is wr0)), (1, ((kint .i64).V p2)), (2, ((kint .i64).V p3)), (3, (is (.func (.func 115) #[] #[]))), (9, ((kint .i64).V y7)), (10, ((kint .i64).V y3))] a w → K18 a w := by
      intro y8 a47 w47 h19 s47
      unfold slices_partialInsertionSortCmpFunc_api_Key_queue_Wanted_1.j4 at h19
      refine hK18 _ _ ?_
      refine wp_seq_k fun K20 hK20 => wp_region_lit (qs s47 (.c1 rfl (mv rfl rfl) (.c1 rfl (mv rfl rfl) (.c1 rfl (ob_sub rfl (.tmp rfl) (.tmp rfl)) (.c1 rfl (ob_geq rfl (.tmp rfl) (opd_int rfl)) (.ce (u 0 rfl (u 1 rfl (u 2 rfl (u 3 rfl (u 9 rfl (u 10 rfl (u 104 rfl .nil)))))))))))) fun _ _ s52 => wn hK20 ?_); clear s47
      refine cond_split s52 (.tmp rfl) (fun hc4 => ?_) (fun hc4 => ?_)
      ·have h20 := ite_t hc4 h19; clear h19
       refine wp_seq_k fun K21 hK21 => wp_region_lit (qs s52 (.c1 rfl (mv rfl rfl) (.c1 rfl (ob_add rfl (.tmp rfl) (opd_int rfl)) (.c1 rfl (ob_assign rfl (.tmp rfl)) (.ce (u 0 rfl (u 1 rfl (u 2 rfl (u 3 rfl (u 9 rfl (u 10 rfl (u 12 rfl .nil))))))))))) fun _ _ s56 => wn hK21 ?_); clear s52
       refine wp_block ?_
       refine wp_loop_fuel (fun m (q : Int × (List (List Int))) => slices_partialInsertionSortCmpFunc_api_Key_queue_Wanted_1.l2 k p3 y3 y7 (slices_partialInsertionSortCmpFunc_api_Key_queue_Wanted_1.l1 k p3 p2 n1) m q.1 q.2) r (fun _ => rfl) (fun q a w => St ⟨141, w0, ok, (idsOf [RowF wr0 39 (karr 32 (kint .u8)) p1])⟩ [RowF wr0 39 (karr 32 (kint .u8)) q.2] [(0, (is wr0)), (1, ((kint .i64).V p2)), (2, ((kint .i64).V p3)), (3, (is (.func (.func 115) #[] #[]))), (9, ((kint .i64).V y7)), (10, ((kint .i64).V y3)), (12, ((kint .i64).V q.1))] a w) ?_ k ((iadd .i64 y7 (1 : Int)), y8) _ _ h20 (s56.sub (.cons rfl (.cons rfl (.cons rfl (.cons rfl (.cons rfl (.cons rfl (.cons rfl .nil))))))))
       rintro n2 ⟨y9, y10⟩ a57 w57 h21 s57 K22 hK22
       replace h21 : slices_partialInsertionSortCmpFunc_api_Key_queue_Wanted_1.l2 k p3 y3 y7 (slices_partialInsertionSortCmpFunc_api_Key_queue_Wanted_1.l1 k p3 p2 n1) (n2 + 1) y9 y10 = some r := h21; rw [slices_partialInsertionSortCmpFunc_api_Key_queue_Wanted_1.l2] at h21
       have h22 := h21; clear h21
       refine wp_seq_k fun K23 hK23 => wp_seq_k fun K24 hK24 => ?_
       refine wp_region_lit (qs s57 (.c1 rfl (mv rfl rfl) (.c1 rfl (mv rfl rfl) (.c1 rfl (ob_lss rfl (.tmp rfl) (.tmp rfl)) (.ce (u 0 rfl (u 1 rfl (u 2 rfl (u 3 rfl (u 9 rfl (u 10 rfl (u 12 rfl (u 109 rfl .nil)))))))))))) fun _ _ s61 => wn hK24 ?_); clear s57
       refine cond_split s61 (.tmp rfl) (fun hc5 => ?_) (fun hc5 => ?_)
       ·have h23 := ite_t hc5 h22; clear h22
        refine wp_skip ?_
        refine then_normal (hK23 _ _ ?_)
        have s62 := s61.sub (u 0 rfl (u 1 rfl (u 2 rfl (u 3 rfl (u 9 rfl (u 10 rfl (u 12 rfl (u 109 rfl .nil)))))))); clear s61
        refine wp_seq_k fun K25 hK25 => wp_block ?_
        refine wp_seq_k fun K26 hK26 => wp_seq_k fun K27 hK27 => ?_
        obtain ⟨g5, h24⟩ := guard_some h23; clear h23
        obtain ⟨x5, e_x5, h25⟩ := bind_some h24; clear h24
        obtain ⟨g6, h26⟩ := guard_some h25; clear h25
        obtain ⟨x6, e_x6, h27⟩ := bind_some h26; clear h26
        refine wp_goes (Fs := [(is (.func (.func 115) #[] #[])), (is wr0), ((kint .i64).V y9), (ptrR wr0 (y9.toNat * 32)), ((karr 32 (kint .u8)).V x5), (is wr0), ((kint .i64).V y9), ((kint .i64).V (isub .i64 y9 (1 : Int))), (ptrR wr0 ((isub .i64 y9 (1 : Int)).toNat * 32)), ((karr 32 (kint .u8)).V x6)]) (bits := [0, 0, 0, 6, 14, 0, 0, 64, 224, 480, 1023, 2047, 4095]) (m := 10) (todo := 0) mx s62 ?_; clear s62
        refine goes_last (by kernel_rfl) rfl (oc (av 3 rfl rfl Av.nil) rfl rfl (mv rfl rfl) (oc (av 0 rfl rfl Av.nil) rfl rfl (mv rfl rfl) (oc (av 12 rfl rfl Av.nil) rfl rfl (mv rfl rfl) (oc (an 1 rfl rfl rfl (an 2 rfl rfl rfl Av.nil)) rfl rfl (ob_rowAt rfl Try.underlying40 sz39 (.tmp rfl) (.head _) (.tmp rfl) g5) (oc (an 3 rfl rfl rfl Av.nil) rfl rfl (ob_rowLoad rfl tk39 (.tmp rfl) (.head _) (LG.arrA e_x5)) (oc (av 0 rfl rfl Av.nil) rfl rfl (mv rfl rfl) (oc (av 12 rfl rfl Av.nil) rfl rfl (mv rfl rfl) (oc (an 6 rfl rfl rfl Av.nil) rfl rfl (ob_sub rfl (.tmp rfl) (opd_int rfl)) (oc (an 5 rfl rfl rfl (an 7 rfl rfl rfl Av.nil)) rfl rfl (ob_rowAt rfl Try.underlying40 sz39 (.tmp rfl) (.head _) (.tmp rfl) g6) (oc (an 8 rfl rfl rfl Av.nil) rfl rfl (ob_rowLoad rfl tk39 (.tmp rfl) (.head _) (LG.arrA e_x6)) opsS_nil)))))))))) (out_old (t := 0) rfl rfl (out_old (t := 1) rfl rfl (out_old (t := 2) rfl rfl (out_old (t := 3) rfl rfl (out_old (t := 9) rfl rfl (out_old (t := 10) rfl rfl (out_old (t := 12) rfl rfl (out_old (t := 109) rfl rfl (out_new (i := 0) (by decide) rfl rfl (out_new (i := 4) (by decide) rfl rfl (out_new (i := 9) (by decide) rfl rfl out_nil))))))))))) fun _ _ s63 => ?_
        obtain ⟨x7, e_x7, h28⟩ := bind_some h27; clear h27
        refine qs s63 (.c1 rfl (ob_callD0 (args := [_, _]) rfl (.fn (.tmp rfl)) hb115 (fun a w s => by exact c_queue_Wanted_1 k _ _ _ e_x7 _ _ _ _ (s.arg (.tmp rfl)) (s.arg (.tmp rfl)))) (.c1 rfl (ob_lss rfl (.tmp rfl) (opd_int rfl)) (.c1 rfl (ob_not rfl (.tmp rfl)) (.ce (u 0 rfl (u 1 rfl (u 2 rfl (u 3 rfl (u 9 rfl (u 10 rfl (u 12 rfl (u 109 rfl (u 124 rfl .nil))))))))))))) fun _ _ s67 => wn hK27 ?_; clear s63
        refine cond_split s67 (.tmp rfl) (fun hc6 => ?_) (fun hc6 => ?_)
        ·have h29 := ite_t hc6 h28; clear h28
         refine wp_exit ?_
         refine (then_exit (in_other (by decide) (then_exit (then_exit (in_here ?_)))))
         refine in_normal ?_
         refine then_normal ?_
         exact hj2 y7 y10 _ _ h29 (s67.sub (.cons rfl (.cons rfl (.cons rfl (.cons rfl (.cons rfl (.cons rfl .nil)))))))
        ·have h30 := ite_f hc6 h28; clear h28
         refine wp_skip ?_
         refine then_normal (hK26 _ _ ?_)
         have s68 := s67.sub (u 0 rfl (u 1 rfl (u 2 rfl (u 3 rfl (u 9 rfl (u 10 rfl (u 12 rfl (u 124 rfl .nil)))))))); clear s67
         obtain ⟨g7, h31⟩ := guard_some h30; clear h30
         obtain ⟨x8, e_x8, h32⟩ := bind_some h31; clear h31
         obtain ⟨g8, h33⟩ := guard_some h32; clear h32
         obtain ⟨x9, e_x9, h34⟩ := bind_some h33; clear h33
         obtain ⟨g9, h35⟩ := guard_some h34; clear h34
         obtain ⟨x10, e_x10, h36⟩ := bind_some h35; clear h35
         refine wp_goes (Fs := [(is wr0), ((kint .i64).V y9), (is wr0), ((kint .i64).V y9), ((kint .i64).V (isub .i64 y9 (1 : Int))), (is wr0), ((kint .i64).V y9), ((kint .i64).V (isub .i64 y9 (1 : Int))), (ptrR wr0 ((isub .i64 y9 (1 : Int)).toNat * 32)), ((karr 32 (kint .u8)).V x8), (is wr0), ((kint .i64).V y9), (ptrR wr0 (y9.toNat * 32)), ((karr 32 (kint .u8)).V x9), (ptrR wr0 (y9.toNat * 32)), nofact]) (bits := [0, 0, 0, 0, 8, 0, 0, 64, 224, 480, 0, 0, 3072, 7168, 16355, 32739, 65535, 131071]) (m := 16) (todo := 32768) mx s68 ?_; clear s68
         refine goes_turn (B' := (fun _ : Unit => [RowF wr0 39 (karr 32 (kint .u8)) x10])) (Fs' := (fun _ : Unit => setAll ([(is wr0), ((kint .i64).V y9), (is wr0), ((kint .i64).V y9), ((kint .i64).V (isub .i64 y9 (1 : Int))), (is wr0), ((kint .i64).V y9), ((kint .i64).V (isub .i64 y9 (1 : Int))), (ptrR wr0 ((isub .i64 y9 (1 : Int)).toNat * 32)), ((karr 32 (kint .u8)).V x8), (is wr0), ((kint .i64).V y9), (ptrR wr0 (y9.toNat * 32)), ((karr 32 (kint .u8)).V x9), (ptrR wr0 (y9.toNat * 32)), nofact]) [(15, nofact)])) 15 32768 65507 0 (by kernel_rfl) rfl rfl rfl (oc (av 0 rfl rfl Av.nil) rfl rfl (mv rfl rfl) (oc (av 12 rfl rfl Av.nil) rfl rfl (mv rfl rfl) (oc (av 0 rfl rfl Av.nil) rfl rfl (mv rfl rfl) (oc (av 12 rfl rfl Av.nil) rfl rfl (mv rfl rfl) (oc (an 3 rfl rfl rfl Av.nil) rfl rfl (ob_sub rfl (.tmp rfl) (opd_int rfl)) (oc (av 0 rfl rfl Av.nil) rfl rfl (mv rfl rfl) (oc (av 12 rfl rfl Av.nil) rfl rfl (mv rfl rfl) (oc (an 6 rfl rfl rfl Av.nil) rfl rfl (ob_sub rfl (.tmp rfl) (opd_int rfl)) (oc (an 5 rfl rfl rfl (an 7 rfl rfl rfl Av.nil)) rfl rfl (ob_rowAt rfl Try.underlying40 sz39 (.tmp rfl) (.head _) (.tmp rfl) g7) (oc (an 8 rfl rfl rfl Av.nil) rfl rfl (ob_rowLoad rfl tk39 (.tmp rfl) (.head _) (LG.arrA e_x8)) (oc (av 0 rfl rfl Av.nil) rfl rfl (mv rfl rfl) (oc (av 12 rfl rfl Av.nil) rfl rfl (mv rfl rfl) (oc (an 10 rfl rfl rfl (an 11 rfl rfl rfl Av.nil)) rfl rfl (ob_rowAt rfl Try.underlying40 sz39 (.tmp rfl) (.head _) (.tmp rfl) g8) (oc (an 12 rfl rfl rfl Av.nil) rfl rfl (ob_rowLoad rfl tk39 (.tmp rfl) (.head _) (LG.arrA e_x9)) (oc (an 0 rfl rfl rfl (an 1 rfl rfl rfl Av.nil)) rfl rfl (ob_rowAt rfl Try.underlying40 sz39 (.tmp rfl) (.head _) (.tmp rfl) g9) (opsS_skip (by rfl) opsS_nil)))))))))))))))) (.plain _ (an 9 rfl rfl rfl (an 14 rfl rfl rfl Av.nil)) rfl (fun _ => rfl) (fun R => ob_rowStore (A := []) rfl tk39 (.tmp rfl) (.tmp rfl) rfl (LS.arrS e_x10) rfl)) (setAll_same (us := (fun _ : Unit => [(15, nofact)])) fun _ => by kernel_rfl) fun _ => ?_
         refine goes_last (by kernel_rfl) rfl (opsS_skip (by rfl) (opsS_skip (by rfl) (oc (av 0 rfl rfl Av.nil) rfl rfl (mv rfl rfl) (oc (av 12 rfl rfl Av.nil) rfl rfl (mv rfl rfl) (oc (an 3 rfl rfl rfl Av.nil) rfl rfl (ob_sub rfl (.tmp rfl) (opd_int rfl)) (opsS_skip (by rfl) (opsS_skip (by rfl) (opsS_skip (by rfl) (opsS_skip (by rfl) (opsS_skip (by rfl) (opsS_skip (by rfl) (opsS_skip (by rfl) (opsS_skip (by rfl) (opsS_skip (by rfl) (opsS_skip (by rfl) (opsS_skip (by rfl) opsS_nil)))))))))))))))) (out_old (t := 0) rfl rfl (out_old (t := 1) rfl rfl (out_old (t := 2) rfl rfl (out_old (t := 3) rfl rfl (out_old (t := 9) rfl rfl (out_old (t := 10) rfl rfl (out_old (t := 12) rfl rfl (out_old (t := 124) rfl rfl (out_new (i := 2) (by decide) rfl rfl (out_new (i := 4) (by decide) rfl rfl (out_new (i := 13) (by decide) rfl rfl out_nil))))))))))) fun _ _ s69 => ?_
         obtain ⟨g10, h37⟩ := guard_some h36; clear h36
         obtain ⟨x11, e_x11, h38⟩ := bind_some h37; clear h37
         refine qs s69 (.c1 rfl (ob_rowAt rfl Try.underlying40 sz39 (.tmp rfl) (.head _) (.tmp rfl) g10) .cz) fun _ _ s70 => ?_; clear s69
         refine seq_opx0 (B' := (fun _ : Unit => [RowF wr0 39 (karr 32 (kint .u8)) x11])) s70 rfl rfl (ob_rowStore (A := []) rfl tk39 (.tmp rfl) (.tmp rfl) rfl (LS.arrS e_x11) rfl) fun _ a71 w71 s71 => ?_; clear s70
         refine wpList_nil ?_
         refine in_normal ?_
         refine then_normal (hK25 _ _ ?_)
         have s72 := s71.sub (u 0 rfl (u 1 rfl (u 2 rfl (u 3 rfl (u 9 rfl (u 10 rfl (u 12 rfl (u 124 rfl .nil)))))))); clear s71
         refine wp_region_lit (qs s72 (.c1 rfl (mv rfl rfl) (.c1 rfl (ob_add rfl (.tmp rfl) (opd_int rfl)) (.c1 rfl (ob_assign rfl (.tmp rfl)) .cz))) fun _ _ s75 => ?_); clear s72
         refine wpList_nil ?_
         refine then_normal ?_
         exact hK22 ((iadd .i64 y9 (1 : Int)), x11) _ _ h38 (s75.sub (.cons rfl (.cons rfl (.cons rfl (.cons rfl (.cons rfl (.cons rfl (.cons rfl .nil))))))))
       ·have h39 := ite_f hc5 h22; clear h22
        refine wp_exit ?_
        refine (then_exit (then_exit (in_here ?_)))
        refine in_normal ?_
        refine then_normal ?_
        exact hj2 y7 y10 _ _ h39 (s61.sub (.cons rfl (.cons rfl (.cons rfl (.cons rfl (.cons rfl (.cons rfl .nil)))))))
      ·have h40 := ite_f hc4 h19; clear h19
       refine wp_skip ?_
       refine in_normal ?_
       refine then_normal ?_
       exact hj2 y7 y8 _ _ h40 (s52.sub (.cons rfl (.cons rfl (.cons rfl (.cons rfl (.cons rfl (.cons rfl .nil)))))))
     refine cond_split s46 (.tmp rfl) (fun hc7 => ?_) (fun hc7 => ?_)
     ·have h41 := ite_t hc7 h18; clear h18
      refine wp_seq_k fun K28 hK28 => wp_region_lit (qs s46 (.c1 rfl (mv rfl rfl) (.c1 rfl (ob_sub rfl (.tmp rfl) (opd_int rfl)) (.c1 rfl (ob_assign rfl (.tmp rfl)) (.ce (u 0 rfl (u 1 rfl (u 2 rfl (u 3 rfl (u 9 rfl (u 10 rfl (u 11 rfl .nil))))))))))) fun _ _ s79 => wn hK28 ?_); clear s46
      refine wp_block ?_
      refine wp_loop_fuel (fun m (q : Int × (List (List Int))) => slices_partialInsertionSortCmpFunc_api_Key_queue_Wanted_1.l3 k p3 y7 y3 (slices_partialInsertionSortCmpFunc_api_Key_queue_Wanted_1.l1 k p3 p2 n1) m q.1 q.2) r (fun _ => rfl) (fun q a w => St ⟨141, w0, ok, (idsOf [RowF wr0 39 (karr 32 (kint .u8)) p1])⟩ [RowF wr0 39 (karr 32 (kint .u8)) q.2] [(0, (is wr0)), (1, ((kint .i64).V p2)), (2, ((kint .i64).V p3)), (3, (is (.func (.func 115) #[] #[]))), (9, ((kint .i64).V y7)), (10, ((kint .i64).V y3)), (11, ((kint .i64).V q.1))] a w) ?_ k ((isub .i64 y7 (1 : Int)), x4) _ _ h41 (s79.sub (.cons rfl (.cons rfl (.cons rfl (.cons rfl (.cons rfl (.cons rfl (.cons rfl .nil))))))))
      rintro n3 ⟨y11, y12⟩ a80 w80 h42 s80 K29 hK29
      replace h42 : slices_partialInsertionSortCmpFunc_api_Key_queue_Wanted_1.l3 k p3 y7 y3 (slices_partialInsertionSortCmpFunc_api_Key_queue_Wanted_1.l1 k p3 p2 n1) (n3 + 1) y11 y12 = some r := h42; rw [slices_partialInsertionSortCmpFunc_api_Key_queue_Wanted_1.l3] at h42
      have h43 := h42; clear h42
      refine wp_seq_k fun K30 hK30 => wp_seq_k fun K31 hK31 => ?_
      refine wp_region_lit (qs s80 (.c1 rfl (mv rfl rfl) (.c1 rfl (ob_geq rfl (.tmp rfl) (opd_int rfl)) (.ce (u 0 rfl (u 1 rfl (u 2 rfl (u 3 rfl (u 9 rfl (u 10 rfl (u 11 rfl (u 69 rfl .nil))))))))))) fun _ _ s83 => wn hK31 ?_); clear s80
      refine cond_split s83 (.tmp rfl) (fun hc8 => ?_) (fun hc8 => ?_)
      ·have h44 := ite_t hc8 h43; clear h43
       refine wp_skip ?_
       refine then_normal (hK30 _ _ ?_)
       have s84 := s83.sub (u 0 rfl (u 1 rfl (u 2 rfl (u 3 rfl (u 9 rfl (u 10 rfl (u 11 rfl (u 69 rfl .nil)))))))); clear s83
       refine wp_seq_k fun K32 hK32 => wp_block ?_
       refine wp_seq_k fun K33 hK33 => wp_seq_k fun K34 hK34 => ?_
       obtain ⟨g11, h45⟩ := guard_some h44; clear h44
       obtain ⟨x12, e_x12, h46⟩ := bind_some h45; clear h45
       obtain ⟨g12, h47⟩ := guard_some h46; clear h46
       obtain ⟨x13, e_x13, h48⟩ := bind_some h47; clear h47
       refine wp_goes (Fs := [(is (.func (.func 115) #[] #[])), (is wr0), ((kint .i64).V y11), (ptrR wr0 (y11.toNat * 32)), ((karr 32 (kint .u8)).V x12), (is wr0), ((kint .i64).V y11), ((kint .i64).V (isub .i64 y11 (1 : Int))), (ptrR wr0 ((isub .i64 y11 (1 : Int)).toNat * 32)), ((karr 32 (kint .u8)).V x13)]) (bits := [0, 0, 0, 6, 14, 0, 0, 64, 224, 480, 1023, 2047, 4095]) (m := 10) (todo := 0) mx s84 ?_; clear s84
       refine goes_last (by kernel_rfl) rfl (oc (av 3 rfl rfl Av.nil) rfl rfl (mv rfl rfl) (oc (av 0 rfl rfl Av.nil) rfl rfl (mv rfl rfl) (oc (av 11 rfl rfl Av.nil) rfl rfl (mv rfl rfl) (oc (an 1 rfl rfl rfl (an 2 rfl rfl rfl Av.nil)) rfl rfl (ob_rowAt rfl Try.underlying40 sz39 (.tmp rfl) (.head _) (.tmp rfl) g11) (oc (an 3 rfl rfl rfl Av.nil) rfl rfl (ob_rowLoad rfl tk39 (.tmp rfl) (.head _) (LG.arrA e_x12)) (oc (av 0 rfl rfl Av.nil) rfl rfl (mv rfl rfl) (oc (av 11 rfl rfl Av.nil) rfl rfl (mv rfl rfl) (oc (an 6 rfl rfl rfl Av.nil) rfl rfl (ob_sub rfl (.tmp rfl) (opd_int rfl)) (oc (an 5 rfl rfl rfl (an 7 rfl rfl rfl Av.nil)) rfl rfl (ob_rowAt rfl Try.underlying40 sz39 (.tmp rfl) (.head _) (.tmp rfl) g12) (oc (an 8 rfl rfl rfl Av.nil) rfl rfl (ob_rowLoad rfl tk39 (.tmp rfl) (.head _) (LG.arrA e_x13)) opsS_nil)))))))))) (out_old (t := 0) rfl rfl (out_old (t := 1) rfl rfl (out_old (t := 2) rfl rfl (out_old (t := 3) rfl rfl (out_old (t := 9) rfl rfl (out_old (t := 10) rfl rfl (out_old (t := 11) rfl rfl (out_old (t := 69) rfl rfl (out_new (i := 0) (by decide) rfl rfl (out_new (i := 4) (by decide) rfl rfl (out_new (i := 9) (by decide) rfl rfl out_nil))))))))))) fun _ _ s85 => ?_
       obtain ⟨x14, e_x14, h49⟩ := bind_some h48; clear h48
       refine qs s85 (.c1 rfl (ob_callD0 (args := [_, _]) rfl (.fn (.tmp rfl)) hb115 (fun a w s => by exact c_queue_Wanted_1 k _ _ _ e_x14 _ _ _ _ (s.arg (.tmp rfl)) (s.arg (.tmp rfl)))) (.c1 rfl (ob_lss rfl (.tmp rfl) (opd_int rfl)) (.c1 rfl (ob_not rfl (.tmp rfl)) (.ce (u 0 rfl (u 1 rfl (u 2 rfl (u 3 rfl (u 9 rfl (u 10 rfl (u 11 rfl (u 69 rfl (u 84 rfl .nil))))))))))))) fun _ _ s89 => wn hK34 ?_; clear s85
       refine cond_split s89 (.tmp rfl) (fun hc9 => ?_) (fun hc9 => ?_)
       ·have h50 := ite_t hc9 h49; clear h49
        refine wp_exit ?_
        refine (then_exit (in_other (by decide) (then_exit (then_exit (in_here ?_)))))
        refine then_normal ?_
        exact hj4 y12 _ _ h50 (s89.sub (.cons rfl (.cons rfl (.cons rfl (.cons rfl (.cons rfl (.cons rfl .nil)))))))
       ·have h51 := ite_f hc9 h49; clear h49
        refine wp_skip ?_
        refine then_normal (hK33 _ _ ?_)
        have s90 := s89.sub (u 0 rfl (u 1 rfl (u 2 rfl (u 3 rfl (u 9 rfl (u 10 rfl (u 11 rfl (u 84 rfl .nil)))))))); clear s89
        obtain ⟨g13, h52⟩ := guard_some h51; clear h51
        obtain ⟨x15, e_x15, h53⟩ := bind_some h52; clear h52
        obtain ⟨g14, h54⟩ := guard_some h53; clear h53
        obtain ⟨x16, e_x16, h55⟩ := bind_some h54; clear h54
        obtain ⟨g15, h56⟩ := guard_some h55; clear h55
        obtain ⟨x17, e_x17, h57⟩ := bind_some h56; clear h56
        refine wp_goes (Fs := [(is wr0), ((kint .i64).V y11), (is wr0), ((kint .i64).V y11), ((kint .i64).V (isub .i64 y11 (1 : Int))), (is wr0), ((kint .i64).V y11), ((kint .i64).V (isub .i64 y11 (1 : Int))), (ptrR wr0 ((isub .i64 y11 (1 : Int)).toNat * 32)), ((karr 32 (kint .u8)).V x15), (is wr0), ((kint .i64).V y11), (ptrR wr0 (y11.toNat * 32)), ((karr 32 (kint .u8)).V x16), (ptrR wr0 (y11.toNat * 32)), nofact]) (bits := [0, 0, 0, 0, 8, 0, 0, 64, 224, 480, 0, 0, 3072, 7168, 16355, 32739, 65535, 131071]) (m := 16) (todo := 32768) mx s90 ?_; clear s90
        refine goes_turn (B' := (fun _ : Unit => [RowF wr0 39 (karr 32 (kint .u8)) x17])) (Fs' := (fun _ : Unit => setAll ([(is wr0), ((kint .i64).V y11), (is wr0), ((kint .i64).V y11), ((kint .i64).V (isub .i64 y11 (1 : Int))), (is wr0), ((kint .i64).V y11), ((kint .i64).V (isub .i64 y11 (1 : Int))), (ptrR wr0 ((isub .i64 y11 (1 : Int)).toNat * 32)), ((karr 32 (kint .u8)).V x15), (is wr0), ((kint .i64).V y11), (ptrR wr0 (y11.toNat * 32)), ((karr 32 (kint .u8)).V x16), (ptrR wr0 (y11.toNat * 32)), nofact]) [(15, nofact)])) 15 32768 65507 0 (by kernel_rfl) rfl rfl rfl (oc (av 0 rfl rfl Av.nil) rfl rfl (mv rfl rfl) (oc (av 11 rfl rfl Av.nil) rfl rfl (mv rfl rfl) (oc (av 0 rfl rfl Av.nil) rfl rfl (mv rfl rfl) (oc (av 11 rfl rfl Av.nil) rfl rfl (mv rfl rfl) (oc (an 3 rfl rfl rfl Av.nil) rfl rfl (ob_sub rfl (.tmp rfl) (opd_int rfl)) (oc (av 0 rfl rfl Av.nil) rfl rfl (mv rfl rfl) (oc (av 11 rfl rfl Av.nil) rfl rfl (mv rfl rfl) (oc (an 6 rfl rfl rfl Av.nil) rfl rfl (ob_sub rfl (.tmp rfl) (opd_int rfl)) (oc (an 5 rfl rfl rfl (an 7 rfl rfl rfl Av.nil)) rfl rfl (ob_rowAt rfl Try.underlying40 sz39 (.tmp rfl) (.head _) (.tmp rfl) g13) (oc (an 8 rfl rfl rfl Av.nil) rfl rfl (ob_rowLoad rfl tk39 (.tmp rfl) (.head _) (LG.arrA e_x15)) (oc (av 0 rfl rfl Av.nil) rfl rfl (mv rfl rfl) (oc (av 11 rfl rfl Av.nil) rfl rfl (mv rfl rfl) (oc (an 10 rfl rfl rfl (an 11 rfl rfl rfl Av.nil)) rfl rfl (ob_rowAt rfl Try.underlying40 sz39 (.tmp rfl) (.head _) (.tmp rfl) g14) (oc (an 12 rfl rfl rfl Av.nil) rfl rfl (ob_rowLoad rfl tk39 (.tmp rfl) (.head _) (LG.arrA e_x16)) (oc (an 0 rfl rfl rfl (an 1 rfl rfl rfl Av.nil)) rfl rfl (ob_rowAt rfl Try.underlying40 sz39 (.tmp rfl) (.head _) (.tmp rfl) g15) (opsS_skip (by rfl) opsS_nil)))))))))))))))) (.plain _ (an 9 rfl rfl rfl (an 14 rfl rfl rfl Av.nil)) rfl (fun _ => rfl) (fun R => ob_rowStore (A := []) rfl tk39 (.tmp rfl) (.tmp rfl) rfl (LS.arrS e_x17) rfl)) (setAll_same (us := (fun _ : Unit => [(15, nofact)])) fun _ => by kernel_rfl) fun _ => ?_
        refine goes_last (by kernel_rfl) rfl (opsS_skip (by rfl) (opsS_skip (by rfl) (oc (av 0 rfl rfl Av.nil) rfl rfl (mv rfl rfl) (oc (av 11 rfl rfl Av.nil) rfl rfl (mv rfl rfl) (oc (an 3 rfl rfl rfl Av.nil) rfl rfl (ob_sub rfl (.tmp rfl) (opd_int rfl)) (opsS_skip (by rfl) (opsS_skip (by rfl) (opsS_skip (by rfl) (opsS_skip (by rfl) (opsS_skip (by rfl) (opsS_skip (by rfl) (opsS_skip (by rfl) (opsS_skip (by rfl) (opsS_skip (by rfl) (opsS_skip (by rfl) (opsS_skip (by rfl) opsS_nil)))))))))))))))) (out_old (t := 0) rfl rfl (out_old (t := 1) rfl rfl (out_old (t := 2) rfl rfl (out_old (t := 3) rfl rfl (out_old (t := 9) rfl rfl (out_old (t := 10) rfl rfl (out_old (t := 11) rfl rfl (out_old (t := 84) rfl rfl (out_new (i := 2) (by decide) rfl rfl (out_new (i := 4) (by decide) rfl rfl (out_new (i := 13) (by decide) rfl rfl out_nil))))))))))) fun _ _ s91 => ?_
        obtain ⟨g16, h58⟩ := guard_some h57; clear h57
        obtain ⟨x18, e_x18, h59⟩ := bind_some h58; clear h58
        refine qs s91 (.c1 rfl (ob_rowAt rfl Try.underlying40 sz39 (.tmp rfl) (.head _) (.tmp rfl) g16) .cz) fun _ _ s92 => ?_; clear s91
        refine seq_opx0 (B' := (fun _ : Unit => [RowF wr0 39 (karr 32 (kint .u8)) x18])) s92 rfl rfl (ob_rowStore (A := []) rfl tk39 (.tmp rfl) (.tmp rfl) rfl (LS.arrS e_x18) rfl) fun _ a93 w93 s93 => ?_; clear s92
        refine wpList_nil ?_
        refine in_normal ?_
        refine then_normal (hK32 _ _ ?_)
        have s94 := s93.sub (u 0 rfl (u 1 rfl (u 2 rfl (u 3 rfl (u 9 rfl (u 10 rfl (u 11 rfl (u 84 rfl .nil)))))))); clear s93
        refine wp_region_lit (qs s94 (.c1 rfl (mv rfl rfl) (.c1 rfl (ob_sub rfl (.tmp rfl) (opd_int rfl)) (.c1 rfl (ob_assign rfl (.tmp rfl)) .cz))) fun _ _ s97 => ?_); clear s94
        refine wpList_nil ?_
        refine then_normal ?_
        exact hK29 ((isub .i64 y11 (1 : Int)), x18) _ _ h59 (s97.sub (.cons rfl (.cons rfl (.cons rfl (.cons rfl (.cons rfl (.cons rfl (.cons rfl .nil))))))))
      ·have h60 := ite_f hc8 h43; clear h43
       refine wp_exit ?_
       refine (then_exit (then_exit (in_here ?_)))
       refine then_normal ?_
       exact hj4 y12 _ _ h60 (s83.sub (.cons rfl (.cons rfl (.cons rfl (.cons rfl (.cons rfl (.cons rfl .nil)))))))
     ·have h61 := ite_f hc7 h18; clear h18
      refine wp_skip ?_
      refine then_normal ?_
      exact hj4 x4 _ _ h61 (s46.sub (.cons rfl (.cons rfl (.cons rfl (.cons rfl (.cons rfl (.cons rfl .nil)))))))
  refine wp_block ?_
  refine wp_loop_fuel (fun m (q : Int) => slices_partialInsertionSortCmpFunc_api_Key_queue_Wanted_1.l4 k p3 y4 p2 y3 (slices_partialInsertionSortCmpFunc_api_Key_queue_Wanted_1.l1 k p3 p2 n1) m q) r (fun _ => rfl) (fun q a w => St ⟨141, w0, ok, (idsOf [RowF wr0 39 (karr 32 (kint .u8)) p1])⟩ [RowF wr0 39 (karr 32 (kint .u8)) y4] [(0, (is wr0)), (1, ((kint .i64).V p2)), (2, ((kint .i64).V p3)), (3, (is (.func (.func 115) #[] #[]))), (9, ((kint .i64).V q)), (10, ((kint .i64).V y3))] a w) ?_ k y2 _ _ h4 (s17.sub (.cons rfl (.cons rfl (.cons rfl (.cons rfl (.cons rfl (.cons rfl .nil)))))))
  rintro n4 y13 a98 w98 h62 s98 K35 hK35
  replace h62 : slices_partialInsertionSortCmpFunc_api_Key_queue_Wanted_1.l4 k p3 y4 p2 y3 (slices_partialInsertionSortCmpFunc_api_Key_queue_Wanted_1.l1 k p3 p2 n1) (n4 + 1) y13 = some r := h62; rw [slices_partialInsertionSortCmpFunc_api_Key_queue_Wanted_1.l4] at h62
  have h63 := h62; clear h62
  refine wp_seq_k fun K36 hK36 => wp_seq_k fun K37 hK37 => ?_
  obtain ⟨g17, h64⟩ := guard_some h63; clear h63
  obtain ⟨x19, e_x19, h65⟩ := bind_some h64; clear h64
  obtain ⟨g18, h66⟩ := guard_some h65; clear h65
  obtain ⟨x20, e_x20, h67⟩ := bind_some h66; clear h66
  refine wp_goes (Fs := [((kint .i64).V y13), ((kint .i64).V p3), (kbool.V (decide (y13 < p3))), (kbool.V (decide (y13 < p3))), (Fact.when ((decide (y13 < p3)) == true) (is (.func (.func 115) #[] #[]))), (Fact.when ((decide (y13 < p3)) == true) (is wr0)), (Fact.when ((decide (y13 < p3)) == true) ((kint .i64).V y13)), (Fact.when ((decide (y13 < p3)) == true) (ptrR wr0 (y13.toNat * 32))), (Fact.when ((decide (y13 < p3)) == true) ((karr 32 (kint .u8)).V x19)), (Fact.when ((decide (y13 < p3)) == true) (is wr0)), (Fact.when ((decide (y13 < p3)) == true) ((kint .i64).V y13)), (Fact.when ((decide (y13 < p3)) == true) ((kint .i64).V (isub .i64 y13 (1 : Int)))), (Fact.when ((decide (y13 < p3)) == true) (ptrR wr0 ((isub .i64 y13 (1 : Int)).toNat * 32))), (Fact.when ((decide (y13 < p3)) == true) ((karr 32 (kint .u8)).V x20))]) (bits := [0, 0, 3, 7, 15, 15, 15, 111, 239, 15, 15, 1039, 3599, 7695, 16383, 32767, 65535, 131071]) (m := 14) (todo := 0) mx s98 ?_; clear s98
  refine goes_last (by kernel_rfl) rfl (oc (av 9 rfl rfl Av.nil) rfl rfl (mv rfl rfl) (oc (av 2 rfl rfl Av.nil) rfl rfl (mv rfl rfl) (oc (an 0 rfl rfl rfl (an 1 rfl rfl rfl Av.nil)) rfl rfl (ob_lss rfl (.tmp rfl) (.tmp rfl)) (oc (an 2 rfl rfl rfl Av.nil) rfl rfl (mv rfl rfl) (opsS_cons (.guarded _ (av 3 rfl rfl (an 3 rfl rfl rfl Av.nil)) rfl rfl rfl rfl (fun hb => ob_move rfl (.tmp rfl))) (opsS_cons (.guarded _ (av 0 rfl rfl (an 3 rfl rfl rfl Av.nil)) rfl rfl rfl rfl (fun hb => ob_move rfl (.tmp rfl))) (opsS_cons (.guarded _ (av 9 rfl rfl (an 3 rfl rfl rfl Av.nil)) rfl rfl rfl rfl (fun hb => ob_move rfl (.tmp rfl))) (opsS_cons (.guarded _ (an 3 rfl rfl rfl (an 5 rfl rfl rfl (an 6 rfl rfl rfl Av.nil))) rfl rfl rfl rfl (fun hb => (Ob.uncond (t := 25) hb rfl ((Ob.uncond (t := 24) hb rfl (ob_rowAt rfl Try.underlying40 sz39 (.tmp rfl) (.head _) (.tmp rfl) (g17 hb))))))) (opsS_cons (.guarded _ (an 3 rfl rfl rfl (an 7 rfl rfl rfl Av.nil)) rfl rfl rfl rfl (fun hb => (Ob.uncond (t := 26) hb rfl (ob_rowLoad rfl tk39 (.tmp rfl) (.head _) (LG.arrA (ite_t hb e_x19)))))) (opsS_cons (.guarded _ (av 0 rfl rfl (an 3 rfl rfl rfl Av.nil)) rfl rfl rfl rfl (fun hb => ob_move rfl (.tmp rfl))) (opsS_cons (.guarded _ (av 9 rfl rfl (an 3 rfl rfl rfl Av.nil)) rfl rfl rfl rfl (fun hb => ob_move rfl (.tmp rfl))) (opsS_cons (.guarded _ (an 3 rfl rfl rfl (an 10 rfl rfl rfl Av.nil)) rfl rfl rfl rfl (fun hb => (Ob.uncond (t := 29) hb rfl (ob_sub rfl (.tmp rfl) (opd_int rfl))))) (opsS_cons (.guarded _ (an 3 rfl rfl rfl (an 9 rfl rfl rfl (an 11 rfl rfl rfl Av.nil))) rfl rfl rfl rfl (fun hb => (Ob.uncond (t := 30) hb rfl ((Ob.uncond (t := 28) hb rfl (ob_rowAt rfl Try.underlying40 sz39 (.tmp rfl) (.head _) (.tmp rfl) (g18 hb))))))) (opsS_cons (.guarded _ (an 3 rfl rfl rfl (an 12 rfl rfl rfl Av.nil)) rfl rfl rfl rfl (fun hb => (Ob.uncond (t := 31) hb rfl (ob_rowLoad rfl tk39 (.tmp rfl) (.head _) (LG.arrA (ite_t hb e_x20)))))) opsS_nil)))))))))))))) (out_old (t := 0) rfl rfl (out_old (t := 1) rfl rfl (out_old (t := 2) rfl rfl (out_old (t := 3) rfl rfl (out_old (t := 9) rfl rfl (out_old (t := 10) rfl rfl (out_new (i := 3) (by decide) rfl rfl (out_new (i := 4) (by decide) rfl rfl (out_new (i := 8) (by decide) rfl rfl (out_new (i := 13) (by decide) rfl rfl out_nil)))))))))) fun _ _ s99 => ?_
  obtain ⟨x21, e_x21, h68⟩ := bind_some h67; clear h67
  refine qs s99 (.cg rfl rfl rfl rfl (fun hb => (Ob.uncond (t := 32) hb rfl ((Ob.uncond (t := 27) hb rfl ((Ob.uncond (t := 23) hb rfl (ob_callD0 (args := [_, _]) rfl (.fn (.tmp rfl)) hb115 (fun a w s => by exact c_queue_Wanted_1 k _ _ _ (ite_t hb e_x21) _ _ _ _ (s.arg (.tmp rfl)) (s.arg (.tmp rfl)))))))))) (.cg rfl rfl rfl rfl (fun hb => (Ob.uncond (t := 33) hb rfl (ob_lss rfl (.tmp rfl) (opd_int rfl)))) (.cg rfl rfl rfl rfl (fun hb => (Ob.uncond (t := 34) hb rfl (ob_not rfl (.tmp rfl)))) (.c1 rfl (ob_and2 rfl (.tmp rfl) (.tmp rfl) opd_bool) (.ce (u 0 rfl (u 1 rfl (u 2 rfl (u 3 rfl (u 9 rfl (u 10 rfl (u 36 rfl .nil)))))))))))) fun _ _ s104 => wn hK37 ?_; clear s99
  refine cond_split s104 (.tmp rfl) (fun hc10 => ?_) (fun hc10 => ?_)
  ·have h69 := ite_t hc10 h68; clear h68
   refine wp_skip ?_
   refine then_normal (hK36 _ _ ?_)
   have s105 := s104.sub (u 0 rfl (u 1 rfl (u 2 rfl (u 3 rfl (u 9 rfl (u 10 rfl .nil)))))); clear s104
   refine wp_block ?_
   refine wp_region_lit (qs s105 (.c1 rfl (mv rfl rfl) (.c1 rfl (ob_add rfl (.tmp rfl) (opd_int rfl)) (.c1 rfl (ob_assign rfl (.tmp rfl)) .cz))) fun _ _ s108 => ?_); clear s105
   refine wpList_nil ?_
   refine in_normal ?_
   refine then_normal ?_
   exact hK35 (iadd .i64 y13 (1 : Int)) _ _ h69 (s108.sub (.cons rfl (.cons rfl (.cons rfl (.cons rfl (.cons rfl (.cons rfl .nil)))))))
  ·have h70 := ite_f hc10 h68; clear h68
   refine wp_exit ?_
   refine (then_exit (then_exit (in_here ?_)))
   refine then_normal ?_
   exact hj3 y13 _ _ h70 (s104.sub (.cons rfl (.cons rfl (.cons rfl (.cons rfl (.cons rfl (.cons rfl .nil)))))))
 ·have h71 := ite_f hc1 h3; clear h3
  refine wp_exit ?_
  refine (then_exit (then_exit (in_here ?_)))
  refine then_normal ?_
  exact hj1 y4 _ _ h71 (s16.sub .nil)
theorem c_slices_partitionEqualCmpFunc_api_Key_queue_Wanted_1 (k : Nat) (p1 : (List (List Int))) (p2 : Int) (p3 : Int) (p4 : Int) (r : (Int × (List (List Int)))) (h0 : slices_partitionEqualCmpFunc_api_Key_queue_Wanted_1 k p1 p2 p3 p4 = some r) (ok : Ok) (w0 : World) (z0 : Value) (z1 : Value) (z2 : Value) (z3 : Value) (z4 : Value) (wr0 : Value) (l0 : ∀ q, q ∈ [RowF wr0 39 (karr 32 (kint .u8)) p1] → q.holds ok w0) (d0 : ∀ c, c ∈ idsOf [RowF wr0 39 (karr 32 (kint .u8)) p1] → ¬ ok c) (nd : (idsOf [RowF wr0 39 (karr 32 (kint .u8)) p1]).Nodup) (u0 : (is wr0).holds ok w0 z0) (u1 : ((kint .i64).V p2).holds ok w0 z1) (u2 : ((kint .i64).V p3).holds ok w0 z2) (u3 : ((kint .i64).V p4).holds ok w0 z3) (u4 : (is (.func (.func 115) #[] #[])).holds ok w0 z4) :
 GivesX Try.prog 171 [z0, z1, z2, z3, z4] ok w0 [RowF wr0 39 (karr 32 (kint .u8)) p1] (fun g : Unit => resFact [(kint .i64).V r.1]) (fun g : Unit => [RowF wr0 39 (karr 32 (kint .u8)) r.2]) := by
 unfold slices_partitionEqualCmpFunc_api_Key_queue_Wanted_1 at h0
 refine enterX (N := 90) Try.func171 rfl rfl (of_decide_eq_true rfl) (.cons u0 (.cons u1 (.cons u2 (.cons u3 (.cons u4 .nil))))) nd l0 d0 fun a1 s1 => ?_
 refine wp_seq_k fun K1 hK1 => wp_region_lit (qs s1 (.c1 rfl (ob_assign rfl (opd_int rfl)) (.ce (u 0 rfl (u 1 rfl (u 2 rfl (u 3 rfl (u 4 rfl .nil))))))) fun _ _ s3 => wn hK1 ?_); clear s1
 refine wp_seq_k fun K2 hK2 => ?_
 obtain ⟨g1, h1⟩ := guard_some h0; clear h0
 obtain ⟨x1, e_x1, h2⟩ := bind_some h1; clear h1
 obtain ⟨g2, h3⟩ := guard_some h2; clear h2
 obtain ⟨x2, e_x2, h4⟩ := bind_some h3; clear h3
 obtain ⟨g3, h5⟩ := guard_some h4; clear h4
 obtain ⟨x3, e_x3, h6⟩ := bind_some h5; clear h5
 refine wp_goes (Fs := [(is wr0), ((kint .i64).V p2), (is wr0), ((kint .i64).V p4), (is wr0), ((kint .i64).V p4), (ptrR wr0 (p4.toNat * 32)), ((karr 32 (kint .u8)).V x1), (is wr0), ((kint .i64).V p2), (ptrR wr0 (p2.toNat * 32)), ((karr 32 (kint .u8)).V x2), (ptrR wr0 (p2.toNat * 32)), nofact]) (bits := [0, 0, 0, 0, 0, 0, 48, 112, 0, 0, 768, 1792, 4083, 8179, 16383, 32767]) (m := 14) (todo := 8192) mx s3 ?_; clear s3
 refine goes_turn (B' := (fun _ : Unit => [RowF wr0 39 (karr 32 (kint .u8)) x3])) (Fs' := (fun _ : Unit => setAll ([(is wr0), ((kint .i64).V p2), (is wr0), ((kint .i64).V p4), (is wr0), ((kint .i64).V p4), (ptrR wr0 (p4.toNat * 32)), ((karr 32 (kint .u8)).V x1), (is wr0), ((kint .i64).V p2), (ptrR wr0 (p2.toNat * 32)), ((karr 32 (kint .u8)).V x2), (ptrR wr0 (p2.toNat * 32)), nofact]) [(13, nofact)])) 13 8192 16371 0 (by kernel_rfl) rfl rfl rfl (oc (av 0 rfl rfl Av.nil) rfl rfl (mv rfl rfl) (oc (av 1 rfl rfl Av.nil) rfl rfl (mv rfl rfl) (oc (av 0 rfl rfl Av.nil) rfl rfl (mv rfl rfl) (oc (av 3 rfl rfl Av.nil) rfl rfl (mv rfl rfl) (oc (av 0 rfl rfl Av.nil) rfl rfl (mv rfl rfl) (oc (av 3 rfl rfl Av.nil) rfl rfl (mv rfl rfl) (oc (an 4 rfl rfl rfl (an 5 rfl rfl rfl Av.nil)) rfl rfl (ob_rowAt rfl Try.underlying40 sz39 (.tmp rfl) (.head _) (.tmp rfl) g1) (oc (an 6 rfl rfl rfl Av.nil) rfl rfl (ob_rowLoad rfl tk39 (.tmp rfl) (.head _) (LG.arrA e_x1)) (oc (av 0 rfl rfl Av.nil) rfl rfl (mv rfl rfl) (oc (av 1 rfl rfl Av.nil) rfl rfl (mv rfl rfl) (oc (an 8 rfl rfl rfl (an 9 rfl rfl rfl Av.nil)) rfl rfl (ob_rowAt rfl Try.underlying40 sz39 (.tmp rfl) (.head _) (.tmp rfl) g2) (oc (an 10 rfl rfl rfl Av.nil) rfl rfl (ob_rowLoad rfl tk39 (.tmp rfl) (.head _) (LG.arrA e_x2)) (oc (an 0 rfl rfl rfl (an 1 rfl rfl rfl Av.nil)) rfl rfl (ob_rowAt rfl Try.underlying40 sz39 (.tmp rfl) (.head _) (.tmp rfl) g3) (opsS_skip (by rfl) opsS_nil)))))))))))))) (.plain _ (an 7 rfl rfl rfl (an 12 rfl rfl rfl Av.nil)) rfl (fun _ => rfl) (fun R => ob_rowStore (A := []) rfl tk39 (.tmp rfl) (.tmp rfl) rfl (LS.arrS e_x3) rfl)) (setAll_same (us := (fun _ : Unit => [(13, nofact)])) fun _ => by kernel_rfl) fun _ => ?_
 refine goes_last (by kernel_rfl) rfl (opsS_skip (by rfl) (opsS_skip (by rfl) (oc (av 0 rfl rfl Av.nil) rfl rfl (mv rfl rfl) (oc (av 3 rfl rfl Av.nil) rfl rfl (mv rfl rfl) (opsS_skip (by rfl) (opsS_skip (by rfl) (opsS_skip (by rfl) (opsS_skip (by rfl) (opsS_skip (by rfl) (opsS_skip (by rfl) (opsS_skip (by rfl) (opsS_skip (by rfl) (opsS_skip (by rfl) (opsS_skip (by rfl) opsS_nil)))))))))))))) (out_old (t := 0) rfl rfl (out_old (t := 1) rfl rfl (out_old (t := 2) rfl rfl (out_old (t := 4) rfl rfl (out_new (i := 2) (by decide) rfl rfl (out_new (i := 3) (by decide) rfl rfl (out_new (i := 11) (by decide) rfl rfl out_nil))))))) fun _ _ s4 => ?_
 obtain ⟨g4, h7⟩ := guard_some h6; clear h6
 obtain ⟨x4, e_x4, h8⟩ := bind_some h7; clear h7
 refine qs s4 (.c1 rfl (ob_rowAt rfl Try.underlying40 sz39 (.tmp rfl) (.head _) (.tmp rfl) g4) .cz) fun _ _ s5 => ?_; clear s4
 refine seq_opx0 (B' := (fun _ : Unit => [RowF wr0 39 (karr 32 (kint .u8)) x4])) s5 rfl rfl (ob_rowStore (A := []) rfl tk39 (.tmp rfl) (.tmp rfl) rfl (LS.arrS e_x4) rfl) fun _ a6 w6 s6 => ?_; clear s5
 refine wn hK2 ?_
 have s7 := s6.sub (u 0 rfl (u 1 rfl (u 2 rfl (u 4 rfl .nil)))); clear s6
 refine wp_seq_k fun K3 hK3 => wp_region_lit (qs s7 (.c1 rfl (mv rfl rfl) (.c1 rfl (ob_add rfl (.tmp rfl) (opd_int rfl)) (.c1 rfl (mv rfl rfl) (.c1 rfl (ob_sub rfl (.tmp rfl) (opd_int rfl)) (.c1 rfl (ob_assign rfl (.tmp rfl)) (.c1 rfl (ob_assign rfl (.tmp rfl)) (.ce (u 0 rfl (u 1 rfl (u 4 rfl (u 11 rfl (u 12 rfl .nil)))))))))))) fun _ _ s14 => wn hK3 ?_); clear s7
 refine wp_seq_k fun K4 hK4 => ?_
 have hj1 : ∀ (y1 : Int) (y2 : (List (List Int))) (a : Act) (w : World), (slices_partitionEqualCmpFunc_api_Key_queue_Wanted_1.j1 k) y1 y2 = some r → St ⟨90, w0, ok, (idsOf [RowF wr0 39 (karr 32 (kint .u8)) p1])⟩ [RowF wr0 39 (karr 32 (kint .u8)) y2] [(11, ((kint .i64).V y1))] a w → K4 a w := by
  intro y1 y2 a15 w15 h9 s15
  unfold slices_partitionEqualCmpFunc_api_Key_queue_Wanted_1.j1 at h9
  refine hK4 _ _ ?_
  refine wp_seq_k fun K5 hK5 => wp_region_lit (qs s15 (.c1 rfl (mv rfl rfl) (.c1 rfl (ob_assign rfl (.tmp rfl)) (.ce (u 10 rfl .nil)))) fun _ _ s18 => wn hK5 ?_); clear s15
  refine wp_ret ?_
  obtain rfl := Option.some.inj h9
  exact leaveXD (D := []) () s18 rfl (.inl rfl) rfl (.cons (.tmp rfl) .nil) rfl
 refine wp_block ?_
 refine wp_loop_fuel (fun m (q : Int × Int × (List (List Int))) => slices_partitionEqualCmpFunc_api_Key_queue_Wanted_1.l1 k p2 m q.1 q.2.1 q.2.2) r (fun _ => rfl) (fun q a w => St ⟨90, w0, ok, (idsOf [RowF wr0 39 (karr 32 (kint .u8)) p1])⟩ [RowF wr0 39 (karr 32 (kint .u8)) q.2.2] [(0, (is wr0)), (1, ((kint .i64).V p2)), (4, (is (.func (.func 115) #[] #[]))), (11, ((kint .i64).V q.1)), (12, ((kint .i64).V q.2.1))] a w) ?_ k ((iadd .i64 p2 (1 : Int)), (isub .i64 p3 (1 : Int)), x4) _ _ h8 (s14.sub (.cons rfl (.cons rfl (.cons rfl (.cons rfl (.cons rfl .nil))))))
 rintro n1 ⟨y3, y4, y5⟩ a19 w19 h10 s19 K6 hK6
 replace h10 : slices_partitionEqualCmpFunc_api_Key_queue_Wanted_1.l1 k p2 (n1 + 1) y3 y4 y5 = some r := h10; rw [slices_partitionEqualCmpFunc_api_Key_queue_Wanted_1.l1] at h10
 have h11 := h10; clear h10
 refine wp_block ?_
 refine wp_seq_k fun K7 hK7 => ?_
 have hj2 : ∀ (y6 : Int) (a : Act) (w : World), (slices_partitionEqualCmpFunc_api_Key_queue_Wanted_1.j2 k p2 y5 y4 (slices_partitionEqualCmpFunc_api_Key_queue_Wanted_1.l1 k p2 n1)) y6 = some r → St ⟨90, w0, ok, (idsOf [RowF wr0 39 (karr 32 (kint .u8)) p1])⟩ [RowF wr0 39 (karr 32 (kint .u8)) y5] [(0, (is wr0)), (1, ((kint .i64).V p2)), (4, (is (.func (.func 115) #[] #[]))), (11, ((kint .i64).V y6)), (12, ((kint .i64).V y4))] a w → K7 a w := by
  intro y6 a20 w20 h12 s20
  unfold slices_partitionEqualCmpFunc_api_Key_queue_Wanted_1.j2 at h12
  refine hK7 _ _ ?_
  refine wp_seq_k fun K8 hK8 => ?_
  have hj3 : ∀ (y7 : Int) (a : Act) (w : World), (slices_partitionEqualCmpFunc_api_Key_queue_Wanted_1.j3 k y6 y5 (slices_partitionEqualCmpFunc_api_Key_queue_Wanted_1.l1 k p2 n1)) y7 = some r → St ⟨90, w0, ok, (idsOf [RowF wr0 39 (karr 32 (kint .u8)) p1])⟩ [RowF wr0 39 (karr 32 (kint .u8)) y5] [(0, (is wr0)), (1, ((kint .i64).V p2)), (4, (is (.func (.func 115) #[] #[]))), (11, ((kint .i64).V y6)), (12, ((kint .i64).V y7))] a w → K8 a w := by
   intro y7 a21 w21 h13 s21
   unfold slices_partitionEqualCmpFunc_api_Key_queue_Wanted_1.j3 at h13
   refine hK8 _ _ ?_
   refine wp_seq_k fun K9 hK9 => wp_seq_k fun K10 hK10 => ?_
   refine wp_region_lit (qs s21 (.c1 rfl (mv rfl rfl) (.c1 rfl (mv rfl rfl) (.c1 rfl (ob_gtr rfl (.tmp rfl) (.tmp rfl)) (.ce (u 0 rfl (u 1 rfl (u 4 rfl (u 11 rfl (u 12 rfl (u 70 rfl .nil)))))))))) fun _ _ s25 => wn hK10 ?_); clear s21
   refine cond_split s25 (.tmp rfl) (fun hc1 => ?_) (fun hc1 => ?_)
   ·have h14 := ite_t hc1 h13; clear h13
    refine wp_exit ?_
    refine (then_exit (in_other (by decide) (then_exit (in_here ?_))))
    refine then_normal ?_
    exact hj1 y6 y5 _ _ h14 (s25.sub (.cons rfl .nil))
   ·have h15 := ite_f hc1 h13; clear h13
    refine wp_skip ?_
    refine then_normal (hK9 _ _ ?_)
    have s26 := s25.sub (u 0 rfl (u 1 rfl (u 4 rfl (u 11 rfl (u 12 rfl .nil))))); clear s25
    refine wp_seq_k fun K11 hK11 => ?_
    obtain ⟨g5, h16⟩ := guard_some h15; clear h15
    obtain ⟨x5, e_x5, h17⟩ := bind_some h16; clear h16
    obtain ⟨g6, h18⟩ := guard_some h17; clear h17
    obtain ⟨x6, e_x6, h19⟩ := bind_some h18; clear h18
    obtain ⟨g7, h20⟩ := guard_some h19; clear h19
    obtain ⟨x7, e_x7, h21⟩ := bind_some h20; clear h20
    refine wp_goes (Fs := [(is wr0), ((kint .i64).V y6), (is wr0), ((kint .i64).V y7), (is wr0), ((kint .i64).V y7), (ptrR wr0 (y7.toNat * 32)), ((karr 32 (kint .u8)).V x5), (is wr0), ((kint .i64).V y6), (ptrR wr0 (y6.toNat * 32)), ((karr 32 (kint .u8)).V x6), (ptrR wr0 (y6.toNat * 32)), nofact]) (bits := [0, 0, 0, 0, 0, 0, 48, 112, 0, 0, 768, 1792, 4083, 8179, 16383, 32767]) (m := 14) (todo := 8192) mx s26 ?_; clear s26
    refine goes_turn (B' := (fun _ : Unit => [RowF wr0 39 (karr 32 (kint .u8)) x7])) (Fs' := (fun _ : Unit => setAll ([(is wr0), ((kint .i64).V y6), (is wr0), ((kint .i64).V y7), (is wr0), ((kint .i64).V y7), (ptrR wr0 (y7.toNat * 32)), ((karr 32 (kint .u8)).V x5), (is wr0), ((kint .i64).V y6), (ptrR wr0 (y6.toNat * 32)), ((karr 32 (kint .u8)).V x6), (ptrR wr0 (y6.toNat * 32)), nofact]) [(13, nofact)])) 13 8192 16371 0 (by kernel_rfl) rfl rfl rfl (oc (av 0 rfl rfl Av.nil) rfl rfl (mv rfl rfl) (oc (av 11 rfl rfl Av.nil) rfl rfl (mv rfl rfl) (oc (av 0 rfl rfl Av.nil) rfl rfl (mv rfl rfl) (oc (av 12 rfl rfl Av.nil) rfl rfl (mv rfl rfl) (oc (av 0 rfl rfl Av.nil) rfl rfl (mv rfl rfl) (oc (av 12 rfl rfl Av.nil) rfl rfl (mv rfl rfl) (oc (an 4 rfl rfl rfl (an 5 rfl rfl rfl Av.nil)) rfl rfl (ob_rowAt rfl Try.underlying40 sz39 (.tmp rfl) (.head _) (.tmp rfl) g5) (oc (an 6 rfl rfl rfl Av.nil) rfl rfl (ob_rowLoad rfl tk39 (.tmp rfl) (.head _) (LG.arrA e_x5)) (oc (av 0 rfl rfl Av.nil) rfl rfl (mv rfl rfl) (oc (av 11 rfl rfl Av.nil) rfl rfl (mv rfl rfl) (oc (an 8 rfl rfl rfl (an 9 rfl rfl rfl Av.nil)) rfl rfl (ob_rowAt rfl Try.underlying40 sz39 (.tmp rfl) (.head _) (.tmp rfl) g6) (oc (an 10 rfl rfl rfl Av.nil) rfl rfl (ob_rowLoad rfl tk39 (.tmp rfl) (.head _) (LG.arrA e_x6)) (oc (an 0 rfl rfl rfl (an 1 rfl rfl rfl Av.nil)) rfl rfl (ob_rowAt rfl Try.underlying40 sz39 (.tmp rfl) (.head _) (.tmp rfl) g7) (opsS_skip (by rfl) opsS_nil)))))))))))))) (.plain _ (an 7 rfl rfl rfl (an 12 rfl rfl rfl Av.nil)) rfl (fun _ => rfl) (fun R => ob_rowStore (A := []) rfl tk39 (.tmp rfl) (.tmp rfl) rfl (LS.arrS e_x7) rfl)) (setAll_same (us := (fun _ : Unit => [(13, nofact)])) fun _ => by kernel_rfl) fun _ => ?_
    refine goes_last (by kernel_rfl) rfl (opsS_skip (by rfl) (opsS_skip (by rfl) (oc (av 0 rfl rfl Av.nil) rfl rfl (mv rfl rfl) (oc (av 12 rfl rfl Av.nil) rfl rfl (mv rfl rfl) (opsS_skip (by rfl) (opsS_skip (by rfl) (opsS_skip (by rfl) (opsS_skip (by rfl) (opsS_skip (by rfl) (opsS_skip (by rfl) (opsS_skip (by rfl) (opsS_skip (by rfl) (opsS_skip (by rfl) (opsS_skip (by rfl) opsS_nil)))))))))))))) (out_old (t := 0) rfl rfl (out_old (t := 1) rfl rfl (out_old (t := 4) rfl rfl (out_old (t := 11) rfl rfl (out_old (t := 12) rfl rfl (out_new (i := 2) (by decide) rfl rfl (out_new (i := 3) (by decide) rfl rfl (out_new (i := 11) (by decide) rfl rfl out_nil)))))))) fun _ _ s27 => ?_
    obtain ⟨g8, h22⟩ := guard_some h21; clear h21
    obtain ⟨x8, e_x8, h23⟩ := bind_some h22; clear h22
    refine qs s27 (.c1 rfl (ob_rowAt rfl Try.underlying40 sz39 (.tmp rfl) (.head _) (.tmp rfl) g8) .cz) fun _ _ s28 => ?_; clear s27
    refine seq_opx0 (B' := (fun _ : Unit => [RowF wr0 39 (karr 32 (kint .u8)) x8])) s28 rfl rfl (ob_rowStore (A := []) rfl tk39 (.tmp rfl) (.tmp rfl) rfl (LS.arrS e_x8) rfl) fun _ a29 w29 s29 => ?_; clear s28
    refine wn hK11 ?_
    have s30 := s29.sub (u 0 rfl (u 1 rfl (u 4 rfl (u 11 rfl (u 12 rfl .nil))))); clear s29
    refine wp_seq_k fun K12 hK12 => wp_region_lit (qs s30 (.c1 rfl (mv rfl rfl) (.c1 rfl (ob_add rfl (.tmp rfl) (opd_int rfl)) (.c1 rfl (ob_assign rfl (.tmp rfl)) (.ce (u 0 rfl (u 1 rfl (u 4 rfl (u 11 rfl (u 12 rfl .nil))))))))) fun _ _ s34 => wn hK12 ?_); clear s30
    refine wp_region_lit (qs s34 (.c1 rfl (mv rfl rfl) (.c1 rfl (ob_sub rfl (.tmp rfl) (opd_int rfl)) (.c1 rfl (ob_assign rfl (.tmp rfl)) .cz))) fun _ _ s37 => ?_); clear s34
    refine wpList_nil ?_
    refine in_normal ?_
    refine then_normal ?_
    exact hK6 ((iadd .i64 y6 (1 : Int)), (isub .i64 y7 (1 : Int)), x8) _ _ h23 (s37.sub (.cons rfl (.cons rfl (.cons rfl (.cons rfl (.cons rfl .nil))))))
  refine wp_block ?_
  refine wp_loop_fuel (fun m (q : Int) => slices_partitionEqualCmpFunc_api_Key_queue_Wanted_1.l2 k y6 p2 y5 (slices_partitionEqualCmpFunc_api_Key_queue_Wanted_1.l1 k p2 n1) m q) r (fun _ => rfl) (fun q a w => St ⟨90, w0, ok, (idsOf [RowF wr0 39 (karr 32 (kint .u8)) p1])⟩ [RowF wr0 39 (karr 32 (kint .u8)) y5] [(0, (is wr0)), (1, ((kint .i64).V p2)), (4, (is (.func (.func 115) #[] #[]))), (11, ((kint .i64).V y6)), (12, ((kint .i64).V q))] a w) ?_ k y4 _ _ h12 (s20.sub (.cons rfl (.cons rfl (.cons rfl (.cons rfl (.cons rfl .nil))))))
  rintro n2 y8 a38 w38 h24 s38 K13 hK13
  replace h24 : slices_partitionEqualCmpFunc_api_Key_queue_Wanted_1.l2 k y6 p2 y5 (slices_partitionEqualCmpFunc_api_Key_queue_Wanted_1.l1 k p2 n1) (n2 + 1) y8 = some r := h24; rw [slices_partitionEqualCmpFunc_api_Key_queue_Wanted_1.l2] at h24
  have h25 := h24; clear h24
  refine wp_seq_k fun K14 hK14 => wp_seq_k fun K15 hK15 => ?_
  obtain ⟨g9, h26⟩ := guard_some h25; clear h25
  obtain ⟨x9, e_x9, h27⟩ := bind_some h26; clear h26
  obtain ⟨g10, h28⟩ := guard_some h27; clear h27
  obtain ⟨x10, e_x10, h29⟩ := bind_some h28; clear h28
  refine wp_goes (Fs := [((kint .i64).V y6), ((kint .i64).V y8), (kbool.V (decide (y6 ≤ y8))), (kbool.V (decide (y6 ≤ y8))), (Fact.when ((decide (y6 ≤ y8)) == true) (is (.func (.func 115) #[] #[]))), (Fact.when ((decide (y6 ≤ y8)) == true) (is wr0)), (Fact.when ((decide (y6 ≤ y8)) == true) ((kint .i64).V p2)), (Fact.when ((decide (y6 ≤ y8)) == true) (ptrR wr0 (p2.toNat * 32))), (Fact.when ((decide (y6 ≤ y8)) == true) ((karr 32 (kint .u8)).V x9)), (Fact.when ((decide (y6 ≤ y8)) == true) (is wr0)), (Fact.when ((decide (y6 ≤ y8)) == true) ((kint .i64).V y8)), (Fact.when ((decide (y6 ≤ y8)) == true) (ptrR wr0 (y8.toNat * 32))), (Fact.when ((decide (y6 ≤ y8)) == true) ((karr 32 (kint .u8)).V x10))]) (bits := [0, 0, 3, 7, 15, 15, 15, 111, 239, 15, 15, 1551, 3599, 8191, 16383, 32767]) (m := 13) (todo := 0) mx s38 ?_; clear s38
  refine goes_last (by kernel_rfl) rfl (oc (av 11 rfl rfl Av.nil) rfl rfl (mv rfl rfl) (oc (av 12 rfl rfl Av.nil) rfl rfl (mv rfl rfl) (oc (an 0 rfl rfl rfl (an 1 rfl rfl rfl Av.nil)) rfl rfl (ob_leq rfl (.tmp rfl) (.tmp rfl)) (oc (an 2 rfl rfl rfl Av.nil) rfl rfl (mv rfl rfl) (opsS_cons (.guarded _ (av 4 rfl rfl (an 3 rfl rfl rfl Av.nil)) rfl rfl rfl rfl (fun hb => ob_move rfl (.tmp rfl))) (opsS_cons (.guarded _ (av 0 rfl rfl (an 3 rfl rfl rfl Av.nil)) rfl rfl rfl rfl (fun hb => ob_move rfl (.tmp rfl))) (opsS_cons (.guarded _ (av 1 rfl rfl (an 3 rfl rfl rfl Av.nil)) rfl rfl rfl rfl (fun hb => ob_move rfl (.tmp rfl))) (opsS_cons (.guarded _ (an 3 rfl rfl rfl (an 5 rfl rfl rfl (an 6 rfl rfl rfl Av.nil))) rfl rfl rfl rfl (fun hb => (Ob.uncond (t := 56) hb rfl ((Ob.uncond (t := 55) hb rfl (ob_rowAt rfl Try.underlying40 sz39 (.tmp rfl) (.head _) (.tmp rfl) (g9 hb))))))) (opsS_cons (.guarded _ (an 3 rfl rfl rfl (an 7 rfl rfl rfl Av.nil)) rfl rfl rfl rfl (fun hb => (Ob.uncond (t := 57) hb rfl (ob_rowLoad rfl tk39 (.tmp rfl) (.head _) (LG.arrA (ite_t hb e_x9)))))) (opsS_cons (.guarded _ (av 0 rfl rfl (an 3 rfl rfl rfl Av.nil)) rfl rfl rfl rfl (fun hb => ob_move rfl (.tmp rfl))) (opsS_cons (.guarded _ (av 12 rfl rfl (an 3 rfl rfl rfl Av.nil)) rfl rfl rfl rfl (fun hb => ob_move rfl (.tmp rfl))) (opsS_cons (.guarded _ (an 3 rfl rfl rfl (an 9 rfl rfl rfl (an 10 rfl rfl rfl Av.nil))) rfl rfl rfl rfl (fun hb => (Ob.uncond (t := 60) hb rfl ((Ob.uncond (t := 59) hb rfl (ob_rowAt rfl Try.underlying40 sz39 (.tmp rfl) (.head _) (.tmp rfl) (g10 hb))))))) (opsS_cons (.guarded _ (an 3 rfl rfl rfl (an 11 rfl rfl rfl Av.nil)) rfl rfl rfl rfl (fun hb => (Ob.uncond (t := 61) hb rfl (ob_rowLoad rfl tk39 (.tmp rfl) (.head _) (LG.arrA (ite_t hb e_x10)))))) opsS_nil))))))))))))) (out_old (t := 0) rfl rfl (out_old (t := 1) rfl rfl (out_old (t := 4) rfl rfl (out_old (t := 11) rfl rfl (out_old (t := 12) rfl rfl (out_new (i := 3) (by decide) rfl rfl (out_new (i := 4) (by decide) rfl rfl (out_new (i := 8) (by decide) rfl rfl (out_new (i := 12) (by decide) rfl rfl out_nil))))))))) fun _ _ s39 => ?_
  obtain ⟨x11, e_x11, h30⟩ := bind_some h29; clear h29
  refine qs s39 (.cg rfl rfl rfl rfl (fun hb => (Ob.uncond (t := 62) hb rfl ((Ob.uncond (t := 58) hb rfl ((Ob.uncond (t := 54) hb rfl (ob_callD0 (args := [_, _]) rfl (.fn (.tmp rfl)) hb115 (fun a w s => by exact c_queue_Wanted_1 k _ _ _ (ite_t hb e_x11) _ _ _ _ (s.arg (.tmp rfl)) (s.arg (.tmp rfl)))))))))) (.cg rfl rfl rfl rfl (fun hb => (Ob.uncond (t := 63) hb rfl (ob_lss rfl (.tmp rfl) (opd_int rfl)))) (.c1 rfl (ob_and2 rfl (.tmp rfl) (.tmp rfl) opd_bool) (.ce (u 0 rfl (u 1 rfl (u 4 rfl (u 11 rfl (u 12 rfl (u 65 rfl .nil)))))))))) fun _ _ s43 => wn hK15 ?_; clear s39
  refine cond_split s43 (.tmp rfl) (fun hc2 => ?_) (fun hc2 => ?_)
  ·have h31 := ite_t hc2 h30; clear h30
   refine wp_skip ?_
   refine then_normal (hK14 _ _ ?_)
   have s44 := s43.sub (u 0 rfl (u 1 rfl (u 4 rfl (u 11 rfl (u 12 rfl .nil))))); clear s43
   refine wp_block ?_
   refine wp_region_lit (qs s44 (.c1 rfl (mv rfl rfl) (.c1 rfl (ob_sub rfl (.tmp rfl) (opd_int rfl)) (.c1 rfl (ob_assign rfl (.tmp rfl)) .cz))) fun _ _ s47 => ?_); clear s44
   refine wpList_nil ?_
   refine in_normal ?_
   refine then_normal ?_
   exact hK13 (isub .i64 y8 (1 : Int)) _ _ h31 (s47.sub (.cons rfl (.cons rfl (.cons rfl (.cons rfl (.cons rfl .nil))))))
  ·have h32 := ite_f hc2 h30; clear h30
   refine wp_exit ?_
   refine (then_exit (then_exit (in_here ?_)))
   refine then_normal ?_
   exact hj3 y8 _ _ h32 (s43.sub (.cons rfl (.cons rfl (.cons rfl (.cons rfl (.cons rfl .nil))))))
 refine wp_block ?_
 refine wp_loop_fuel (fun m (q : Int) => slices_partitionEqualCmpFunc_api_Key_queue_Wanted_1.l3 k y4 p2 y5 (slices_partitionEqualCmpFunc_api_Key_queue_Wanted_1.l1 k p2 n1) m q) r (fun _ => rfl) (fun q a w => St ⟨90, w0, ok, (idsOf [RowF wr0 39 (karr 32 (kint .u8)) p1])⟩ [RowF wr0 39 (karr 32 (kint .u8)) y5] [(0, (is wr0)), (1, ((kint .i64).V p2)), (4, (is (.func (.func 115) #[] #[]))), (11, ((kint .i64).V q)), (12, ((kint .i64).V y4))] a w) ?_ k y3 _ _ h11 (s19.sub (.cons rfl (.cons rfl (.cons rfl (.cons rfl (.cons rfl .nil))))))
 rintro n3 y9 a48 w48 h33 s48 K16 hK16
 replace h33 : slices_partitionEqualCmpFunc_api_Key_queue_Wanted_1.l3 k y4 p2 y5 (slices_partitionEqualCmpFunc_api_Key_queue_Wanted_1.l1 k p2 n1) (n3 + 1) y9 = some r := h33; rw [slices_partitionEqualCmpFunc_api_Key_queue_Wanted_1.l3] at h33
 have h34 := h33; clear h33
 refine wp_seq_k fun K17 hK17 => wp_seq_k fun K18 hK18 => ?_
 obtain ⟨g11, h35⟩ := guard_some h34; clear h34
 obtain ⟨x12, e_x12, h36⟩ := bind_some h35; clear h35
 obtain ⟨g12, h37⟩ := guard_some h36; clear h36
 obtain ⟨x13, e_x13, h38⟩ := bind_some h37; clear h37
 refine wp_goes (Fs := [((kint .i64).V y9), ((kint .i64).V y4), (kbool.V (decide (y9 ≤ y4))), (kbool.V (decide (y9 ≤ y4))), (Fact.when ((decide (y9 ≤ y4)) == true) (is (.func (.func 115) #[] #[]))), (Fact.when ((decide (y9 ≤ y4)) == true) (is wr0)), (Fact.when ((decide (y9 ≤ y4)) == true) ((kint .i64).V p2)), (Fact.when ((decide (y9 ≤ y4)) == true) (ptrR wr0 (p2.toNat * 32))), (Fact.when ((decide (y9 ≤ y4)) == true) ((karr 32 (kint .u8)).V x12)), (Fact.when ((decide (y9 ≤ y4)) == true) (is wr0)), (Fact.when ((decide (y9 ≤ y4)) == true) ((kint .i64).V y9)), (Fact.when ((decide (y9 ≤ y4)) == true) (ptrR wr0 (y9.toNat * 32))), (Fact.when ((decide (y9 ≤ y4)) == true) ((karr 32 (kint .u8)).V x13))]) (bits := [0, 0, 3, 7, 15, 15, 15, 111, 239, 15, 15, 1551, 3599, 8191, 16383, 32767, 65535]) (m := 13) (todo := 0) mx s48 ?_; clear s48
 refine goes_last (by kernel_rfl) rfl (oc (av 11 rfl rfl Av.nil) rfl rfl (mv rfl rfl) (oc (av 12 rfl rfl Av.nil) rfl rfl (mv rfl rfl) (oc (an 0 rfl rfl rfl (an 1 rfl rfl rfl Av.nil)) rfl rfl (ob_leq rfl (.tmp rfl) (.tmp rfl)) (oc (an 2 rfl rfl rfl Av.nil) rfl rfl (mv rfl rfl) (opsS_cons (.guarded _ (av 4 rfl rfl (an 3 rfl rfl rfl Av.nil)) rfl rfl rfl rfl (fun hb => ob_move rfl (.tmp rfl))) (opsS_cons (.guarded _ (av 0 rfl rfl (an 3 rfl rfl rfl Av.nil)) rfl rfl rfl rfl (fun hb => ob_move rfl (.tmp rfl))) (opsS_cons (.guarded _ (av 1 rfl rfl (an 3 rfl rfl rfl Av.nil)) rfl rfl rfl rfl (fun hb => ob_move rfl (.tmp rfl))) (opsS_cons (.guarded _ (an 3 rfl rfl rfl (an 5 rfl rfl rfl (an 6 rfl rfl rfl Av.nil))) rfl rfl rfl rfl (fun hb => (Ob.uncond (t := 37) hb rfl ((Ob.uncond (t := 36) hb rfl (ob_rowAt rfl Try.underlying40 sz39 (.tmp rfl) (.head _) (.tmp rfl) (g11 hb))))))) (opsS_cons (.guarded _ (an 3 rfl rfl rfl (an 7 rfl rfl rfl Av.nil)) rfl rfl rfl rfl (fun hb => (Ob.uncond (t := 38) hb rfl (ob_rowLoad rfl tk39 (.tmp rfl) (.head _) (LG.arrA (ite_t hb e_x12)))))) (opsS_cons (.guarded _ (av 0 rfl rfl (an 3 rfl rfl rfl Av.nil)) rfl rfl rfl rfl (fun hb => ob_move rfl (.tmp rfl))) (opsS_cons (.guarded _ (av 11 rfl rfl (an 3 rfl rfl rfl Av.nil)) rfl rfl rfl rfl (fun hb => ob_move rfl (.tmp rfl))) (opsS_cons (.guarded _ (an 3 rfl rfl rfl (an 9 rfl rfl rfl (an 10 rfl rfl rfl Av.nil))) rfl rfl rfl rfl (fun hb => (Ob.uncond (t := 41) hb rfl ((Ob.uncond (t := 40) hb rfl (ob_rowAt rfl Try.underlying40 sz39 (.tmp rfl) (.head _) (.tmp rfl) (g12 hb))))))) (opsS_cons (.guarded _ (an 3 rfl rfl rfl (an 11 rfl rfl rfl Av.nil)) rfl rfl rfl rfl (fun hb => (Ob.uncond (t := 42) hb rfl (ob_rowLoad rfl tk39 (.tmp rfl) (.head _) (LG.arrA (ite_t hb e_x13)))))) opsS_nil))))))))))))) (out_old (t := 0) rfl rfl (out_old (t := 1) rfl rfl (out_old (t := 4) rfl rfl (out_old (t := 11) rfl rfl (out_old (t := 12) rfl rfl (out_new (i := 3) (by decide) rfl rfl (out_new (i := 4) (by decide) rfl rfl (out_new (i := 8) (by decide) rfl rfl (out_new (i := 12) (by decide) rfl rfl out_nil))))))))) fun _ _ s49 => ?_
 obtain ⟨x14, e_x14, h39⟩ := bind_some h38; clear h38
 refine qs s49 (.cg rfl rfl rfl rfl (fun hb => (Ob.uncond (t := 43) hb rfl ((Ob.uncond (t := 39) hb rfl ((Ob.uncond (t := 35) hb rfl (ob_callD0 (args := [_, _]) rfl (.fn (.tmp rfl)) hb115 (fun a w s => by exact c_queue_Wanted_1 k _ _ _ (ite_t hb e_x14) _ _ _ _ (s.arg (.tmp rfl)) (s.arg (.tmp rfl)))))))))) (.cg rfl rfl rfl rfl (fun hb => (Ob.uncond (t := 44) hb rfl (ob_lss rfl (.tmp rfl) (opd_int rfl)))) (.cg rfl rfl rfl rfl (fun hb => (Ob.uncond (t := 45) hb rfl (ob_not rfl (.tmp rfl)))) (.c1 rfl (ob_and2 rfl (.tmp rfl) (.tmp rfl) opd_bool) (.ce (u 0 rfl (u 1 rfl (u 4 rfl (u 11 rfl (u 12 rfl (u 47 rfl .nil))))))))))) fun _ _ s54 => wn hK18 ?_; clear s49
 refine cond_split s54 (.tmp rfl) (fun hc3 => ?_) (fun hc3 => ?_)
 ·have h40 := ite_t hc3 h39; clear h39
  refine wp_skip ?_
  refine then_normal (hK17 _ _ ?_)
  have s55 := s54.sub (u 0 rfl (u 1 rfl (u 4 rfl (u 11 rfl (u 12 rfl .nil))))); clear s54
  refine wp_block ?_
  refine wp_region_lit (qs s55 (.c1 rfl (mv rfl rfl) (.c1 rfl (ob_add rfl (.tmp rfl) (opd_int rfl)) (.c1 rfl (ob_assign rfl (.tmp rfl)) .cz))) fun _ _ s58 => ?_); clear s55
  refine wpList_nil ?_
  refine in_normal ?_
  refine then_normal ?_
  exact hK16 (iadd .i64 y9 (1 : Int)) _ _ h40 (s58.sub (.cons rfl (.cons rfl (.cons rfl (.cons rfl (.cons rfl .nil))))))
 ·have h41 := ite_f hc3 h39; clear h39
  refine wp_exit ?_
  refine (then_exit (then_exit (in_here ?_)))
  refine then_normal ?_
  exact hj2 y9 _ _ h41 (s54.sub (.cons rfl (.cons rfl (.cons rfl (.cons rfl (.cons rfl .nil))))))
theorem c_slices_partitionCmpFunc_api_Key_queue_Wanted_1 (k : Nat) (p1 : (List (List Int))) (p2 : Int) (p3 : Int) (p4 : Int) (r : (Int × Bool × (List (List Int)))) (h0 : slices_partitionCmpFunc_api_Key_queue_Wanted_1 k p1 p2 p3 p4 = some r) (ok : Ok) (w0 : World) (z0 : Value) (z1 : Value) (z2 : Value) (z3 : Value) (z4 : Value) (wr0 : Value) (l0 : ∀ q, q ∈ [RowF wr0 39 (karr 32 (kint .u8)) p1] → q.holds ok w0) (d0 : ∀ c, c ∈ idsOf [RowF wr0 39 (karr 32 (kint .u8)) p1] → ¬ ok c) (nd : (idsOf [RowF wr0 39 (karr 32 (kint .u8)) p1]).Nodup) (u0 : (is wr0).holds ok w0 z0) (u1 : ((kint .i64).V p2).holds ok w0 z1) (u2 : ((kint .i64).V p3).holds ok w0 z2) (u3 : ((kint .i64).V p4).holds ok w0 z3) (u4 : (is (.func (.func 115) #[] #[])).holds ok w0 z4) :
 GivesX Try.prog 172 [z0, z1, z2, z3, z4] ok w0 [RowF wr0 39 (karr 32 (kint .u8)) p1] (fun g : Unit => resFact [(kint .i64).V r.1, kbool.V r.2.1]) (fun g : Unit => [RowF wr0 39 (karr 32 (kint .u8)) r.2.2]) := by
 unfold slices_partitionCmpFunc_api_Key_queue_Wanted_1 at h0
 refine enterX (N := 178) Try.func172 rfl rfl (of_decide_eq_true rfl) (.cons u0 (.cons u1 (.cons u2 (.cons u3 (.cons u4 .nil))))) nd l0 d0 fun a1 s1 => ?_
 refine wp_seq_k fun K1 hK1 => wp_region_lit (qs s1 (.c1 rfl (ob_assign rfl (opd_int rfl)) (.c1 rfl (ob_assign rfl opd_bool) (.ce (u 0 rfl (u 1 rfl (u 2 rfl (u 3 rfl (u 4 rfl .nil)))))))) fun _ _ s4 => wn hK1 ?_); clear s1
 refine wp_seq_k fun K2 hK2 => ?_
 obtain ⟨g1, h1⟩ := guard_some h0; clear h0
 obtain ⟨x1, e_x1, h2⟩ := bind_some h1; clear h1
 obtain ⟨g2, h3⟩ := guard_some h2; clear h2
 obtain ⟨x2, e_x2, h4⟩ := bind_some h3; clear h3
 obtain ⟨g3, h5⟩ := guard_some h4; clear h4
 obtain ⟨x3, e_x3, h6⟩ := bind_some h5; clear h5
 refine wp_goes (Fs := [(is wr0), ((kint .i64).V p2), (is wr0), ((kint .i64).V p4), (is wr0), ((kint .i64).V p4), (ptrR wr0 (p4.toNat * 32)), ((karr 32 (kint .u8)).V x1), (is wr0), ((kint .i64).V p2), (ptrR wr0 (p2.toNat * 32)), ((karr 32 (kint .u8)).V x2), (ptrR wr0 (p2.toNat * 32)), nofact]) (bits := [0, 0, 0, 0, 0, 0, 48, 112, 0, 0, 768, 1792, 4083, 8179, 16383, 32767]) (m := 14) (todo := 8192) mx s4 ?_; clear s4
 refine goes_turn (B' := (fun _ : Unit => [RowF wr0 39 (karr 32 (kint .u8)) x3])) (Fs' := (fun _ : Unit => setAll ([(is wr0), ((kint .i64).V p2), (is wr0), ((kint .i64).V p4), (is wr0), ((kint .i64).V p4), (ptrR wr0 (p4.toNat * 32)), ((karr 32 (kint .u8)).V x1), (is wr0), ((kint .i64).V p2), (ptrR wr0 (p2.toNat * 32)), ((karr 32 (kint .u8)).V x2), (ptrR wr0 (p2.toNat * 32)), nofact]) [(13, nofact)])) 13 8192 16371 0 (by kernel_rfl) rfl rfl rfl (oc (av 0 rfl rfl Av.nil) rfl rfl (mv rfl rfl) (oc (av 1 rfl rfl Av.nil) rfl rfl (mv rfl rfl) (oc (av 0 rfl rfl Av.nil) rfl rfl (mv rfl rfl) (oc (av 3 rfl rfl Av.nil) rfl rfl (mv rfl rfl) (oc (av 0 rfl rfl Av.nil) rfl rfl (mv rfl rfl) (oc (av 3 rfl rfl Av.nil) rfl rfl (mv rfl rfl) (oc (an 4 rfl rfl rfl (an 5 rfl rfl rfl Av.nil)) rfl rfl (ob_rowAt rfl Try.underlying40 sz39 (.tmp rfl) (.head _) (.tmp rfl) g1) (oc (an 6 rfl rfl rfl Av.nil) rfl rfl (ob_rowLoad rfl tk39 (.tmp rfl) (.head _) (LG.arrA e_x1)) (oc (av 0 rfl rfl Av.nil) rfl rfl (mv rfl rfl) (oc (av 1 rfl rfl Av.nil) rfl rfl (mv rfl rfl) (oc (an 8 rfl rfl rfl (an 9 rfl rfl rfl Av.nil)) rfl rfl (ob_rowAt rfl Try.underlying40 sz39 (.tmp rfl) (.head _) (.tmp rfl) g2) (oc (an 10 rfl rfl rfl Av.nil) rfl rfl (ob_rowLoad rfl tk39 (.tmp rfl) (.head _) (LG.arrA e_x2)) (oc (an 0 rfl rfl rfl (an 1 rfl rfl rfl Av.nil)) rfl rfl (ob_rowAt rfl Try.underlying40 sz39 (.tmp rfl) (.head _) (.tmp rfl) g3) (opsS_skip (by rfl) opsS_nil)))))))))))))) (.plain _ (an 7 rfl rfl rfl (an 12 rfl rfl rfl Av.nil)) rfl (fun _ => rfl) (fun R => ob_rowStore (A := []) rfl tk39 (.tmp rfl) (.tmp rfl) rfl (LS.arrS e_x3) rfl)) (setAll_same (us := (fun _ : Unit => [(13, nofact)])) fun _ => by kernel_rfl) fun _ => ?_
 refine goes_last (by kernel_rfl) rfl (opsS_skip (by rfl) (opsS_skip (by rfl) (oc (av 0 rfl rfl Av.nil) rfl rfl (mv rfl rfl) (oc (av 3 rfl rfl Av.nil) rfl rfl (mv rfl rfl) (opsS_skip (by rfl) (opsS_skip (by rfl) (opsS_skip (by rfl) (opsS_skip (by rfl) (opsS_skip (by rfl) (opsS_skip (by rfl) (opsS_skip (by rfl) (opsS_skip (by rfl) (opsS_skip (by rfl) (opsS_skip (by rfl) opsS_nil)))))))))))))) (out_old (t := 0) rfl rfl (out_old (t := 1) rfl rfl (out_old (t := 2) rfl rfl (out_old (t := 4) rfl rfl (out_new (i := 2) (by decide) rfl rfl (out_new (i := 3) (by decide) rfl rfl (out_new (i := 11) (by decide) rfl rfl out_nil))))))) fun _ _ s5 => ?_
 obtain ⟨g4, h7⟩ := guard_some h6; clear h6
 obtain ⟨x4, e_x4, h8⟩ := bind_some h7; clear h7
 refine qs s5 (.c1 rfl (ob_rowAt rfl Try.underlying40 sz39 (.tmp rfl) (.head _) (.tmp rfl) g4) .cz) fun _ _ s6 => ?_; clear s5
 refine seq_opx0 (B' := (fun _ : Unit => [RowF wr0 39 (karr 32 (kint .u8)) x4])) s6 rfl rfl (ob_rowStore (A := []) rfl tk39 (.tmp rfl) (.tmp rfl) rfl (LS.arrS e_x4) rfl) fun _ a7 w7 s7 => ?_; clear s6
 refine wn hK2 ?_
 have s8 := s7.sub (u 0 rfl (u 1 rfl (u 2 rfl (u 4 rfl .nil)))); clear s7
 refine wp_seq_k fun K3 hK3 => wp_region_lit (qs s8 (.c1 rfl (mv rfl rfl) (.c1 rfl (ob_add rfl (.tmp rfl) (opd_int rfl)) (.c1 rfl (mv rfl rfl) (.c1 rfl (ob_sub rfl (.tmp rfl) (opd_int rfl)) (.c1 rfl (ob_assign rfl (.tmp rfl)) (.c1 rfl (ob_assign rfl (.tmp rfl)) (.ce (u 0 rfl (u 1 rfl (u 4 rfl (u 12 rfl (u 13 rfl .nil)))))))))))) fun _ _ s15 => wn hK3 ?_); clear s8
 refine wp_seq_k fun K4 hK4 => ?_
 have hj1 : ∀ (y1 : Int) (a : Act) (w : World), (slices_partitionCmpFunc_api_Key_queue_Wanted_1.j1 k x4 p2 p3) y1 = some r → St ⟨178, w0, ok, (idsOf [RowF wr0 39 (karr 32 (kint .u8)) p1])⟩ [RowF wr0 39 (karr 32 (kint .u8)) x4] [(0, (is wr0)), (1, ((kint .i64).V p2)), (4, (is (.func (.func 115) #[] #[]))), (12, ((kint .i64).V y1)), (13, ((kint .i64).V (isub .i64 p3 (1 : Int))))] a w → K4 a w := by
  intro y1 a16 w16 h9 s16
  unfold slices_partitionCmpFunc_api_Key_queue_Wanted_1.j1 at h9
  refine hK4 _ _ ?_
  refine wp_seq_k fun K5 hK5 => ?_
  have hj2 : ∀ (y2 : Int) (a : Act) (w : World), (slices_partitionCmpFunc_api_Key_queue_Wanted_1.j2 k y1 p2 x4) y2 = some r → St ⟨178, w0, ok, (idsOf [RowF wr0 39 (karr 32 (kint .u8)) p1])⟩ [RowF wr0 39 (karr 32 (kint .u8)) x4] [(0, (is wr0)), (1, ((kint .i64).V p2)), (4, (is (.func (.func 115) #[] #[]))), (12, ((kint .i64).V y1)), (13, ((kint .i64).V y2))] a w → K5 a w := by
   intro y2 a17 w17 h10 s17
   unfold slices_partitionCmpFunc_api_Key_queue_Wanted_1.j2 at h10
   refine hK5 _ _ ?_
   refine wp_seq_k fun K6 hK6 => wp_seq_k fun K7 hK7 => ?_
   refine wp_region_lit (qs s17 (.c1 rfl (mv rfl rfl) (.c1 rfl (mv rfl rfl) (.c1 rfl (ob_gtr rfl (.tmp rfl) (.tmp rfl)) (.ce (u 0 rfl (u 1 rfl (u 4 rfl (u 12 rfl (u 13 rfl (u 71 rfl .nil)))))))))) fun _ _ s21 => wn hK7 ?_); clear s17
   refine cond_split s21 (.tmp rfl) (fun hc1 => ?_) (fun hc1 => ?_)
   ·have h11 := ite_t hc1 h10; clear h10
    refine wp_seq_k fun K8 hK8 => ?_
    obtain ⟨g5, h12⟩ := guard_some h11; clear h11
    obtain ⟨x5, e_x5, h13⟩ := bind_some h12; clear h12
    obtain ⟨g6, h14⟩ := guard_some h13; clear h13
    obtain ⟨x6, e_x6, h15⟩ := bind_some h14; clear h14
    obtain ⟨g7, h16⟩ := guard_some h15; clear h15
    obtain ⟨x7, e_x7, h17⟩ := bind_some h16; clear h16
    refine wp_goes (Fs := [(is wr0), ((kint .i64).V y2), (is wr0), ((kint .i64).V p2), (is wr0), ((kint .i64).V p2), (ptrR wr0 (p2.toNat * 32)), ((karr 32 (kint .u8)).V x5), (is wr0), ((kint .i64).V y2), (ptrR wr0 (y2.toNat * 32)), ((karr 32 (kint .u8)).V x6), (ptrR wr0 (y2.toNat * 32)), nofact]) (bits := [0, 0, 0, 0, 0, 0, 48, 112, 0, 0, 768, 1792, 4083, 8179, 16383, 32767]) (m := 14) (todo := 8192) mx s21 ?_; clear s21
    refine goes_turn (B' := (fun _ : Unit => [RowF wr0 39 (karr 32 (kint .u8)) x7])) (Fs' := (fun _ : Unit => setAll ([(is wr0), ((kint .i64).V y2), (is wr0), ((kint .i64).V p2), (is wr0), ((kint .i64).V p2), (ptrR wr0 (p2.toNat * 32)), ((karr 32 (kint .u8)).V x5), (is wr0), ((kint .i64).V y2), (ptrR wr0 (y2.toNat * 32)), ((karr 32 (kint .u8)).V x6), (ptrR wr0 (y2.toNat * 32)), nofact]) [(13, nofact)])) 13 8192 16371 0 (by kernel_rfl) rfl rfl rfl (oc (av 0 rfl rfl Av.nil) rfl rfl (mv rfl rfl) (oc (av 13 rfl rfl Av.nil) rfl rfl (mv rfl rfl) (oc (av 0 rfl rfl Av.nil) rfl rfl (mv rfl rfl) (oc (av 1 rfl rfl Av.nil) rfl rfl (mv rfl rfl) (oc (av 0 rfl rfl Av.nil) rfl rfl (mv rfl rfl) (oc (av 1 rfl rfl Av.nil) rfl rfl (mv rfl rfl) (oc (an 4 rfl rfl rfl (an 5 rfl rfl rfl Av.nil)) rfl rfl (ob_rowAt rfl Try.underlying40 sz39 (.tmp rfl) (.head _) (.tmp rfl) g5) (oc (an 6 rfl rfl rfl Av.nil) rfl rfl (ob_rowLoad rfl tk39 (.tmp rfl) (.head _) (LG.arrA e_x5)) (oc (av 0 rfl rfl Av.nil) rfl rfl (mv rfl rfl) (oc (av 13 rfl rfl Av.nil) rfl rfl (mv rfl rfl) (oc (an 8 rfl rfl rfl (an 9 rfl rfl rfl Av.nil)) rfl rfl (ob_rowAt rfl Try.underlying40 sz39 (.tmp rfl) (.head _) (.tmp rfl) g6) (oc (an 10 rfl rfl rfl Av.nil) rfl rfl (ob_rowLoad rfl tk39 (.tmp rfl) (.head _) (LG.arrA e_x6)) (oc (an 0 rfl rfl rfl (an 1 rfl rfl rfl Av.nil)) rfl rfl (ob_rowAt rfl Try.underlying40 sz39 (.tmp rfl) (.head _) (.tmp rfl) g7) (opsS_skip (by rfl) opsS_nil)))))))))))))) (.plain _ (an 7 rfl rfl rfl (an 12 rfl rfl rfl Av.nil)) rfl (fun _ => rfl) (fun R => ob_rowStore (A := []) rfl tk39 (.tmp rfl) (.tmp rfl) rfl (LS.arrS e_x7) rfl)) (setAll_same (us := (fun _ : Unit => [(13, nofact)])) fun _ => by kernel_rfl) fun _ => ?_
    refine goes_last (by kernel_rfl) rfl (opsS_skip (by rfl) (opsS_skip (by rfl) (oc (av 0 rfl rfl Av.nil) rfl rfl (mv rfl rfl) (oc (av 1 rfl rfl Av.nil) rfl rfl (mv rfl rfl) (opsS_skip (by rfl) (opsS_skip (by rfl) (opsS_skip (by rfl) (opsS_skip (by rfl) (opsS_skip (by rfl) (opsS_skip (by rfl) (opsS_skip (by rfl) (opsS_skip (by rfl) (opsS_skip (by rfl) (opsS_skip (by rfl) opsS_nil)))))))))))))) (out_old (t := 13) rfl rfl (out_new (i := 2) (by decide) rfl rfl (out_new (i := 3) (by decide) rfl rfl (out_new (i := 11) (by decide) rfl rfl out_nil)))) fun _ _ s22 => ?_
    obtain ⟨g8, h18⟩ := guard_some h17; clear h17
    obtain ⟨x8, e_x8, h19⟩ := bind_some h18; clear h18
    refine qs s22 (.c1 rfl (ob_rowAt rfl Try.underlying40 sz39 (.tmp rfl) (.head _) (.tmp rfl) g8) .cz) fun _ _ s23 => ?_; clear s22
    refine seq_opx0 (B' := (fun _ : Unit => [RowF wr0 39 (karr 32 (kint .u8)) x8])) s23 rfl rfl (ob_rowStore (A := []) rfl tk39 (.tmp rfl) (.tmp rfl) rfl (LS.arrS e_x8) rfl) fun _ a24 w24 s24 => ?_; clear s23
    refine wn hK8 ?_
    have s25 := s24.sub (u 13 rfl .nil); clear s24
    refine wp_seq_k fun K9 hK9 => wp_region_lit (qs s25 (.c1 rfl (mv rfl rfl) (.c1 rfl (ob_assign rfl (.tmp rfl)) (.c1 rfl (ob_assign rfl opd_bool) (.ce (u 10 rfl (u 11 rfl .nil)))))) fun _ _ s29 => wn hK9 ?_); clear s25
    refine wp_ret ?_
    obtain rfl := Option.some.inj h19
    exact leaveXD (D := []) () s29 rfl (.inl rfl) rfl (.cons (.tmp rfl) (.cons (.tmp rfl) .nil)) rfl
   ·have h20 := ite_f hc1 h10; clear h10
    refine wp_skip ?_
    refine then_normal (hK6 _ _ ?_)
    have s30 := s21.sub (u 0 rfl (u 1 rfl (u 4 rfl (u 12 rfl (u 13 rfl .nil))))); clear s21
    refine wp_seq_k fun K10 hK10 => ?_
    obtain ⟨g9, h21⟩ := guard_some h20; clear h20
    obtain ⟨x9, e_x9, h22⟩ := bind_some h21; clear h21
    obtain ⟨g10, h23⟩ := guard_some h22; clear h22
    obtain ⟨x10, e_x10, h24⟩ := bind_some h23; clear h23
    obtain ⟨g11, h25⟩ := guard_some h24; clear h24
    obtain ⟨x11, e_x11, h26⟩ := bind_some h25; clear h25
    refine wp_goes (Fs := [(is wr0), ((kint .i64).V y1), (is wr0), ((kint .i64).V y2), (is wr0), ((kint .i64).V y2), (ptrR wr0 (y2.toNat * 32)), ((karr 32 (kint .u8)).V x9), (is wr0), ((kint .i64).V y1), (ptrR wr0 (y1.toNat * 32)), ((karr 32 (kint .u8)).V x10), (ptrR wr0 (y1.toNat * 32)), nofact]) (bits := [0, 0, 0, 0, 0, 0, 48, 112, 0, 0, 768, 1792, 4083, 8179, 16383, 32767]) (m := 14) (todo := 8192) mx s30 ?_; clear s30
    refine goes_turn (B' := (fun _ : Unit => [RowF wr0 39 (karr 32 (kint .u8)) x11])) (Fs' := (fun _ : Unit => setAll ([(is wr0), ((kint .i64).V y1), (is wr0), ((kint .i64).V y2), (is wr0), ((kint .i64).V y2), (ptrR wr0 (y2.toNat * 32)), ((karr 32 (kint .u8)).V x9), (is wr0), ((kint .i64).V y1), (ptrR wr0 (y1.toNat * 32)), ((karr 32 (kint .u8)).V x10), (ptrR wr0 (y1.toNat * 32)), nofact]) [(13, nofact)])) 13 8192 16371 0 (by kernel_rfl) rfl rfl rfl (oc (av 0 rfl rfl Av.nil) rfl rfl (mv rfl rfl) (oc (av 12 rfl rfl Av.nil) rfl rfl (mv rfl rfl) (oc (av 0 rfl rfl Av.nil) rfl rfl (mv rfl rfl) (oc (av 13 rfl rfl Av.nil) rfl rfl (mv rfl rfl) (oc (av 0 rfl rfl Av.nil) rfl rfl (mv rfl rfl) (oc (av 13 rfl rfl Av.nil) rfl rfl (mv rfl rfl) (oc (an 4 rfl rfl rfl (an 5 rfl rfl rfl Av.nil)) rfl rfl (ob_rowAt rfl Try.underlying40 sz39 (.tmp rfl) (.head _) (.tmp rfl) g9) (oc (an 6 rfl rfl rfl Av.nil) rfl rfl (ob_rowLoad rfl tk39 (.tmp rfl) (.head _) (LG.arrA e_x9)) (oc (av 0 rfl rfl Av.nil) rfl rfl (mv rfl rfl) (oc (av 12 rfl rfl Av.nil) rfl rfl (mv rfl rfl) (oc (an 8 rfl rfl rfl (an 9 rfl rfl rfl Av.nil)) rfl rfl (ob_rowAt rfl Try.underlying40 sz39 (.tmp rfl) (.head _) (.tmp rfl) g10) (oc (an 10 rfl rfl rfl Av.nil) rfl rfl (ob_rowLoad rfl tk39 (.tmp rfl) (.head _) (LG.arrA e_x10)) (oc (an 0 rfl rfl rfl (an 1 rfl rfl rfl Av.nil)) rfl rfl (ob_rowAt rfl Try.underlying40 sz39 (.tmp rfl) (.head _) (.tmp rfl) g11) (opsS_skip (by rfl) opsS_nil)))))))))))))) (.plain _ (an 7 rfl rfl rfl (an 12 rfl rfl rfl Av.nil)) rfl (fun _ => rfl) (fun R => ob_rowStore (A := []) rfl tk39 (.tmp rfl) (.tmp rfl) rfl (LS.arrS e_x11) rfl)) (setAll_same (us := (fun _ : Unit => [(13, nofact)])) fun _ => by kernel_rfl) fun _ => ?_
    refine goes_last (by kernel_rfl) rfl (opsS_skip (by rfl) (opsS_skip (by rfl) (oc (av 0 rfl rfl Av.nil) rfl rfl (mv rfl rfl) (oc (av 13 rfl rfl Av.nil) rfl rfl (mv rfl rfl) (opsS_skip (by rfl) (opsS_skip (by rfl) (opsS_skip (by rfl) (opsS_skip (by rfl) (opsS_skip (by rfl) (opsS_skip (by rfl) (opsS_skip (by rfl) (opsS_skip (by rfl) (opsS_skip (by rfl) (opsS_skip (by rfl) opsS_nil)))))))))))))) (out_old (t := 0) rfl rfl (out_old (t := 1) rfl rfl (out_old (t := 4) rfl rfl (out_old (t := 12) rfl rfl (out_old (t := 13) rfl rfl (out_new (i := 2) (by decide) rfl rfl (out_new (i := 3) (by decide) rfl rfl (out_new (i := 11) (by decide) rfl rfl out_nil)))))))) fun _ _ s31 => ?_
    obtain ⟨g12, h27⟩ := guard_some h26; clear h26
    obtain ⟨x12, e_x12, h28⟩ := bind_some h27; clear h27
    refine qs s31 (.c1 rfl (ob_rowAt rfl Try.underlying40 sz39 (.tmp rfl) (.head _) (.tmp rfl) g12) .cz) fun _ _ s32 => ?_; clear s31
    refine seq_opx0 (B' := (fun _ : Unit => [RowF wr0 39 (karr 32 (kint .u8)) x12])) s32 rfl rfl (ob_rowStore (A := []) rfl tk39 (.tmp rfl) (.tmp rfl) rfl (LS.arrS e_x12) rfl) fun _ a33 w33 s33 => ?_; clear s32
    refine wn hK10 ?_
    have s34 := s33.sub (u 0 rfl (u 1 rfl (u 4 rfl (u 12 rfl (u 13 rfl .nil))))); clear s33
    refine wp_seq_k fun K11 hK11 => wp_region_lit (qs s34 (.c1 rfl (mv rfl rfl) (.c1 rfl (ob_add rfl (.tmp rfl) (opd_int rfl)) (.c1 rfl (ob_assign rfl (.tmp rfl)) (.ce (u 0 rfl (u 1 rfl (u 4 rfl (u 12 rfl (u 13 rfl .nil))))))))) fun _ _ s38 => wn hK11 ?_); clear s34
    refine wp_seq_k fun K12 hK12 => wp_region_lit (qs s38 (.c1 rfl (mv rfl rfl) (.c1 rfl (ob_sub rfl (.tmp rfl) (opd_int rfl)) (.c1 rfl (ob_assign rfl (.tmp rfl)) (.ce (u 0 rfl (u 1 rfl (u 4 rfl (u 12 rfl (u 13 rfl .nil))))))))) fun _ _ s42 => wn hK12 ?_); clear s38
    refine wp_seq_k fun K13 hK13 => ?_
    have hj3 : ∀ (y3 : Int) (y4 : (List (List Int))) (a : Act) (w : World), (slices_partitionCmpFunc_api_Key_queue_Wanted_1.j3 k p2) y3 y4 = some r → St ⟨178, w0, ok, (idsOf [RowF wr0 39 (karr 32 (kint .u8)) p1])⟩ [RowF wr0 39 (karr 32 (kint .u8)) y4] [(0, (is wr0)), (1, ((kint .i64).V p2)), (13, ((kint .i64).V y3))] a w → K13 a w := by
     intro y3 y4 a43 w43 h29 s43
     unfold slices_partitionCmpFunc_api_Key_queue_Wanted_1.j3 at h29
     refine hK13 _ _ ?_
     refine wp_seq_k fun K14 hK14 => ?_
     obtain ⟨g13, h30⟩ := guard_some h29; clear h29
     obtain ⟨x13, e_x13, h31⟩ := bind_some h30; clear h30
     obtain ⟨g14, h32⟩ := guard_some h31; clear h31
     obtain ⟨x14, e_x14, h33⟩ := bind_some h32; clear h32
     obtain ⟨g15, h34⟩ := guard_some h33; clear h33
     obtain ⟨x15, e_x15, h35⟩ := bind_some h34; clear h34
     refine wp_goes (Fs := [(is wr0), ((kint .i64).V y3), (is wr0), ((kint .i64).V p2), (is wr0), ((kint .i64).V p2), (ptrR wr0 (p2.toNat * 32)), ((karr 32 (kint .u8)).V x13), (is wr0), ((kint .i64).V y3), (ptrR wr0 (y3.toNat * 32)), ((karr 32 (kint .u8)).V x14), (ptrR wr0 (y3.toNat * 32)), nofact]) (bits := [0, 0, 0, 0, 0, 0, 48, 112, 0, 0, 768, 1792, 4083, 8179, 16383, 32767]) (m := 14) (todo := 8192) mx s43 ?_; clear s43
     refine goes_turn (B' := (fun _ : Unit => [RowF wr0 39 (karr 32 (kint .u8)) x15])) (Fs' := (fun _ : Unit => setAll ([(is wr0), ((kint .i64).V y3), (is wr0), ((kint .i64).V p2), (is wr0), ((kint .i64).V p2), (ptrR wr0 (p2.toNat * 32)), ((karr 32 (kint .u8)).V x13), (is wr0), ((kint .i64).V y3), (ptrR wr0 (y3.toNat * 32)), ((karr 32 (kint .u8)).V x14), (ptrR wr0 (y3.toNat * 32)), nofact]) [(13, nofact)])) 13 8192 16371 0 (by kernel_rfl) rfl rfl rfl (oc (av 0 rfl rfl Av.nil) rfl rfl (mv rfl rfl) (oc (av 13 rfl rfl Av.nil) rfl rfl (mv rfl rfl) (oc (av 0 rfl rfl Av.nil) rfl rfl (mv rfl rfl) (oc (av 1 rfl rfl Av.nil) rfl rfl (mv rfl rfl) (oc (av 0 rfl rfl Av.nil) rfl rfl (mv rfl rfl) (oc (av 1 rfl rfl Av.nil) rfl rfl (mv rfl rfl) (oc (an 4 rfl rfl rfl (an 5 rfl rfl rfl Av.nil)) rfl rfl (ob_rowAt rfl Try.underlying40 sz39 (.tmp rfl) (.head _) (.tmp rfl) g13) (oc (an 6 rfl rfl rfl Av.nil) rfl rfl (ob_rowLoad rfl tk39 (.tmp rfl) (.head _) (LG.arrA e_x13)) (oc (av 0 rfl rfl Av.nil) rfl rfl (mv rfl rfl) (oc (av 13 rfl rfl Av.nil) rfl rfl (mv rfl rfl) (oc (an 8 rfl rfl rfl (an 9 rfl rfl rfl Av.nil)) rfl rfl (ob_rowAt rfl Try.underlying40 sz39 (.tmp rfl) (.head _) (.tmp rfl) g14) (oc (an 10 rfl rfl rfl Av.nil) rfl rfl (ob_rowLoad rfl tk39 (.tmp rfl) (.head _) (LG.arrA e_x14)) (oc (an 0 rfl rfl rfl (an 1 rfl rfl rfl Av.nil)) rfl rfl (ob_rowAt rfl Try.underlying40 sz39 (.tmp rfl) (.head _) (.tmp rfl) g15) (opsS_skip (by rfl) opsS_nil)))))))))))))) (.plain _ (an 7 rfl rfl rfl (an 12 rfl rfl rfl Av.nil)) rfl (fun _ => rfl) (fun R => ob_rowStore (A := []) rfl tk39 (.tmp rfl) (.tmp rfl) rfl (LS.arrS e_x15) rfl)) (setAll_same (us := (fun _ : Unit => [(13, nofact)])) fun _ => by kernel_rfl) fun _ => ?_
     refine goes_last (by kernel_rfl) rfl (opsS_skip (by rfl) (opsS_skip (by rfl) (oc (av 0 rfl rfl Av.nil) rfl rfl (mv rfl rfl) (oc (av 1 rfl rfl Av.nil) rfl rfl (mv rfl rfl) (opsS_skip (by rfl) (opsS_skip (by rfl) (opsS_skip (by rfl) (opsS_skip (by rfl) (opsS_skip (by rfl) (opsS_skip (by rfl) (opsS_skip (by rfl) (opsS_skip (by rfl) (opsS_skip (by rfl) (opsS_skip (by rfl) opsS_nil)))))))))))))) (out_old (t := 13) rfl rfl (out_new (i := 2) (by decide) rfl rfl (out_new (i := 3) (by decide) rfl rfl (out_new (i := 11) (by decide) rfl rfl out_nil)))) fun _ _ s44 => ?_
     obtain ⟨g16, h36⟩ := guard_some h35; clear h35
     obtain ⟨x16, e_x16, h37⟩ := bind_some h36; clear h36
     refine qs s44 (.c1 rfl (ob_rowAt rfl Try.underlying40 sz39 (.tmp rfl) (.head _) (.tmp rfl) g16) .cz) fun _ _ s45 => ?_; clear s44
     refine seq_opx0 (B' := (fun _ : Unit => [RowF wr0 39 (karr 32 (kint .u8)) x16])) s45 rfl rfl (ob_rowStore (A := []) rfl tk39 (.tmp rfl) (.tmp rfl) rfl (LS.arrS e_x16) rfl) fun _ a46 w46 s46 => ?_; clear s45
     refine wn hK14 ?_
     have s47 := s46.sub (u 13 rfl .nil); clear s46
     refine wp_seq_k fun K15 hK15 => wp_region_lit (qs s47 (.c1 rfl (mv rfl rfl) (.c1 rfl (ob_assign rfl (.tmp rfl)) (.c1 rfl (ob_assign rfl opd_bool) (.ce (u 10 rfl (u 11 rfl .nil)))))) fun _ _ s51 => wn hK15 ?_); clear s47
     refine wp_ret ?_
     obtain rfl := Option.some.inj h37
     exact leaveXD (D := []) () s51 rfl (.inl rfl) rfl (.cons (.tmp rfl) (.cons (.tmp rfl) .nil)) rfl
    refine wp_block ?_
    refine wp_loop_fuel (fun m (q : Int × Int × (List (List Int))) => slices_partitionCmpFunc_api_Key_queue_Wanted_1.l1 k p2 m q.1 q.2.1 q.2.2) r (fun _ => rfl) (fun q a w => St ⟨178, w0, ok, (idsOf [RowF wr0 39 (karr 32 (kint .u8)) p1])⟩ [RowF wr0 39 (karr 32 (kint .u8)) q.2.2] [(0, (is wr0)), (1, ((kint .i64).V p2)), (4, (is (.func (.func 115) #[] #[]))), (12, ((kint .i64).V q.1)), (13, ((kint .i64).V q.2.1))] a w) ?_ k ((iadd .i64 y1 (1 : Int)), (isub .i64 y2 (1 : Int)), x12) _ _ h28 (s42.sub (.cons rfl (.cons rfl (.cons rfl (.cons rfl (.cons rfl .nil))))))
    rintro n1 ⟨y5, y6, y7⟩ a52 w52 h38 s52 K16 hK16
    replace h38 : slices_partitionCmpFunc_api_Key_queue_Wanted_1.l1 k p2 (n1 + 1) y5 y6 y7 = some r := h38; rw [slices_partitionCmpFunc_api_Key_queue_Wanted_1.l1] at h38
    have h39 := h38; clear h38
    refine wp_block ?_
    refine wp_seq_k fun K17 hK17 => ?_
    have hj4 : ∀ (y8 : Int) (a : Act) (w : World), (slices_partitionCmpFunc_api_Key_queue_Wanted_1.j4 k y7 p2 y6 (slices_partitionCmpFunc_api_Key_queue_Wanted_1.l1 k p2 n1)) y8 = some r → St ⟨178, w0, ok, (idsOf [RowF wr0 39 (karr 32 (kint .u8)) p1])⟩ [RowF wr0 39 (karr 32 (kint .u8)) y7] [(0, (is wr0)), (1, ((kint .i64).V p2)), (4, (is (.func (.func 115) #[] #[]))), (12, ((kint .i64).V y8)), (13, ((kint .i64).V y6))] a w → K17 a w := by
     intro y8 a53 w53 h40 s53
     unfold slices_partitionCmpFunc_api_Key_queue_Wanted_1.j4 at h40
     refine hK17 _ _ ?_
     refine wp_seq_k fun K18 hK18 => ?_
     have hj5 : ∀ (y9 : Int) (a : Act) (w : World), (slices_partitionCmpFunc_api_Key_queue_Wanted_1.j5 k y8 p2 y7 (slices_partitionCmpFunc_api_Key_queue_Wanted_1.l1 k p2 n1)) y9 = some r → St ⟨178, w0, ok, (idsOf [RowF wr0 39 (karr 32 (kint .u8)) p1])⟩ [RowF wr0 39 (karr 32 (kint .u8)) y7] [(0, (is wr0)), (1, ((kint .i64).V p2)), (4, (is (.func (.func 115) #[] #[]))), (12, ((kint .i64).V y8)), (13, ((kint .i64).V y9))] a w → K18 a w := by
      intro y9 a54 w54 h41 s54
      unfold slices_partitionCmpFunc_api_Key_queue_Wanted_1.j5 at h41
      refine hK18 _ _ ?_
      refine wp_seq_k fun K19 hK19 => wp_seq_k fun K20 hK20 => ?_
      refine wp_region_lit (qs s54 (.c1 rfl (mv rfl rfl) (.c1 rfl (mv rfl rfl) (.c1 rfl (ob_gtr rfl (.tmp rfl) (.tmp rfl)) (.ce (u 0 rfl (u 1 rfl (u 4 rfl (u 12 rfl (u 13 rfl (u 144 rfl .nil)))))))))) fun _ _ s58 => wn hK20 ?_); clear s54
      refine cond_split s58 (.tmp rfl) (fun hc2 => ?_) (fun hc2 => ?_)
      ·have h42 := ite_t hc2 h41; clear h41
       refine wp_exit ?_
       refine (then_exit (in_other (by decide) (then_exit (in_here ?_))))
       refine then_normal ?_
       exact hj3 y9 y7 _ _ h42 (s58.sub (.cons rfl (.cons rfl (.cons rfl .nil))))
      ·have h43 := ite_f hc2 h41; clear h41
       refine wp_skip ?_
       refine then_normal (hK19 _ _ ?_)
       have s59 := s58.sub (u 0 rfl (u 1 rfl (u 4 rfl (u 12 rfl (u 13 rfl .nil))))); clear s58
       refine wp_seq_k fun K21 hK21 => ?_
       obtain ⟨g17, h44⟩ := guard_some h43; clear h43
       obtain ⟨x17, e_x17, h45⟩ := bind_some h44; clear h44
       obtain ⟨g18, h46⟩ := guard_some h45; clear h45
       obtain ⟨x18, e_x18, h47⟩ := bind_some h46; clear h46
       obtain ⟨g19, h48⟩ := guard_some h47; clear h47
       obtain ⟨x19, e_x19, h49⟩ := bind_some h48; clear h48
       refine wp_goes (Fs := [(is wr0), ((kint .i64).V y8), (is wr0), ((kint .i64).V y9), (is wr0), ((kint .i64).V y9), (ptrR wr0 (y9.toNat * 32)), ((karr 32 (kint .u8)).V x17), (is wr0), ((kint .i64).V y8), (ptrR wr0 (y8.toNat * 32)), ((karr 32 (kint .u8)).V x18), (ptrR wr0 (y8.toNat * 32)), nofact]) (bits := [0, 0, 0, 0, 0, 0, 48, 112, 0, 0, 768, 1792, 4083, 8179, 16383, 32767]) (m := 14) (todo := 8192) mx s59 ?_; clear s59
       refine goes_turn (B' := (fun _ : Unit => [RowF wr0 39 (karr 32 (kint .u8)) x19])) (Fs' := (fun _ : Unit => setAll ([(is wr0), ((kint .i64).V y8), (is wr0), ((kint .i64).V y9), (is wr0), ((kint .i64).V y9), (ptrR wr0 (y9.toNat * 32)), ((karr 32 (kint .u8)).V x17), (is wr0), ((kint .i64).V y8), (ptrR wr0 (y8.toNat * 32)), ((karr 32 (kint .u8)).V x18), (ptrR wr0 (y8.toNat * 32)), nofact]) [(13, nofact)])) 13 8192 16371 0 (by kernel_rfl) rfl rfl rfl (oc (av 0 rfl rfl Av.nil) rfl rfl (mv rfl rfl) (oc (av 12 rfl rfl Av.nil) rfl rfl (mv rfl rfl) (oc (av 0 rfl rfl Av.nil) rfl rfl (mv rfl rfl) (oc (av 13 rfl rfl Av.nil) rfl rfl (mv rfl rfl) (oc (av 0 rfl rfl Av.nil) rfl rfl (mv rfl rfl) (oc (av 13 rfl rfl Av.nil) rfl rfl (mv rfl rfl) (oc (an 4 rfl rfl rfl (an 5 rfl rfl rfl Av.nil)) rfl rfl (ob_rowAt rfl Try.underlying40 sz39 (.tmp rfl) (.head _) (.tmp rfl) g17) (oc (an 6 rfl rfl rfl Av.nil) rfl rfl (ob_rowLoad rfl tk39 (.tmp rfl) (.head _) (LG.arrA e_x17)) (oc (av 0 rfl rfl Av.nil) rfl rfl (mv rfl rfl) (oc (av 12 rfl rfl Av.nil) rfl rfl (mv rfl rfl) (oc (an 8 rfl rfl rfl (an 9 rfl rfl rfl Av.nil)) rfl rfl (ob_rowAt rfl Try.underlying40 sz39 (.tmp rfl) (.head _) (.tmp rfl) g18) (oc (an 10 rfl rfl rfl Av.nil) rfl rfl (ob_rowLoad rfl tk39 (.tmp rfl) (.head _) (LG.arrA e_x18)) (oc (an 0 rfl rfl rfl (an 1 rfl rfl rfl Av.nil)) rfl rfl (ob_rowAt rfl Try.underlying40 sz39 (.tmp rfl) (.head _) (.tmp rfl) g19) (opsS_skip (by rfl) opsS_nil)))))))))))))) (.plain _ (an 7 rfl rfl rfl (an 12 rfl rfl rfl Av.nil)) rfl (fun _ => rfl) (fun R => ob_rowStore (A := []) rfl tk39 (.tmp rfl) (.tmp rfl) rfl (LS.arrS e_x19) rfl)) (setAll_same (us := (fun _ : Unit => [(13, nofact)])) fun _ => by kernel_rfl) fun _ => ?_
       refine goes_last (by kernel_rfl) rfl (opsS_skip (by rfl) (opsS_skip (by rfl) (oc (av 0 rfl rfl Av.nil) rfl rfl (mv rfl rfl) (oc (av 13 rfl rfl Av.nil) rfl rfl (mv rfl rfl) (opsS_skip (by rfl) (opsS_skip (by rfl) (opsS_skip (by rfl) (opsS_skip (by rfl) (opsS_skip (by rfl) (opsS_skip (by rfl) (opsS_skip (by rfl) (opsS_skip (by rfl) (opsS_skip (by rfl) (opsS_skip (by rfl) opsS_nil)))))))))))))) (out_old (t := 0) rfl rfl (out_old (t := 1) rfl rfl (out_old (t := 4) rfl rfl (out_old (t := 12) rfl rfl (out_old (t := 13) rfl rfl (out_new (i := 2) (by decide) rfl rfl (out_new (i := 3) (by decide) rfl rfl (out_new (i := 11) (by decide) rfl rfl out_nil)))))))) fun _ _ s60 => ?_
       obtain ⟨g20, h50⟩ := guard_some h49; clear h49
       obtain ⟨x20, e_x20, h51⟩ := bind_some h50; clear h50
       refine qs s60 (.c1 rfl (ob_rowAt rfl Try.underlying40 sz39 (.tmp rfl) (.head _) (.tmp rfl) g20) .cz) fun _ _ s61 => ?_; clear s60
       refine seq_opx0 (B' := (fun _ : Unit => [RowF wr0 39 (karr 32 (kint .u8)) x20])) s61 rfl rfl (ob_rowStore (A := []) rfl tk39 (.tmp rfl) (.tmp rfl) rfl (LS.arrS e_x20) rfl) fun _ a62 w62 s62 => ?_; clear s61
       refine wn hK21 ?_
       have s63 := s62.sub (u 0 rfl (u 1 rfl (u 4 rfl (u 12 rfl (u 13 rfl .nil))))); clear s62
       refine wp_seq_k fun K22 hK22 => wp_region_lit (qs s63 (.c1 rfl (mv rfl rfl) (.c1 rfl (ob_add rfl (.tmp rfl) (opd_int rfl)) (.c1 rfl (ob_assign rfl (.tmp rfl)) (.ce (u 0 rfl (u 1 rfl (u 4 rfl (u 12 rfl (u 13 rfl .nil))))))))) fun _ _ s67 => wn hK22 ?_); clear s63
       refine wp_region_lit (qs s67 (.c1 rfl (mv rfl rfl) (.c1 rfl (ob_sub rfl (.tmp rfl) (opd_int rfl)) (.c1 rfl (ob_assign rfl (.tmp rfl)) .cz))) fun _ _ s70 => ?_); clear s67
       refine wpList_nil ?_
       refine in_normal ?_
       refine then_normal ?_
       exact hK16 ((iadd .i64 y8 (1 : Int)), (isub .i64 y9 (1 : Int)), x20) _ _ h51 (s70.sub (.cons rfl (.cons rfl (.cons rfl (.cons rfl (.cons rfl .nil))))))
     refine wp_block ?_
     refine wp_loop_fuel (fun m (q : Int) => slices_partitionCmpFunc_api_Key_queue_Wanted_1.l2 k y8 y7 p2 (slices_partitionCmpFunc_api_Key_queue_Wanted_1.l1 k p2 n1) m q) r (fun _ => rfl) (fun q a w => St ⟨178, w0, ok, (idsOf [RowF wr0 39 (karr 32 (kint .u8)) p1])⟩ [RowF wr0 39 (karr 32 (kint .u8)) y7] [(0, (is wr0)), (1, ((kint .i64).V p2)), (4, (is (.func (.func 115) #[] #[]))), (12, ((kint .i64).V y8)), (13, ((kint .i64).V q))] a w) ?_ k y6 _ _ h40 (s53.sub (.cons rfl (.cons rfl (.cons rfl (.cons rfl (.cons rfl .nil))))))
     rintro n2 y10 a71 w71 h52 s71 K23 hK23
     replace h52 : slices_partitionCmpFunc_api_Key_queue_Wanted_1.l2 k y8 y7 p2 (slices_partitionCmpFunc_api_Key_queue_Wanted_1.l1 k p2 n1) (n2 + 1) y10 = some r := h52; rw [slices_partitionCmpFunc_api_Key_queue_Wanted_1.l2] at h52
     have h53 := h52; clear h52
     refine wp_seq_k fun K24 hK24 => wp_seq_k fun K25 hK25 => ?_
     obtain ⟨g21, h54⟩ := guard_some h53; clear h53
     obtain ⟨x21, e_x21, h55⟩ := bind_some h54; clear h54
     obtain ⟨g22, h56⟩ := guard_some h55; clear h55
     obtain ⟨x22, e_x22, h57⟩ := bind_some h56; clear h56
     refine wp_goes (Fs := [((kint .i64).V y8), ((kint .i64).V y10), (kbool.V (decide (y8 ≤ y10))), (kbool.V (decide (y8 ≤ y10))), (Fact.when ((decide (y8 ≤ y10)) == true) (is (.func (.func 115) #[] #[]))), (Fact.when ((decide (y8 ≤ y10)) == true) (is wr0)), (Fact.when ((decide (y8 ≤ y10)) == true) ((kint .i64).V y10)), (Fact.when ((decide (y8 ≤ y10)) == true) (ptrR wr0 (y10.toNat * 32))), (Fact.when ((decide (y8 ≤ y10)) == true) ((karr 32 (kint .u8)).V x21)), (Fact.when ((decide (y8 ≤ y10)) == true) (is wr0)), (Fact.when ((decide (y8 ≤ y10)) == true) ((kint .i64).V p2)), (Fact.when ((decide (y8 ≤ y10)) == true) (ptrR wr0 (p2.toNat * 32))), (Fact.when ((decide (y8 ≤ y10)) == true) ((karr 32 (kint .u8)).V x22))]) (bits := [0, 0, 3, 7, 15, 15, 15, 111, 239, 15, 15, 1551, 3599, 8191, 16383, 32767, 65535]) (m := 13) (todo := 0) mx s71 ?_; clear s71
     refine goes_last (by kernel_rfl) rfl (oc (av 12 rfl rfl Av.nil) rfl rfl (mv rfl rfl) (oc (av 13 rfl rfl Av.nil) rfl rfl (mv rfl rfl) (oc (an 0 rfl rfl rfl (an 1 rfl rfl rfl Av.nil)) rfl rfl (ob_leq rfl (.tmp rfl) (.tmp rfl)) (oc (an 2 rfl rfl rfl Av.nil) rfl rfl (mv rfl rfl) (opsS_cons (.guarded _ (av 4 rfl rfl (an 3 rfl rfl rfl Av.nil)) rfl rfl rfl rfl (fun hb => ob_move rfl (.tmp rfl))) (opsS_cons (.guarded _ (av 0 rfl rfl (an 3 rfl rfl rfl Av.nil)) rfl rfl rfl rfl (fun hb => ob_move rfl (.tmp rfl))) (opsS_cons (.guarded _ (av 13 rfl rfl (an 3 rfl rfl rfl Av.nil)) rfl rfl rfl rfl (fun hb => ob_move rfl (.tmp rfl))) (opsS_cons (.guarded _ (an 3 rfl rfl rfl (an 5 rfl rfl rfl (an 6 rfl rfl rfl Av.nil))) rfl rfl rfl rfl (fun hb => (Ob.uncond (t := 129) hb rfl ((Ob.uncond (t := 128) hb rfl (ob_rowAt rfl Try.underlying40 sz39 (.tmp rfl) (.head _) (.tmp rfl) (g21 hb))))))) (opsS_cons (.guarded _ (an 3 rfl rfl rfl (an 7 rfl rfl rfl Av.nil)) rfl rfl rfl rfl (fun hb => (Ob.uncond (t := 130) hb rfl (ob_rowLoad rfl tk39 (.tmp rfl) (.head _) (LG.arrA (ite_t hb e_x21)))))) (opsS_cons (.guarded _ (av 0 rfl rfl (an 3 rfl rfl rfl Av.nil)) rfl rfl rfl rfl (fun hb => ob_move rfl (.tmp rfl))) (opsS_cons (.guarded _ (av 1 rfl rfl (an 3 rfl rfl rfl Av.nil)) rfl rfl rfl rfl (fun hb => ob_move rfl (.tmp rfl))) (opsS_cons (.guarded _ (an 3 rfl rfl rfl (an 9 rfl rfl rfl (an 10 rfl rfl rfl Av.nil))) rfl rfl rfl rfl (fun hb => (Ob.uncond (t := 133) hb rfl ((Ob.uncond (t := 132) hb rfl (ob_rowAt rfl Try.underlying40 sz39 (.tmp rfl) (.head _) (.tmp rfl) (g22 hb))))))) (opsS_cons (.guarded _ (an 3 rfl rfl rfl (an 11 rfl rfl rfl Av.nil)) rfl rfl rfl rfl (fun hb => (Ob.uncond (t := 134) hb rfl (ob_rowLoad rfl tk39 (.tmp rfl) (.head _) (LG.arrA (ite_t hb e_x22)))))) opsS_nil))))))))))))) (out_old (t := 0) rfl rfl (out_old (t := 1) rfl rfl (out_old (t := 4) rfl rfl (out_old (t := 12) rfl rfl (out_old (t := 13) rfl rfl (out_new (i := 3) (by decide) rfl rfl (out_new (i := 4) (by decide) rfl rfl (out_new (i := 8) (by decide) rfl rfl (out_new (i := 12) (by decide) rfl rfl out_nil))))))))) fun _ _ s72 => ?_
     obtain ⟨x23, e_x23, h58⟩ := bind_some h57; clear h57
     refine qs s72 (.cg rfl rfl rfl rfl (fun hb => (Ob.uncond (t := 135) hb rfl ((Ob.uncond (t := 131) hb rfl ((Ob.uncond (t := 127) hb rfl (ob_callD0 (args := [_, _]) rfl (.fn (.tmp rfl)) hb115 (fun a w s => by exact c_queue_Wanted_1 k _ _ _ (ite_t hb e_x23) _ _ _ _ (s.arg (.tmp rfl)) (s.arg (.tmp rfl)))))))))) (.cg rfl rfl rfl rfl (fun hb => (Ob.uncond (t := 136) hb rfl (ob_lss rfl (.tmp rfl) (opd_int rfl)))) (.cg rfl rfl rfl rfl (fun hb => (Ob.uncond (t := 137) hb rfl (ob_not rfl (.tmp rfl)))) (.c1 rfl (ob_and2 rfl (.tmp rfl) (.tmp rfl) opd_bool) (.ce (u 0 rfl (u 1 rfl (u 4 rfl (u 12 rfl (u 13 rfl (u 139 rfl .nil))))))))))) fun _ _ s77 => wn hK25 ?_; clear s72
     refine cond_split s77 (.tmp rfl) (fun hc3 => ?_) (fun hc3 => ?_)
     ·have h59 := ite_t hc3 h58; clear h58
      refine wp_skip ?_
      refine then_normal (hK24 _ _ ?_)
      have s78 := s77.sub (u 0 rfl (u 1 rfl (u 4 rfl (u 12 rfl (u 13 rfl .nil))))); clear s77
      refine wp_block ?_
      refine wp_region_lit (qs s78 (.c1 rfl (mv rfl rfl) (.c1 rfl (ob_sub rfl (.tmp rfl) (opd_int rfl)) (.c1 rfl (ob_assign rfl (.tmp rfl)) .cz))) fun _ _ s81 => ?_); clear s78
      refine wpList_nil ?_
      refine in_normal ?_
      refine then_normal ?_
      exact hK23 (isub .i64 y10 (1 : Int)) _ _ h59 (s81.sub (.cons rfl (.cons rfl (.cons rfl (.cons rfl (.cons rfl .nil))))))
     ·have h60 := ite_f hc3 h58; clear h58
      refine wp_exit ?_
      refine (then_exit (then_exit (in_here ?_)))
      refine then_normal ?_
      exact hj5 y10 _ _ h60 (s77.sub (.cons rfl (.cons rfl (.cons rfl (.cons rfl (.cons rfl .nil))))))
    refine wp_block ?_
    refine wp_loop_fuel (fun m (q : Int) => slices_partitionCmpFunc_api_Key_queue_Wanted_1.l3 k y6 y7 p2 (slices_partitionCmpFunc_api_Key_queue_Wanted_1.l1 k p2 n1) m q) r (fun _ => rfl) (fun q a w => St ⟨178, w0, ok, (idsOf [RowF wr0 39 (karr 32 (kint .u8)) p1])⟩ [RowF wr0 39 (karr 32 (kint .u8)) y7] [(0, (is wr0)), (1, ((kint .i64).V p2)), (4, (is (.func (.func 115) #[] #[]))), (12, ((kint .i64).V q)), (13, ((kint .i64).V y6))] a w) ?_ k y5 _ _ h39 (s52.sub (.cons rfl (.cons rfl (.cons rfl (.cons rfl (.cons rfl .nil))))))
    rintro n3 y11 a82 w82 h61 s82 K26 hK26
    replace h61 : slices_partitionCmpFunc_api_Key_queue_Wanted_1.l3 k y6 y7 p2 (slices_partitionCmpFunc_api_Key_queue_Wanted_1.l1 k p2 n1) (n3 + 1) y11 = some r := h61; rw [slices_partitionCmpFunc_api_Key_queue_Wanted_1.l3] at h61
    have h62 := h61; clear h61
    refine wp_seq_k fun K27 hK27 => wp_seq_k fun K28 hK28 => ?_
    obtain ⟨g23, h63⟩ := guard_some h62; clear h62
    obtain ⟨x24, e_x24, h64⟩ := bind_some h63; clear h63
    obtain ⟨g24, h65⟩ := guard_some h64; clear h64
    obtain ⟨x25, e_x25, h66⟩ := bind_some h65; clear h65
    refine wp_goes (Fs := [((kint .i64).V y11), ((kint .i64).V y6), (kbool.V (decide (y11 ≤ y6))), (kbool.V (decide (y11 ≤ y6))), (Fact.when ((decide (y11 ≤ y6)) == true) (is (.func (.func 115) #[] #[]))), (Fact.when ((decide (y11 ≤ y6)) == true) (is wr0)), (Fact.when ((decide (y11 ≤ y6)) == true) ((kint .i64).V y11)), (Fact.when ((decide (y11 ≤ y6)) == true) (ptrR wr0 (y11.toNat * 32))), (Fact.when ((decide (y11 ≤ y6)) == true) ((karr 32 (kint .u8)).V x24)), (Fact.when ((decide (y11 ≤ y6)) == true) (is wr0)), (Fact.when ((decide (y11 ≤ y6)) == true) ((kint .i64).V p2)), (Fact.when ((decide (y11 ≤ y6)) == true) (ptrR wr0 (p2.toNat * 32))), (Fact.when ((decide (y11 ≤ y6)) == true) ((karr 32 (kint .u8)).V x25))]) (bits := [0, 0, 3, 7, 15, 15, 15, 111, 239, 15, 15, 1551, 3599, 8191, 16383, 32767]) (m := 13) (todo := 0) mx s82 ?_; clear s82
    refine goes_last (by kernel_rfl) rfl (oc (av 12 rfl rfl Av.nil) rfl rfl (mv rfl rfl) (oc (av 13 rfl rfl Av.nil) rfl rfl (mv rfl rfl) (oc (an 0 rfl rfl rfl (an 1 rfl rfl rfl Av.nil)) rfl rfl (ob_leq rfl (.tmp rfl) (.tmp rfl)) (oc (an 2 rfl rfl rfl Av.nil) rfl rfl (mv rfl rfl) (opsS_cons (.guarded _ (av 4 rfl rfl (an 3 rfl rfl rfl Av.nil)) rfl rfl rfl rfl (fun hb => ob_move rfl (.tmp rfl))) (opsS_cons (.guarded _ (av 0 rfl rfl (an 3 rfl rfl rfl Av.nil)) rfl rfl rfl rfl (fun hb => ob_move rfl (.tmp rfl))) (opsS_cons (.guarded _ (av 12 rfl rfl (an 3 rfl rfl rfl Av.nil)) rfl rfl rfl rfl (fun hb => ob_move rfl (.tmp rfl))) (opsS_cons (.guarded _ (an 3 rfl rfl rfl (an 5 rfl rfl rfl (an 6 rfl rfl rfl Av.nil))) rfl rfl rfl rfl (fun hb => (Ob.uncond (t := 111) hb rfl ((Ob.uncond (t := 110) hb rfl (ob_rowAt rfl Try.underlying40 sz39 (.tmp rfl) (.head _) (.tmp rfl) (g23 hb))))))) (opsS_cons (.guarded _ (an 3 rfl rfl rfl (an 7 rfl rfl rfl Av.nil)) rfl rfl rfl rfl (fun hb => (Ob.uncond (t := 112) hb rfl (ob_rowLoad rfl tk39 (.tmp rfl) (.head _) (LG.arrA (ite_t hb e_x24)))))) (opsS_cons (.guarded _ (av 0 rfl rfl (an 3 rfl rfl rfl Av.nil)) rfl rfl rfl rfl (fun hb => ob_move rfl (.tmp rfl))) (opsS_cons (.guarded _ (av 1 rfl rfl (an 3 rfl rfl rfl Av.nil)) rfl rfl rfl rfl (fun hb => ob_move rfl (.tmp rfl))) (opsS_cons (.guarded _ (an 3 rfl rfl rfl (an 9 rfl rfl rfl (an 10 rfl rfl rfl Av.nil))) rfl rfl rfl rfl (fun hb => (Ob.uncond (t := 115) hb rfl ((Ob.uncond (t := 114) hb rfl (ob_rowAt rfl Try.underlying40 sz39 (.tmp rfl) (.head _) (.tmp rfl) (g24 hb))))))) (opsS_cons (.guarded _ (an 3 rfl rfl rfl (an 11 rfl rfl rfl Av.nil)) rfl rfl rfl rfl (fun hb => (Ob.uncond (t := 116) hb rfl (ob_rowLoad rfl tk39 (.tmp rfl) (.head _) (LG.arrA (ite_t hb e_x25)))))) opsS_nil))))))))))))) (out_old (t := 0) rfl rfl (out_old (t := 1) rfl rfl (out_old (t := 4) rfl rfl (out_old (t := 12) rfl rfl (out_old (t := 13) rfl rfl (out_new (i := 3) (by decide) rfl rfl (out_new (i := 4) (by decide) rfl rfl (out_new (i := 8) (by decide) rfl rfl (out_new (i := 12) (by decide) rfl rfl out_nil))))))))) fun _ _ s83 => ?_
    obtain ⟨x26, e_x26, h67⟩ := bind_some h66; clear h66
    refine qs s83 (.cg rfl rfl rfl rfl (fun hb => (Ob.uncond (t := 117) hb rfl ((Ob.uncond (t := 113) hb rfl ((Ob.uncond (t := 109) hb rfl (ob_callD0 (args := [_, _]) rfl (.fn (.tmp rfl)) hb115 (fun a w s => by exact c_queue_Wanted_1 k _ _ _ (ite_t hb e_x26) _ _ _ _ (s.arg (.tmp rfl)) (s.arg (.tmp rfl)))))))))) (.cg rfl rfl rfl rfl (fun hb => (Ob.uncond (t := 118) hb rfl (ob_lss rfl (.tmp rfl) (opd_int rfl)))) (.c1 rfl (ob_and2 rfl (.tmp rfl) (.tmp rfl) opd_bool) (.ce (u 0 rfl (u 1 rfl (u 4 rfl (u 12 rfl (u 13 rfl (u 120 rfl .nil)))))))))) fun _ _ s87 => wn hK28 ?_; clear s83
    refine cond_split s87 (.tmp rfl) (fun hc4 => ?_) (fun hc4 => ?_)
    ·have h68 := ite_t hc4 h67; clear h67
     refine wp_skip ?_
     refine then_normal (hK27 _ _ ?_)
     have s88 := s87.sub (u 0 rfl (u 1 rfl (u 4 rfl (u 12 rfl (u 13 rfl .nil))))); clear s87
     refine wp_block ?_
     refine wp_region_lit (qs s88 (.c1 rfl (mv rfl rfl) (.c1 rfl (ob_add rfl (.tmp rfl) (opd_int rfl)) (.c1 rfl (ob_assign rfl (.tmp rfl)) .cz))) fun _ _ s91 => ?_); clear s88
     refine wpList_nil ?_
     refine in_normal ?_
     refine then_normal ?_
     exact hK26 (iadd .i64 y11 (1 : Int)) _ _ h68 (s91.sub (.cons rfl (.cons rfl (.cons rfl (.cons rfl (.cons rfl .nil))))))
    ·have h69 := ite_f hc4 h67; clear h67
     refine wp_exit ?_
     refine (then_exit (then_exit (in_here ?_)))
     refine then_normal ?_
     exact hj4 y11 _ _ h69 (s87.sub (.cons rfl (.cons rfl (.cons rfl (.cons rfl (.cons rfl .nil))))))
  refine wp_block ?_
  refine wp_loop_fuel (fun m (q : Int) => slices_partitionCmpFunc_api_Key_queue_Wanted_1.l4 k y1 x4 p2 m q) r (fun _ => rfl) (fun q a w => St ⟨178, w0, ok, (idsOf [RowF wr0 39 (karr 32 (kint .u8)) p1])⟩ [RowF wr0 39 (karr 32 (kint .u8)) x4] [(0, (is wr0)), (1, ((kint .i64).V p2)), (4, (is (.func (.func 115) #[] #[]))), (12, ((kint .i64).V y1)), (13, ((kint .i64).V q))] a w) ?_ k (isub .i64 p3 (1 : Int)) _ _ h9 (s16.sub (.cons rfl (.cons rfl (.cons rfl (.cons rfl (.cons rfl .nil))))))
  rintro n4 y12 a92 w92 h70 s92 K29 hK29
  replace h70 : slices_partitionCmpFunc_api_Key_queue_Wanted_1.l4 k y1 x4 p2 (n4 + 1) y12 = some r := h70; rw [slices_partitionCmpFunc_api_Key_queue_Wanted_1.l4] at h70
  have h71 := h70; clear h70
  refine wp_seq_k fun K30 hK30 => wp_seq_k fun K31 hK31 => ?_
  obtain ⟨g25, h72⟩ := guard_some h71; clear h71
  obtain ⟨x27, e_x27, h73⟩ := bind_some h72; clear h72
  obtain ⟨g26, h74⟩ := guard_some h73; clear h73
  obtain ⟨x28, e_x28, h75⟩ := bind_some h74; clear h74
  refine wp_goes (Fs := [((kint .i64).V y1), ((kint .i64).V y12), (kbool.V (decide (y1 ≤ y12))), (kbool.V (decide (y1 ≤ y12))), (Fact.when ((decide (y1 ≤ y12)) == true) (is (.func (.func 115) #[] #[]))), (Fact.when ((decide (y1 ≤ y12)) == true) (is wr0)), (Fact.when ((decide (y1 ≤ y12)) == true) ((kint .i64).V y12)), (Fact.when ((decide (y1 ≤ y12)) == true) (ptrR wr0 (y12.toNat * 32))), (Fact.when ((decide (y1 ≤ y12)) == true) ((karr 32 (kint .u8)).V x27)), (Fact.when ((decide (y1 ≤ y12)) == true) (is wr0)), (Fact.when ((decide (y1 ≤ y12)) == true) ((kint .i64).V p2)), (Fact.when ((decide (y1 ≤ y12)) == true) (ptrR wr0 (p2.toNat * 32))), (Fact.when ((decide (y1 ≤ y12)) == true) ((karr 32 (kint .u8)).V x28))]) (bits := [0, 0, 3, 7, 15, 15, 15, 111, 239, 15, 15, 1551, 3599, 8191, 16383, 32767, 65535]) (m := 13) (todo := 0) mx s92 ?_; clear s92
  refine goes_last (by kernel_rfl) rfl (oc (av 12 rfl rfl Av.nil) rfl rfl (mv rfl rfl) (oc (av 13 rfl rfl Av.nil) rfl rfl (mv rfl rfl) (oc (an 0 rfl rfl rfl (an 1 rfl rfl rfl Av.nil)) rfl rfl (ob_leq rfl (.tmp rfl) (.tmp rfl)) (oc (an 2 rfl rfl rfl Av.nil) rfl rfl (mv rfl rfl) (opsS_cons (.guarded _ (av 4 rfl rfl (an 3 rfl rfl rfl Av.nil)) rfl rfl rfl rfl (fun hb => ob_move rfl (.tmp rfl))) (opsS_cons (.guarded _ (av 0 rfl rfl (an 3 rfl rfl rfl Av.nil)) rfl rfl rfl rfl (fun hb => ob_move rfl (.tmp rfl))) (opsS_cons (.guarded _ (av 13 rfl rfl (an 3 rfl rfl rfl Av.nil)) rfl rfl rfl rfl (fun hb => ob_move rfl (.tmp rfl))) (opsS_cons (.guarded _ (an 3 rfl rfl rfl (an 5 rfl rfl rfl (an 6 rfl rfl rfl Av.nil))) rfl rfl rfl rfl (fun hb => (Ob.uncond (t := 56) hb rfl ((Ob.uncond (t := 55) hb rfl (ob_rowAt rfl Try.underlying40 sz39 (.tmp rfl) (.head _) (.tmp rfl) (g25 hb))))))) (opsS_cons (.guarded _ (an 3 rfl rfl rfl (an 7 rfl rfl rfl Av.nil)) rfl rfl rfl rfl (fun hb => (Ob.uncond (t := 57) hb rfl (ob_rowLoad rfl tk39 (.tmp rfl) (.head _) (LG.arrA (ite_t hb e_x27)))))) (opsS_cons (.guarded _ (av 0 rfl rfl (an 3 rfl rfl rfl Av.nil)) rfl rfl rfl rfl (fun hb => ob_move rfl (.tmp rfl))) (opsS_cons (.guarded _ (av 1 rfl rfl (an 3 rfl rfl rfl Av.nil)) rfl rfl rfl rfl (fun hb => ob_move rfl (.tmp rfl))) (opsS_cons (.guarded _ (an 3 rfl rfl rfl (an 9 rfl rfl rfl (an 10 rfl rfl rfl Av.nil))) rfl rfl rfl rfl (fun hb => (Ob.uncond (t := 60) hb rfl ((Ob.uncond (t := 59) hb rfl (ob_rowAt rfl Try.underlying40 sz39 (.tmp rfl) (.head _) (.tmp rfl) (g26 hb))))))) (opsS_cons (.guarded _ (an 3 rfl rfl rfl (an 11 rfl rfl rfl Av.nil)) rfl rfl rfl rfl (fun hb => (Ob.uncond (t := 61) hb rfl (ob_rowLoad rfl tk39 (.tmp rfl) (.head _) (LG.arrA (ite_t hb e_x28)))))) opsS_nil))))))))))))) (out_old (t := 0) rfl rfl (out_old (t := 1) rfl rfl (out_old (t := 4) rfl rfl (out_old (t := 12) rfl rfl (out_old (t := 13) rfl rfl (out_new (i := 3) (by decide) rfl rfl (out_new (i := 4) (by decide) rfl rfl (out_new (i := 8) (by decide) rfl rfl (out_new (i := 12) (by decide) rfl rfl out_nil))))))))) fun _ _ s93 => ?_
  obtain ⟨x29, e_x29, h76⟩ := bind_some h75; clear h75
  refine qs s93 (.cg rfl rfl rfl rfl (fun hb => (Ob.uncond (t := 62) hb rfl ((Ob.uncond (t := 58) hb rfl ((Ob.uncond (t := 54) hb rfl (ob_callD0 (args := [_, _]) rfl (.fn (.tmp rfl)) hb115 (fun a w s => by exact c_queue_Wanted_1 k _ _ _ (ite_t hb e_x29) _ _ _ _ (s.arg (.tmp rfl)) (s.arg (.tmp rfl)))))))))) (.cg rfl rfl rfl rfl (fun hb => (Ob.uncond (t := 63) hb rfl (ob_lss rfl (.tmp rfl) (opd_int rfl)))) (.cg rfl rfl rfl rfl (fun hb => (Ob.uncond (t := 64) hb rfl (ob_not rfl (.tmp rfl)))) (.c1 rfl (ob_and2 rfl (.tmp rfl) (.tmp rfl) opd_bool) (.ce (u 0 rfl (u 1 rfl (u 4 rfl (u 12 rfl (u 13 rfl (u 66 rfl .nil))))))))))) fun _ _ s98 => wn hK31 ?_; clear s93
  refine cond_split s98 (.tmp rfl) (fun hc5 => ?_) (fun hc5 => ?_)
  ·have h77 := ite_t hc5 h76; clear h76
   refine wp_skip ?_
   refine then_normal (hK30 _ _ ?_)
   have s99 := s98.sub (u 0 rfl (u 1 rfl (u 4 rfl (u 12 rfl (u 13 rfl .nil))))); clear s98
   refine wp_block ?_
   refine wp_region_lit (qs s99 (.c1 rfl (mv rfl rfl) (.c1 rfl (ob_sub rfl (.tmp rfl) (opd_int rfl)) (.c1 rfl (ob_assign rfl (.tmp rfl)) .cz))) fun _ _ s102 => ?_); clear s99
   refine wpList_nil ?_
   refine in_normal ?_
   refine then_normal ?_
   exact hK29 (isub .i64 y12 (1 : Int)) _ _ h77 (s102.sub (.cons rfl (.cons rfl (.cons rfl (.cons rfl (.cons rfl .nil))))))
  ·have h78 := ite_f hc5 h76; clear h76
   refine wp_exit ?_
   refine (then_exit (then_exit (in_here ?_)))
   refine then_normal ?_
   exact hj2 y12 _ _ h78 (s98.sub (.cons rfl (.cons rfl (.cons rfl (.cons rfl (.cons rfl .nil))))))
 refine wp_block ?_
 refine wp_loop_fuel (fun m (q : Int) => slices_partitionCmpFunc_api_Key_queue_Wanted_1.l5 k p3 x4 p2 m q) r (fun _ => rfl) (fun q a w => St ⟨178, w0, ok, (idsOf [RowF wr0 39 (karr 32 (kint .u8)) p1])⟩ [RowF wr0 39 (karr 32 (kint .u8)) x4] [(0, (is wr0)), (1, ((kint .i64).V p2)), (4, (is (.func (.func 115) #[] #[]))), (12, ((kint .i64).V q)), (13, ((kint .i64).V (isub .i64 p3 (1 : Int))))] a w) ?_ k (iadd .i64 p2 (1 : Int)) _ _ h8 (s15.sub (.cons rfl (.cons rfl (.cons rfl (.cons rfl (.cons rfl .nil))))))
 rintro n5 y13 a103 w103 h79 s103 K32 hK32
 replace h79 : slices_partitionCmpFunc_api_Key_queue_Wanted_1.l5 k p3 x4 p2 (n5 + 1) y13 = some r := h79; rw [slices_partitionCmpFunc_api_Key_queue_Wanted_1.l5] at h79
 have h80 := h79; clear h79
 refine wp_seq_k fun K33 hK33 => wp_seq_k fun K34 hK34 => ?_
 obtain ⟨g27, h81⟩ := guard_some h80; clear h80
 obtain ⟨x30, e_x30, h82⟩ := bind_some h81; clear h81
 obtain ⟨g28, h83⟩ := guard_some h82; clear h82
 obtain ⟨x31, e_x31, h84⟩ := bind_some h83; clear h83
 refine wp_goes (Fs := [((kint .i64).V y13), ((kint .i64).V (isub .i64 p3 (1 : Int))), (kbool.V (decide (y13 ≤ (isub .i64 p3 (1 : Int))))), (kbool.V (decide (y13 ≤ (isub .i64 p3 (1 : Int))))), (Fact.when ((decide (y13 ≤ (isub .i64 p3 (1 : Int)))) == true) (is (.func (.func 115) #[] #[]))), (Fact.when ((decide (y13 ≤ (isub .i64 p3 (1 : Int)))) == true) (is wr0)), (Fact.when ((decide (y13 ≤ (isub .i64 p3 (1 : Int)))) == true) ((kint .i64).V y13)), (Fact.when ((decide (y13 ≤ (isub .i64 p3 (1 : Int)))) == true) (ptrR wr0 (y13.toNat * 32))), (Fact.when ((decide (y13 ≤ (isub .i64 p3 (1 : Int)))) == true) ((karr 32 (kint .u8)).V x30)), (Fact.when ((decide (y13 ≤ (isub .i64 p3 (1 : Int)))) == true) (is wr0)), (Fact.when ((decide (y13 ≤ (isub .i64 p3 (1 : Int)))) == true) ((kint .i64).V p2)), (Fact.when ((decide (y13 ≤ (isub .i64 p3 (1 : Int)))) == true) (ptrR wr0 (p2.toNat * 32))), (Fact.when ((decide (y13 ≤ (isub .i64 p3 (1 : Int)))) == true) ((karr 32 (kint .u8)).V x31))]) (bits := [0, 0, 3, 7, 15, 15, 15, 111, 239, 15, 15, 1551, 3599, 8191, 16383, 32767]) (m := 13) (todo := 0) mx s103 ?_; clear s103
 refine goes_last (by kernel_rfl) rfl (oc (av 12 rfl rfl Av.nil) rfl rfl (mv rfl rfl) (oc (av 13 rfl rfl Av.nil) rfl rfl (mv rfl rfl) (oc (an 0 rfl rfl rfl (an 1 rfl rfl rfl Av.nil)) rfl rfl (ob_leq rfl (.tmp rfl) (.tmp rfl)) (oc (an 2 rfl rfl rfl Av.nil) rfl rfl (mv rfl rfl) (opsS_cons (.guarded _ (av 4 rfl rfl (an 3 rfl rfl rfl Av.nil)) rfl rfl rfl rfl (fun hb => ob_move rfl (.tmp rfl))) (opsS_cons (.guarded _ (av 0 rfl rfl (an 3 rfl rfl rfl Av.nil)) rfl rfl rfl rfl (fun hb => ob_move rfl (.tmp rfl))) (opsS_cons (.guarded _ (av 12 rfl rfl (an 3 rfl rfl rfl Av.nil)) rfl rfl rfl rfl (fun hb => ob_move rfl (.tmp rfl))) (opsS_cons (.guarded _ (an 3 rfl rfl rfl (an 5 rfl rfl rfl (an 6 rfl rfl rfl Av.nil))) rfl rfl rfl rfl (fun hb => (Ob.uncond (t := 38) hb rfl ((Ob.uncond (t := 37) hb rfl (ob_rowAt rfl Try.underlying40 sz39 (.tmp rfl) (.head _) (.tmp rfl) (g27 hb))))))) (opsS_cons (.guarded _ (an 3 rfl rfl rfl (an 7 rfl rfl rfl Av.nil)) rfl rfl rfl rfl (fun hb => (Ob.uncond (t := 39) hb rfl (ob_rowLoad rfl tk39 (.tmp rfl) (.head _) (LG.arrA (ite_t hb e_x30)))))) (opsS_cons (.guarded _ (av 0 rfl rfl (an 3 rfl rfl rfl Av.nil)) rfl rfl rfl rfl (fun hb => ob_move rfl (.tmp rfl))) (opsS_cons (.guarded _ (av 1 rfl rfl (an 3 rfl rfl rfl Av.nil)) rfl rfl rfl rfl (fun hb => ob_move rfl (.tmp rfl))) (opsS_cons (.guarded _ (an 3 rfl rfl rfl (an 9 rfl rfl rfl (an 10 rfl rfl rfl Av.nil))) rfl rfl rfl rfl (fun hb => (Ob.uncond (t := 42) hb rfl ((Ob.uncond (t := 41) hb rfl (ob_rowAt rfl Try.underlying40 sz39 (.tmp rfl) (.head _) (.tmp rfl) (g28 hb))))))) (opsS_cons (.guarded _ (an 3 rfl rfl rfl (an 11 rfl rfl rfl Av.nil)) rfl rfl rfl rfl (fun hb => (Ob.uncond (t := 43) hb rfl (ob_rowLoad rfl tk39 (.tmp rfl) (.head _) (LG.arrA (ite_t hb e_x31)))))) opsS_nil))))))))))))) (out_old (t := 0) rfl rfl (out_old (t := 1) rfl rfl (out_old (t := 4) rfl rfl (out_old (t := 12) rfl rfl (out_old (t := 13) rfl rfl (out_new (i := 3) (by decide) rfl rfl (out_new (i := 4) (by decide) rfl rfl (out_new (i := 8) (by decide) rfl rfl (out_new (i := 12) (by decide) rfl rfl out_nil))))))))) fun _ _ s104 => ?_
 obtain ⟨x32, e_x32, h85⟩ := bind_some h84; clear h84
 obtain ⟨x33, e_x33, h86⟩ := bind_some h85; clear h85; replace e_x33 := Option.some.inj e_x33
 refine qs s104 (.cg rfl rfl rfl rfl (fun hb => (Ob.uncond (t := 44) hb rfl ((Ob.uncond (t := 40) hb rfl ((Ob.uncond (t := 36) hb rfl (ob_callD0 (args := [_, _]) rfl (.fn (.tmp rfl)) hb115 (fun a w s => by exact c_queue_Wanted_1 k _ _ _ (ite_t hb e_x32) _ _ _ _ (s.arg (.tmp rfl)) (s.arg (.tmp rfl)))))))))) (.cg rfl rfl rfl rfl (fun hb => (Ob.uncond (t := 45) hb rfl (ob_lss rfl (.tmp rfl) (opd_int rfl)))) (.c1 rfl ((ob_and2 rfl (.tmp rfl) (.tmp rfl) opd_bool).nm e_x33) (.ce (u 0 rfl (u 1 rfl (u 4 rfl (u 12 rfl (u 13 rfl (u 47 rfl .nil)))))))))) fun _ _ s108 => wn hK34 ?_; clear s104
 refine cond_split s108 (.tmp rfl) (fun hc6 => ?_) (fun hc6 => ?_)
 ·have h87 := ite_t hc6 h86; clear h86
  refine wp_skip ?_
  refine then_normal (hK33 _ _ ?_)
  have s109 := s108.sub (u 0 rfl (u 1 rfl (u 4 rfl (u 12 rfl (u 13 rfl .nil))))); clear s108
  refine wp_block ?_
  refine wp_region_lit (qs s109 (.c1 rfl (mv rfl rfl) (.c1 rfl (ob_add rfl (.tmp rfl) (opd_int rfl)) (.c1 rfl (ob_assign rfl (.tmp rfl)) .cz))) fun _ _ s112 => ?_); clear s109
  refine wpList_nil ?_
  refine in_normal ?_
  refine then_normal ?_
  exact hK32 (iadd .i64 y13 (1 : Int)) _ _ h87 (s112.sub (.cons rfl (.cons rfl (.cons rfl (.cons rfl (.cons rfl .nil))))))
 ·have h88 := ite_f hc6 h86; clear h86
  refine wp_exit ?_
  refine (then_exit (then_exit (in_here ?_)))
  refine then_normal ?_
  exact hj1 y13 _ _ h88 (s108.sub (.cons rfl (.cons rfl (.cons rfl (.cons rfl (.cons rfl .nil))))))
theorem c_slices_pdqsortCmpFunc_api_Key_queue_Wanted_1 (k : Nat) : ∀ (p1 : (List (List Int))) (p2 : Int) (p3 : Int) (p4 : Int) (r : (List (List Int))) (h0 : slices_pdqsortCmpFunc_api_Key_queue_Wanted_1 k p1 p2 p3 p4 = some r) (ok : Ok) (w0 : World) (z0 : Value) (z1 : Value) (z2 : Value) (z3 : Value) (z4 : Value) (wr0 : Value) (l0 : ∀ q, q ∈ [RowF wr0 39 (karr 32 (kint .u8)) p1] → q.holds ok w0) (d0 : ∀ c, c ∈ idsOf [RowF wr0 39 (karr 32 (kint .u8)) p1] → ¬ ok c) (nd : (idsOf [RowF wr0 39 (karr 32 (kint .u8)) p1]).Nodup) (u0 : (is wr0).holds ok w0 z0) (u1 : ((kint .i64).V p2).holds ok w0 z1) (u2 : ((kint .i64).V p3).holds ok w0 z2) (u3 : ((kint .i64).V p4).holds ok w0 z3) (u4 : (is (.func (.func 115) #[] #[])).holds ok w0 z4),
 GivesX Try.prog 145 [z0, z1, z2, z3, z4] ok w0 [RowF wr0 39 (karr 32 (kint .u8)) p1] (fun g : Unit => resFact []) (fun g : Unit => [RowF wr0 39 (karr 32 (kint .u8)) r]) := by
 induction k with
 | zero => intro p1 p2 p3 p4 r h0 ok w0 z0 z1 z2 z3 z4 wr0 l0 d0 nd u0 u1 u2 u3 u4; unfold slices_pdqsortCmpFunc_api_Key_queue_Wanted_1 at h0; cases h0
 | succ k ih =>
 intro p1 p2 p3 p4 r h0 ok w0 z0 z1 z2 z3 z4 wr0 l0 d0 nd u0 u1 u2 u3 u4
 unfold slices_pdqsortCmpFunc_api_Key_queue_Wanted_1 at h0
 refine enterX (N := 148) Try.func145 rfl rfl (of_decide_eq_true rfl) (.cons u0 (.cons u1 (.cons u2 (.cons u3 (.cons u4 .nil))))) nd l0 d0 fun a1 s1 => ?_
 refine wp_seq_k fun K1 hK1 => wp_region_lit (qs s1 (.c1 rfl (ob_assign rfl opd_bool) (.ce (u 0 rfl (u 1 rfl (u 2 rfl (u 3 rfl (u 4 rfl (u 10 rfl .nil)))))))) fun _ _ s3 => wn hK1 ?_); clear s1
 refine wp_seq_k fun K2 hK2 => wp_region_lit (qs s3 (.c1 rfl (ob_assign rfl opd_bool) (.ce (u 0 rfl (u 1 rfl (u 2 rfl (u 3 rfl (u 4 rfl (u 10 rfl (u 11 rfl .nil))))))))) fun _ _ s5 => wn hK2 ?_); clear s3
 refine wp_block ?_
 refine wp_loop_fuel (fun m (q : Int × Int × Int × Bool × Bool × (List (List Int))) => slices_pdqsortCmpFunc_api_Key_queue_Wanted_1.l1 k (slices_pdqsortCmpFunc_api_Key_queue_Wanted_1 k) m q.1 q.2.1 q.2.2.1 q.2.2.2.1 q.2.2.2.2.1 q.2.2.2.2.2) r (fun _ => rfl) (fun q a w => St ⟨148, w0, ok, (idsOf [RowF wr0 39 (karr 32 (kint .u8)) p1])⟩ [RowF wr0 39 (karr 32 (kint .u8)) q.2.2.2.2.2] [(0, (is wr0)), (1, ((kint .i64).V q.1)), (2, ((kint .i64).V q.2.1)), (3, ((kint .i64).V q.2.2.1)), (4, (is (.func (.func 115) #[] #[]))), (10, (kbool.V q.2.2.2.1)), (11, (kbool.V q.2.2.2.2.1))] a w) ?_ k (p2, p3, p4, true, true, p1) _ _ h0 (s5.sub (.cons rfl (.cons rfl (.cons rfl (.cons rfl (.cons rfl (.cons rfl (.cons rfl .nil))))))))
 rintro n1 ⟨y1, y2, y3, y4, y5, y6⟩ a6 w6 h1 s6 K3 hK3
 replace h1 : slices_pdqsortCmpFunc_api_Key_queue_Wanted_1.l1 k (slices_pdqsortCmpFunc_api_Key_queue_Wanted_1 k) (n1 + 1) y1 y2 y3 y4 y5 y6 = some r := h1; rw [slices_pdqsortCmpFunc_api_Key_queue_Wanted_1.l1] at h1
 have h2 := h1; clear h1
 refine wp_block ?_
 refine wp_seq_k fun K4 hK4 => wp_region_lit (qs s6 (.c1 rfl (mv rfl rfl) (.c1 rfl (mv rfl rfl) (.c1 rfl (ob_sub rfl (.tmp rfl) (.tmp rfl)) (.c1 rfl (ob_assign rfl (.tmp rfl)) (.ce (u 0 rfl (u 1 rfl (u 2 rfl (u 3 rfl (u 4 rfl (u 10 rfl (u 11 rfl (u 12 rfl .nil))))))))))))) fun _ _ s11 => wn hK4 ?_); clear s6
 refine wp_seq_k fun K5 hK5 => wp_seq_k fun K6 hK6 => ?_
 refine wp_region_lit (qs s11 (.c1 rfl (mv rfl rfl) (.c1 rfl (ob_leq rfl (.tmp rfl) (opd_int rfl)) (.ce (u 0 rfl (u 1 rfl (u 2 rfl (u 3 rfl (u 4 rfl (u 10 rfl (u 11 rfl (u 12 rfl (u 25 rfl .nil)))))))))))) fun _ _ s14 => wn hK6 ?_); clear s11
 refine cond_split s14 (.tmp rfl) (fun hc1 => ?_) (fun hc1 => ?_)
 ·have h3 := ite_t hc1 h2; clear h2
  obtain ⟨x1, e_x1, h4⟩ := bind_some h3; clear h3
  refine wp_seq_k fun K7 hK7 => wp_region_lit (qs s14 (.c1 rfl (mv rfl rfl) (.c1 rfl (mv rfl rfl) (.c1 rfl (mv rfl rfl) (.c1 rfl (mv rfl rfl) .cz)))) fun _ _ s18 => ?_); clear s14
  refine qx (B' := (fun _ : Unit => [RowF wr0 39 (karr 32 (kint .u8)) x1])) s18 rfl (ob_callL0 (args := [_, _, _, _]) (L := [_]) rfl .direct hb165 (List.Perm.refl _) (fun a w s => by exact c_slices_insertionSortCmpFunc_api_Key_queue_Wanted_1 k _ _ _ _ e_x1 _ _ _ _ _ _ _ (ownL s) (disL s) (nodL s) (s.arg (.tmp rfl)) (s.arg (.tmp rfl)) (s.arg (.tmp rfl)) (s.arg (.tmp rfl))) (by exact fun _ => rfl)) fun _ _ _ s19 => ?_; clear s18
  refine wn hK7 ?_
  have s20 := s19.sub .nil; clear s19
  refine wp_ret ?_
  obtain rfl := Option.some.inj h4
  exact leaveXD (D := []) () s20 rfl (.inl rfl) rfl .nil rfl
 ·have h5 := ite_f hc1 h2; clear h2
  refine wp_skip ?_
  refine then_normal (hK5 _ _ ?_)
  have s21 := s14.sub (u 0 rfl (u 1 rfl (u 2 rfl (u 3 rfl (u 4 rfl (u 10 rfl (u 11 rfl (u 12 rfl .nil)))))))); clear s14
  refine wp_seq_k fun K8 hK8 => wp_seq_k fun K9 hK9 => ?_
  refine wp_region_lit (qs s21 (.c1 rfl (mv rfl rfl) (.c1 rfl (ob_eql rfl (.tmp rfl) (opd_int rfl)) (.ce (u 0 rfl (u 1 rfl (u 2 rfl (u 3 rfl (u 4 rfl (u 10 rfl (u 11 rfl (u 12 rfl (u 32 rfl .nil)))))))))))) fun _ _ s24 => wn hK9 ?_); clear s21
  refine cond_split s24 (.tmp rfl) (fun hc2 => ?_) (fun hc2 => ?_)
  ·have h6 := ite_t hc2 h5; clear h5
   obtain ⟨x2, e_x2, h7⟩ := bind_some h6; clear h6
   refine wp_seq_k fun K10 hK10 => wp_region_lit (qs s24 (.c1 rfl (mv rfl rfl) (.c1 rfl (mv rfl rfl) (.c1 rfl (mv rfl rfl) (.c1 rfl (mv rfl rfl) .cz)))) fun _ _ s28 => ?_); clear s24
   refine qx (B' := (fun _ : Unit => [RowF wr0 39 (karr 32 (kint .u8)) x2])) s28 rfl (ob_callL0 (args := [_, _, _, _]) (L := [_]) rfl .direct hb166 (List.Perm.refl _) (fun a w s => by exact c_slices_heapSortCmpFunc_api_Key_queue_Wanted_1 k _ _ _ _ e_x2 _ _ _ _ _ _ _ (ownL s) (disL s) (nodL s) (s.arg (.tmp rfl)) (s.arg (.tmp rfl)) (s.arg (.tmp rfl)) (s.arg (.tmp rfl))) (by exact fun _ => rfl)) fun _ _ _ s29 => ?_; clear s28
   refine wn hK10 ?_
   have s30 := s29.sub .nil; clear s29
   refine wp_ret ?_
   obtain rfl := Option.some.inj h7
   exact leaveXD (D := []) () s30 rfl (.inl rfl) rfl .nil rfl
  ·have h8 := ite_f hc2 h5; clear h5
   refine wp_skip ?_
   refine then_normal (hK8 _ _ ?_)
   have s31 := s24.sub (u 0 rfl (u 1 rfl (u 2 rfl (u 3 rfl (u 4 rfl (u 10 rfl (u 11 rfl (u 12 rfl .nil)))))))); clear s24
   refine wp_seq_k fun K11 hK11 => wp_seq_k fun K12 hK12 => ?_
   refine wp_region_lit (qs s31 (.c1 rfl (mv rfl rfl) (.c1 rfl (ob_not rfl (.tmp rfl)) (.ce (u 0 rfl (u 1 rfl (u 2 rfl (u 3 rfl (u 4 rfl (u 10 rfl (u 11 rfl (u 12 rfl (u 39 rfl .nil)))))))))))) fun _ _ s34 => wn hK12 ?_); clear s31
   have hj1 : ∀ (y7 : Int) (y8 : (List (List Int))) (a : Act) (w : World), (slices_pdqsortCmpFunc_api_Key_queue_Wanted_1.j1 k y1 y2 y4 y5 (slices_pdqsortCmpFunc_api_Key_queue_Wanted_1.l1 k (slices_pdqsortCmpFunc_api_Key_queue_Wanted_1 k) n1) (slices_pdqsortCmpFunc_api_Key_queue_Wanted_1 k)) y7 y8 = some r → St ⟨148, w0, ok, (idsOf [RowF wr0 39 (karr 32 (kint .u8)) p1])⟩ [RowF wr0 39 (karr 32 (kint .u8)) y8] [(0, (is wr0)), (1, ((kint .i64).V y1)), (2, ((kint .i64).V y2)), (3, ((kint .i64).V y7)), (4, (is (.func (.func 115) #[] #[]))), (10, (kbool.V y4)), (11, (kbool.V y5)), (12, ((kint .i64).V (isub .i64 y2 y1)))] a w → K11 a w := by
    intro y7 y8 a35 w35 h9 s35
    unfold slices_pdqsortCmpFunc_api_Key_queue_Wanted_1.j1 at h9
    refine hK11 _ _ ?_
    obtain ⟨x3, e_x3, h10⟩ := bind_some h9; clear h9
    refine wp_seq_k fun K13 hK13 => wp_region_lit (qs s35 (.c1 rfl (mv rfl rfl) (.c1 rfl (mv rfl rfl) (.c1 rfl (mv rfl rfl) (.c1 rfl (mv rfl rfl) (.c1 rfl ((ob_lendG (L := [_]) (List.Perm.refl _) (.cons (t := 48) rfl (lendRow (.head _)) .nil) (Flat.res2 (Flat.V (KFlat.int _)) (Flat.V (KFlat.int _))) (fun _ => ob_callD0 (args := [_, _, _, _]) rfl .direct hb168 (fun a w s => by exact c_slices_choosePivotCmpFunc_api_Key_queue_Wanted_1 k _ _ _ _ e_x3 _ _ _ _ _ _ (s.arg (.tmp rfl)) (s.arg (.tmp rfl)) (s.arg (.tmp rfl)) (s.arg (.tmp rfl)))))) (.c1 rfl (mv rfl rfl) (.c1 rfl (ob_extract rfl (.tmp rfl) rfl) (.c1 rfl (ob_extract rfl (.tmp rfl) rfl) (.c1 rfl (ob_assign rfl (.tmp rfl)) (.c1 rfl (ob_assign rfl (.tmp rfl)) (.ce (u 0 rfl (u 1 rfl (u 2 rfl (u 3 rfl (u 4 rfl (u 10 rfl (u 11 rfl (u 12 rfl (u 13 rfl (u 14 rfl .nil))))))))))))))))))))) fun _ _ s46 => wn hK13 ?_); clear s35
    refine wp_seq_k fun K14 hK14 => wp_seq_k fun K15 hK15 => ?_
    refine wp_region_lit (qs s46 (.c1 rfl (mv rfl rfl) (.c1 rfl (ob_eql rfl (.tmp rfl) (opd_int rfl)) (.ce (u 0 rfl (u 1 rfl (u 2 rfl (u 3 rfl (u 4 rfl (u 10 rfl (u 11 rfl (u 12 rfl (u 13 rfl (u 14 rfl (u 56 rfl .nil)))))))))))))) fun _ _ s49 => wn hK15 ?_); clear s46
    have hj2 : ∀ (y9 : Int) (y10 : Int) (y11 : (List (List Int))) (a : Act) (w : World), (slices_pdqsortCmpFunc_api_Key_queue_Wanted_1.j2 k y4 y5 y1 y2 y7 (slices_pdqsortCmpFunc_api_Key_queue_Wanted_1.l1 k (slices_pdqsortCmpFunc_api_Key_queue_Wanted_1 k) n1) (slices_pdqsortCmpFunc_api_Key_queue_Wanted_1 k)) y9 y10 y11 = some r → St ⟨148, w0, ok, (idsOf [RowF wr0 39 (karr 32 (kint .u8)) p1])⟩ [RowF wr0 39 (karr 32 (kint .u8)) y11] [(0, (is wr0)), (1, ((kint .i64).V y1)), (2, ((kint .i64).V y2)), (3, ((kint .i64).V y7)), (4, (is (.func (.func 115) #[] #[]))), (10, (kbool.V y4)), (11, (kbool.V y5)), (12, ((kint .i64).V (isub .i64 y2 y1))), (13, ((kint .i64).V y9)), (14, ((kint .i64).V y10))] a w → K14 a w := by
     intro y9 y10 y11 a50 w50 h11 s50
     unfold slices_pdqsortCmpFunc_api_Key_queue_Wanted_1.j2 at h11
     refine hK14 _ _ ?_
     refine wp_seq_k fun K16 hK16 => wp_seq_k fun K17 hK17 => ?_
     refine wp_region_lit (qs s50 (.c1 rfl (mv rfl rfl) (.c1 rfl (mv rfl rfl) (.cg rfl rfl rfl rfl (fun hb => ob_move rfl (.tmp rfl)) (.c1 rfl (ob_and2 rfl (.tmp rfl) (.tmp rfl) opd_bool) (.c1 rfl (mv rfl rfl) (.cg rfl rfl rfl rfl (fun hb => ob_move rfl (.tmp rfl)) (.cg rfl rfl rfl rfl (fun hb => (Ob.uncond (t := 73) hb rfl (ob_eql rfl (.tmp rfl) (opd_int rfl)))) (.c1 rfl (ob_and2 rfl (.tmp rfl) (.tmp rfl) opd_bool) (.ce (u 0 rfl (u 1 rfl (u 2 rfl (u 3 rfl (u 4 rfl (u 10 rfl (u 11 rfl (u 12 rfl (u 13 rfl (u 75 rfl .nil))))))))))))))))))) fun _ _ s59 => wn hK17 ?_); clear s50
     have hj3 : ∀ (y12 : (List (List Int))) (a : Act) (w : World), (slices_pdqsortCmpFunc_api_Key_queue_Wanted_1.j3 k y1 y9 y2 y7 y4 y5 (slices_pdqsortCmpFunc_api_Key_queue_Wanted_1.l1 k (slices_pdqsortCmpFunc_api_Key_queue_Wanted_1 k) n1) (slices_pdqsortCmpFunc_api_Key_queue_Wanted_1 k)) y12 = some r → St ⟨148, w0, ok, (idsOf [RowF wr0 39 (karr 32 (kint .u8)) p1])⟩ [RowF wr0 39 (karr 32 (kint .u8)) y12] [(0, (is wr0)), (1, ((kint .i64).V y1)), (2, ((kint .i64).V y2)), (3, ((kint .i64).V y7)), (4, (is (.func (.func 115) #[] #[]))), (10, (kbool.V y4)), (11, (kbool.V y5)), (12, ((kint .i64).V (isub .i64 y2 y1))), (13, ((kint .i64).V y9))] a w → K16 a w := by
      intro y12 a60 w60 h12 s60
      unfold slices_pdqsortCmpFunc_api_Key_queue_Wanted_1.j3 at h12
      refine hK16 _ _ ?_
      refine wp_seq_k fun K18 hK18 => wp_seq_k fun K19 hK19 => ?_
      obtain ⟨g1, h13⟩ := guard_some h12; clear h12
      obtain ⟨x4, e_x4, h14⟩ := bind_some h13; clear h13
      obtain ⟨g2, h15⟩ := guard_some h14; clear h14
      obtain ⟨x5, e_x5, h16⟩ := bind_some h15; clear h15
      refine wp_goes (Fs := [((kint .i64).V y1), (kbool.V (decide (y1 > (0 : Int)))), (kbool.V (decide (y1 > (0 : Int)))), (Fact.when ((decide (y1 > (0 : Int))) == true) (is (.func (.func 115) #[] #[]))), (Fact.when ((decide (y1 > (0 : Int))) == true) (is wr0)), (Fact.when ((decide (y1 > (0 : Int))) == true) ((kint .i64).V y1)), (Fact.when ((decide (y1 > (0 : Int))) == true) ((kint .i64).V (isub .i64 y1 (1 : Int)))), (Fact.when ((decide (y1 > (0 : Int))) == true) (ptrR wr0 ((isub .i64 y1 (1 : Int)).toNat * 32))), (Fact.when ((decide (y1 > (0 : Int))) == true) ((karr 32 (kint .u8)).V x4)), (Fact.when ((decide (y1 > (0 : Int))) == true) (is wr0)), (Fact.when ((decide (y1 > (0 : Int))) == true) ((kint .i64).V y9)), (Fact.when ((decide (y1 > (0 : Int))) == true) (ptrR wr0 (y9.toNat * 32))), (Fact.when ((decide (y1 > (0 : Int))) == true) ((karr 32 (kint .u8)).V x5))]) (bits := [0, 1, 3, 7, 7, 7, 39, 119, 247, 7, 7, 1543, 3591, 8191, 16383, 32767, 65535]) (m := 13) (todo := 0) mx s60 ?_; clear s60
      refine goes_last (by kernel_rfl) rfl (oc (av 1 rfl rfl Av.nil) rfl rfl (mv rfl rfl) (oc (an 0 rfl rfl rfl Av.nil) rfl rfl (ob_gtr rfl (.tmp rfl) (opd_int rfl)) (oc (an 1 rfl rfl rfl Av.nil) rfl rfl (mv rfl rfl) (opsS_cons (.guarded _ (av 4 rfl rfl (an 2 rfl rfl rfl Av.nil)) rfl rfl rfl rfl (fun hb => ob_move rfl (.tmp rfl))) (opsS_cons (.guarded _ (av 0 rfl rfl (an 2 rfl rfl rfl Av.nil)) rfl rfl rfl rfl (fun hb => ob_move rfl (.tmp rfl))) (opsS_cons (.guarded _ (av 1 rfl rfl (an 2 rfl rfl rfl Av.nil)) rfl rfl rfl rfl (fun hb => ob_move rfl (.tmp rfl))) (opsS_cons (.guarded _ (an 2 rfl rfl rfl (an 5 rfl rfl rfl Av.nil)) rfl rfl rfl rfl (fun hb => (Ob.uncond (t := 86) hb rfl (ob_sub rfl (.tmp rfl) (opd_int rfl))))) (opsS_cons (.guarded _ (an 2 rfl rfl rfl (an 4 rfl rfl rfl (an 6 rfl rfl rfl Av.nil))) rfl rfl rfl rfl (fun hb => (Ob.uncond (t := 87) hb rfl ((Ob.uncond (t := 85) hb rfl (ob_rowAt rfl Try.underlying40 sz39 (.tmp rfl) (.head _) (.tmp rfl) (g1 hb))))))) (opsS_cons (.guarded _ (an 2 rfl rfl rfl (an 7 rfl rfl rfl Av.nil)) rfl rfl rfl rfl (fun hb => (Ob.uncond (t := 88) hb rfl (ob_rowLoad rfl tk39 (.tmp rfl) (.head _) (LG.arrA (ite_t hb e_x4)))))) (opsS_cons (.guarded _ (av 0 rfl rfl (an 2 rfl rfl rfl Av.nil)) rfl rfl rfl rfl (fun hb => ob_move rfl (.tmp rfl))) (opsS_cons (.guarded _ (av 13 rfl rfl (an 2 rfl rfl rfl Av.nil)) rfl rfl rfl rfl (fun hb => ob_move rfl (.tmp rfl))) (opsS_cons (.guarded _ (an 2 rfl rfl rfl (an 9 rfl rfl rfl (an 10 rfl rfl rfl Av.nil))) rfl rfl rfl rfl (fun hb => (Ob.uncond (t := 91) hb rfl ((Ob.uncond (t := 90) hb rfl (ob_rowAt rfl Try.underlying40 sz39 (.tmp rfl) (.head _) (.tmp rfl) (g2 hb))))))) (opsS_cons (.guarded _ (an 2 rfl rfl rfl (an 11 rfl rfl rfl Av.nil)) rfl rfl rfl rfl (fun hb => (Ob.uncond (t := 92) hb rfl (ob_rowLoad rfl tk39 (.tmp rfl) (.head _) (LG.arrA (ite_t hb e_x5)))))) opsS_nil))))))))))))) (out_old (t := 0) rfl rfl (out_old (t := 1) rfl rfl (out_old (t := 2) rfl rfl (out_old (t := 3) rfl rfl (out_old (t := 4) rfl rfl (out_old (t := 10) rfl rfl (out_old (t := 11) rfl rfl (out_old (t := 12) rfl rfl (out_old (t := 13) rfl rfl (out_new (i := 2) (by decide) rfl rfl (out_new (i := 3) (by decide) rfl rfl (out_new (i := 8) (by decide) rfl rfl (out_new (i := 12) (by decide) rfl rfl out_nil))))))))))))) fun _ _ s61 => ?_
      obtain ⟨x6, e_x6, h17⟩ := bind_some h16; clear h16
      obtain ⟨x7, e_x7, h18⟩ := bind_some h17; clear h17; replace e_x7 := Option.some.inj e_x7
      refine qs s61 (.cg rfl rfl rfl rfl (fun hb => (Ob.uncond (t := 93) hb rfl ((Ob.uncond (t := 89) hb rfl ((Ob.uncond (t := 84) hb rfl (ob_callD0 (args := [_, _]) rfl (.fn (.tmp rfl)) hb115 (fun a w s => by exact c_queue_Wanted_1 k _ _ _ (ite_t hb e_x6) _ _ _ _ (s.arg (.tmp rfl)) (s.arg (.tmp rfl)))))))))) (.cg rfl rfl rfl rfl (fun hb => (Ob.uncond (t := 94) hb rfl (ob_lss rfl (.tmp rfl) (opd_int rfl)))) (.cg rfl rfl rfl rfl (fun hb => (Ob.uncond (t := 95) hb rfl (ob_not rfl (.tmp rfl)))) (.c1 rfl ((ob_and2 rfl (.tmp rfl) (.tmp rfl) opd_bool).nm e_x7) (.ce (u 0 rfl (u 1 rfl (u 2 rfl (u 3 rfl (u 4 rfl (u 10 rfl (u 11 rfl (u 12 rfl (u 13 rfl (u 97 rfl .nil))))))))))))))) fun _ _ s66 => wn hK19 ?_; clear s61
      refine cond_split s66 (.tmp rfl) (fun hc3 => ?_) (fun hc3 => ?_)
      ·have h19 := ite_t hc3 h18; clear h18
       obtain ⟨x8, e_x8, h20⟩ := bind_some h19; clear h19
       refine wp_seq_k fun K20 hK20 => wp_region_lit (qs s66 (.c1 rfl (mv rfl rfl) (.c1 rfl (mv rfl rfl) (.c1 rfl (mv rfl rfl) (.c1 rfl (mv rfl rfl) (.c1 rfl (mv rfl rfl) .cz))))) fun _ _ s71 => ?_); clear s66
       refine qx (B' := (fun _ : Unit => [RowF wr0 39 (karr 32 (kint .u8)) x8.2])) s71 rfl (ob_callL0 (args := [_, _, _, _, _]) (L := [_]) rfl .direct hb171 (List.Perm.refl _) (fun a w s => by exact c_slices_partitionEqualCmpFunc_api_Key_queue_Wanted_1 k _ _ _ _ _ e_x8 _ _ _ _ _ _ _ _ (ownL s) (disL s) (nodL s) (s.arg (.tmp rfl)) (s.arg (.tmp rfl)) (s.arg (.tmp rfl)) (s.arg (.tmp rfl)) (s.arg (.tmp rfl))) (by exact fun _ => rfl)) fun _ _ _ s72 => ?_; clear s71
       refine qs s72 (.c1 rfl (ob_assign rfl (.tmp rfl)) (.ce (u 0 rfl (u 2 rfl (u 3 rfl (u 4 rfl (u 10 rfl (u 11 rfl (u 15 rfl .nil))))))))) fun _ _ s74 => wn hK20 ?_; clear s72
       refine wp_seq_k fun K21 hK21 => wp_region_lit (qs s74 (.c1 rfl (mv rfl rfl) (.c1 rfl (ob_assign rfl (.tmp rfl)) (.ce (u 0 rfl (u 1 rfl (u 2 rfl (u 3 rfl (u 4 rfl (u 10 rfl (u 11 rfl .nil)))))))))) fun _ _ s77 => wn hK21 ?_); clear s74
       refine wp_exit ?_
       refine (then_exit (in_here ?_))
       refine then_normal ?_
       exact hK3 (x8.1, y2, y7, y4, y5, x8.2) _ _ h20 (s77.sub (.cons rfl (.cons rfl (.cons rfl (.cons rfl (.cons rfl (.cons rfl (.cons rfl .nil))))))))
      ·have h21 := ite_f hc3 h18; clear h18
       refine wp_skip ?_
       refine then_normal (hK18 _ _ ?_)
       have s78 := s66.sub (u 0 rfl (u 1 rfl (u 2 rfl (u 3 rfl (u 4 rfl (u 12 rfl (u 13 rfl .nil))))))); clear s66
       obtain ⟨x9, e_x9, h22⟩ := bind_some h21; clear h21
       refine wp_seq_k fun K22 hK22 => wp_region_lit (qs s78 (.c1 rfl (mv rfl rfl) (.c1 rfl (mv rfl rfl) (.c1 rfl (mv rfl rfl) (.c1 rfl (mv rfl rfl) (.c1 rfl (mv rfl rfl) .cz))))) fun _ _ s83 => ?_); clear s78
       refine qx (B' := (fun _ : Unit => [RowF wr0 39 (karr 32 (kint .u8)) x9.2.2])) s83 rfl (ob_callL0 (args := [_, _, _, _, _]) (L := [_]) rfl .direct hb172 (List.Perm.refl _) (fun a w s => by exact c_slices_partitionCmpFunc_api_Key_queue_Wanted_1 k _ _ _ _ _ e_x9 _ _ _ _ _ _ _ _ (ownL s) (disL s) (nodL s) (s.arg (.tmp rfl)) (s.arg (.tmp rfl)) (s.arg (.tmp rfl)) (s.arg (.tmp rfl)) (s.arg (.tmp rfl))) (by exact fun _ => rfl)) fun _ _ _ s84 => ?_; clear s83
       refine qs s84 (.c1 rfl (mv rfl rfl) (.c1 rfl (ob_extract rfl (.tmp rfl) rfl) (.c1 rfl (ob_extract rfl (.tmp rfl) rfl) (.c1 rfl (ob_assign rfl (.tmp rfl)) (.c1 rfl (ob_assign rfl (.tmp rfl)) (.ce (u 0 rfl (u 1 rfl (u 2 rfl (u 3 rfl (u 4 rfl (u 12 rfl (u 16 rfl (u 17 rfl .nil)))))))))))))) fun _ _ s90 => wn hK22 ?_; clear s84
       refine wp_seq_k fun K23 hK23 => wp_region_lit (qs s90 (.c1 rfl (mv rfl rfl) (.c1 rfl (ob_assign rfl (.tmp rfl)) (.ce (u 0 rfl (u 1 rfl (u 2 rfl (u 3 rfl (u 4 rfl (u 11 rfl (u 12 rfl (u 16 rfl .nil))))))))))) fun _ _ s93 => wn hK23 ?_); clear s90
       refine wp_seq_k fun K24 hK24 => wp_region_lit (qs s93 (.c1 rfl (mv rfl rfl) (.c1 rfl (mv rfl rfl) (.c1 rfl (ob_sub rfl (.tmp rfl) (.tmp rfl)) (.c1 rfl (mv rfl rfl) (.c1 rfl (mv rfl rfl) (.c1 rfl (ob_sub rfl (.tmp rfl) (.tmp rfl)) (.c1 rfl (ob_assign rfl (.tmp rfl)) (.c1 rfl (ob_assign rfl (.tmp rfl)) (.ce (u 0 rfl (u 1 rfl (u 2 rfl (u 3 rfl (u 4 rfl (u 11 rfl (u 12 rfl (u 16 rfl (u 18 rfl (u 19 rfl .nil))))))))))))))))))) fun _ _ s102 => wn hK24 ?_); clear s93
       refine wp_seq_k fun K25 hK25 => wp_region_lit (qs s102 (.c1 rfl (mv rfl rfl) (.c1 rfl (ob_quo rfl (.tmp rfl) (opd_int rfl) (by decide)) (.c1 rfl (ob_assign rfl (.tmp rfl)) (.ce (u 0 rfl (u 1 rfl (u 2 rfl (u 3 rfl (u 4 rfl (u 11 rfl (u 16 rfl (u 18 rfl (u 19 rfl (u 20 rfl .nil)))))))))))))) fun _ _ s106 => wn hK25 ?_); clear s102
       refine wp_seq_k fun K26 hK26 => wp_region_lit (qs s106 (.c1 rfl (mv rfl rfl) (.c1 rfl (mv rfl rfl) (.c1 rfl (ob_lss rfl (.tmp rfl) (.tmp rfl)) (.ce (u 0 rfl (u 1 rfl (u 2 rfl (u 3 rfl (u 4 rfl (u 11 rfl (u 16 rfl (u 18 rfl (u 19 rfl (u 20 rfl (u 125 rfl .nil))))))))))))))) fun _ _ s110 => wn hK26 ?_); clear s106
       refine cond_split s110 (.tmp rfl) (fun hc4 => ?_) (fun hc4 => ?_)
       ·have h23 := ite_t hc4 h22; clear h22
        obtain ⟨x10, e_x10, h24⟩ := bind_some h23; clear h23; replace e_x10 := Option.some.inj e_x10
        refine wp_seq_k fun K27 hK27 => wp_region_lit (qs s110 (.c1 rfl (mv rfl rfl) (.c1 rfl (mv rfl rfl) (.c1 rfl ((ob_geq rfl (.tmp rfl) (.tmp rfl)).nm e_x10) (.c1 rfl (ob_assign rfl (.tmp rfl)) (.ce (u 0 rfl (u 1 rfl (u 2 rfl (u 3 rfl (u 4 rfl (u 10 rfl (u 11 rfl (u 16 rfl .nil))))))))))))) fun _ _ s115 => wn hK27 ?_); clear s110
        obtain ⟨x11, e_x11, h25⟩ := bind_some h24; clear h24
        refine wp_seq_k fun K28 hK28 => wp_region_lit (qs s115 (.c1 rfl (mv rfl rfl) (.c1 rfl (mv rfl rfl) (.c1 rfl (mv rfl rfl) (.c1 rfl (mv rfl rfl) (.c1 rfl (mv rfl rfl) .cz))))) fun _ _ s120 => ?_); clear s115
        refine qx (B' := (fun _ : Unit => [RowF wr0 39 (karr 32 (kint .u8)) x11])) s120 rfl (ob_callL0 (args := [_, _, _, _, _]) (L := [_]) rfl .direct hb145 (List.Perm.refl _) (fun a w s => by exact ih _ _ _ _ _ e_x11 _ _ _ _ _ _ _ _ (ownL s) (disL s) (nodL s) (s.arg (.tmp rfl)) (s.arg (.tmp rfl)) (s.arg (.tmp rfl)) (s.arg (.tmp rfl)) (s.arg (.tmp rfl))) (by exact fun _ => rfl)) fun _ _ _ s121 => ?_; clear s120
        refine wn hK28 ?_
        have s122 := s121.sub (u 0 rfl (u 2 rfl (u 3 rfl (u 4 rfl (u 10 rfl (u 11 rfl (u 16 rfl .nil))))))); clear s121
        refine wp_region_lit (qs s122 (.c1 rfl (mv rfl rfl) (.c1 rfl (ob_add rfl (.tmp rfl) (opd_int rfl)) (.c1 rfl (ob_assign rfl (.tmp rfl)) .cz))) fun _ _ s125 => ?_); clear s122
        refine wpList_nil ?_
        refine in_normal ?_
        refine then_normal ?_
        exact hK3 ((iadd .i64 x9.1 (1 : Int)), y2, y7, x10, x9.2.1, x11) _ _ h25 (s125.sub (.cons rfl (.cons rfl (.cons rfl (.cons rfl (.cons rfl (.cons rfl (.cons rfl .nil))))))))
       ·have h26 := ite_f hc4 h22; clear h22
        obtain ⟨x12, e_x12, h27⟩ := bind_some h26; clear h26; replace e_x12 := Option.some.inj e_x12
        refine wp_seq_k fun K29 hK29 => wp_region_lit (qs s110 (.c1 rfl (mv rfl rfl) (.c1 rfl (mv rfl rfl) (.c1 rfl ((ob_geq rfl (.tmp rfl) (.tmp rfl)).nm e_x12) (.c1 rfl (ob_assign rfl (.tmp rfl)) (.ce (u 0 rfl (u 1 rfl (u 2 rfl (u 3 rfl (u 4 rfl (u 10 rfl (u 11 rfl (u 16 rfl .nil))))))))))))) fun _ _ s130 => wn hK29 ?_); clear s110
        obtain ⟨x13, e_x13, h28⟩ := bind_some h27; clear h27
        refine wp_seq_k fun K30 hK30 => wp_region_lit (qs s130 (.c1 rfl (mv rfl rfl) (.c1 rfl (mv rfl rfl) (.c1 rfl (ob_add rfl (.tmp rfl) (opd_int rfl)) (.c1 rfl (mv rfl rfl) (.c1 rfl (mv rfl rfl) (.c1 rfl (mv rfl rfl) .cz)))))) fun _ _ s136 => ?_); clear s130
        refine qx (B' := (fun _ : Unit => [RowF wr0 39 (karr 32 (kint .u8)) x13])) s136 rfl (ob_callL0 (args := [_, _, _, _, _]) (L := [_]) rfl .direct hb145 (List.Perm.refl _) (fun a w s => by exact ih _ _ _ _ _ e_x13 _ _ _ _ _ _ _ _ (ownL s) (disL s) (nodL s) (s.arg (.tmp rfl)) (s.arg (.tmp rfl)) (s.arg (.tmp rfl)) (s.arg (.tmp rfl)) (s.arg (.tmp rfl))) (by exact fun _ => rfl)) fun _ _ _ s137 => ?_; clear s136
        refine wn hK30 ?_
        have s138 := s137.sub (u 0 rfl (u 1 rfl (u 3 rfl (u 4 rfl (u 10 rfl (u 11 rfl (u 16 rfl .nil))))))); clear s137
        refine wp_region_lit (qs s138 (.c1 rfl (mv rfl rfl) (.c1 rfl (ob_assign rfl (.tmp rfl)) .cz)) fun _ _ s140 => ?_); clear s138
        refine wpList_nil ?_
        refine in_normal ?_
        refine then_normal ?_
        exact hK3 (y1, x9.1, y7, x12, x9.2.1, x13) _ _ h28 (s140.sub (.cons rfl (.cons rfl (.cons rfl (.cons rfl (.cons rfl (.cons rfl (.cons rfl .nil))))))))
     refine cond_split s59 (.tmp rfl) (fun hc5 => ?_) (fun hc5 => ?_)
     ·have h29 := ite_t hc5 h11; clear h11
      obtain ⟨x14, e_x14, h30⟩ := bind_some h29; clear h29
      refine wp_seq_k fun K31 hK31 => wp_region_lit (qs s59 (.c1 rfl (mv rfl rfl) (.c1 rfl (mv rfl rfl) (.c1 rfl (mv rfl rfl) (.c1 rfl (mv rfl rfl) .cz)))) fun _ _ s144 => ?_); clear s59
      refine qx (B' := (fun _ : Unit => [RowF wr0 39 (karr 32 (kint .u8)) x14.2])) s144 rfl (ob_callL0 (args := [_, _, _, _]) (L := [_]) rfl .direct hb170 (List.Perm.refl _) (fun a w s => by exact c_slices_partialInsertionSortCmpFunc_api_Key_queue_Wanted_1 k _ _ _ _ e_x14 _ _ _ _ _ _ _ (ownL s) (disL s) (nodL s) (s.arg (.tmp rfl)) (s.arg (.tmp rfl)) (s.arg (.tmp rfl)) (s.arg (.tmp rfl))) (by exact fun _ => rfl)) fun _ _ _ s145 => ?_; clear s144
      refine wn hK31 ?_
      have s146 := s145.sub (u 0 rfl (u 1 rfl (u 2 rfl (u 3 rfl (u 4 rfl (u 10 rfl (u 11 rfl (u 12 rfl (u 13 rfl (u 80 rfl .nil)))))))))); clear s145
      refine cond_split s146 (.tmp rfl) (fun hc6 => ?_) (fun hc6 => ?_)
      ·have h31 := ite_t hc6 h30; clear h30
       refine wp_ret ?_
       obtain rfl := Option.some.inj h31
       exact leaveXD (D := []) () s146 rfl (.inl rfl) rfl .nil rfl
      ·have h32 := ite_f hc6 h30; clear h30
       refine wp_skip ?_
       refine then_normal ?_
       exact hj3 x14.2 _ _ h32 (s146.sub (.cons rfl (.cons rfl (.cons rfl (.cons rfl (.cons rfl (.cons rfl (.cons rfl (.cons rfl (.cons rfl .nil))))))))))
     ·have h33 := ite_f hc5 h11; clear h11
      refine wp_skip ?_
      refine then_normal ?_
      exact hj3 y11 _ _ h33 (s59.sub (.cons rfl (.cons rfl (.cons rfl (.cons rfl (.cons rfl (.cons rfl (.cons rfl (.cons rfl (.cons rfl .nil))))))))))
    refine cond_split s49 (.tmp rfl) (fun hc7 => ?_) (fun hc7 => ?_)
    ·have h34 := ite_t hc7 h10; clear h10
     obtain ⟨x15, e_x15, h35⟩ := bind_some h34; clear h34
     refine wp_seq_k fun K32 hK32 => wp_region_lit (qs s49 (.c1 rfl (mv rfl rfl) (.c1 rfl (mv rfl rfl) (.c1 rfl (mv rfl rfl) (.c1 rfl (mv rfl rfl) .cz)))) fun _ _ s150 => ?_); clear s49
     refine qx (B' := (fun _ : Unit => [RowF wr0 39 (karr 32 (kint .u8)) x15])) s150 rfl (ob_callL0 (args := [_, _, _, _]) (L := [_]) rfl .direct hb169 (List.Perm.refl _) (fun a w s => by exact c_slices_reverseRangeCmpFunc_api_Key_queue_Wanted_1 k _ _ _ _ e_x15 _ _ _ _ _ _ _ (ownL s) (disL s) (nodL s) (s.arg (.tmp rfl)) (s.arg (.tmp rfl)) (s.arg (.tmp rfl)) (s.arg (.tmp rfl))) (by exact fun _ => rfl)) fun _ _ _ s151 => ?_; clear s150
     refine wn hK32 ?_
     have s152 := s151.sub (u 0 rfl (u 1 rfl (u 2 rfl (u 3 rfl (u 4 rfl (u 10 rfl (u 11 rfl (u 12 rfl (u 13 rfl .nil))))))))); clear s151
     refine wp_seq_k fun K33 hK33 => wp_region_lit (qs s152 (.c1 rfl (mv rfl rfl) (.c1 rfl (ob_sub rfl (.tmp rfl) (opd_int rfl)) (.c1 rfl (mv rfl rfl) (.c1 rfl (mv rfl rfl) (.c1 rfl (ob_sub rfl (.tmp rfl) (.tmp rfl)) (.c1 rfl (ob_sub rfl (.tmp rfl) (.tmp rfl)) (.c1 rfl (ob_assign rfl (.tmp rfl)) (.ce (u 0 rfl (u 1 rfl (u 2 rfl (u 3 rfl (u 4 rfl (u 10 rfl (u 11 rfl (u 12 rfl (u 13 rfl .nil))))))))))))))))) fun _ _ s160 => wn hK33 ?_); clear s152
     refine wp_region_lit (qs s160 (.c1 rfl (ob_assign rfl (opd_int rfl)) .cz) fun _ _ s161 => ?_); clear s160
     refine wpList_nil ?_
     refine then_normal ?_
     exact hj2 (isub .i64 (isub .i64 y2 (1 : Int)) (isub .i64 x3.1 y1)) (1 : Int) x15 _ _ h35 (s161.sub (.cons rfl (.cons rfl (.cons rfl (.cons rfl (.cons rfl (.cons rfl (.cons rfl (.cons rfl (.cons rfl (.cons rfl .nil)))))))))))
    ·have h36 := ite_f hc7 h10; clear h10
     refine wp_skip ?_
     refine then_normal ?_
     exact hj2 x3.1 x3.2 y8 _ _ h36 (s49.sub (.cons rfl (.cons rfl (.cons rfl (.cons rfl (.cons rfl (.cons rfl (.cons rfl (.cons rfl (.cons rfl (.cons rfl .nil)))))))))))
   refine cond_split s34 (.tmp rfl) (fun hc8 => ?_) (fun hc8 => ?_)
   ·have h37 := ite_t hc8 h8; clear h8
    obtain ⟨x16, e_x16, h38⟩ := bind_some h37; clear h37
    refine wp_seq_k fun K34 hK34 => wp_region_lit (qs s34 (.c1 rfl (mv rfl rfl) (.c1 rfl (mv rfl rfl) (.c1 rfl (mv rfl rfl) (.c1 rfl (mv rfl rfl) .cz)))) fun _ _ s165 => ?_); clear s34
    refine qx (B' := (fun _ : Unit => [RowF wr0 39 (karr 32 (kint .u8)) x16])) s165 rfl (ob_callL0 (args := [_, _, _, _]) (L := [_]) rfl .direct hb167 (List.Perm.refl _) (fun a w s => by exact c_slices_breakPatternsCmpFunc_api_Key_queue_Wanted_1 k _ _ _ _ e_x16 _ _ _ _ _ _ _ (ownL s) (disL s) (nodL s) (s.arg (.tmp rfl)) (s.arg (.tmp rfl)) (s.arg (.tmp rfl)) (s.arg (.tmp rfl))) (by exact fun _ => rfl)) fun _ _ _ s166 => ?_; clear s165
    refine wn hK34 ?_
    have s167 := s166.sub (u 0 rfl (u 1 rfl (u 2 rfl (u 3 rfl (u 4 rfl (u 10 rfl (u 11 rfl (u 12 rfl .nil)))))))); clear s166
    refine wp_region_lit (qs s167 (.c1 rfl (mv rfl rfl) (.c1 rfl (ob_sub rfl (.tmp rfl) (opd_int rfl)) (.c1 rfl (ob_assign rfl (.tmp rfl)) .cz))) fun _ _ s170 => ?_); clear s167
    refine wpList_nil ?_
    refine then_normal ?_
    exact hj1 (isub .i64 y3 (1 : Int)) x16 _ _ h38 (s170.sub (.cons rfl (.cons rfl (.cons rfl (.cons rfl (.cons rfl (.cons rfl (.cons rfl (.cons rfl .nil)))))))))
   ·have h39 := ite_f hc8 h8; clear h8
    refine wp_skip ?_
    refine then_normal ?_
    exact hj1 y3 y6 _ _ h39 (s34.sub (.cons rfl (.cons rfl (.cons rfl (.cons rfl (.cons rfl (.cons rfl (.cons rfl (.cons rfl .nil)))))))))
theorem c_slices_SortFunc_api_Key_api_Key_queue_Wanted_1 (k : Nat) (p1 : (List (List Int))) (r : (List (List Int))) (h0 : slices_SortFunc_api_Key_api_Key_queue_Wanted_1 k p1 = some r) (ok : Ok) (w0 : World) (z0 : Value) (z1 : Value) (wr0 : Value) (l0 : ∀ q, q ∈ [RowF wr0 39 (karr 32 (kint .u8)) p1] → q.holds ok w0) (d0 : ∀ c, c ∈ idsOf [RowF wr0 39 (karr 32 (kint .u8)) p1] → ¬ ok c) (nd : (idsOf [RowF wr0 39 (karr 32 (kint .u8)) p1]).Nodup) (u0 : (is wr0).holds ok w0 z0) (u1 : (is (.func (.func 115) #[] #[])).holds ok w0 z1) :
 GivesX Try.prog 100 [z0, z1] ok w0 [RowF wr0 39 (karr 32 (kint .u8)) p1] (fun g : Unit => resFact []) (fun g : Unit => [RowF wr0 39 (karr 32 (kint .u8)) r]) := by
 unfold slices_SortFunc_api_Key_api_Key_queue_Wanted_1 at h0
 refine enterX (N := 14) Try.func100 rfl rfl (of_decide_eq_true rfl) (.cons u0 (.cons u1 .nil)) nd l0 d0 fun a1 s1 => ?_
 refine wp_seq_k fun K1 hK1 => wp_region_lit (qs s1 (.c1 rfl (mv rfl rfl) (.c1 rfl (ob_lenRow rfl Try.underlying40 (.tmp rfl) (.head _)) (.c1 rfl (ob_assign rfl (.tmp rfl)) (.ce (u 0 rfl (u 1 rfl (u 4 rfl .nil))))))) fun _ _ s5 => wn hK1 ?_); clear s1
 obtain ⟨x1, e_x1, h1⟩ := bind_some h0; clear h0
 obtain ⟨x2, e_x2, h2⟩ := bind_some h1; clear h1
 refine wp_region_lit (qs s5 (.c1 rfl (mv rfl rfl) (.c1 rfl (mv rfl rfl) (.c1 rfl (mv rfl rfl) (.c1 rfl (ob_conv rfl _ Try.underlying3 Try.underlying37 (.tmp rfl)) (.c1 rfl (ob_callD0 (args := [_]) rfl .direct hb146 (fun a w s => by exact c_math_bits_Len k _ _ e_x1 _ _ _ (s.arg (.tmp rfl)))) (.c1 rfl (mv rfl rfl) .cz)))))) fun _ _ s11 => ?_); clear s5
 refine qx (B' := (fun _ : Unit => [RowF wr0 39 (karr 32 (kint .u8)) x2])) s11 rfl (ob_callL0 (args := [_, _, _, _, _]) (L := [_]) rfl .direct hb145 (List.Perm.refl _) (fun a w s => by exact c_slices_pdqsortCmpFunc_api_Key_queue_Wanted_1 k _ _ _ _ _ e_x2 _ _ _ _ _ _ _ _ (ownL s) (disL s) (nodL s) (s.arg (.tmp rfl)) (s.arg (opd_int rfl)) (s.arg (.tmp rfl)) (s.arg (.tmp rfl)) (s.arg (.tmp rfl))) (by exact fun _ => rfl)) fun _ _ _ s12 => ?_; clear s11
 refine wpList_nil ?_
 obtain rfl := Option.some.inj h2
 exact leaveXD (D := []) () s12 rfl (.inr rfl) rfl .nil rfl
theorem c_slices_Compact_api_Key_api_Key (k : Nat) (p1 : (List (List Int))) (r : (List (List Int))) (h0 : slices_Compact_api_Key_api_Key k p1 = some r) (ok : Ok) (w0 : World) (z0 : Value) (wr0 : Value) (l0 : ∀ q, q ∈ [RowF wr0 39 (karr 32 (kint .u8)) p1] → q.holds ok w0) (d0 : ∀ c, c ∈ idsOf [RowF wr0 39 (karr 32 (kint .u8)) p1] → ¬ ok c) (nd : (idsOf [RowF wr0 39 (karr 32 (kint .u8)) p1]).Nodup) (u0 : (is wr0).holds ok w0 z0) :
 GivesX Try.prog 150 [z0] ok w0 [RowF wr0 39 (karr 32 (kint .u8)) p1] (fun g : Value => resFact [is g]) (fun g : Value => [RowF (g) 39 (karr 32 (kint .u8)) r]) := by
 unfold slices_Compact_api_Key_api_Key at h0
 refine enterX (N := 61) Try.func150 rfl rfl (of_decide_eq_true rfl) (.cons u0 .nil) nd l0 d0 fun a1 s1 => ?_
 refine wp_seq_k fun K1 hK1 => wp_region_lit (qs s1 (.c1 rfl (ob_assign rfl opd_is) .cz) fun _ _ s2 => ?_); clear s1
 have s3 := St.adopt s2 (G := RowF (nilRow 20) 39 (karr 32 (kint .u8)) []) rfl (rowNilN _ _ _ _ _); clear s2
 refine wn hK1 ?_
 have s4 := s3.sub (u 0 rfl .nil); clear s3
 have s5 := St.drop (A := []) s4; clear s4
 refine wp_seq_k fun K2 hK2 => wp_seq_k fun K3 hK3 => ?_
 refine wp_region_lit (qs s5 (.c1 rfl (mv rfl rfl) (.c1 rfl (ob_lenRow rfl Try.underlying40 (.tmp rfl) (.head _)) (.c1 rfl (ob_lss rfl (.tmp rfl) (opd_int rfl)) (.ce (u 0 rfl (u 8 rfl .nil)))))) fun _ _ s9 => wn hK3 ?_); clear s5
 refine cond_split s9 (.tmp rfl) (fun hc1 => ?_) (fun hc1 => ?_)
 ·have h1 := ite_t hc1 h0; clear h0
  refine wp_seq_k fun K4 hK4 => wp_region_lit (qs s9 (.c1 rfl (mv rfl rfl) (.c1 rfl (ob_assign rfl (.tmp rfl)) (.ce (u 2 rfl .nil)))) fun _ _ s12 => wn hK4 ?_); clear s9
  refine wp_ret ?_
  obtain rfl := Option.some.inj h1
  exact leaveXD (D := []) wr0 s12 rfl (.inl rfl) rfl (.cons (.tmp rfl) .nil) rfl
 ·have h2 := ite_f hc1 h0; clear h0
  refine wp_skip ?_
  refine then_normal (hK2 _ _ ?_)
  have s13 := s9.sub (u 0 rfl .nil); clear s9
  refine wp_seq_k fun K5 hK5 => wp_seq_k fun K6 hK6 => ?_
  refine wp_region_lit (qs s13 (.c1 rfl (ob_assign rfl (opd_int rfl)) (.ce (u 0 rfl (u 3 rfl .nil)))) fun _ _ s15 => wn hK6 ?_); clear s13
  have hj1 : ∀ (a : Act) (w : World), (slices_Compact_api_Key_api_Key.j1 k p1) = some r → St ⟨61, w0, ok, (idsOf [RowF wr0 39 (karr 32 (kint .u8)) p1])⟩ [RowF wr0 39 (karr 32 (kint .u8)) p1] [(0, (is wr0))] a w → K5 a w := by
   intro a16 w16 h3 s16
   unfold slices_Compact_api_Key_api_Key.j1 at h3
   refine hK5 _ _ ?_
   refine wp_seq_k fun K7 hK7 => wp_region_lit (qs s16 (.c1 rfl (mv rfl rfl) (.c1 rfl (ob_assign rfl (.tmp rfl)) (.ce (u 2 rfl .nil)))) fun _ _ s19 => wn hK7 ?_); clear s16
   refine wp_ret ?_
   obtain rfl := Option.some.inj h3
   exact leaveXD (D := []) wr0 s19 rfl (.inl rfl) rfl (.cons (.tmp rfl) .nil) rfl
  refine wp_block ?_
  refine wp_loop_fuel (fun m (q : Int) => slices_Compact_api_Key_api_Key.l1 k p1 m q) r (fun _ => rfl) (fun q a w => St ⟨61, w0, ok, (idsOf [RowF wr0 39 (karr 32 (kint .u8)) p1])⟩ [RowF wr0 39 (karr 32 (kint .u8)) p1] [(0, (is wr0)), (3, ((kint .i64).V q))] a w) ?_ k (1 : Int) _ _ h2 (s15.sub (.cons rfl (.cons rfl .nil)))
  rintro n1 y1 a20 w20 h4 s20 K8 hK8
  replace h4 : slices_Compact_api_Key_api_Key.l1 k p1 (n1 + 1) y1 = some r := h4; rw [slices_Compact_api_Key_api_Key.l1] at h4
  have h5 := h4; clear h4
  refine wp_seq_k fun K9 hK9 => wp_seq_k fun K10 hK10 => ?_
  refine wp_region_lit (qs s20 (.c1 rfl (mv rfl rfl) (.c1 rfl (mv rfl rfl) (.c1 rfl (ob_lenRow rfl Try.underlying40 (.tmp rfl) (.head _)) (.c1 rfl (ob_lss rfl (.tmp rfl) (.tmp rfl)) (.ce (u 0 rfl (u 3 rfl (u 13 rfl .nil)))))))) fun _ _ s25 => wn hK10 ?_); clear s20
  refine cond_split s25 (.tmp rfl) (fun hc2 => ?_) (fun hc2 => ?_)
  ·have h6 := ite_t hc2 h5; clear h5
   refine wp_skip ?_
   refine then_normal (hK9 _ _ ?_)
   have s26 := s25.sub (u 0 rfl (u 3 rfl .nil)); clear s25
   refine wp_seq_k fun K11 hK11 => ?_
   have hj2 : ∀ (a : Act) (w : World), (slices_Compact_api_Key_api_Key.j2 k y1 (slices_Compact_api_Key_api_Key.l1 k p1 n1)) = some r → St ⟨61, w0, ok, (idsOf [RowF wr0 39 (karr 32 (kint .u8)) p1])⟩ [RowF wr0 39 (karr 32 (kint .u8)) p1] [(0, (is wr0)), (3, ((kint .i64).V y1))] a w → K11 a w := by
    intro a27 w27 h7 s27
    unfold slices_Compact_api_Key_api_Key.j2 at h7
    refine hK11 _ _ ?_
    refine wp_region_lit (qs s27 (.c1 rfl (mv rfl rfl) (.c1 rfl (ob_add rfl (.tmp rfl) (opd_int rfl)) (.c1 rfl (ob_assign rfl (.tmp rfl)) .cz))) fun _ _ s30 => ?_); clear s27
    refine wpList_nil ?_
    refine then_normal ?_
    exact hK8 (iadd .i64 y1 (1 : Int)) _ _ h7 (s30.sub (.cons rfl (.cons rfl .nil)))
   refine wp_block ?_
   refine wp_seq_k fun K12 hK12 => ?_
   obtain ⟨g1, h8⟩ := guard_some h6; clear h6
   obtain ⟨x1, e_x1, h9⟩ := bind_some h8; clear h8
   obtain ⟨g2, h10⟩ := guard_some h9; clear h9
   obtain ⟨x2, e_x2, h11⟩ := bind_some h10; clear h10
   refine wp_goes (Fs := [(is wr0), ((kint .i64).V y1), (ptrR wr0 (y1.toNat * 32)), ((karr 32 (kint .u8)).V x1), (is wr0), ((kint .i64).V y1), ((kint .i64).V (isub .i64 y1 (1 : Int))), (ptrR wr0 ((isub .i64 y1 (1 : Int)).toNat * 32)), ((karr 32 (kint .u8)).V x2)]) (bits := [0, 0, 3, 7, 0, 0, 32, 112, 240, 511]) (m := 9) (todo := 0) mx s26 ?_; clear s26
   refine goes_last (by kernel_rfl) rfl (oc (av 0 rfl rfl Av.nil) rfl rfl (mv rfl rfl) (oc (av 3 rfl rfl Av.nil) rfl rfl (mv rfl rfl) (oc (an 0 rfl rfl rfl (an 1 rfl rfl rfl Av.nil)) rfl rfl (ob_rowAt rfl Try.underlying40 sz39 (.tmp rfl) (.head _) (.tmp rfl) g1) (oc (an 2 rfl rfl rfl Av.nil) rfl rfl (ob_rowLoad rfl tk39 (.tmp rfl) (.head _) (LG.arrA e_x1)) (oc (av 0 rfl rfl Av.nil) rfl rfl (mv rfl rfl) (oc (av 3 rfl rfl Av.nil) rfl rfl (mv rfl rfl) (oc (an 5 rfl rfl rfl Av.nil) rfl rfl (ob_sub rfl (.tmp rfl) (opd_int rfl)) (oc (an 4 rfl rfl rfl (an 6 rfl rfl rfl Av.nil)) rfl rfl (ob_rowAt rfl Try.underlying40 sz39 (.tmp rfl) (.head _) (.tmp rfl) g2) (oc (an 7 rfl rfl rfl Av.nil) rfl rfl (ob_rowLoad rfl tk39 (.tmp rfl) (.head _) (LG.arrA e_x2)) opsS_nil))))))))) (out_old (t := 0) rfl rfl (out_old (t := 3) rfl rfl (out_new (i := 3) (by decide) rfl rfl (out_new (i := 8) (by decide) rfl rfl out_nil)))) fun _ _ s31 => ?_
   refine qs s31 (.c1 rfl (ob_eqAgg rfl rfl (by kernel_rfl) eq39 (by decide) (.tmp rfl) (.tmp rfl)) (.ce (u 0 rfl (u 3 rfl (u 25 rfl .nil))))) fun _ _ s33 => wn hK12 ?_; clear s31
   refine cond_split s33 (.tmp rfl) (fun hc3 => ?_) (fun hc3 => ?_)
   ·have h12 := ite_t hc3 h11; clear h11
    obtain ⟨g3, h13⟩ := guard_some h12; clear h12
    refine wp_seq_k fun K13 hK13 => wp_region_lit (qs s33 (.c1 rfl (mv rfl rfl) (.c1 rfl (mv rfl rfl) (.c1 rfl (ob_cutT rfl Try.underlying40 sz39 (.tmp rfl) (.head _) (.some (.tmp rfl)) g3) (.c1 rfl (ob_assign rfl (.tmp rfl)) (.ce (u 0 rfl (u 3 rfl (u 4 rfl .nil)))))))) fun _ _ s38 => wn hK13 ?_); clear s33
    refine wp_seq_k fun K14 hK14 => wp_seq_k fun K15 hK15 => ?_
    refine wp_region_lit (qs s38 (.c1 rfl (ob_assign rfl (opd_int rfl)) (.ce (u 0 rfl (u 3 rfl (u 4 rfl (u 5 rfl .nil)))))) fun _ _ s40 => wn hK15 ?_); clear s38
    have hj3 : ∀ (y2 : Int) (y3 : (List (List Int))) (a : Act) (w : World), (slices_Compact_api_Key_api_Key.j3 k) y2 y3 = some r → St ⟨61, w0, ok, (idsOf [RowF wr0 39 (karr 32 (kint .u8)) p1])⟩ [RowF wr0 39 (karr 32 (kint .u8)) y3] [(0, (is wr0)), (3, ((kint .i64).V y2))] a w → K14 a w := by
     intro y2 y3 a41 w41 h14 s41
     unfold slices_Compact_api_Key_api_Key.j3 at h14
     refine hK14 _ _ ?_
     obtain ⟨g4, h15⟩ := guard_some h14; clear h14
     obtain ⟨g5, h16⟩ := guard_some h15; clear h15
     refine wp_seq_k fun K16 hK16 => wp_region_lit (qs s41 (.c1 rfl (mv rfl rfl) (.c1 rfl (mv rfl rfl) (.c1 rfl (ob_cutT rfl Try.underlying40 sz39 (.tmp rfl) (.head _) (.some (.tmp rfl)) g4) .cz))) fun _ _ s44 => ?_); clear s41
     refine seq_opx0 (B' := (fun _ : Unit => [RowF wr0 39 (karr 32 (kint .u8)) (y3.take y2.toNat ++ List.replicate (y3.length - y2.toNat) (List.replicate 32 (0 : Int)) ++ y3.drop (y2.toNat + (y3.length - y2.toNat)))])) s44 rfl rfl (ob_clearT (A := []) rfl Try.underlying40 ap39 (Zr.arr 32 (Zr.int .u8)) (by decide) (.tmp rfl) rfl g5 rfl) fun _ a45 w45 s45 => ?_; clear s44
     refine wn hK16 ?_
     have s46 := s45.sub (u 0 rfl (u 3 rfl .nil)); clear s45
     obtain ⟨g6, h17⟩ := guard_some h16; clear h16
     refine wp_seq_k fun K17 hK17 => wp_region_lit (qs s46 (.c1 rfl (mv rfl rfl) (.c1 rfl (mv rfl rfl) .cz)) fun _ _ s48 => ?_); clear s46
     refine qx (B' := (fun v1 : Value => [RowF v1 39 (karr 32 (kint .u8)) ((y3.take y2.toNat ++ List.replicate (y3.length - y2.toNat) (List.replicate 32 (0 : Int)) ++ y3.drop (y2.toNat + (y3.length - y2.toNat))).take y2.toNat)])) s48 rfl (ob_cutRow (A := []) rfl Try.underlying40 sz39 (.tmp rfl) rfl .none (.some (.tmp rfl)) g6) fun v1 _ _ s49 => ?_; clear s48
     refine qs s49 (.c1 rfl (ob_assign rfl (.tmp rfl)) (.ce (u 2 rfl .nil))) fun _ _ s51 => wn hK17 ?_; clear s49
     refine wp_ret ?_
     obtain rfl := Option.some.inj h17
     exact leaveXD (D := []) v1 s51 rfl (.inl rfl) rfl (.cons (.tmp rfl) .nil) rfl
    refine wp_block ?_
    refine wp_loop_fuel (fun m (q : Int × Int × (List (List Int))) => slices_Compact_api_Key_api_Key.l2 k p1 y1 m q.1 q.2.1 q.2.2) r (fun _ => rfl) (fun q a w => St ⟨61, w0, ok, (idsOf [RowF wr0 39 (karr 32 (kint .u8)) p1])⟩ [RowF wr0 39 (karr 32 (kint .u8)) q.2.2] [(0, (is wr0)), (3, ((kint .i64).V q.1)), (4, (slT wr0 32 y1.toNat (p1.length - y1.toNat))), (5, ((kint .i64).V q.2.1))] a w) ?_ k (y1, (1 : Int), p1) _ _ h13 (s40.sub (.cons rfl (.cons rfl (.cons rfl (.cons rfl .nil)))))
    rintro n2 ⟨y4, y5, y6⟩ a52 w52 h18 s52 K18 hK18
    replace h18 : slices_Compact_api_Key_api_Key.l2 k p1 y1 (n2 + 1) y4 y5 y6 = some r := h18; rw [slices_Compact_api_Key_api_Key.l2] at h18
    have h19 := h18; clear h18
    refine wp_seq_k fun K19 hK19 => wp_seq_k fun K20 hK20 => ?_
    refine wp_region_lit (qs s52 (.c1 rfl (mv rfl rfl) (.c1 rfl (mv rfl rfl) (.c1 rfl (ob_lenT rfl Try.underlying40 (.tmp rfl)) (.c1 rfl (ob_lss rfl (.tmp rfl) (.tmp rfl)) (.ce (u 0 rfl (u 3 rfl (u 4 rfl (u 5 rfl (u 32 rfl .nil)))))))))) fun _ _ s57 => wn hK20 ?_); clear s52
    refine cond_split s57 (.tmp rfl) (fun hc4 => ?_) (fun hc4 => ?_)
    ·have h20 := ite_t hc4 h19; clear h19
     refine wp_skip ?_
     refine then_normal (hK19 _ _ ?_)
     have s58 := s57.sub (u 0 rfl (u 3 rfl (u 4 rfl (u 5 rfl .nil)))); clear s57
     refine wp_seq_k fun K21 hK21 => ?_
     have hj4 : ∀ (y7 : Int) (y8 : (List (List Int))) (a : Act) (w : World), (slices_Compact_api_Key_api_Key.j4 k y5 (slices_Compact_api_Key_api_Key.l2 k p1 y1 n2)) y7 y8 = some r → St ⟨61, w0, ok, (idsOf [RowF wr0 39 (karr 32 (kint .u8)) p1])⟩ [RowF wr0 39 (karr 32 (kint .u8)) y8] [(0, (is wr0)), (3, ((kint .i64).V y7)), (4, (slT wr0 32 y1.toNat (p1.length - y1.toNat))), (5, ((kint .i64).V y5))] a w → K21 a w := by
      intro y7 y8 a59 w59 h21 s59
      unfold slices_Compact_api_Key_api_Key.j4 at h21
      refine hK21 _ _ ?_
      refine wp_region_lit (qs s59 (.c1 rfl (mv rfl rfl) (.c1 rfl (ob_add rfl (.tmp rfl) (opd_int rfl)) (.c1 rfl (ob_assign rfl (.tmp rfl)) .cz))) fun _ _ s62 => ?_); clear s59
      refine wpList_nil ?_
      refine then_normal ?_
      exact hK18 (y7, (iadd .i64 y5 (1 : Int)), y8) _ _ h21 (s62.sub (.cons rfl (.cons rfl (.cons rfl (.cons rfl .nil)))))
     refine wp_block ?_
     refine wp_seq_k fun K22 hK22 => ?_
     obtain ⟨g7, h22⟩ := guard_some h20; clear h20
     obtain ⟨g8, h23⟩ := guard_some h22; clear h22
     obtain ⟨x3, e_x3, h24⟩ := bind_some h23; clear h23
     obtain ⟨g9, h25⟩ := guard_some h24; clear h24
     obtain ⟨g10, h26⟩ := guard_some h25; clear h25
     obtain ⟨x4, e_x4, h27⟩ := bind_some h26; clear h26
     refine wp_goes (Fs := [(slT wr0 32 y1.toNat (p1.length - y1.toNat)), ((kint .i64).V y5), (ptrR wr0 ((y1 + y5).toNat * 32)), ((karr 32 (kint .u8)).V x3), (slT wr0 32 y1.toNat (p1.length - y1.toNat)), ((kint .i64).V y5), ((kint .i64).V (isub .i64 y5 (1 : Int))), (ptrR wr0 ((y1 + (isub .i64 y5 (1 : Int))).toNat * 32)), ((karr 32 (kint .u8)).V x4)]) (bits := [0, 0, 3, 7, 0, 0, 32, 112, 240, 511]) (m := 9) (todo := 0) mx s58 ?_; clear s58
     refine goes_last (by kernel_rfl) rfl (oc (av 4 rfl rfl Av.nil) rfl rfl (mv rfl rfl) (oc (av 5 rfl rfl Av.nil) rfl rfl (mv rfl rfl) (oc (an 0 rfl rfl rfl (an 1 rfl rfl rfl Av.nil)) rfl rfl (ob_restAt (k := (karr 32 (kint .u8))) rfl Try.underlying40 sz39 (.tmp rfl) g8 (.tmp rfl) g7) (oc (an 2 rfl rfl rfl Av.nil) rfl rfl (ob_rowLoad rfl tk39 (.tmp rfl) (.head _) (LG.arrA e_x3)) (oc (av 4 rfl rfl Av.nil) rfl rfl (mv rfl rfl) (oc (av 5 rfl rfl Av.nil) rfl rfl (mv rfl rfl) (oc (an 5 rfl rfl rfl Av.nil) rfl rfl (ob_sub rfl (.tmp rfl) (opd_int rfl)) (oc (an 4 rfl rfl rfl (an 6 rfl rfl rfl Av.nil)) rfl rfl (ob_restAt (k := (karr 32 (kint .u8))) rfl Try.underlying40 sz39 (.tmp rfl) g10 (.tmp rfl) g9) (oc (an 7 rfl rfl rfl Av.nil) rfl rfl (ob_rowLoad rfl tk39 (.tmp rfl) (.head _) (LG.arrA e_x4)) opsS_nil))))))))) (out_old (t := 0) rfl rfl (out_old (t := 3) rfl rfl (out_old (t := 4) rfl rfl (out_old (t := 5) rfl rfl (out_new (i := 3) (by decide) rfl rfl (out_new (i := 8) (by decide) rfl rfl out_nil)))))) fun _ _ s63 => ?_
     refine qs s63 (.c1 rfl (ob_neqAgg rfl rfl (by kernel_rfl) eq39 (by decide) (.tmp rfl) (.tmp rfl)) (.ce (u 0 rfl (u 3 rfl (u 4 rfl (u 5 rfl (u 44 rfl .nil))))))) fun _ _ s65 => wn hK22 ?_; clear s63
     refine cond_split s65 (.tmp rfl) (fun hc5 => ?_) (fun hc5 => ?_)
     ·have h28 := ite_t hc5 h27; clear h27
      obtain ⟨g11, h29⟩ := guard_some h28; clear h28
      obtain ⟨g12, h30⟩ := guard_some h29; clear h29
      obtain ⟨x5, e_x5, h31⟩ := bind_some h30; clear h30
      obtain ⟨g13, h32⟩ := guard_some h31; clear h31
      obtain ⟨x6, e_x6, h33⟩ := bind_some h32; clear h32
      refine wp_seq_k fun K23 hK23 => wp_region_lit (qs s65 (.c1 rfl (mv rfl rfl) (.c1 rfl (mv rfl rfl) (.c1 rfl (mv rfl rfl) (.c1 rfl (mv rfl rfl) (.c1 rfl (ob_restAt (k := (karr 32 (kint .u8))) rfl Try.underlying40 sz39 (.tmp rfl) g12 (.tmp rfl) g11) (.c1 rfl (ob_rowLoad rfl tk39 (.tmp rfl) (.head _) (LG.arrA e_x5)) (.c1 rfl (ob_rowAt rfl Try.underlying40 sz39 (.tmp rfl) (.head _) (.tmp rfl) g13) .cz))))))) fun _ _ s72 => ?_); clear s65
      refine seq_opx0 (B' := (fun _ : Unit => [RowF wr0 39 (karr 32 (kint .u8)) x6])) s72 rfl rfl (ob_rowStore (A := []) rfl tk39 (.tmp rfl) (.tmp rfl) rfl (LS.arrS e_x6) rfl) fun _ a73 w73 s73 => ?_; clear s72
      refine wn hK23 ?_
      have s74 := s73.sub (u 0 rfl (u 3 rfl (u 4 rfl (u 5 rfl .nil)))); clear s73
      refine wp_region_lit (qs s74 (.c1 rfl (mv rfl rfl) (.c1 rfl (ob_add rfl (.tmp rfl) (opd_int rfl)) (.c1 rfl (ob_assign rfl (.tmp rfl)) .cz))) fun _ _ s77 => ?_); clear s74
      refine wpList_nil ?_
      refine in_normal ?_
      refine then_normal ?_
      exact hj4 (iadd .i64 y4 (1 : Int)) x6 _ _ h33 (s77.sub (.cons rfl (.cons rfl (.cons rfl (.cons rfl .nil)))))
     ·have h34 := ite_f hc5 h27; clear h27
      refine wp_skip ?_
      refine in_normal ?_
      refine then_normal ?_
      exact hj4 y4 y6 _ _ h34 (s65.sub (.cons rfl (.cons rfl (.cons rfl (.cons rfl .nil)))))
    ·have h35 := ite_f hc4 h19; clear h19
     refine wp_exit ?_
     refine (then_exit (then_exit (in_here ?_)))
     refine then_normal ?_
     exact hj3 y4 y6 _ _ h35 (s57.sub (.cons rfl (.cons rfl .nil)))
   ·have h36 := ite_f hc3 h11; clear h11
    refine wp_skip ?_
    refine in_normal ?_
    refine then_normal ?_
    exact hj2 _ _ h36 (s33.sub (.cons rfl (.cons rfl .nil)))
  ·have h37 := ite_f hc2 h5; clear h5
   refine wp_exit ?_
   refine (then_exit (then_exit (in_here ?_)))
   refine then_normal ?_
   exact hj1 _ _ h37 (s25.sub (.cons rfl .nil))
theorem c_queue_once_api_Key_queue_Wanted_1 (k : Nat) (p1 : (List (List Int))) (r : (List (List Int))) (h0 : queue_once_api_Key_queue_Wanted_1 k p1 = some r) (ok : Ok) (w0 : World) (z0 : Value) (z1 : Value) (wr0 : Value) (l0 : ∀ q, q ∈ [RowF wr0 39 (karr 32 (kint .u8)) p1] → q.holds ok w0) (d0 : ∀ c, c ∈ idsOf [RowF wr0 39 (karr 32 (kint .u8)) p1] → ¬ ok c) (nd : (idsOf [RowF wr0 39 (karr 32 (kint .u8)) p1]).Nodup) (u0 : (is wr0).holds ok w0 z0) (u1 : (is (.func (.func 115) #[] #[])).holds ok w0 z1) :
 GivesX Try.prog 114 [z0, z1] ok w0 [RowF wr0 39 (karr 32 (kint .u8)) p1] (fun g : Value => resFact [is g]) (fun g : Value => [RowF (g) 39 (karr 32 (kint .u8)) r]) := by
 unfold queue_once_api_Key_queue_Wanted_1 at h0
 refine enterX (N := 10) Try.func114 rfl rfl (of_decide_eq_true rfl) (.cons u0 (.cons u1 .nil)) nd l0 d0 fun a1 s1 => ?_
 refine wp_seq_k fun K1 hK1 => wp_region_lit (qs s1 (.c1 rfl (ob_assign rfl opd_is) .cz) fun _ _ s2 => ?_); clear s1
 have s3 := St.adopt s2 (G := RowF (nilRow 19) 39 (karr 32 (kint .u8)) []) rfl (rowNilN _ _ _ _ _); clear s2
 refine wn hK1 ?_
 have s4 := s3.sub (u 0 rfl (u 1 rfl .nil)); clear s3
 have s5 := St.drop (A := []) s4; clear s4
 obtain ⟨x1, e_x1, h1⟩ := bind_some h0; clear h0
 refine wp_seq_k fun K2 hK2 => wp_region_lit (qs s5 (.c1 rfl (mv rfl rfl) (.c1 rfl (mv rfl rfl) .cz)) fun _ _ s7 => ?_); clear s5
 refine qx (B' := (fun _ : Unit => [RowF wr0 39 (karr 32 (kint .u8)) x1])) s7 rfl (ob_callL0 (args := [_, _]) (L := [_]) rfl .direct hb100 (List.Perm.refl _) (fun a w s => by exact c_slices_SortFunc_api_Key_api_Key_queue_Wanted_1 k _ _ e_x1 _ _ _ _ _ (ownL s) (disL s) (nodL s) (s.arg (.tmp rfl)) (s.arg (.tmp rfl))) (by exact fun _ => rfl)) fun _ _ _ s8 => ?_; clear s7
 refine wn hK2 ?_
 have s9 := s8.sub (u 0 rfl .nil); clear s8
 obtain ⟨x2, e_x2, h2⟩ := bind_some h1; clear h1
 refine wp_seq_k fun K3 hK3 => wp_region_lit (qs s9 (.c1 rfl (mv rfl rfl) .cz) fun _ _ s10 => ?_); clear s9
 refine qx (B' := (fun v1 : Value => [RowF v1 39 (karr 32 (kint .u8)) x2])) s10 rfl (ob_callL0 (args := [_]) (L := [_]) rfl .direct hb150 (List.Perm.refl _) (fun a w s => by exact c_slices_Compact_api_Key_api_Key k _ _ e_x2 _ _ _ _ (ownL s) (disL s) (nodL s) (s.arg (.tmp rfl))) (by exact fun _ => rfl)) fun v1 _ _ s11 => ?_; clear s10
 refine qs s11 (.c1 rfl (ob_assign rfl (.tmp rfl)) (.ce (u 4 rfl .nil))) fun _ _ s13 => wn hK3 ?_; clear s11
 refine wp_ret ?_
 obtain rfl := Option.some.inj h2
 exact leaveXD (D := []) v1 s13 rfl (.inl rfl) rfl (.cons (.tmp rfl) .nil) rfl
end Go.Proofs.Ytdlnfgpcnfbjiaa
