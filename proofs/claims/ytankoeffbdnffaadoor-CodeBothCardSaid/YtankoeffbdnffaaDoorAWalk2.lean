/- Each function's code comes to what its plain function answers. No condition. -/
import Derived.Test.YtankoeffbdnffaaDoorAWalk1
namespace Go.Proofs.YtankoeffbdnffaaDoor
open Go Go.RowKit Go.Proofs.Kit Go.Proofs.Pure
set_option linter.unusedVariables false
set_option linter.unusedSimpArgs false
set_option maxRecDepth 100000
set_option maxHeartbeats 2000000

/- 26 (*cabal/digest.Hash).Write -/
theorem c_digest_Hash_Write (k : Nat) (p1 : digest_Hash) (p2 : (List (List Int))) (r : digest_Hash) (h0 : digest_Hash_Write k p1 p2 = some r) (ok : Ok) (w0 : World) (gl1 : (ptrTo (karr 8 (kint .u32)) G_digest_first).holds ok w0 (.pointer (some ⟨1, 0, none⟩))) (gl2 : (ptrTo (karr 64 (kint .u32)) G_digest_rounds).holds ok w0 (.pointer (some ⟨2, 0, none⟩))) (z0 : Value) (z1 : Value) (b00 : Nat) (l0 : ∀ q, q ∈ [BF b00 64 k_digest_Hash p1] → q.holds ok w0) (d0 : ∀ c, c ∈ idsOf [BF b00 64 k_digest_Hash p1] → ¬ ok c) (nd : (idsOf [BF b00 64 k_digest_Hash p1]).Nodup) (u0 : (ptrB b00 0).holds ok w0 z0) (u1 : ((ksl kstr).V p2).holds ok w0 z1) :
    GivesX Tryd.prog 26 [z0, z1] ok w0 [BF b00 64 k_digest_Hash p1] (fun g : Unit => resFact []) (fun g : Unit => [BF b00 64 k_digest_Hash r]) := by
  unfold digest_Hash_Write at h0
  refine enterX (N := 39) Tryd.func26 rfl rfl (of_decide_eq_true rfl) (.cons u0 (.cons u1 .nil)) nd l0 d0 fun a1 s1 => ?_
  have s2 := s1.keepKnown 100001 gl1 (okInX (L := [BF b00 64 k_digest_Hash p1]) d0); clear s1
  have s3 := s2.keepKnown 100002 gl2 (okInX (L := [BF b00 64 k_digest_Hash p1]) d0); clear s2
  refine wp_seq_k fun K1 hK1 => ?_
  refine wp_seq_k fun K2 hK2 => ?_
  refine wp_region_lit ?_
  refine seq_op s3 rfl rfl (of_decide_eq_true rfl) (ob_move rfl (.tmp rfl)) fun a4 w4 s4 => ?_; clear s3
  refine seq_op s4 rfl rfl (of_decide_eq_true rfl) (ob_ptrNil (p := some _) rfl pt71 (.tmp rfl) opd_is) fun a5 w5 s5 => ?_; clear s4
  refine wpList_nil ?_
  refine then_normal ?_
  refine hK2 _ _ ?_
  have s6 := s5.sub (.cons (t := 0) rfl (.cons (t := 1) rfl (.cons (t := 8) rfl (.cons (t := 100001) rfl (.cons (t := 100002) rfl .nil))))); clear s5
  refine cond_f s6 (.tmp rfl) ?_
  refine wp_skip ?_
  refine then_normal ?_
  refine hK1 _ _ ?_
  have s7 := s6.sub (.cons (t := 0) rfl (.cons (t := 1) rfl (.cons (t := 100001) rfl (.cons (t := 100002) rfl .nil)))); clear s6
  refine wp_seq_k fun K3 hK3 => ?_
  refine wp_region_lit ?_
  refine seq_op s7 rfl rfl (of_decide_eq_true rfl) (ob_move rfl (.tmp rfl)) fun a8 w8 s8 => ?_; clear s7
  obtain ⟨x1, e_x1, h1⟩ := bind_some h0; clear h0
  refine seq_opx (B' := (fun _ : Unit => [BF b00 64 k_digest_Hash x1])) s8 rfl rfl (of_decide_eq_true rfl) (ob_callL (args := [_]) (L := [_]) rfl .direct hb31 (List.Perm.refl _) (fun a w s fs gs hf hg => by obtain rfl := hf.unnil; obtain rfl := hg.unnil; exact c_digest_Hash_begin k _ _ e_x1 _ _ (s.env _ _ (show get _ 100001 = _ from rfl)) _ _ (ownL s) (disL s) (nodL s) (s.arg (.tmp rfl))) (by exact fun _ => rfl)) fun _ a9 w9 s9 => ?_; clear s8
  refine wpList_nil ?_
  refine then_normal ?_
  refine hK3 _ _ ?_
  have s10 := s9.sub (.cons (t := 0) rfl (.cons (t := 1) rfl (.cons (t := 100001) rfl (.cons (t := 100002) rfl .nil)))); clear s9
  refine wp_seq_k fun K4 hK4 => ?_
  refine wp_region_lit ?_
  refine seq_op s10 rfl rfl (of_decide_eq_true rfl) (ob_move rfl (.tmp rfl)) fun a11 w11 s11 => ?_; clear s10
  refine seq_op s11 rfl rfl (of_decide_eq_true rfl) (ob_lens rfl Tryd.underlying58 (.tmp rfl)) fun a12 w12 s12 => ?_; clear s11
  refine seq_op s12 rfl rfl (of_decide_eq_true rfl) (ob_move rfl (opd_int rfl)) fun a13 w13 s13 => ?_; clear s12
  refine wpList_nil ?_
  refine then_normal ?_
  refine hK4 _ _ ?_
  have s14 := s13.sub (.cons (t := 0) rfl (.cons (t := 11) rfl (.cons (t := 12) rfl (.cons (t := 13) rfl (.cons (t := 100001) rfl (.cons (t := 100002) rfl .nil)))))); clear s13
  refine wp_block ?_
  refine wp_loop_fuel (fun m (q : Int × digest_Hash) => digest_Hash_Write.l1 k p2 m q.1 q.2) r (fun _ => rfl) (fun q a w => St ⟨39, w0, ok, (idsOf [BF b00 64 k_digest_Hash p1])⟩ [BF b00 64 k_digest_Hash q.2] [(0, (ptrB b00 0)), (11, ((ksl kstr).V p2)), (12, ((kint .i64).V (p2.length : Int))), (13, ((kint .i64).V q.1)), (100001, (known (.pointer (some ⟨1, 0, none⟩)) (ptrTo (karr 8 (kint .u32)) G_digest_first))), (100002, (known (.pointer (some ⟨2, 0, none⟩)) (ptrTo (karr 64 (kint .u32)) G_digest_rounds)))] a w) ?_ k ((0 : Int), x1) _ _ h1 (s14.sub (.cons rfl (.cons rfl (.cons rfl (.cons rfl (.cons rfl (.cons rfl .nil)))))))
  rintro n1 ⟨y1, y2⟩ a15 w15 h2 s15 K5 hK5
  replace h2 : digest_Hash_Write.l1 k p2 (n1 + 1) y1 y2 = some r := h2; rw [digest_Hash_Write.l1] at h2
  have h3 := h2; clear h2
  refine wp_seq_k fun K6 hK6 => ?_
  refine wp_region_lit ?_
  refine seq_op s15 rfl rfl (of_decide_eq_true rfl) (ob_lss rfl (.tmp rfl) (.tmp rfl)) fun a16 w16 s16 => ?_; clear s15
  refine wpList_nil ?_
  refine then_normal ?_
  refine hK6 _ _ ?_
  have s17 := s16.sub (.cons (t := 0) rfl (.cons (t := 11) rfl (.cons (t := 12) rfl (.cons (t := 13) rfl (.cons (t := 14) rfl (.cons (t := 100001) rfl (.cons (t := 100002) rfl .nil))))))); clear s16
  refine wp_seq_k fun K7 hK7 => ?_
  refine cond_split s17 (.tmp rfl) (fun hc2 => ?_) (fun hc2 => ?_)
  · replace h3 := ite_t hc2 h3
    have h4 := h3; clear h3
    refine wp_skip ?_
    refine then_normal ?_
    refine hK7 _ _ ?_
    have s18 := s17.sub (.cons (t := 0) rfl (.cons (t := 11) rfl (.cons (t := 12) rfl (.cons (t := 13) rfl (.cons (t := 100001) rfl (.cons (t := 100002) rfl .nil)))))); clear s17
    refine wp_seq_k fun K8 hK8 => ?_
    have hj1 : ∀ (y3 : digest_Hash) (a : Act) (w : World), (digest_Hash_Write.j1 k y1 (digest_Hash_Write.l1 k p2 n1)) y3 = some r → St ⟨39, w0, ok, (idsOf [BF b00 64 k_digest_Hash p1])⟩ [BF b00 64 k_digest_Hash y3] [(0, (ptrB b00 0)), (11, ((ksl kstr).V p2)), (12, ((kint .i64).V (p2.length : Int))), (13, ((kint .i64).V y1)), (100001, (known (.pointer (some ⟨1, 0, none⟩)) (ptrTo (karr 8 (kint .u32)) G_digest_first))), (100002, (known (.pointer (some ⟨2, 0, none⟩)) (ptrTo (karr 64 (kint .u32)) G_digest_rounds)))] a w → K8 a w := by
      intro y3 a19 w19 h5 s19
      unfold digest_Hash_Write.j1 at h5
      refine hK8 _ _ ?_
      refine wp_region_lit ?_
      refine seq_op s19 rfl rfl (of_decide_eq_true rfl) (ob_add rfl (.tmp rfl) (opd_int rfl)) fun a20 w20 s20 => ?_; clear s19
      refine seq_op s20 rfl rfl (of_decide_eq_true rfl) (ob_move rfl (.tmp rfl)) fun a21 w21 s21 => ?_; clear s20
      refine wpList_nil ?_
      refine then_normal ?_
      exact hK5 ((iadd .i64 y1 (1 : Int)), y3) _ _ h5 (s21.sub (.cons rfl (.cons rfl (.cons rfl (.cons rfl (.cons rfl (.cons rfl .nil)))))))
    refine wp_block ?_
    refine wp_seq_k fun K9 hK9 => ?_
    refine wp_region_lit ?_
    obtain ⟨x2, e_x2, h6⟩ := bind_some h4; clear h4
    refine seq_op s18 rfl rfl (of_decide_eq_true rfl) (ob_indexAddrs rfl Tryd.underlying58 sz9 (.tmp rfl) (.tmp rfl) e_x2) fun a22 w22 s22 => ?_; clear s18
    refine seq_op s22 rfl rfl (of_decide_eq_true rfl) (ob_loadr rfl tk9 (.tmp rfl)) fun a23 w23 s23 => ?_; clear s22
    refine seq_op s23 rfl rfl (of_decide_eq_true rfl) (ob_assign rfl (.tmp rfl)) fun a24 w24 s24 => ?_; clear s23
    refine wpList_nil ?_
    refine then_normal ?_
    refine hK9 _ _ ?_
    have s25 := s24.sub (.cons (t := 0) rfl (.cons (t := 5) rfl (.cons (t := 11) rfl (.cons (t := 12) rfl (.cons (t := 13) rfl (.cons (t := 100001) rfl (.cons (t := 100002) rfl .nil))))))); clear s24
    refine wp_seq_k fun K10 hK10 => ?_
    refine wp_seq_k fun K11 hK11 => ?_
    refine wp_region_lit ?_
    refine seq_op s25 rfl rfl (of_decide_eq_true rfl) (ob_move rfl (.tmp rfl)) fun a26 w26 s26 => ?_; clear s25
    refine seq_op s26 rfl rfl (of_decide_eq_true rfl) (ob_lenStr rfl Tryd.underlying9 (.tmp rfl)) fun a27 w27 s27 => ?_; clear s26
    refine seq_op s27 rfl rfl (of_decide_eq_true rfl) (ob_move rfl (opd_int rfl)) fun a28 w28 s28 => ?_; clear s27
    refine wpList_nil ?_
    refine then_normal ?_
    refine hK11 _ _ ?_
    have s29 := s28.sub (.cons (t := 0) rfl (.cons (t := 5) rfl (.cons (t := 11) rfl (.cons (t := 12) rfl (.cons (t := 13) rfl (.cons (t := 18) rfl (.cons (t := 19) rfl (.cons (t := 100001) rfl (.cons (t := 100002) rfl .nil))))))))); clear s28
    have hj2 : ∀ (y4 : digest_Hash) (a : Act) (w : World), (digest_Hash_Write.j2 k x2 y1 (digest_Hash_Write.l1 k p2 n1)) y4 = some r → St ⟨39, w0, ok, (idsOf [BF b00 64 k_digest_Hash p1])⟩ [BF b00 64 k_digest_Hash y4] [(0, (ptrB b00 0)), (5, (kstr.V x2)), (11, ((ksl kstr).V p2)), (12, ((kint .i64).V (p2.length : Int))), (13, ((kint .i64).V y1)), (100001, (known (.pointer (some ⟨1, 0, none⟩)) (ptrTo (karr 8 (kint .u32)) G_digest_first))), (100002, (known (.pointer (some ⟨2, 0, none⟩)) (ptrTo (karr 64 (kint .u32)) G_digest_rounds)))] a w → K10 a w := by
      intro y4 a30 w30 h7 s30
      unfold digest_Hash_Write.j2 at h7
      refine hK10 _ _ ?_
      refine wp_region_lit ?_
      refine seq_op s30 rfl rfl (of_decide_eq_true rfl) (ob_move rfl (.tmp rfl)) fun a31 w31 s31 => ?_; clear s30
      refine seq_op s31 rfl rfl (of_decide_eq_true rfl) (ob_nilCheck rfl (.tmp rfl)) fun a32 w32 s32 => ?_; clear s31
      refine seq_op s32 rfl rfl (of_decide_eq_true rfl) (ob_fieldAddr (off' := 74) rfl Tryd.underlying64 rfl sz62 (by decide) (.tmp rfl) rfl) fun a33 w33 s33 => ?_; clear s32
      refine seq_op s33 rfl rfl (of_decide_eq_true rfl) (ob_load rfl tk62 (.tmp rfl) (.head _) (lg_digest_Hash_taken y4)) fun a34 w34 s34 => ?_; clear s33
      refine seq_op s34 rfl rfl (of_decide_eq_true rfl) (ob_move rfl (.tmp rfl)) fun a35 w35 s35 => ?_; clear s34
      refine seq_op s35 rfl rfl (of_decide_eq_true rfl) (ob_lenStr rfl Tryd.underlying9 (.tmp rfl)) fun a36 w36 s36 => ?_; clear s35
      refine seq_op s36 rfl rfl (of_decide_eq_true rfl) (ob_conv rfl _ Tryd.underlying3 Tryd.underlying62 (.tmp rfl)) fun a37 w37 s37 => ?_; clear s36
      refine seq_op s37 rfl rfl (of_decide_eq_true rfl) (ob_add rfl (.tmp rfl) (.tmp rfl)) fun a38 w38 s38 => ?_; clear s37
      refine seq_op s38 rfl rfl (of_decide_eq_true rfl) (ob_nilCheck rfl (.tmp rfl)) fun a39 w39 s39 => ?_; clear s38
      refine seq_op s39 rfl rfl (of_decide_eq_true rfl) (ob_fieldAddr (off' := 74) rfl Tryd.underlying64 rfl sz62 (by decide) (.tmp rfl) rfl) fun a40 w40 s40 => ?_; clear s39
      obtain ⟨x3, e_x3, h8⟩ := bind_some h7; clear h7; replace e_x3 := Option.some.inj e_x3
      refine seq_opx0 (B' := (fun _ : Unit => [BF b00 64 k_digest_Hash x3])) s40 rfl rfl (ob_store (A := []) rfl tk62 (.tmp rfl) (.tmp rfl) rfl (LS.to (ls_digest_Hash_taken y4 (iadd .u64 y4.taken (IntKind.wrap .u64 (x2.length : Int)))) e_x3) rfl) fun _ a41 w41 s41 => ?_; clear s40
      refine wpList_nil ?_
      refine in_normal ?_
      refine then_normal ?_
      exact hj1 x3 _ _ h8 (s41.sub (.cons rfl (.cons rfl (.cons rfl (.cons rfl (.cons rfl (.cons rfl .nil)))))))
    refine wp_block ?_
    refine wp_loop_fuel (fun m (q : Int × digest_Hash) => digest_Hash_Write.l2 k x2 y1 (digest_Hash_Write.l1 k p2 n1) m q.1 q.2) r (fun _ => rfl) (fun q a w => St ⟨39, w0, ok, (idsOf [BF b00 64 k_digest_Hash p1])⟩ [BF b00 64 k_digest_Hash q.2] [(0, (ptrB b00 0)), (5, (kstr.V x2)), (11, ((ksl kstr).V p2)), (12, ((kint .i64).V (p2.length : Int))), (13, ((kint .i64).V y1)), (18, ((kint .i64).V (x2.length : Int))), (19, ((kint .i64).V q.1)), (100001, (known (.pointer (some ⟨1, 0, none⟩)) (ptrTo (karr 8 (kint .u32)) G_digest_first))), (100002, (known (.pointer (some ⟨2, 0, none⟩)) (ptrTo (karr 64 (kint .u32)) G_digest_rounds)))] a w) ?_ k ((0 : Int), y2) _ _ h6 (s29.sub (.cons rfl (.cons rfl (.cons rfl (.cons rfl (.cons rfl (.cons rfl (.cons rfl (.cons rfl (.cons rfl .nil))))))))))
    rintro n2 ⟨y5, y6⟩ a42 w42 h9 s42 K12 hK12
    replace h9 : digest_Hash_Write.l2 k x2 y1 (digest_Hash_Write.l1 k p2 n1) (n2 + 1) y5 y6 = some r := h9; rw [digest_Hash_Write.l2] at h9
    have h10 := h9; clear h9
    refine wp_seq_k fun K13 hK13 => ?_
    refine wp_region_lit ?_
    refine seq_op s42 rfl rfl (of_decide_eq_true rfl) (ob_lss rfl (.tmp rfl) (.tmp rfl)) fun a43 w43 s43 => ?_; clear s42
    refine wpList_nil ?_
    refine then_normal ?_
    refine hK13 _ _ ?_
    have s44 := s43.sub (.cons (t := 0) rfl (.cons (t := 5) rfl (.cons (t := 11) rfl (.cons (t := 12) rfl (.cons (t := 13) rfl (.cons (t := 18) rfl (.cons (t := 19) rfl (.cons (t := 20) rfl (.cons (t := 100001) rfl (.cons (t := 100002) rfl .nil)))))))))); clear s43
    refine wp_seq_k fun K14 hK14 => ?_
    refine cond_split s44 (.tmp rfl) (fun hc3 => ?_) (fun hc3 => ?_)
    · replace h10 := ite_t hc3 h10
      have h11 := h10; clear h10
      refine wp_skip ?_
      refine then_normal ?_
      refine hK14 _ _ ?_
      have s45 := s44.sub (.cons (t := 0) rfl (.cons (t := 5) rfl (.cons (t := 11) rfl (.cons (t := 12) rfl (.cons (t := 13) rfl (.cons (t := 18) rfl (.cons (t := 19) rfl (.cons (t := 100001) rfl (.cons (t := 100002) rfl .nil))))))))); clear s44
      refine wp_seq_k fun K15 hK15 => ?_
      refine wp_block ?_
      refine wp_seq_k fun K16 hK16 => ?_
      refine wp_region_lit ?_
      refine seq_op s45 rfl rfl (of_decide_eq_true rfl) (ob_move rfl (.tmp rfl)) fun a46 w46 s46 => ?_; clear s45
      refine seq_op s46 rfl rfl (of_decide_eq_true rfl) (ob_assign rfl (.tmp rfl)) fun a47 w47 s47 => ?_; clear s46
      refine wpList_nil ?_
      refine then_normal ?_
      refine hK16 _ _ ?_
      have s48 := s47.sub (.cons (t := 0) rfl (.cons (t := 5) rfl (.cons (t := 6) rfl (.cons (t := 11) rfl (.cons (t := 12) rfl (.cons (t := 13) rfl (.cons (t := 18) rfl (.cons (t := 19) rfl (.cons (t := 100001) rfl (.cons (t := 100002) rfl .nil)))))))))); clear s47
      refine wp_region_lit ?_
      refine seq_op s48 rfl rfl (of_decide_eq_true rfl) (ob_move rfl (.tmp rfl)) fun a49 w49 s49 => ?_; clear s48
      refine seq_op s49 rfl rfl (of_decide_eq_true rfl) (ob_move rfl (.tmp rfl)) fun a50 w50 s50 => ?_; clear s49
      refine seq_op s50 rfl rfl (of_decide_eq_true rfl) (ob_move rfl (.tmp rfl)) fun a51 w51 s51 => ?_; clear s50
      obtain ⟨x4, e_x4, h12⟩ := bind_some h11; clear h11
      refine seq_op s51 rfl rfl (of_decide_eq_true rfl) (ob_indexStr rfl Tryd.underlying9 (.tmp rfl) (.tmp rfl) e_x4) fun a52 w52 s52 => ?_; clear s51
      obtain ⟨x5, e_x5, h13⟩ := bind_some h12; clear h12
      refine seq_opx (B' := (fun _ : Unit => [BF b00 64 k_digest_Hash x5])) s52 rfl rfl (of_decide_eq_true rfl) (ob_callL (args := [_, _]) (L := [_]) rfl .direct hb32 (List.Perm.refl _) (fun a w s fs gs hf hg => by obtain rfl := hf.unnil; obtain rfl := hg.unnil; exact c_digest_Hash_put k _ _ _ e_x5 _ _ (s.env _ _ (show get _ 100002 = _ from rfl)) _ _ _ (ownL s) (disL s) (nodL s) (s.arg (.tmp rfl)) (s.arg (.tmp rfl))) (by exact fun _ => rfl)) fun _ a53 w53 s53 => ?_; clear s52
      refine wpList_nil ?_
      refine in_normal ?_
      refine then_normal ?_
      refine hK15 _ _ ?_
      have s54 := s53.sub (.cons (t := 0) rfl (.cons (t := 5) rfl (.cons (t := 11) rfl (.cons (t := 12) rfl (.cons (t := 13) rfl (.cons (t := 18) rfl (.cons (t := 19) rfl (.cons (t := 100001) rfl (.cons (t := 100002) rfl .nil))))))))); clear s53
      refine wp_region_lit ?_
      refine seq_op s54 rfl rfl (of_decide_eq_true rfl) (ob_add rfl (.tmp rfl) (opd_int rfl)) fun a55 w55 s55 => ?_; clear s54
      refine seq_op s55 rfl rfl (of_decide_eq_true rfl) (ob_move rfl (.tmp rfl)) fun a56 w56 s56 => ?_; clear s55
      refine wpList_nil ?_
      refine then_normal ?_
      exact hK12 ((iadd .i64 y5 (1 : Int)), x5) _ _ h13 (s56.sub (.cons rfl (.cons rfl (.cons rfl (.cons rfl (.cons rfl (.cons rfl (.cons rfl (.cons rfl (.cons rfl .nil))))))))))
    · replace h10 := ite_f hc3 h10
      have h14 := h10; clear h10
      refine wp_exit ?_
      refine (then_exit (then_exit (in_here ?_)))
      refine then_normal ?_
      exact hj2 y6 _ _ h14 (s44.sub (.cons rfl (.cons rfl (.cons rfl (.cons rfl (.cons rfl (.cons rfl (.cons rfl .nil))))))))
  · replace h3 := ite_f hc2 h3
    have h15 := h3; clear h3
    refine wp_exit ?_
    refine (then_exit (then_exit (in_here ?_)))
    obtain rfl := Option.some.inj h15
    exact leaveXD (D := []) () s17 rfl (.inr rfl) rfl .nil rfl

/- 27 (*cabal/digest.Hash).Sum -/
theorem c_digest_Hash_Sum (k : Nat) (p1 : digest_Hash) (r : (List Int)) (h0 : digest_Hash_Sum k p1 = some r) (ok : Ok) (w0 : World) (gl1 : (ptrTo (karr 8 (kint .u32)) G_digest_first).holds ok w0 (.pointer (some ⟨1, 0, none⟩))) (gl2 : (ptrTo (karr 64 (kint .u32)) G_digest_rounds).holds ok w0 (.pointer (some ⟨2, 0, none⟩))) (z0 : Value) (u0 : (ptrTo k_digest_Hash p1).holds ok w0 z0) :
    Gives Tryd.prog 27 [z0] ok w0 (resFact [(karr 32 (kint .u8)).V r]) := by
  unfold digest_Hash_Sum at h0
  refine enter (N := 64) Tryd.func27 rfl rfl (of_decide_eq_true rfl) (.cons u0 .nil) fun a1 s1 => ?_
  have s2 := s1.keepKnown 100001 gl1 okIn; clear s1
  have s3 := s2.keepKnown 100002 gl2 okIn; clear s2
  refine wp_seq_k fun K1 hK1 => ?_
  refine wp_region_lit ?_
  refine seq_opx (B' := (fun b1 : Nat => [BF b1 23 (karr 32 (kint .u8)) (List.replicate 32 (0 : Int))])) s3 rfl rfl (of_decide_eq_true rfl) (ob_new (k := (karr 32 (kint .u8))) rfl zz23 (Zr.arr 32 (Zr.int .u8))) fun b1 a4 w4 s4 => ?_; clear s3
  refine wpList_nil ?_
  refine then_normal ?_
  refine hK1 _ _ ?_
  have s5 := s4.sub (.cons (t := 0) rfl (.cons (t := 2) rfl (.cons (t := 100001) rfl (.cons (t := 100002) rfl .nil)))); clear s4
  refine wp_seq_k fun K2 hK2 => ?_
  refine wp_region_lit ?_
  refine seq_opx (B' := (fun b2 : Nat => [BF b2 64 k_digest_Hash (⟨false, (List.replicate 8 (0 : Int)), (List.replicate 64 (0 : Int)), (0 : Int), (0 : Int)⟩ : digest_Hash), BF b1 23 (karr 32 (kint .u8)) (List.replicate 32 (0 : Int))])) s5 rfl rfl (of_decide_eq_true rfl) (ob_new (k := k_digest_Hash) rfl zz64 (Zr.iso (f := t_digest_Hash) (x := (⟨false, (List.replicate 8 (0 : Int)), (List.replicate 64 (0 : Int)), (0 : Int), (0 : Int)⟩ : digest_Hash)) (Zr.pair Zr.bool (Zr.pair (Zr.arr 8 (Zr.int .u32)) (Zr.pair (Zr.arr 64 (Zr.int .u8)) (Zr.pair (Zr.int .i64) (Zr.pair (Zr.int .u64) Zr.nil))))))) fun b2 a6 w6 s6 => ?_; clear s5
  refine wpList_nil ?_
  refine then_normal ?_
  refine hK2 _ _ ?_
  have s7 := s6.sub (.cons (t := 0) rfl (.cons (t := 2) rfl (.cons (t := 3) rfl (.cons (t := 100001) rfl (.cons (t := 100002) rfl .nil))))); clear s6
  refine wp_seq_k fun K3 hK3 => ?_
  refine wp_seq_k fun K4 hK4 => ?_
  refine wp_region_lit ?_
  refine seq_op s7 rfl rfl (of_decide_eq_true rfl) (ob_move rfl (.tmp rfl)) fun a8 w8 s8 => ?_; clear s7
  refine seq_op s8 rfl rfl (of_decide_eq_true rfl) (ob_ptrrNotNil rfl pt71 (.tmp rfl) opd_is) fun a9 w9 s9 => ?_; clear s8
  refine wpList_nil ?_
  refine then_normal ?_
  refine hK4 _ _ ?_
  have s10 := s9.sub (.cons (t := 0) rfl (.cons (t := 2) rfl (.cons (t := 3) rfl (.cons (t := 9) rfl (.cons (t := 100001) rfl (.cons (t := 100002) rfl .nil)))))); clear s9
  refine cond_t s10 (.tmp rfl) ?_
  refine wp_region_lit ?_
  refine seq_op s10 rfl rfl (of_decide_eq_true rfl) (ob_move rfl (.tmp rfl)) fun a11 w11 s11 => ?_; clear s10
  refine seq_op s11 rfl rfl (of_decide_eq_true rfl) (ob_nilCheckr rfl (.tmp rfl)) fun a12 w12 s12 => ?_; clear s11
  refine seq_op s12 rfl rfl (of_decide_eq_true rfl) (ob_loadr rfl tk64 (.tmp rfl)) fun a13 w13 s13 => ?_; clear s12
  refine seq_opx0 (B' := (fun _ : Unit => [BF b2 64 k_digest_Hash p1, BF b1 23 (karr 32 (kint .u8)) (List.replicate 32 (0 : Int))])) s13 rfl rfl (ob_store (A := []) rfl tk64 (.tmp rfl) (.tmp rfl) rfl (LS.refl _ _ _) rfl) fun _ a14 w14 s14 => ?_; clear s13
  refine wpList_nil ?_
  refine then_normal ?_
  refine hK3 _ _ ?_
  have s15 := s14.sub (.cons (t := 2) rfl (.cons (t := 3) rfl (.cons (t := 100001) rfl (.cons (t := 100002) rfl .nil)))); clear s14
  refine wp_seq_k fun K5 hK5 => ?_
  refine wp_region_lit ?_
  obtain ⟨x1, e_x1, h1⟩ := bind_some h0; clear h0
  refine seq_opx (B' := (fun _ : Unit => [BF b2 64 k_digest_Hash x1, BF b1 23 (karr 32 (kint .u8)) (List.replicate 32 (0 : Int))])) s15 rfl rfl (of_decide_eq_true rfl) (ob_callL (args := [_]) (L := [_]) rfl .direct hb31 (List.Perm.refl _) (fun a w s fs gs hf hg => by obtain rfl := hf.unnil; obtain rfl := hg.unnil; exact c_digest_Hash_begin k _ _ e_x1 _ _ (s.env _ _ (show get _ 100001 = _ from rfl)) _ _ (ownL s) (disL s) (nodL s) (s.arg (.tmp rfl))) (by exact fun _ => rfl)) fun _ a16 w16 s16 => ?_; clear s15
  refine wpList_nil ?_
  refine then_normal ?_
  refine hK5 _ _ ?_
  have s17 := s16.sub (.cons (t := 2) rfl (.cons (t := 3) rfl (.cons (t := 100001) rfl (.cons (t := 100002) rfl .nil)))); clear s16
  refine wp_seq_k fun K6 hK6 => ?_
  refine wp_region_lit ?_
  obtain ⟨x2, e_x2, h2⟩ := bind_some h1; clear h1
  refine seq_opx (B' := (fun _ : Unit => [BF b2 64 k_digest_Hash x2, BF b1 23 (karr 32 (kint .u8)) (List.replicate 32 (0 : Int))])) s17 rfl rfl (of_decide_eq_true rfl) (ob_callL (args := [_, _]) (L := [_]) rfl .direct hb32 (List.Perm.refl _) (fun a w s fs gs hf hg => by obtain rfl := hf.unnil; obtain rfl := hg.unnil; exact c_digest_Hash_put k _ _ _ e_x2 _ _ (s.env _ _ (show get _ 100002 = _ from rfl)) _ _ _ (ownL s) (disL s) (nodL s) (s.arg (.tmp rfl)) (s.arg (opd_int rfl))) (by exact fun _ => rfl)) fun _ a18 w18 s18 => ?_; clear s17
  refine wpList_nil ?_
  refine then_normal ?_
  refine hK6 _ _ ?_
  have s19 := s18.sub (.cons (t := 2) rfl (.cons (t := 3) rfl (.cons (t := 100001) rfl (.cons (t := 100002) rfl .nil)))); clear s18
  refine wp_seq_k fun K7 hK7 => ?_
  have hj1 : ∀ (y1 : digest_Hash) (a : Act) (w : World), (digest_Hash_Sum.j1 k) y1 = some r → St ⟨64, w0, ok, []⟩ [BF b1 23 (karr 32 (kint .u8)) (List.replicate 32 (0 : Int)), BF b2 64 k_digest_Hash y1] [(2, (ptrB b1 0)), (3, (ptrB b2 0)), (100001, (known (.pointer (some ⟨1, 0, none⟩)) (ptrTo (karr 8 (kint .u32)) G_digest_first))), (100002, (known (.pointer (some ⟨2, 0, none⟩)) (ptrTo (karr 64 (kint .u32)) G_digest_rounds)))] a w → K7 a w := by
    intro y1 a20 w20 h3 s20
    unfold digest_Hash_Sum.j1 at h3
    refine hK7 _ _ ?_
    refine wp_seq_k fun K8 hK8 => ?_
    refine wp_seq_k fun K9 hK9 => ?_
    refine wp_region_lit ?_
    refine seq_op s20 rfl rfl (of_decide_eq_true rfl) (ob_assign rfl (opd_int rfl)) fun a21 w21 s21 => ?_; clear s20
    refine wpList_nil ?_
    refine then_normal ?_
    refine hK9 _ _ ?_
    have s22 := s21.sub (.cons (t := 2) rfl (.cons (t := 3) rfl (.cons (t := 4) rfl (.cons (t := 100001) rfl (.cons (t := 100002) rfl .nil))))); clear s21
    have hj2 : ∀ (y2 : digest_Hash) (a : Act) (w : World), (digest_Hash_Sum.j2 k) y2 = some r → St ⟨64, w0, ok, []⟩ [BF b1 23 (karr 32 (kint .u8)) (List.replicate 32 (0 : Int)), BF b2 64 k_digest_Hash y2] [(2, (ptrB b1 0)), (3, (ptrB b2 0)), (100001, (known (.pointer (some ⟨1, 0, none⟩)) (ptrTo (karr 8 (kint .u32)) G_digest_first))), (100002, (known (.pointer (some ⟨2, 0, none⟩)) (ptrTo (karr 64 (kint .u32)) G_digest_rounds)))] a w → K8 a w := by
      intro y2 a23 w23 h4 s23
      unfold digest_Hash_Sum.j2 at h4
      refine hK8 _ _ ?_
      refine wp_seq_k fun K10 hK10 => ?_
      refine wp_region_lit ?_
      refine seq_opx (B' := (fun b3 : Nat => [BF b3 23 (karr 32 (kint .u8)) (List.replicate 32 (0 : Int)), BF b1 23 (karr 32 (kint .u8)) (List.replicate 32 (0 : Int)), BF b2 64 k_digest_Hash y2])) s23 rfl rfl (of_decide_eq_true rfl) (ob_new (k := (karr 32 (kint .u8))) rfl zz23 (Zr.arr 32 (Zr.int .u8))) fun b3 a24 w24 s24 => ?_; clear s23
      refine wpList_nil ?_
      refine then_normal ?_
      refine hK10 _ _ ?_
      have s25 := s24.sub (.cons (t := 2) rfl (.cons (t := 3) rfl (.cons (t := 5) rfl (.cons (t := 100001) rfl (.cons (t := 100002) rfl .nil))))); clear s24
      refine wp_seq_k fun K11 hK11 => ?_
      refine wp_seq_k fun K12 hK12 => ?_
      refine wp_region_lit ?_
      refine seq_op s25 rfl rfl (of_decide_eq_true rfl) (ob_fieldAddr (off' := 1) rfl Tryd.underlying64 rfl sz60 (by decide) (.tmp rfl) rfl) fun a26 w26 s26 => ?_; clear s25
      refine seq_op s26 rfl rfl (of_decide_eq_true rfl) (ob_load rfl tk60 (.tmp rfl) (.tail _ (.tail _ (.head _))) (lg_digest_Hash_state y2)) fun a27 w27 s27 => ?_; clear s26
      refine seq_op s27 rfl rfl (of_decide_eq_true rfl) (ob_move rfl (opd_int rfl)) fun a28 w28 s28 => ?_; clear s27
      refine wpList_nil ?_
      refine then_normal ?_
      refine hK12 _ _ ?_
      have s29 := s28.sub (.cons (t := 2) rfl (.cons (t := 5) rfl (.cons (t := 31) rfl (.cons (t := 32) rfl (.cons (t := 100001) rfl (.cons (t := 100002) rfl .nil)))))); clear s28
      have s30 := St.drop (A := [_, _]) s29; clear s29
      have hj3 : ∀ (y3 : (List Int)) (a : Act) (w : World), (digest_Hash_Sum.j3 k) y3 = some r → St ⟨64, w0, ok, []⟩ [BF b1 23 (karr 32 (kint .u8)) (List.replicate 32 (0 : Int)), BF b3 23 (karr 32 (kint .u8)) y3] [(2, (ptrB b1 0)), (5, (ptrB b3 0)), (100001, (known (.pointer (some ⟨1, 0, none⟩)) (ptrTo (karr 8 (kint .u32)) G_digest_first))), (100002, (known (.pointer (some ⟨2, 0, none⟩)) (ptrTo (karr 64 (kint .u32)) G_digest_rounds)))] a w → K11 a w := by
        intro y3 a31 w31 h5 s31
        unfold digest_Hash_Sum.j3 at h5
        refine hK11 _ _ ?_
        refine wp_seq_k fun K13 hK13 => ?_
        refine wp_region_lit ?_
        refine seq_op s31 rfl rfl (of_decide_eq_true rfl) (ob_load rfl tk23 (.tmp rfl) (.tail _ (.head _)) (LG.refl _ _)) fun a32 w32 s32 => ?_; clear s31
        refine seq_opx0 (B' := (fun _ : Unit => [BF b1 23 (karr 32 (kint .u8)) y3, BF b3 23 (karr 32 (kint .u8)) y3])) s32 rfl rfl (ob_store (A := []) rfl tk23 (.tmp rfl) (.tmp rfl) rfl (LS.refl _ _ _) rfl) fun _ a33 w33 s33 => ?_; clear s32
        refine wpList_nil ?_
        refine then_normal ?_
        refine hK13 _ _ ?_
        have s34 := s33.sub (.cons (t := 2) rfl (.cons (t := 100001) rfl (.cons (t := 100002) rfl .nil))); clear s33
        have s35 := St.drop (A := [_]) s34; clear s34
        refine wp_ret ?_
        obtain rfl := Option.some.inj h5
        exact leave s35 (.inl rfl) rfl (.cons (.cell rfl tk23 (.head _) (LG.refl _ _)) .nil)
      refine wp_block ?_
      have s36 := s30.perm (toFront [_] (toFront [] (List.Perm.refl _))); clear s30
      refine wp_loop_fuel (fun m (q : Int × (List Int)) => digest_Hash_Sum.l1 k y2 m q.1 q.2) r (fun _ => rfl) (fun q a w => St ⟨64, w0, ok, []⟩ [BF b1 23 (karr 32 (kint .u8)) (List.replicate 32 (0 : Int)), BF b3 23 (karr 32 (kint .u8)) q.2] [(2, (ptrB b1 0)), (5, (ptrB b3 0)), (31, ((karr 8 (kint .u32)).V y2.state)), (32, ((kint .i64).V q.1)), (100001, (known (.pointer (some ⟨1, 0, none⟩)) (ptrTo (karr 8 (kint .u32)) G_digest_first))), (100002, (known (.pointer (some ⟨2, 0, none⟩)) (ptrTo (karr 64 (kint .u32)) G_digest_rounds)))] a w) ?_ k ((0 : Int), (List.replicate 32 (0 : Int))) _ _ h4 (s36.sub (.cons rfl (.cons rfl (.cons rfl (.cons rfl (.cons rfl (.cons rfl .nil)))))))
      rintro n1 ⟨y4, y5⟩ a37 w37 h6 s37 K14 hK14
      replace h6 : digest_Hash_Sum.l1 k y2 (n1 + 1) y4 y5 = some r := h6; rw [digest_Hash_Sum.l1] at h6
      have h7 := h6; clear h6
      refine wp_seq_k fun K15 hK15 => ?_
      refine wp_region_lit ?_
      refine seq_op s37 rfl rfl (of_decide_eq_true rfl) (ob_lss rfl (.tmp rfl) (opd_int rfl)) fun a38 w38 s38 => ?_; clear s37
      refine wpList_nil ?_
      refine then_normal ?_
      refine hK15 _ _ ?_
      have s39 := s38.sub (.cons (t := 2) rfl (.cons (t := 5) rfl (.cons (t := 31) rfl (.cons (t := 32) rfl (.cons (t := 33) rfl (.cons (t := 100001) rfl (.cons (t := 100002) rfl .nil))))))); clear s38
      refine wp_seq_k fun K16 hK16 => ?_
      refine cond_split s39 (.tmp rfl) (fun hc2 => ?_) (fun hc2 => ?_)
      · replace h7 := ite_t hc2 h7
        have h8 := h7; clear h7
        refine wp_skip ?_
        refine then_normal ?_
        refine hK16 _ _ ?_
        have s40 := s39.sub (.cons (t := 2) rfl (.cons (t := 5) rfl (.cons (t := 31) rfl (.cons (t := 32) rfl (.cons (t := 100001) rfl (.cons (t := 100002) rfl .nil)))))); clear s39
        refine wp_seq_k fun K17 hK17 => ?_
        refine wp_block ?_
        refine wp_seq_k fun K18 hK18 => ?_
        refine wp_region_lit ?_
        refine seq_op s40 rfl rfl (of_decide_eq_true rfl) (ob_move rfl (.tmp rfl)) fun a41 w41 s41 => ?_; clear s40
        obtain ⟨x3, e_x3, h9⟩ := bind_some h8; clear h8
        obtain ⟨g1, h10⟩ := guard_some h9; clear h9
        refine seq_op s41 rfl rfl (of_decide_eq_true rfl) (ob_index rfl Tryd.underlying60 tk59 (.tmp rfl) (.tmp rfl) g1 e_x3) fun a42 w42 s42 => ?_; clear s41
        refine seq_op s42 rfl rfl (of_decide_eq_true rfl) (ob_assign rfl (.tmp rfl)) fun a43 w43 s43 => ?_; clear s42
        refine seq_op s43 rfl rfl (of_decide_eq_true rfl) (ob_assign rfl (.tmp rfl)) fun a44 w44 s44 => ?_; clear s43
        refine wpList_nil ?_
        refine then_normal ?_
        refine hK18 _ _ ?_
        have s45 := s44.sub (.cons (t := 2) rfl (.cons (t := 5) rfl (.cons (t := 6) rfl (.cons (t := 7) rfl (.cons (t := 31) rfl (.cons (t := 32) rfl (.cons (t := 100001) rfl (.cons (t := 100002) rfl .nil)))))))); clear s44
        refine wp_region_lit ?_
        refine seq_op s45 rfl rfl (of_decide_eq_true rfl) (ob_move rfl (.tmp rfl)) fun a46 w46 s46 => ?_; clear s45
        refine seq_op s46 rfl rfl (of_decide_eq_true rfl) (ob_mul rfl (opd_int rfl) (.tmp rfl)) fun a47 w47 s47 => ?_; clear s46
        refine seq_op s47 rfl rfl (of_decide_eq_true rfl) (ob_move rfl (.tmp rfl)) fun a48 w48 s48 => ?_; clear s47
        refine seq_op s48 rfl rfl (of_decide_eq_true rfl) (ob_mul rfl (opd_int rfl) (.tmp rfl)) fun a49 w49 s49 => ?_; clear s48
        refine seq_op s49 rfl rfl (of_decide_eq_true rfl) (ob_add rfl (.tmp rfl) (opd_int rfl)) fun a50 w50 s50 => ?_; clear s49
        refine seq_op s50 rfl rfl (of_decide_eq_true rfl) (ob_move rfl (.tmp rfl)) fun a51 w51 s51 => ?_; clear s50
        refine seq_op s51 rfl rfl (of_decide_eq_true rfl) (ob_mul rfl (opd_int rfl) (.tmp rfl)) fun a52 w52 s52 => ?_; clear s51
        refine seq_op s52 rfl rfl (of_decide_eq_true rfl) (ob_add rfl (.tmp rfl) (opd_int rfl)) fun a53 w53 s53 => ?_; clear s52
        refine seq_op s53 rfl rfl (of_decide_eq_true rfl) (ob_move rfl (.tmp rfl)) fun a54 w54 s54 => ?_; clear s53
        refine seq_op s54 rfl rfl (of_decide_eq_true rfl) (ob_mul rfl (opd_int rfl) (.tmp rfl)) fun a55 w55 s55 => ?_; clear s54
        refine seq_op s55 rfl rfl (of_decide_eq_true rfl) (ob_add rfl (.tmp rfl) (opd_int rfl)) fun a56 w56 s56 => ?_; clear s55
        refine seq_op s56 rfl rfl (of_decide_eq_true rfl) (ob_move rfl (.tmp rfl)) fun a57 w57 s57 => ?_; clear s56
        refine seq_op s57 rfl rfl (of_decide_eq_true rfl) (ob_shr rfl (.tmp rfl) (opd_int rfl) (by decide)) fun a58 w58 s58 => ?_; clear s57
        refine seq_op s58 rfl rfl (of_decide_eq_true rfl) (ob_conv rfl _ Tryd.underlying59 Tryd.underlying5 (.tmp rfl)) fun a59 w59 s59 => ?_; clear s58
        refine seq_op s59 rfl rfl (of_decide_eq_true rfl) (ob_move rfl (.tmp rfl)) fun a60 w60 s60 => ?_; clear s59
        refine seq_op s60 rfl rfl (of_decide_eq_true rfl) (ob_shr rfl (.tmp rfl) (opd_int rfl) (by decide)) fun a61 w61 s61 => ?_; clear s60
        refine seq_op s61 rfl rfl (of_decide_eq_true rfl) (ob_conv rfl _ Tryd.underlying59 Tryd.underlying5 (.tmp rfl)) fun a62 w62 s62 => ?_; clear s61
        refine seq_op s62 rfl rfl (of_decide_eq_true rfl) (ob_move rfl (.tmp rfl)) fun a63 w63 s63 => ?_; clear s62
        refine seq_op s63 rfl rfl (of_decide_eq_true rfl) (ob_shr rfl (.tmp rfl) (opd_int rfl) (by decide)) fun a64 w64 s64 => ?_; clear s63
        refine seq_op s64 rfl rfl (of_decide_eq_true rfl) (ob_conv rfl _ Tryd.underlying59 Tryd.underlying5 (.tmp rfl)) fun a65 w65 s65 => ?_; clear s64
        refine seq_op s65 rfl rfl (of_decide_eq_true rfl) (ob_move rfl (.tmp rfl)) fun a66 w66 s66 => ?_; clear s65
        refine seq_op s66 rfl rfl (of_decide_eq_true rfl) (ob_conv rfl _ Tryd.underlying59 Tryd.underlying5 (.tmp rfl)) fun a67 w67 s67 => ?_; clear s66
        obtain ⟨g2, h11⟩ := guard_some h10; clear h10
        refine seq_op s67 rfl rfl (of_decide_eq_true rfl) (ob_indexAddr rfl Tryd.underlying23 sz5 (.tmp rfl) (.tmp rfl) g2.1 g2.2 (Nat.zero_add _)) fun a68 w68 s68 => ?_; clear s67
        obtain ⟨x4, e_x4, h12⟩ := bind_some h11; clear h11
        refine seq_opx0 (B' := (fun _ : Unit => [BF b1 23 (karr 32 (kint .u8)) (List.replicate 32 (0 : Int)), BF b3 23 (karr 32 (kint .u8)) x4])) s68 rfl rfl (ob_store (A := [_]) rfl tk5 (.tmp rfl) (.tmp rfl) rfl (LS.arrS e_x4) rfl) fun _ a69 w69 s69 => ?_; clear s68
        obtain ⟨g3, h13⟩ := guard_some h12; clear h12
        refine seq_op s69 rfl rfl (of_decide_eq_true rfl) (ob_indexAddr rfl Tryd.underlying23 sz5 (.tmp rfl) (.tmp rfl) g3.1 g3.2 (Nat.zero_add _)) fun a70 w70 s70 => ?_; clear s69
        obtain ⟨x5, e_x5, h14⟩ := bind_some h13; clear h13
        refine seq_opx0 (B' := (fun _ : Unit => [BF b1 23 (karr 32 (kint .u8)) (List.replicate 32 (0 : Int)), BF b3 23 (karr 32 (kint .u8)) x5])) s70 rfl rfl (ob_store (A := [_]) rfl tk5 (.tmp rfl) (.tmp rfl) rfl (LS.arrS e_x5) rfl) fun _ a71 w71 s71 => ?_; clear s70
        obtain ⟨g4, h15⟩ := guard_some h14; clear h14
        refine seq_op s71 rfl rfl (of_decide_eq_true rfl) (ob_indexAddr rfl Tryd.underlying23 sz5 (.tmp rfl) (.tmp rfl) g4.1 g4.2 (Nat.zero_add _)) fun a72 w72 s72 => ?_; clear s71
        obtain ⟨x6, e_x6, h16⟩ := bind_some h15; clear h15
        refine seq_opx0 (B' := (fun _ : Unit => [BF b1 23 (karr 32 (kint .u8)) (List.replicate 32 (0 : Int)), BF b3 23 (karr 32 (kint .u8)) x6])) s72 rfl rfl (ob_store (A := [_]) rfl tk5 (.tmp rfl) (.tmp rfl) rfl (LS.arrS e_x6) rfl) fun _ a73 w73 s73 => ?_; clear s72
        obtain ⟨g5, h17⟩ := guard_some h16; clear h16
        refine seq_op s73 rfl rfl (of_decide_eq_true rfl) (ob_indexAddr rfl Tryd.underlying23 sz5 (.tmp rfl) (.tmp rfl) g5.1 g5.2 (Nat.zero_add _)) fun a74 w74 s74 => ?_; clear s73
        obtain ⟨x7, e_x7, h18⟩ := bind_some h17; clear h17
        refine seq_opx0 (B' := (fun _ : Unit => [BF b1 23 (karr 32 (kint .u8)) (List.replicate 32 (0 : Int)), BF b3 23 (karr 32 (kint .u8)) x7])) s74 rfl rfl (ob_store (A := [_]) rfl tk5 (.tmp rfl) (.tmp rfl) rfl (LS.arrS e_x7) rfl) fun _ a75 w75 s75 => ?_; clear s74
        refine wpList_nil ?_
        refine in_normal ?_
        refine then_normal ?_
        refine hK17 _ _ ?_
        have s76 := s75.sub (.cons (t := 2) rfl (.cons (t := 5) rfl (.cons (t := 31) rfl (.cons (t := 32) rfl (.cons (t := 100001) rfl (.cons (t := 100002) rfl .nil)))))); clear s75
        refine wp_region_lit ?_
        refine seq_op s76 rfl rfl (of_decide_eq_true rfl) (ob_add rfl (.tmp rfl) (opd_int rfl)) fun a77 w77 s77 => ?_; clear s76
        refine seq_op s77 rfl rfl (of_decide_eq_true rfl) (ob_move rfl (.tmp rfl)) fun a78 w78 s78 => ?_; clear s77
        refine wpList_nil ?_
        refine then_normal ?_
        exact hK14 ((iadd .i64 y4 (1 : Int)), x7) _ _ h18 (s78.sub (.cons rfl (.cons rfl (.cons rfl (.cons rfl (.cons rfl (.cons rfl .nil)))))))
      · replace h7 := ite_f hc2 h7
        have h19 := h7; clear h7
        refine wp_exit ?_
        refine (then_exit (then_exit (in_here ?_)))
        refine then_normal ?_
        exact hj3 y5 _ _ h19 (s39.sub (.cons rfl (.cons rfl (.cons rfl (.cons rfl .nil)))))
    refine wp_block ?_
    refine wp_loop_fuel (fun m (q : Int × digest_Hash) => digest_Hash_Sum.l2 k m q.1 q.2) r (fun _ => rfl) (fun q a w => St ⟨64, w0, ok, []⟩ [BF b1 23 (karr 32 (kint .u8)) (List.replicate 32 (0 : Int)), BF b2 64 k_digest_Hash q.2] [(2, (ptrB b1 0)), (3, (ptrB b2 0)), (4, ((kint .i64).V q.1)), (100001, (known (.pointer (some ⟨1, 0, none⟩)) (ptrTo (karr 8 (kint .u32)) G_digest_first))), (100002, (known (.pointer (some ⟨2, 0, none⟩)) (ptrTo (karr 64 (kint .u32)) G_digest_rounds)))] a w) ?_ k ((56 : Int), y1) _ _ h3 (s22.sub (.cons rfl (.cons rfl (.cons rfl (.cons rfl (.cons rfl .nil))))))
    rintro n2 ⟨y6, y7⟩ a79 w79 h20 s79 K19 hK19
    replace h20 : digest_Hash_Sum.l2 k (n2 + 1) y6 y7 = some r := h20; rw [digest_Hash_Sum.l2] at h20
    have h21 := h20; clear h20
    refine wp_seq_k fun K20 hK20 => ?_
    refine wp_seq_k fun K21 hK21 => ?_
    refine wp_region_lit ?_
    refine seq_op s79 rfl rfl (of_decide_eq_true rfl) (ob_move rfl (.tmp rfl)) fun a80 w80 s80 => ?_; clear s79
    refine seq_op s80 rfl rfl (of_decide_eq_true rfl) (ob_geq rfl (.tmp rfl) (opd_int rfl)) fun a81 w81 s81 => ?_; clear s80
    refine wpList_nil ?_
    refine then_normal ?_
    refine hK21 _ _ ?_
    have s82 := s81.sub (.cons (t := 2) rfl (.cons (t := 3) rfl (.cons (t := 4) rfl (.cons (t := 20) rfl (.cons (t := 100001) rfl (.cons (t := 100002) rfl .nil)))))); clear s81
    refine cond_split s82 (.tmp rfl) (fun hc3 => ?_) (fun hc3 => ?_)
    · replace h21 := ite_t hc3 h21
      have h22 := h21; clear h21
      refine wp_skip ?_
      refine then_normal ?_
      refine hK20 _ _ ?_
      have s83 := s82.sub (.cons (t := 2) rfl (.cons (t := 3) rfl (.cons (t := 4) rfl (.cons (t := 100001) rfl (.cons (t := 100002) rfl .nil))))); clear s82
      refine wp_seq_k fun K22 hK22 => ?_
      refine wp_block ?_
      refine wp_region_lit ?_
      refine seq_op s83 rfl rfl (of_decide_eq_true rfl) (ob_fieldAddr (off' := 74) rfl Tryd.underlying64 rfl sz62 (by decide) (.tmp rfl) rfl) fun a84 w84 s84 => ?_; clear s83
      refine seq_op s84 rfl rfl (of_decide_eq_true rfl) (ob_load rfl tk62 (.tmp rfl) (.tail _ (.head _)) (lg_digest_Hash_taken y7)) fun a85 w85 s85 => ?_; clear s84
      refine seq_op s85 rfl rfl (of_decide_eq_true rfl) (ob_mul rfl (opd_int rfl) (.tmp rfl)) fun a86 w86 s86 => ?_; clear s85
      refine seq_op s86 rfl rfl (of_decide_eq_true rfl) (ob_move rfl (.tmp rfl)) fun a87 w87 s87 => ?_; clear s86
      obtain ⟨g6, h23⟩ := guard_some h22; clear h22
      refine seq_op s87 rfl rfl (of_decide_eq_true rfl) (ob_shr rfl (.tmp rfl) (.tmp rfl) g6) fun a88 w88 s88 => ?_; clear s87
      refine seq_op s88 rfl rfl (of_decide_eq_true rfl) (ob_conv rfl _ Tryd.underlying62 Tryd.underlying5 (.tmp rfl)) fun a89 w89 s89 => ?_; clear s88
      obtain ⟨x8, e_x8, h24⟩ := bind_some h23; clear h23
      refine seq_opx (B' := (fun _ : Unit => [BF b2 64 k_digest_Hash x8, BF b1 23 (karr 32 (kint .u8)) (List.replicate 32 (0 : Int))])) s89 rfl rfl (of_decide_eq_true rfl) (ob_callL (args := [_, _]) (L := [_]) rfl .direct hb32 (toFront [_] (List.Perm.refl _)) (fun a w s fs gs hf hg => by obtain rfl := hf.unnil; obtain rfl := hg.unnil; exact c_digest_Hash_put k _ _ _ e_x8 _ _ (s.env _ _ (show get _ 100002 = _ from rfl)) _ _ _ (ownL s) (disL s) (nodL s) (s.arg (.tmp rfl)) (s.arg (.tmp rfl))) (by exact fun _ => rfl)) fun _ a90 w90 s90 => ?_; clear s89
      refine wpList_nil ?_
      refine in_normal ?_
      refine then_normal ?_
      refine hK22 _ _ ?_
      have s91 := s90.sub (.cons (t := 2) rfl (.cons (t := 3) rfl (.cons (t := 4) rfl (.cons (t := 100001) rfl (.cons (t := 100002) rfl .nil))))); clear s90
      refine wp_region_lit ?_
      refine seq_op s91 rfl rfl (of_decide_eq_true rfl) (ob_move rfl (.tmp rfl)) fun a92 w92 s92 => ?_; clear s91
      refine seq_op s92 rfl rfl (of_decide_eq_true rfl) (ob_sub rfl (.tmp rfl) (opd_int rfl)) fun a93 w93 s93 => ?_; clear s92
      refine seq_op s93 rfl rfl (of_decide_eq_true rfl) (ob_assign rfl (.tmp rfl)) fun a94 w94 s94 => ?_; clear s93
      refine wpList_nil ?_
      refine then_normal ?_
      have s95 := s94.perm (toFront [_] (toFront [] (List.Perm.refl _))); clear s94
      exact hK19 ((isub .i64 y6 (8 : Int)), x8) _ _ h24 (s95.sub (.cons rfl (.cons rfl (.cons rfl (.cons rfl (.cons rfl .nil))))))
    · replace h21 := ite_f hc3 h21
      have h25 := h21; clear h21
      refine wp_exit ?_
      refine (then_exit (then_exit (in_here ?_)))
      refine then_normal ?_
      exact hj2 y7 _ _ h25 (s82.sub (.cons rfl (.cons rfl (.cons rfl (.cons rfl .nil)))))
  refine wp_block ?_
  have s96 := s19.perm (toFront [_] (toFront [] (List.Perm.refl _))); clear s19
  refine wp_loop_fuel (fun m (q : digest_Hash) => digest_Hash_Sum.l3 k m q) r (fun _ => rfl) (fun q a w => St ⟨64, w0, ok, []⟩ [BF b1 23 (karr 32 (kint .u8)) (List.replicate 32 (0 : Int)), BF b2 64 k_digest_Hash q] [(2, (ptrB b1 0)), (3, (ptrB b2 0)), (100001, (known (.pointer (some ⟨1, 0, none⟩)) (ptrTo (karr 8 (kint .u32)) G_digest_first))), (100002, (known (.pointer (some ⟨2, 0, none⟩)) (ptrTo (karr 64 (kint .u32)) G_digest_rounds)))] a w) ?_ k x2 _ _ h2 (s96.sub (.cons rfl (.cons rfl (.cons rfl (.cons rfl .nil)))))
  rintro n3 y8 a97 w97 h26 s97 K23 hK23
  replace h26 : digest_Hash_Sum.l3 k (n3 + 1) y8 = some r := h26; rw [digest_Hash_Sum.l3] at h26
  have h27 := h26; clear h26
  refine wp_seq_k fun K24 hK24 => ?_
  refine wp_seq_k fun K25 hK25 => ?_
  refine wp_region_lit ?_
  refine seq_op s97 rfl rfl (of_decide_eq_true rfl) (ob_fieldAddr (off' := 73) rfl Tryd.underlying64 rfl sz3 (by decide) (.tmp rfl) rfl) fun a98 w98 s98 => ?_; clear s97
  refine seq_op s98 rfl rfl (of_decide_eq_true rfl) (ob_load rfl tk3 (.tmp rfl) (.tail _ (.head _)) (lg_digest_Hash_many y8)) fun a99 w99 s99 => ?_; clear s98
  refine seq_op s99 rfl rfl (of_decide_eq_true rfl) (ob_neq rfl (.tmp rfl) (opd_int rfl)) fun a100 w100 s100 => ?_; clear s99
  refine wpList_nil ?_
  refine then_normal ?_
  refine hK25 _ _ ?_
  have s101 := s100.sub (.cons (t := 2) rfl (.cons (t := 3) rfl (.cons (t := 17) rfl (.cons (t := 100001) rfl (.cons (t := 100002) rfl .nil))))); clear s100
  refine cond_split s101 (.tmp rfl) (fun hc4 => ?_) (fun hc4 => ?_)
  · replace h27 := ite_t hc4 h27
    have h28 := h27; clear h27
    refine wp_skip ?_
    refine then_normal ?_
    refine hK24 _ _ ?_
    have s102 := s101.sub (.cons (t := 2) rfl (.cons (t := 3) rfl (.cons (t := 100001) rfl (.cons (t := 100002) rfl .nil)))); clear s101
    refine wp_block ?_
    refine wp_region_lit ?_
    obtain ⟨x9, e_x9, h29⟩ := bind_some h28; clear h28
    refine seq_opx (B' := (fun _ : Unit => [BF b2 64 k_digest_Hash x9, BF b1 23 (karr 32 (kint .u8)) (List.replicate 32 (0 : Int))])) s102 rfl rfl (of_decide_eq_true rfl) (ob_callL (args := [_, _]) (L := [_]) rfl .direct hb32 (toFront [_] (List.Perm.refl _)) (fun a w s fs gs hf hg => by obtain rfl := hf.unnil; obtain rfl := hg.unnil; exact c_digest_Hash_put k _ _ _ e_x9 _ _ (s.env _ _ (show get _ 100002 = _ from rfl)) _ _ _ (ownL s) (disL s) (nodL s) (s.arg (.tmp rfl)) (s.arg (opd_int rfl))) (by exact fun _ => rfl)) fun _ a103 w103 s103 => ?_; clear s102
    refine wpList_nil ?_
    refine in_normal ?_
    refine then_normal ?_
    have s104 := s103.perm (toFront [_] (toFront [] (List.Perm.refl _))); clear s103
    exact hK23 x9 _ _ h29 (s104.sub (.cons rfl (.cons rfl (.cons rfl (.cons rfl .nil)))))
  · replace h27 := ite_f hc4 h27
    have h30 := h27; clear h27
    refine wp_exit ?_
    refine (then_exit (then_exit (in_here ?_)))
    refine then_normal ?_
    exact hj1 y8 _ _ h30 (s101.sub (.cons rfl (.cons rfl (.cons rfl (.cons rfl .nil)))))

/- 19 cabal/digest.Sum -/
theorem c_digest_Sum (k : Nat) (p1 : (List (List Int))) (r : (List Int)) (h0 : digest_Sum k p1 = some r) (ok : Ok) (w0 : World) (gl1 : (ptrTo (karr 8 (kint .u32)) G_digest_first).holds ok w0 (.pointer (some ⟨1, 0, none⟩))) (gl2 : (ptrTo (karr 64 (kint .u32)) G_digest_rounds).holds ok w0 (.pointer (some ⟨2, 0, none⟩))) (z0 : Value) (u0 : ((ksl kstr).V p1).holds ok w0 z0) :
    Gives Tryd.prog 19 [z0] ok w0 (resFact [(karr 32 (kint .u8)).V r]) := by
  unfold digest_Sum at h0
  refine enter (N := 7) Tryd.func19 rfl rfl (of_decide_eq_true rfl) (.cons u0 .nil) fun a1 s1 => ?_
  have s2 := s1.keepKnown 100001 gl1 okIn; clear s1
  have s3 := s2.keepKnown 100002 gl2 okIn; clear s2
  refine wp_seq_k fun K1 hK1 => ?_
  refine wp_region_lit ?_
  refine seq_opx (B' := (fun b1 : Nat => [BF b1 23 (karr 32 (kint .u8)) (List.replicate 32 (0 : Int))])) s3 rfl rfl (of_decide_eq_true rfl) (ob_new (k := (karr 32 (kint .u8))) rfl zz23 (Zr.arr 32 (Zr.int .u8))) fun b1 a4 w4 s4 => ?_; clear s3
  refine wpList_nil ?_
  refine then_normal ?_
  refine hK1 _ _ ?_
  have s5 := s4.sub (.cons (t := 0) rfl (.cons (t := 2) rfl (.cons (t := 100001) rfl (.cons (t := 100002) rfl .nil)))); clear s4
  refine wp_seq_k fun K2 hK2 => ?_
  refine wp_region_lit ?_
  refine seq_opx (B' := (fun b2 : Nat => [BF b2 64 k_digest_Hash (⟨false, (List.replicate 8 (0 : Int)), (List.replicate 64 (0 : Int)), (0 : Int), (0 : Int)⟩ : digest_Hash), BF b1 23 (karr 32 (kint .u8)) (List.replicate 32 (0 : Int))])) s5 rfl rfl (of_decide_eq_true rfl) (ob_new (k := k_digest_Hash) rfl zz64 (Zr.iso (f := t_digest_Hash) (x := (⟨false, (List.replicate 8 (0 : Int)), (List.replicate 64 (0 : Int)), (0 : Int), (0 : Int)⟩ : digest_Hash)) (Zr.pair Zr.bool (Zr.pair (Zr.arr 8 (Zr.int .u32)) (Zr.pair (Zr.arr 64 (Zr.int .u8)) (Zr.pair (Zr.int .i64) (Zr.pair (Zr.int .u64) Zr.nil))))))) fun b2 a6 w6 s6 => ?_; clear s5
  refine wpList_nil ?_
  refine then_normal ?_
  refine hK2 _ _ ?_
  have s7 := s6.sub (.cons (t := 0) rfl (.cons (t := 2) rfl (.cons (t := 3) rfl (.cons (t := 100001) rfl (.cons (t := 100002) rfl .nil))))); clear s6
  refine wp_seq_k fun K3 hK3 => ?_
  refine wp_region_lit ?_
  refine seq_op s7 rfl rfl (of_decide_eq_true rfl) (ob_move rfl (.tmp rfl)) fun a8 w8 s8 => ?_; clear s7
  obtain ⟨x1, e_x1, h1⟩ := bind_some h0; clear h0
  refine seq_opx (B' := (fun _ : Unit => [BF b2 64 k_digest_Hash x1, BF b1 23 (karr 32 (kint .u8)) (List.replicate 32 (0 : Int))])) s8 rfl rfl (of_decide_eq_true rfl) (ob_callL (args := [_, _]) (L := [_]) rfl .direct hb26 (List.Perm.refl _) (fun a w s fs gs hf hg => by obtain rfl := hf.unnil; obtain rfl := hg.unnil; exact c_digest_Hash_Write k _ _ _ e_x1 _ _ (s.env _ _ (show get _ 100001 = _ from rfl)) (s.env _ _ (show get _ 100002 = _ from rfl)) _ _ _ (ownL s) (disL s) (nodL s) (s.arg (.tmp rfl)) (s.arg (.tmp rfl))) (by exact fun _ => rfl)) fun _ a9 w9 s9 => ?_; clear s8
  refine wpList_nil ?_
  refine then_normal ?_
  refine hK3 _ _ ?_
  have s10 := s9.sub (.cons (t := 2) rfl (.cons (t := 3) rfl (.cons (t := 100001) rfl (.cons (t := 100002) rfl .nil)))); clear s9
  refine wp_seq_k fun K4 hK4 => ?_
  refine wp_region_lit ?_
  obtain ⟨x2, e_x2, h2⟩ := bind_some h1; clear h1
  refine seq_op s10 rfl rfl (of_decide_eq_true rfl) ((ob_lendG (L := [_]) (List.Perm.refl _) (.cons (t := 3) rfl (lendPtrB (.head _) (LG.refl _ _)) .nil) (Flat.res1 (Flat.V (KFlat.arr (KFlat.int _)))) (fun _ => ob_callD (args := [_]) rfl .direct hb27 (fun a w s fs gs hf hg => by obtain rfl := hf.unnil; obtain rfl := hg.unnil; exact c_digest_Hash_Sum k _ _ e_x2 _ _ (s.env _ _ (show get _ 100001 = _ from rfl)) (s.env _ _ (show get _ 100002 = _ from rfl)) _ (s.arg (.tmp rfl)))))) fun a11 w11 s11 => ?_; clear s10
  refine seq_opx0 (B' := (fun _ : Unit => [BF b2 64 k_digest_Hash x1, BF b1 23 (karr 32 (kint .u8)) x2])) s11 rfl rfl (ob_store (A := [_]) rfl tk23 (.tmp rfl) (.tmp rfl) rfl (LS.refl _ _ _) rfl) fun _ a12 w12 s12 => ?_; clear s11
  refine wpList_nil ?_
  refine then_normal ?_
  refine hK4 _ _ ?_
  have s13 := s12.sub (.cons (t := 2) rfl (.cons (t := 100001) rfl (.cons (t := 100002) rfl .nil))); clear s12
  have s14 := St.drop (A := []) s13; clear s13
  refine wp_ret ?_
  obtain rfl := Option.some.inj h2
  exact leave s14 (.inl rfl) rfl (.cons (.cell rfl tk23 (.head _) (LG.refl _ _)) .nil)

/- 8 cabal/code.Both -/
theorem c_code_Both (k : Nat) (p1 : (List Int)) (p2 : (List Int)) (r : (List Int)) (h0 : code_Both k p1 p2 = some r) (ok : Ok) (w0 : World) (gl1 : (ptrTo (karr 8 (kint .u32)) G_digest_first).holds ok w0 (.pointer (some ⟨1, 0, none⟩))) (gl2 : (ptrTo (karr 64 (kint .u32)) G_digest_rounds).holds ok w0 (.pointer (some ⟨2, 0, none⟩))) (z0 : Value) (z1 : Value) (u0 : ((karr 32 (kint .u8)).V p1).holds ok w0 z0) (u1 : ((karr 32 (kint .u8)).V p2).holds ok w0 z1) :
    Gives Tryd.prog 8 [z0, z1] ok w0 (resFact [kstr.V r]) := by
  unfold code_Both at h0
  refine enter (N := 18) Tryd.func8 rfl rfl (of_decide_eq_true rfl) (.cons u0 (.cons u1 .nil)) fun a1 s1 => ?_
  have s2 := s1.keepKnown 100001 gl1 okIn; clear s1
  have s3 := s2.keepKnown 100002 gl2 okIn; clear s2
  refine wp_seq_k fun K1 hK1 => ?_
  refine wp_region_lit ?_
  refine seq_opx (B' := (fun b1 : Nat => [BF b1 23 (karr 32 (kint .u8)) p1])) s3 rfl rfl (of_decide_eq_true rfl) (ob_box rfl (.tmp rfl)) fun b1 a4 w4 s4 => ?_; clear s3
  refine seq_opx (B' := (fun b2 : Nat => [BF b2 23 (karr 32 (kint .u8)) p2, BF b1 23 (karr 32 (kint .u8)) p1])) s4 rfl rfl (of_decide_eq_true rfl) (ob_box rfl (.tmp rfl)) fun b2 a5 w5 s5 => ?_; clear s4
  refine seq_op s5 rfl rfl (of_decide_eq_true rfl) (ob_assign rfl (opd_str (by rfl) (by decide))) fun a6 w6 s6 => ?_; clear s5
  refine wpList_nil ?_
  refine then_normal ?_
  refine hK1 _ _ ?_
  have s7 := s6.sub (.cons (t := 2) rfl (.cons (t := 3) rfl (.cons (t := 100001) rfl (.cons (t := 100002) rfl .nil)))); clear s6
  refine wp_seq_k fun K2 hK2 => ?_
  refine wp_seq_k fun K3 hK3 => ?_
  refine wp_goes (Fs := [(is (.slice (some ⟨b1, soff 32 0 (0 : Int).toNat 1, none⟩) ((32 : Int).toNat - (0 : Int).toNat) (32 - (0 : Int).toNat))), (is (.slice (some ⟨b2, soff 32 0 (0 : Int).toNat 1, none⟩) ((32 : Int).toNat - (0 : Int).toNat) (32 - (0 : Int).toNat)))]) (bits := [0, 0, 3, 7]) (m := 2) (todo := 0) mx s7 ?_; clear s7
  refine goes_last (by kernel_rfl) rfl (opsS_cons (.plain _ (Av.old (t := 2) rfl rfl (Av.old (t := 100001) rfl rfl (Av.old (t := 100002) rfl rfl Av.nil))) rfl rfl (ob_sliceArr rfl Tryd.underlying23 sz5 (.tmp rfl) .none .none (show (0 : Int) ≤ (0 : Int) ∧ (0 : Int) ≤ (32 : Int) ∧ (32 : Int) ≤ ((32 : Nat) : Int) by decide))) (opsS_cons (.plain _ (Av.old (t := 3) rfl rfl (Av.old (t := 100001) rfl rfl (Av.old (t := 100002) rfl rfl Av.nil))) rfl rfl (ob_sliceArr rfl Tryd.underlying23 sz5 (.tmp rfl) .none .none (show (0 : Int) ≤ (0 : Int) ∧ (0 : Int) ≤ (32 : Int) ∧ (32 : Int) ≤ ((32 : Nat) : Int) by decide))) opsS_nil)) (out_old (t := 2) rfl rfl (out_old (t := 3) rfl rfl (out_new (i := 0) (by decide) rfl rfl (out_new (i := 1) (by decide) rfl rfl (out_old (t := 100001) rfl rfl (out_old (t := 100002) rfl rfl out_nil)))))) fun a8 w8 s8 => ?_
  obtain ⟨x1, e_x1, h1⟩ := bind_some h0; clear h0
  obtain ⟨x2, e_x2, h2⟩ := bind_some h1; clear h1
  obtain ⟨x3, e_x3, h3⟩ := bind_some h2; clear h2
  refine seq_op s8 rfl rfl (of_decide_eq_true rfl) ((ob_lendG (L := [_, _]) (toFront [_] (toFront [] (List.Perm.refl _))) (.cons (t := 5) rfl (lendSlB (.head _) (LG.refl _ _) e_x1 rfl (cut_len e_x1) (cut_cap e_x1 (show (0 : Int) ≤ (0 : Int) ∧ (0 : Int) ≤ (32 : Int) ∧ (32 : Int) ≤ ((32 : Nat) : Int) by decide) (by decide))) (.cons (t := 6) rfl (lendSlB (.tail _ (.head _)) (LG.refl _ _) e_x2 rfl (cut_len e_x2) (cut_cap e_x2 (show (0 : Int) ≤ (0 : Int) ∧ (0 : Int) ≤ (32 : Int) ∧ (32 : Int) ≤ ((32 : Nat) : Int) by decide) (by decide))) .nil)) (Flat.res1 (Flat.V (KFlat.int _))) (fun _ => ob_callD (args := [_, _]) rfl .direct hb18 (fun a w s fs gs hf hg => by obtain rfl := hf.unnil; obtain rfl := hg.unnil; exact c_bytes_Compare k _ _ _ e_x3 _ _ _ _ (s.arg (.tmp rfl)) (s.arg (.tmp rfl)))))) fun a9 w9 s9 => ?_; clear s8
  refine seq_op s9 rfl rfl (of_decide_eq_true rfl) (ob_gtr rfl (.tmp rfl) (opd_int rfl)) fun a10 w10 s10 => ?_; clear s9
  refine wpList_nil ?_
  refine then_normal ?_
  refine hK3 _ _ ?_
  have s11 := s10.sub (.cons (t := 2) rfl (.cons (t := 3) rfl (.cons (t := 8) rfl (.cons (t := 100001) rfl (.cons (t := 100002) rfl .nil))))); clear s10
  have hj1 : ∀ (y1 : (List Int)) (y2 : (List Int)) (a : Act) (w : World), (code_Both.j1 k) y1 y2 = some r → St ⟨18, w0, ok, []⟩ [BF b1 23 (karr 32 (kint .u8)) y1, BF b2 23 (karr 32 (kint .u8)) y2] [(2, (ptrB b1 0)), (3, (ptrB b2 0)), (100001, (known (.pointer (some ⟨1, 0, none⟩)) (ptrTo (karr 8 (kint .u32)) G_digest_first))), (100002, (known (.pointer (some ⟨2, 0, none⟩)) (ptrTo (karr 64 (kint .u32)) G_digest_rounds)))] a w → K2 a w := by
    intro y1 y2 a12 w12 h4 s12
    unfold code_Both.j1 at h4
    refine hK2 _ _ ?_
    refine wp_seq_k fun K4 hK4 => ?_
    obtain ⟨x4, e_x4, h5⟩ := bind_some h4; clear h4
    obtain ⟨x5, e_x5, h6⟩ := bind_some h5; clear h5
    refine wp_goes (Fs := [(is (.slice (some ⟨b1, soff 32 0 (0 : Int).toNat 1, none⟩) ((32 : Int).toNat - (0 : Int).toNat) (32 - (0 : Int).toNat))), (kstr.V x4), (is (.slice (some ⟨b2, soff 32 0 (0 : Int).toNat 1, none⟩) ((32 : Int).toNat - (0 : Int).toNat) (32 - (0 : Int).toNat))), (kstr.V x5)]) (bits := [0, 1, 0, 4, 15, 31, 63, 127]) (m := 4) (todo := 0) mx s12 ?_; clear s12
    refine goes_last (by kernel_rfl) rfl (opsS_cons (.plain _ (Av.old (t := 2) rfl rfl (Av.old (t := 100001) rfl rfl (Av.old (t := 100002) rfl rfl Av.nil))) rfl rfl (ob_sliceArr rfl Tryd.underlying23 sz5 (.tmp rfl) .none .none (show (0 : Int) ≤ (0 : Int) ∧ (0 : Int) ≤ (32 : Int) ∧ (32 : Int) ≤ ((32 : Nat) : Int) by decide))) (opsS_cons (.plain _ (Av.new (j := 0) rfl rfl rfl (Av.old (t := 100001) rfl rfl (Av.old (t := 100002) rfl rfl Av.nil))) rfl rfl ((ob_lendG (L := [_]) (List.Perm.refl _) (.cons (t := 11) rfl (lendSlB (.head _) (LG.refl _ _) e_x4 rfl (cut_len e_x4) (cut_cap e_x4 (show (0 : Int) ≤ (0 : Int) ∧ (0 : Int) ≤ (32 : Int) ∧ (32 : Int) ≤ ((32 : Nat) : Int) by decide) (by decide))) .nil) (Flat.V KFlat.str) (fun _ => ob_bytesToStr rfl Tryd.underlying38 Tryd.underlying9 Tryd.underlying5 (.tmp rfl))))) (opsS_cons (.plain _ (Av.old (t := 3) rfl rfl (Av.old (t := 100001) rfl rfl (Av.old (t := 100002) rfl rfl Av.nil))) rfl rfl (ob_sliceArr rfl Tryd.underlying23 sz5 (.tmp rfl) .none .none (show (0 : Int) ≤ (0 : Int) ∧ (0 : Int) ≤ (32 : Int) ∧ (32 : Int) ≤ ((32 : Nat) : Int) by decide))) (opsS_cons (.plain _ (Av.new (j := 2) rfl rfl rfl (Av.old (t := 100001) rfl rfl (Av.old (t := 100002) rfl rfl Av.nil))) rfl rfl ((ob_lendG (L := [_]) (toFront [_] (List.Perm.refl _)) (.cons (t := 13) rfl (lendSlB (.head _) (LG.refl _ _) e_x5 rfl (cut_len e_x5) (cut_cap e_x5 (show (0 : Int) ≤ (0 : Int) ∧ (0 : Int) ≤ (32 : Int) ∧ (32 : Int) ≤ ((32 : Nat) : Int) by decide) (by decide))) .nil) (Flat.V KFlat.str) (fun _ => ob_bytesToStr rfl Tryd.underlying38 Tryd.underlying9 Tryd.underlying5 (.tmp rfl))))) opsS_nil)))) (out_new (i := 1) (by decide) rfl rfl (out_new (i := 3) (by decide) rfl rfl (out_old (t := 100001) rfl rfl (out_old (t := 100002) rfl rfl out_nil)))) fun a13 w13 s13 => ?_
    refine seq_op s13 rfl rfl (of_decide_eq_true rfl) (ob_mkSlice (k := kstr) (xs := ([x4, x5] : (List (List Int)))) rfl Tryd.underlying58 zz9 sz9 Zr.str (by decide) (by decide) (.cons (.tmp rfl) rfl (LS.arr' (i := 0) (ys := ([x4, []] : (List (List Int)))) (by simp) (by rfl)) (.cons (.tmp rfl) rfl (LS.arr' (i := 1) (ys := ([x4, x5] : (List (List Int)))) (by simp) (by rfl)) (.nil _)))) fun a14 w14 s14 => ?_; clear s13
    obtain ⟨x6, e_x6, h7⟩ := bind_some h6; clear h6
    refine seq_op s14 rfl rfl (of_decide_eq_true rfl) (ob_callD (args := [_]) rfl .direct hb19 (fun a w s fs gs hf hg => by obtain rfl := hf.unnil; obtain rfl := hg.unnil; exact c_digest_Sum k _ _ e_x6 _ _ (s.env _ _ (show get _ 100001 = _ from rfl)) (s.env _ _ (show get _ 100002 = _ from rfl)) _ (s.arg (.tmp rfl)))) fun a15 w15 s15 => ?_; clear s14
    obtain ⟨x7, e_x7, h8⟩ := bind_some h7; clear h7
    refine seq_op s15 rfl rfl (of_decide_eq_true rfl) (ob_callD (args := [_]) rfl .direct hb6 (fun a w s fs gs hf hg => by obtain rfl := hf.unnil; obtain rfl := hg.unnil; exact c_code_Write k _ _ e_x7 _ _ _ (s.arg (.tmp rfl)))) fun a16 w16 s16 => ?_; clear s15
    refine seq_op s16 rfl rfl (of_decide_eq_true rfl) (ob_assign rfl (.tmp rfl)) fun a17 w17 s17 => ?_; clear s16
    refine wpList_nil ?_
    refine then_normal ?_
    refine hK4 _ _ ?_
    have s18 := s17.sub (.cons (t := 4) rfl (.cons (t := 100001) rfl (.cons (t := 100002) rfl .nil))); clear s17
    have s19 := St.drop (A := []) s18; clear s18
    have s20 := St.drop (A := []) s19; clear s19
    refine wp_ret ?_
    obtain rfl := Option.some.inj h8
    exact leave s20 (.inl rfl) rfl (.cons (.tmp rfl) .nil)
  refine cond_split s11 (.tmp rfl) (fun hc1 => ?_) (fun hc1 => ?_)
  · replace h3 := ite_t hc1 h3
    have h9 := h3; clear h3
    refine wp_region_lit ?_
    refine seq_op s11 rfl rfl (of_decide_eq_true rfl) (ob_load rfl tk23 (.tmp rfl) (.head _) (LG.refl _ _)) fun a21 w21 s21 => ?_; clear s11
    refine seq_op s21 rfl rfl (of_decide_eq_true rfl) (ob_load rfl tk23 (.tmp rfl) (.tail _ (.head _)) (LG.refl _ _)) fun a22 w22 s22 => ?_; clear s21
    refine seq_opx0 (B' := (fun _ : Unit => [BF b2 23 (karr 32 (kint .u8)) p2, BF b1 23 (karr 32 (kint .u8)) p2])) s22 rfl rfl (ob_store (A := [_]) rfl tk23 (.tmp rfl) (.tmp rfl) rfl (LS.refl _ _ _) rfl) fun _ a23 w23 s23 => ?_; clear s22
    refine seq_opx0 (B' := (fun _ : Unit => [BF b2 23 (karr 32 (kint .u8)) p1, BF b1 23 (karr 32 (kint .u8)) p2])) s23 rfl rfl (ob_store (A := []) rfl tk23 (.tmp rfl) (.tmp rfl) rfl (LS.refl _ _ _) rfl) fun _ a24 w24 s24 => ?_; clear s23
    refine wpList_nil ?_
    refine then_normal ?_
    have s25 := s24.perm (toFront [_] (toFront [] (List.Perm.refl _))); clear s24
    exact hj1 p2 p1 _ _ h9 (s25.sub (.cons rfl (.cons rfl (.cons rfl (.cons rfl .nil)))))
  · replace h3 := ite_f hc1 h3
    have h10 := h3; clear h3
    refine wp_skip ?_
    refine then_normal ?_
    have s26 := s11.perm (toFront [_] (toFront [] (List.Perm.refl _))); clear s11
    exact hj1 p1 p2 _ _ h10 (s26.sub (.cons rfl (.cons rfl (.cons rfl (.cons rfl .nil)))))

/- 20 cabal/cabalref11.Less -/
theorem c_cabalref11_Less (k : Nat) (p1 : (List Int)) (p2 : (List Int)) (r : Bool) (h0 : cabalref11_Less k p1 p2 = some r) (ok : Ok) (w0 : World) (z0 : Value) (z1 : Value) (u0 : ((karr 32 (kint .u8)).V p1).holds ok w0 z0) (u1 : ((karr 32 (kint .u8)).V p2).holds ok w0 z1) :
    Gives Tryd.prog 20 [z0, z1] ok w0 (resFact [kbool.V r]) := by
  unfold cabalref11_Less at h0
  refine enter (N := 24) Tryd.func20 rfl rfl (of_decide_eq_true rfl) (.cons u0 (.cons u1 .nil)) fun a1 s1 => ?_
  refine wp_seq_k fun K1 hK1 => ?_
  refine wp_region_lit ?_
  refine seq_opx (B' := (fun b1 : Nat => [BF b1 23 (karr 32 (kint .u8)) p1])) s1 rfl rfl (of_decide_eq_true rfl) (ob_box rfl (.tmp rfl)) fun b1 a2 w2 s2 => ?_; clear s1
  refine seq_opx (B' := (fun b2 : Nat => [BF b2 23 (karr 32 (kint .u8)) p2, BF b1 23 (karr 32 (kint .u8)) p1])) s2 rfl rfl (of_decide_eq_true rfl) (ob_box rfl (.tmp rfl)) fun b2 a3 w3 s3 => ?_; clear s2
  refine seq_op s3 rfl rfl (of_decide_eq_true rfl) (ob_assign rfl opd_bool) fun a4 w4 s4 => ?_; clear s3
  refine wpList_nil ?_
  refine then_normal ?_
  refine hK1 _ _ ?_
  have s5 := s4.sub (.cons (t := 2) rfl (.cons (t := 3) rfl .nil)); clear s4
  refine wp_seq_k fun K2 hK2 => ?_
  refine wp_seq_k fun K3 hK3 => ?_
  refine wp_region_lit ?_
  refine seq_op s5 rfl rfl (of_decide_eq_true rfl) (ob_assign rfl (opd_int rfl)) fun a6 w6 s6 => ?_; clear s5
  refine wpList_nil ?_
  refine then_normal ?_
  refine hK3 _ _ ?_
  have s7 := s6.sub (.cons (t := 2) rfl (.cons (t := 3) rfl (.cons (t := 5) rfl .nil))); clear s6
  have hj1 : ∀ (a : Act) (w : World), (cabalref11_Less.j1 k) = some r → St ⟨24, w0, ok, []⟩ [] [] a w → K2 a w := by
    intro a8 w8 h1 s8
    unfold cabalref11_Less.j1 at h1
    refine hK2 _ _ ?_
    refine wp_seq_k fun K4 hK4 => ?_
    refine wp_region_lit ?_
    refine seq_op s8 rfl rfl (of_decide_eq_true rfl) (ob_assign rfl opd_bool) fun a9 w9 s9 => ?_; clear s8
    refine wpList_nil ?_
    refine then_normal ?_
    refine hK4 _ _ ?_
    have s10 := s9.sub (.cons (t := 4) rfl .nil); clear s9
    refine wp_ret ?_
    obtain rfl := Option.some.inj h1
    exact leave s10 (.inl rfl) rfl (.cons (.tmp rfl) .nil)
  refine wp_block ?_
  have s11 := s7.perm (toFront [_] (toFront [] (List.Perm.refl _))); clear s7
  refine wp_loop_fuel (fun m (q : Int) => cabalref11_Less.l1 k p1 p2 m q) r (fun _ => rfl) (fun q a w => St ⟨24, w0, ok, []⟩ [BF b1 23 (karr 32 (kint .u8)) p1, BF b2 23 (karr 32 (kint .u8)) p2] [(2, (ptrB b1 0)), (3, (ptrB b2 0)), (5, ((kint .i64).V q))] a w) ?_ k (0 : Int) _ _ h0 (s11.sub (.cons rfl (.cons rfl (.cons rfl .nil))))
  rintro n1 y1 a12 w12 h2 s12 K5 hK5
  replace h2 : cabalref11_Less.l1 k p1 p2 (n1 + 1) y1 = some r := h2; rw [cabalref11_Less.l1] at h2
  have h3 := h2; clear h2
  refine wp_seq_k fun K6 hK6 => ?_
  refine wp_seq_k fun K7 hK7 => ?_
  refine wp_region_lit ?_
  refine seq_op s12 rfl rfl (of_decide_eq_true rfl) (ob_move rfl (.tmp rfl)) fun a13 w13 s13 => ?_; clear s12
  refine seq_op s13 rfl rfl (of_decide_eq_true rfl) (ob_lss rfl (.tmp rfl) (opd_int rfl)) fun a14 w14 s14 => ?_; clear s13
  refine wpList_nil ?_
  refine then_normal ?_
  refine hK7 _ _ ?_
  have s15 := s14.sub (.cons (t := 2) rfl (.cons (t := 3) rfl (.cons (t := 5) rfl (.cons (t := 7) rfl .nil)))); clear s14
  refine cond_split s15 (.tmp rfl) (fun hc1 => ?_) (fun hc1 => ?_)
  · replace h3 := ite_t hc1 h3
    have h4 := h3; clear h3
    refine wp_skip ?_
    refine then_normal ?_
    refine hK6 _ _ ?_
    have s16 := s15.sub (.cons (t := 2) rfl (.cons (t := 3) rfl (.cons (t := 5) rfl .nil))); clear s15
    refine wp_seq_k fun K8 hK8 => ?_
    refine wp_block ?_
    refine wp_seq_k fun K9 hK9 => ?_
    obtain ⟨g1, h5⟩ := guard_some h4; clear h4
    obtain ⟨x1, e_x1, h6⟩ := bind_some h5; clear h5
    obtain ⟨g2, h7⟩ := guard_some h6; clear h6
    obtain ⟨x2, e_x2, h8⟩ := bind_some h7; clear h7
    refine wp_goes (Fs := [((kint .i64).V y1), (ptrB b1 (y1.toNat * 1)), ((kint .u8).V x1), ((kint .i64).V y1), (ptrB b2 (y1.toNat * 1)), ((kint .u8).V x2)]) (bits := [0, 1, 3, 0, 8, 24, 63]) (m := 6) (todo := 0) mx s16 ?_; clear s16
    refine goes_last (by kernel_rfl) rfl (opsS_cons (.plain _ (Av.old (t := 5) rfl rfl Av.nil) rfl rfl (ob_move rfl (.tmp rfl))) (opsS_cons (.plain _ (Av.old (t := 2) rfl rfl (Av.new (j := 0) rfl rfl rfl Av.nil)) rfl rfl (ob_indexAddr rfl Tryd.underlying23 sz5 (.tmp rfl) (.tmp rfl) g1.1 g1.2 (Nat.zero_add _))) (opsS_cons (.plain _ (Av.new (j := 1) rfl rfl rfl Av.nil) rfl rfl (ob_load rfl tk5 (.tmp rfl) (.head _) (LG.arrA e_x1))) (opsS_cons (.plain _ (Av.old (t := 5) rfl rfl Av.nil) rfl rfl (ob_move rfl (.tmp rfl))) (opsS_cons (.plain _ (Av.old (t := 3) rfl rfl (Av.new (j := 3) rfl rfl rfl Av.nil)) rfl rfl (ob_indexAddr rfl Tryd.underlying23 sz5 (.tmp rfl) (.tmp rfl) g2.1 g2.2 (Nat.zero_add _))) (opsS_cons (.plain _ (Av.new (j := 4) rfl rfl rfl Av.nil) rfl rfl (ob_load rfl tk5 (.tmp rfl) (.tail _ (.head _)) (LG.arrA e_x2))) opsS_nil)))))) (out_old (t := 2) rfl rfl (out_old (t := 3) rfl rfl (out_old (t := 5) rfl rfl (out_new (i := 2) (by decide) rfl rfl (out_new (i := 5) (by decide) rfl rfl out_nil))))) fun a17 w17 s17 => ?_
    refine seq_op s17 rfl rfl (of_decide_eq_true rfl) (ob_neq rfl (.tmp rfl) (.tmp rfl)) fun a18 w18 s18 => ?_; clear s17
    refine wpList_nil ?_
    refine then_normal ?_
    refine hK9 _ _ ?_
    have s19 := s18.sub (.cons (t := 2) rfl (.cons (t := 3) rfl (.cons (t := 5) rfl (.cons (t := 16) rfl .nil)))); clear s18
    refine cond_split s19 (.tmp rfl) (fun hc2 => ?_) (fun hc2 => ?_)
    · replace h8 := ite_t hc2 h8
      have h9 := h8; clear h8
      refine wp_seq_k fun K10 hK10 => ?_
      obtain ⟨g3, h10⟩ := guard_some h9; clear h9
      obtain ⟨x3, e_x3, h11⟩ := bind_some h10; clear h10
      obtain ⟨g4, h12⟩ := guard_some h11; clear h11
      obtain ⟨x4, e_x4, h13⟩ := bind_some h12; clear h12
      refine wp_goes (Fs := [((kint .i64).V y1), (ptrB b1 (y1.toNat * 1)), ((kint .u8).V x3), ((kint .i64).V y1), (ptrB b2 (y1.toNat * 1)), ((kint .u8).V x4)]) (bits := [0, 1, 3, 0, 8, 24, 63, 127]) (m := 6) (todo := 0) mx s19 ?_; clear s19
      refine goes_last (by kernel_rfl) rfl (opsS_cons (.plain _ (Av.old (t := 5) rfl rfl Av.nil) rfl rfl (ob_move rfl (.tmp rfl))) (opsS_cons (.plain _ (Av.old (t := 2) rfl rfl (Av.new (j := 0) rfl rfl rfl Av.nil)) rfl rfl (ob_indexAddr rfl Tryd.underlying23 sz5 (.tmp rfl) (.tmp rfl) g3.1 g3.2 (Nat.zero_add _))) (opsS_cons (.plain _ (Av.new (j := 1) rfl rfl rfl Av.nil) rfl rfl (ob_load rfl tk5 (.tmp rfl) (.head _) (LG.arrA e_x3))) (opsS_cons (.plain _ (Av.old (t := 5) rfl rfl Av.nil) rfl rfl (ob_move rfl (.tmp rfl))) (opsS_cons (.plain _ (Av.old (t := 3) rfl rfl (Av.new (j := 3) rfl rfl rfl Av.nil)) rfl rfl (ob_indexAddr rfl Tryd.underlying23 sz5 (.tmp rfl) (.tmp rfl) g4.1 g4.2 (Nat.zero_add _))) (opsS_cons (.plain _ (Av.new (j := 4) rfl rfl rfl Av.nil) rfl rfl (ob_load rfl tk5 (.tmp rfl) (.tail _ (.head _)) (LG.arrA e_x4))) opsS_nil)))))) (out_new (i := 2) (by decide) rfl rfl (out_new (i := 5) (by decide) rfl rfl out_nil)) fun a20 w20 s20 => ?_
      refine seq_op s20 rfl rfl (of_decide_eq_true rfl) (ob_lss rfl (.tmp rfl) (.tmp rfl)) fun a21 w21 s21 => ?_; clear s20
      refine seq_op s21 rfl rfl (of_decide_eq_true rfl) (ob_assign rfl (.tmp rfl)) fun a22 w22 s22 => ?_; clear s21
      refine wpList_nil ?_
      refine then_normal ?_
      refine hK10 _ _ ?_
      have s23 := s22.sub (.cons (t := 4) rfl .nil); clear s22
      have s24 := St.drop (A := []) s23; clear s23
      have s25 := St.drop (A := []) s24; clear s24
      refine wp_ret ?_
      obtain rfl := Option.some.inj h13
      exact leave s25 (.inl rfl) rfl (.cons (.tmp rfl) .nil)
    · replace h8 := ite_f hc2 h8
      have h14 := h8; clear h8
      refine wp_skip ?_
      refine in_normal ?_
      refine then_normal ?_
      refine hK8 _ _ ?_
      have s26 := s19.sub (.cons (t := 2) rfl (.cons (t := 3) rfl (.cons (t := 5) rfl .nil))); clear s19
      refine wp_region_lit ?_
      refine seq_op s26 rfl rfl (of_decide_eq_true rfl) (ob_move rfl (.tmp rfl)) fun a27 w27 s27 => ?_; clear s26
      refine seq_op s27 rfl rfl (of_decide_eq_true rfl) (ob_add rfl (.tmp rfl) (opd_int rfl)) fun a28 w28 s28 => ?_; clear s27
      refine seq_op s28 rfl rfl (of_decide_eq_true rfl) (ob_assign rfl (.tmp rfl)) fun a29 w29 s29 => ?_; clear s28
      refine wpList_nil ?_
      refine then_normal ?_
      exact hK5 (iadd .i64 y1 (1 : Int)) _ _ h14 (s29.sub (.cons rfl (.cons rfl (.cons rfl .nil))))
  · replace h3 := ite_f hc1 h3
    have h15 := h3; clear h3
    refine wp_exit ?_
    refine (then_exit (then_exit (in_here ?_)))
    refine then_normal ?_
    have s30 := St.drop (A := []) s15; clear s15
    have s31 := St.drop (A := []) s30; clear s30
    exact hj1 _ _ h15 (s31.sub .nil)

/- 28 cabal/cabalref01.Lengthened -/
theorem c_cabalref01_Lengthened (k : Nat) (p1 : (List Int)) (r : (List Int)) (h0 : cabalref01_Lengthened k p1 = some r) (ok : Ok) (w0 : World) (z0 : Value) (u0 : (kstr.V p1).holds ok w0 z0) :
    Gives Tryd.prog 28 [z0] ok w0 (resFact [kstr.V r]) := by
  unfold cabalref01_Lengthened at h0
  refine enter (N := 35) Tryd.func28 rfl rfl (of_decide_eq_true rfl) (.cons u0 .nil) fun a1 s1 => ?_
  refine wp_seq_k fun K1 hK1 => ?_
  refine wp_region_lit ?_
  refine seq_op s1 rfl rfl (of_decide_eq_true rfl) (ob_assign rfl (opd_str (by rfl) (by decide))) fun a2 w2 s2 => ?_; clear s1
  refine wpList_nil ?_
  refine then_normal ?_
  refine hK1 _ _ ?_
  have s3 := s2.sub (.cons (t := 0) rfl .nil); clear s2
  refine wp_seq_k fun K2 hK2 => ?_
  refine wp_region_lit ?_
  refine seq_op s3 rfl rfl (of_decide_eq_true rfl) (ob_move rfl (.tmp rfl)) fun a4 w4 s4 => ?_; clear s3
  obtain ⟨g1, h1⟩ := guard_some h0; clear h0
  refine seq_op s4 rfl rfl (of_decide_eq_true rfl) (ob_cat rfl (.tmp rfl) (opd_str (by rfl) (by decide)) g1) fun a5 w5 s5 => ?_; clear s4
  refine seq_op s5 rfl rfl (of_decide_eq_true rfl) (ob_assign rfl (.tmp rfl)) fun a6 w6 s6 => ?_; clear s5
  refine wpList_nil ?_
  refine then_normal ?_
  refine hK2 _ _ ?_
  have s7 := s6.sub (.cons (t := 0) rfl (.cons (t := 3) rfl .nil)); clear s6
  refine wp_seq_k fun K3 hK3 => ?_
  have hj1 : ∀ (y1 : (List Int)) (a : Act) (w : World), (cabalref01_Lengthened.j1 k p1) y1 = some r → St ⟨35, w0, ok, []⟩ [] [(0, (kstr.V p1)), (3, (kstr.V y1))] a w → K3 a w := by
    intro y1 a8 w8 h2 s8
    unfold cabalref01_Lengthened.j1 at h2
    refine hK3 _ _ ?_
    refine wp_seq_k fun K4 hK4 => ?_
    refine wp_region_lit ?_
    refine seq_op s8 rfl rfl (of_decide_eq_true rfl) (ob_move rfl (.tmp rfl)) fun a9 w9 s9 => ?_; clear s8
    refine seq_op s9 rfl rfl (of_decide_eq_true rfl) (ob_lenStr rfl Tryd.underlying9 (.tmp rfl)) fun a10 w10 s10 => ?_; clear s9
    refine seq_op s10 rfl rfl (of_decide_eq_true rfl) (ob_conv rfl _ Tryd.underlying3 Tryd.underlying62 (.tmp rfl)) fun a11 w11 s11 => ?_; clear s10
    refine seq_op s11 rfl rfl (of_decide_eq_true rfl) (ob_mul rfl (.tmp rfl) (opd_int rfl)) fun a12 w12 s12 => ?_; clear s11
    refine seq_op s12 rfl rfl (of_decide_eq_true rfl) (ob_assign rfl (.tmp rfl)) fun a13 w13 s13 => ?_; clear s12
    refine wpList_nil ?_
    refine then_normal ?_
    refine hK4 _ _ ?_
    have s14 := s13.sub (.cons (t := 3) rfl (.cons (t := 4) rfl .nil)); clear s13
    refine wp_seq_k fun K5 hK5 => ?_
    refine wp_region_lit ?_
    refine seq_opx (B' := (fun b1 : Nat => [BF b1 73 (karr 8 (kint .u8)) (List.replicate 8 (0 : Int))])) s14 rfl rfl (of_decide_eq_true rfl) (ob_new (k := (karr 8 (kint .u8))) rfl zz73 (Zr.arr 8 (Zr.int .u8))) fun b1 a15 w15 s15 => ?_; clear s14
    refine wpList_nil ?_
    refine then_normal ?_
    refine hK5 _ _ ?_
    have s16 := s15.sub (.cons (t := 3) rfl (.cons (t := 4) rfl (.cons (t := 5) rfl .nil))); clear s15
    refine wp_seq_k fun K6 hK6 => ?_
    refine wp_seq_k fun K7 hK7 => ?_
    refine wp_region_lit ?_
    refine seq_op s16 rfl rfl (of_decide_eq_true rfl) (ob_assign rfl (opd_int rfl)) fun a17 w17 s17 => ?_; clear s16
    refine wpList_nil ?_
    refine then_normal ?_
    refine hK7 _ _ ?_
    have s18 := s17.sub (.cons (t := 3) rfl (.cons (t := 4) rfl (.cons (t := 5) rfl (.cons (t := 6) rfl .nil)))); clear s17
    have hj2 : ∀ (y2 : (List Int)) (a : Act) (w : World), (cabalref01_Lengthened.j2 k y1) y2 = some r → St ⟨35, w0, ok, []⟩ [BF b1 73 (karr 8 (kint .u8)) y2] [(3, (kstr.V y1)), (5, (ptrB b1 0))] a w → K6 a w := by
      intro y2 a19 w19 h3 s19
      unfold cabalref01_Lengthened.j2 at h3
      refine hK6 _ _ ?_
      refine wp_seq_k fun K8 hK8 => ?_
      refine wp_region_lit ?_
      refine seq_op s19 rfl rfl (of_decide_eq_true rfl) (ob_move rfl (.tmp rfl)) fun a20 w20 s20 => ?_; clear s19
      refine seq_op s20 rfl rfl (of_decide_eq_true rfl) (ob_sliceArr rfl Tryd.underlying73 sz5 (.tmp rfl) .none .none (show (0 : Int) ≤ (0 : Int) ∧ (0 : Int) ≤ (8 : Int) ∧ (8 : Int) ≤ ((8 : Nat) : Int) by decide)) fun a21 w21 s21 => ?_; clear s20
      obtain ⟨x1, e_x1, h4⟩ := bind_some h3; clear h3
      refine seq_op s21 rfl rfl (of_decide_eq_true rfl) ((ob_lendG (L := [_]) (List.Perm.refl _) (.cons (t := 32) rfl (lendSlB (.head _) (LG.refl _ _) e_x1 rfl (cut_len e_x1) (cut_cap e_x1 (show (0 : Int) ≤ (0 : Int) ∧ (0 : Int) ≤ (8 : Int) ∧ (8 : Int) ≤ ((8 : Nat) : Int) by decide) (by decide))) .nil) (Flat.V KFlat.str) (fun _ => ob_bytesToStr rfl Tryd.underlying38 Tryd.underlying9 Tryd.underlying5 (.tmp rfl)))) fun a22 w22 s22 => ?_; clear s21
      obtain ⟨g2, h5⟩ := guard_some h4; clear h4
      refine seq_op s22 rfl rfl (of_decide_eq_true rfl) (ob_cat rfl (.tmp rfl) (.tmp rfl) g2) fun a23 w23 s23 => ?_; clear s22
      refine seq_op s23 rfl rfl (of_decide_eq_true rfl) (ob_assign rfl (.tmp rfl)) fun a24 w24 s24 => ?_; clear s23
      refine wpList_nil ?_
      refine then_normal ?_
      refine hK8 _ _ ?_
      have s25 := s24.sub (.cons (t := 2) rfl .nil); clear s24
      have s26 := St.drop (A := []) s25; clear s25
      refine wp_ret ?_
      obtain rfl := Option.some.inj h5
      exact leave s26 (.inl rfl) rfl (.cons (.tmp rfl) .nil)
    refine wp_block ?_
    refine wp_loop_fuel (fun m (q : Int × Int × (List Int)) => cabalref01_Lengthened.l1 k y1 m q.1 q.2.1 q.2.2) r (fun _ => rfl) (fun q a w => St ⟨35, w0, ok, []⟩ [BF b1 73 (karr 8 (kint .u8)) q.2.2] [(3, (kstr.V y1)), (4, ((kint .u64).V q.1)), (5, (ptrB b1 0)), (6, ((kint .i64).V q.2.1))] a w) ?_ k ((imul .u64 (IntKind.wrap .u64 (p1.length : Int)) (8 : Int)), (0 : Int), (List.replicate 8 (0 : Int))) _ _ h2 (s18.sub (.cons rfl (.cons rfl (.cons rfl (.cons rfl .nil)))))
    rintro n1 ⟨y3, y4, y5⟩ a27 w27 h6 s27 K9 hK9
    replace h6 : cabalref01_Lengthened.l1 k y1 (n1 + 1) y3 y4 y5 = some r := h6; rw [cabalref01_Lengthened.l1] at h6
    have h7 := h6; clear h6
    refine wp_seq_k fun K10 hK10 => ?_
    refine wp_seq_k fun K11 hK11 => ?_
    refine wp_region_lit ?_
    refine seq_op s27 rfl rfl (of_decide_eq_true rfl) (ob_move rfl (.tmp rfl)) fun a28 w28 s28 => ?_; clear s27
    refine seq_op s28 rfl rfl (of_decide_eq_true rfl) (ob_lss rfl (.tmp rfl) (opd_int rfl)) fun a29 w29 s29 => ?_; clear s28
    refine wpList_nil ?_
    refine then_normal ?_
    refine hK11 _ _ ?_
    have s30 := s29.sub (.cons (t := 3) rfl (.cons (t := 4) rfl (.cons (t := 5) rfl (.cons (t := 6) rfl (.cons (t := 20) rfl .nil))))); clear s29
    refine cond_split s30 (.tmp rfl) (fun hc1 => ?_) (fun hc1 => ?_)
    · replace h7 := ite_t hc1 h7
      have h8 := h7; clear h7
      refine wp_skip ?_
      refine then_normal ?_
      refine hK10 _ _ ?_
      have s31 := s30.sub (.cons (t := 3) rfl (.cons (t := 4) rfl (.cons (t := 5) rfl (.cons (t := 6) rfl .nil)))); clear s30
      refine wp_seq_k fun K12 hK12 => ?_
      refine wp_block ?_
      refine wp_seq_k fun K13 hK13 => ?_
      refine wp_region_lit ?_
      refine seq_op s31 rfl rfl (of_decide_eq_true rfl) (ob_move rfl (.tmp rfl)) fun a32 w32 s32 => ?_; clear s31
      refine seq_op s32 rfl rfl (of_decide_eq_true rfl) (ob_sub rfl (opd_int rfl) (.tmp rfl)) fun a33 w33 s33 => ?_; clear s32
      refine seq_op s33 rfl rfl (of_decide_eq_true rfl) (ob_move rfl (.tmp rfl)) fun a34 w34 s34 => ?_; clear s33
      refine seq_op s34 rfl rfl (of_decide_eq_true rfl) (ob_rem rfl (.tmp rfl) (opd_int rfl) (by decide)) fun a35 w35 s35 => ?_; clear s34
      refine seq_op s35 rfl rfl (of_decide_eq_true rfl) (ob_conv rfl _ Tryd.underlying62 Tryd.underlying5 (.tmp rfl)) fun a36 w36 s36 => ?_; clear s35
      obtain ⟨g3, h9⟩ := guard_some h8; clear h8
      refine seq_op s36 rfl rfl (of_decide_eq_true rfl) (ob_indexAddr rfl Tryd.underlying73 sz5 (.tmp rfl) (.tmp rfl) g3.1 g3.2 (Nat.zero_add _)) fun a37 w37 s37 => ?_; clear s36
      obtain ⟨x2, e_x2, h10⟩ := bind_some h9; clear h9
      refine seq_opx0 (B' := (fun _ : Unit => [BF b1 73 (karr 8 (kint .u8)) x2])) s37 rfl rfl (ob_store (A := []) rfl tk5 (.tmp rfl) (.tmp rfl) rfl (LS.arrS e_x2) rfl) fun _ a38 w38 s38 => ?_; clear s37
      refine wpList_nil ?_
      refine then_normal ?_
      refine hK13 _ _ ?_
      have s39 := s38.sub (.cons (t := 3) rfl (.cons (t := 4) rfl (.cons (t := 5) rfl (.cons (t := 6) rfl .nil)))); clear s38
      refine wp_region_lit ?_
      refine seq_op s39 rfl rfl (of_decide_eq_true rfl) (ob_move rfl (.tmp rfl)) fun a40 w40 s40 => ?_; clear s39
      refine seq_op s40 rfl rfl (of_decide_eq_true rfl) (ob_quo rfl (.tmp rfl) (opd_int rfl) (by decide)) fun a41 w41 s41 => ?_; clear s40
      refine seq_op s41 rfl rfl (of_decide_eq_true rfl) (ob_assign rfl (.tmp rfl)) fun a42 w42 s42 => ?_; clear s41
      refine wpList_nil ?_
      refine in_normal ?_
      refine then_normal ?_
      refine hK12 _ _ ?_
      have s43 := s42.sub (.cons (t := 3) rfl (.cons (t := 4) rfl (.cons (t := 5) rfl (.cons (t := 6) rfl .nil)))); clear s42
      refine wp_region_lit ?_
      refine seq_op s43 rfl rfl (of_decide_eq_true rfl) (ob_move rfl (.tmp rfl)) fun a44 w44 s44 => ?_; clear s43
      refine seq_op s44 rfl rfl (of_decide_eq_true rfl) (ob_add rfl (.tmp rfl) (opd_int rfl)) fun a45 w45 s45 => ?_; clear s44
      refine seq_op s45 rfl rfl (of_decide_eq_true rfl) (ob_assign rfl (.tmp rfl)) fun a46 w46 s46 => ?_; clear s45
      refine wpList_nil ?_
      refine then_normal ?_
      exact hK9 ((iquo .u64 y3 (256 : Int)), (iadd .i64 y4 (1 : Int)), x2) _ _ h10 (s46.sub (.cons rfl (.cons rfl (.cons rfl (.cons rfl .nil)))))
    · replace h7 := ite_f hc1 h7
      have h11 := h7; clear h7
      refine wp_exit ?_
      refine (then_exit (then_exit (in_here ?_)))
      refine then_normal ?_
      exact hj2 y5 _ _ h11 (s30.sub (.cons rfl (.cons rfl .nil)))
  refine wp_block ?_
  refine wp_loop_fuel (fun m (q : (List Int)) => cabalref01_Lengthened.l2 k p1 m q) r (fun _ => rfl) (fun q a w => St ⟨35, w0, ok, []⟩ [] [(0, (kstr.V p1)), (3, (kstr.V q))] a w) ?_ k (p1 ++ ([128] : List Int)) _ _ h1 (s7.sub (.cons rfl (.cons rfl .nil)))
  rintro n2 y6 a47 w47 h12 s47 K14 hK14
  replace h12 : cabalref01_Lengthened.l2 k p1 (n2 + 1) y6 = some r := h12; rw [cabalref01_Lengthened.l2] at h12
  have h13 := h12; clear h12
  refine wp_seq_k fun K15 hK15 => ?_
  refine wp_seq_k fun K16 hK16 => ?_
  refine wp_region_lit ?_
  refine seq_op s47 rfl rfl (of_decide_eq_true rfl) (ob_move rfl (.tmp rfl)) fun a48 w48 s48 => ?_; clear s47
  refine seq_op s48 rfl rfl (of_decide_eq_true rfl) (ob_lenStr rfl Tryd.underlying9 (.tmp rfl)) fun a49 w49 s49 => ?_; clear s48
  refine seq_op s49 rfl rfl (of_decide_eq_true rfl) (ob_rem rfl (.tmp rfl) (opd_int rfl) (by decide)) fun a50 w50 s50 => ?_; clear s49
  refine seq_op s50 rfl rfl (of_decide_eq_true rfl) (ob_neq rfl (.tmp rfl) (opd_int rfl)) fun a51 w51 s51 => ?_; clear s50
  refine wpList_nil ?_
  refine then_normal ?_
  refine hK16 _ _ ?_
  have s52 := s51.sub (.cons (t := 0) rfl (.cons (t := 3) rfl (.cons (t := 12) rfl .nil))); clear s51
  refine cond_split s52 (.tmp rfl) (fun hc2 => ?_) (fun hc2 => ?_)
  · replace h13 := ite_t hc2 h13
    have h14 := h13; clear h13
    refine wp_skip ?_
    refine then_normal ?_
    refine hK15 _ _ ?_
    have s53 := s52.sub (.cons (t := 0) rfl (.cons (t := 3) rfl .nil)); clear s52
    refine wp_block ?_
    refine wp_region_lit ?_
    refine seq_op s53 rfl rfl (of_decide_eq_true rfl) (ob_move rfl (.tmp rfl)) fun a54 w54 s54 => ?_; clear s53
    obtain ⟨g4, h15⟩ := guard_some h14; clear h14
    refine seq_op s54 rfl rfl (of_decide_eq_true rfl) (ob_cat rfl (.tmp rfl) (opd_str (by rfl) (by decide)) g4) fun a55 w55 s55 => ?_; clear s54
    refine seq_op s55 rfl rfl (of_decide_eq_true rfl) (ob_assign rfl (.tmp rfl)) fun a56 w56 s56 => ?_; clear s55
    refine wpList_nil ?_
    refine in_normal ?_
    refine then_normal ?_
    exact hK14 (y6 ++ ([0] : List Int)) _ _ h15 (s56.sub (.cons rfl (.cons rfl .nil)))
  · replace h13 := ite_f hc2 h13
    have h16 := h13; clear h13
    refine wp_exit ?_
    refine (then_exit (then_exit (in_here ?_)))
    refine then_normal ?_
    exact hj1 y6 _ _ h16 (s52.sub (.cons rfl (.cons rfl .nil)))

/- 33 cabal/cabalref01.Right -/
theorem c_cabalref01_Right (k : Nat) (p1 : Int) (p2 : Int) (r : Int) (h0 : cabalref01_Right k p1 p2 = some r) (ok : Ok) (w0 : World) (z0 : Value) (z1 : Value) (u0 : ((kint .u32).V p1).holds ok w0 z0) (u1 : ((kint .u64).V p2).holds ok w0 z1) :
    Gives Tryd.prog 33 [z0, z1] ok w0 (resFact [(kint .u32).V r]) := by
  unfold cabalref01_Right at h0
  refine enter (N := 13) Tryd.func33 rfl rfl (of_decide_eq_true rfl) (.cons u0 (.cons u1 .nil)) fun a1 s1 => ?_
  refine wp_seq_k fun K1 hK1 => ?_
  refine wp_region_lit ?_
  refine seq_op s1 rfl rfl (of_decide_eq_true rfl) (ob_assign rfl (opd_int rfl)) fun a2 w2 s2 => ?_; clear s1
  refine wpList_nil ?_
  refine then_normal ?_
  refine hK1 _ _ ?_
  have s3 := s2.sub (.cons (t := 0) rfl (.cons (t := 1) rfl .nil)); clear s2
  refine wp_seq_k fun K2 hK2 => ?_
  refine wp_region_lit ?_
  refine seq_op s3 rfl rfl (of_decide_eq_true rfl) (ob_move rfl (.tmp rfl)) fun a4 w4 s4 => ?_; clear s3
  refine seq_op s4 rfl rfl (of_decide_eq_true rfl) (ob_move rfl (.tmp rfl)) fun a5 w5 s5 => ?_; clear s4
  obtain ⟨g1, h1⟩ := guard_some h0; clear h0
  refine seq_op s5 rfl rfl (of_decide_eq_true rfl) (ob_shr rfl (.tmp rfl) (.tmp rfl) g1) fun a6 w6 s6 => ?_; clear s5
  refine seq_op s6 rfl rfl (of_decide_eq_true rfl) (ob_move rfl (.tmp rfl)) fun a7 w7 s7 => ?_; clear s6
  refine seq_op s7 rfl rfl (of_decide_eq_true rfl) (ob_move rfl (.tmp rfl)) fun a8 w8 s8 => ?_; clear s7
  refine seq_op s8 rfl rfl (of_decide_eq_true rfl) (ob_sub rfl (opd_int rfl) (.tmp rfl)) fun a9 w9 s9 => ?_; clear s8
  obtain ⟨g2, h2⟩ := guard_some h1; clear h1
  refine seq_op s9 rfl rfl (of_decide_eq_true rfl) (ob_shl rfl (.tmp rfl) (.tmp rfl) g2) fun a10 w10 s10 => ?_; clear s9
  refine seq_op s10 rfl rfl (of_decide_eq_true rfl) (ob_or rfl (.tmp rfl) (.tmp rfl)) fun a11 w11 s11 => ?_; clear s10
  refine seq_op s11 rfl rfl (of_decide_eq_true rfl) (ob_assign rfl (.tmp rfl)) fun a12 w12 s12 => ?_; clear s11
  refine wpList_nil ?_
  refine then_normal ?_
  refine hK2 _ _ ?_
  have s13 := s12.sub (.cons (t := 4) rfl .nil); clear s12
  refine wp_ret ?_
  obtain rfl := Option.some.inj h2
  exact leave s13 (.inl rfl) rfl (.cons (.tmp rfl) .nil)

/- 34 cabal/cabalref01.Rounds -/
theorem c_cabalref01_Rounds (k : Nat) (r : (List Int)) (h0 : cabalref01_Rounds k = some r) (ok : Ok) (w0 : World) :
    Gives Tryd.prog 34 [] ok w0 (resFact [(karr 64 (kint .u32)).V r]) := by
  unfold cabalref01_Rounds at h0
  refine enter (N := 2) Tryd.func34 rfl rfl (of_decide_eq_true rfl) .nil fun a1 s1 => ?_
  refine wp_seq_k fun K1 hK1 => ?_
  refine wp_region_lit ?_
  refine seq_opx (B' := (fun b1 : Nat => [BF b1 74 (karr 64 (kint .u32)) (List.replicate 64 (0 : Int))])) s1 rfl rfl (of_decide_eq_true rfl) (ob_new (k := (karr 64 (kint .u32))) rfl zz74 (Zr.arr 64 (Zr.int .u32))) fun b1 a2 w2 s2 => ?_; clear s1
  refine wpList_nil ?_
  refine then_normal ?_
  refine hK1 _ _ ?_
  have s3 := s2.sub (.cons (t := 0) rfl .nil); clear s2
  refine wp_seq_k fun K2 hK2 => ?_
  refine wp_region_lit ?_
  obtain ⟨x1, e_x1, h1⟩ := bind_some h0; clear h0; replace e_x1 := Option.some.inj e_x1
  refine seq_op s3 rfl rfl (of_decide_eq_true rfl) (((ob_mkArr (k := (kint .u32)) rfl Tryd.underlying74 zz74 sz59 (Zr.arr 64 (Zr.int .u32)) (.cons (opd_int rfl) rfl (LS.arr' (i := 0) (ys := ([(1116352408 : Int), (0 : Int), (0 : Int), (0 : Int), (0 : Int), (0 : Int), (0 : Int), (0 : Int), (0 : Int), (0 : Int), (0 : Int), (0 : Int), (0 : Int), (0 : Int), (0 : Int), (0 : Int), (0 : Int), (0 : Int), (0 : Int), (0 : Int), (0 : Int), (0 : Int), (0 : Int), (0 : Int), (0 : Int), (0 : Int), (0 : Int), (0 : Int), (0 : Int), (0 : Int), (0 : Int), (0 : Int), (0 : Int), (0 : Int), (0 : Int), (0 : Int), (0 : Int), (0 : Int), (0 : Int), (0 : Int), (0 : Int), (0 : Int), (0 : Int), (0 : Int), (0 : Int), (0 : Int), (0 : Int), (0 : Int), (0 : Int), (0 : Int), (0 : Int), (0 : Int), (0 : Int), (0 : Int), (0 : Int), (0 : Int), (0 : Int), (0 : Int), (0 : Int), (0 : Int), (0 : Int), (0 : Int), (0 : Int), (0 : Int)] : (List Int))) (by simp) (by rfl)) (.cons (opd_int rfl) rfl (LS.arr' (i := 1) (ys := ([(1116352408 : Int), (1899447441 : Int), (0 : Int), (0 : Int), (0 : Int), (0 : Int), (0 : Int), (0 : Int), (0 : Int), (0 : Int), (0 : Int), (0 : Int), (0 : Int), (0 : Int), (0 : Int), (0 : Int), (0 : Int), (0 : Int), (0 : Int), (0 : Int), (0 : Int), (0 : Int), (0 : Int), (0 : Int), (0 : Int), (0 : Int), (0 : Int), (0 : Int), (0 : Int), (0 : Int), (0 : Int), (0 : Int), (0 : Int), (0 : Int), (0 : Int), (0 : Int), (0 : Int), (0 : Int), (0 : Int), (0 : Int), (0 : Int), (0 : Int), (0 : Int), (0 : Int), (0 : Int), (0 : Int), (0 : Int), (0 : Int), (0 : Int), (0 : Int), (0 : Int), (0 : Int), (0 : Int), (0 : Int), (0 : Int), (0 : Int), (0 : Int), (0 : Int), (0 : Int), (0 : Int), (0 : Int), (0 : Int), (0 : Int), (0 : Int)] : (List Int))) (by simp) (by rfl)) (.cons (opd_int rfl) rfl (LS.arr' (i := 2) (ys := ([(1116352408 : Int), (1899447441 : Int), (3049323471 : Int), (0 : Int), (0 : Int), (0 : Int), (0 : Int), (0 : Int), (0 : Int), (0 : Int), (0 : Int), (0 : Int), (0 : Int), (0 : Int), (0 : Int), (0 : Int), (0 : Int), (0 : Int), (0 : Int), (0 : Int), (0 : Int), (0 : Int), (0 : Int), (0 : Int), (0 : Int), (0 : Int), (0 : Int), (0 : Int), (0 : Int), (0 : Int), (0 : Int), (0 : Int), (0 : Int), (0 : Int), (0 : Int), (0 : Int), (0 : Int), (0 : Int), (0 : Int), (0 : Int), (0 : Int), (0 : Int), (0 : Int), (0 : Int), (0 : Int), (0 : Int), (0 : Int), (0 : Int), (0 : Int), (0 : Int), (0 : Int), (0 : Int), (0 : Int), (0 : Int), (0 : Int), (0 : Int), (0 : Int), (0 : Int), (0 : Int), (0 : Int), (0 : Int), (0 : Int), (0 : Int), (0 : Int)] : (List Int))) (by simp) (by rfl)) (.cons (opd_int rfl) rfl (LS.arr' (i := 3) (ys := ([(1116352408 : Int), (1899447441 : Int), (3049323471 : Int), (3921009573 : Int), (0 : Int), (0 : Int), (0 : Int), (0 : Int), (0 : Int), (0 : Int), (0 : Int), (0 : Int), (0 : Int), (0 : Int), (0 : Int), (0 : Int), (0 : Int), (0 : Int), (0 : Int), (0 : Int), (0 : Int), (0 : Int), (0 : Int), (0 : Int), (0 : Int), (0 : Int), (0 : Int), (0 : Int), (0 : Int), (0 : Int), (0 : Int), (0 : Int), (0 : Int), (0 : Int), (0 : Int), (0 : Int), (0 : Int), (0 : Int), (0 : Int), (0 : Int), (0 : Int), (0 : Int), (0 : Int), (0 : Int), (0 : Int), (0 : Int), (0 : Int), (0 : Int), (0 : Int), (0 : Int), (0 : Int), (0 : Int), (0 : Int), (0 : Int), (0 : Int), (0 : Int), (0 : Int), (0 : Int), (0 : Int), (0 : Int), (0 : Int), (0 : Int), (0 : Int), (0 : Int)] : (List Int))) (by simp) (by rfl)) (.cons (opd_int rfl) rfl (LS.arr' (i := 4) (ys := ([(1116352408 : Int), (1899447441 : Int), (3049323471 : Int), (3921009573 : Int), (961987163 : Int), (0 : Int), (0 : Int), (0 : Int), (0 : Int), (0 : Int), (0 : Int), (0 : Int), (0 : Int), (0 : Int), (0 : Int), (0 : Int), (0 : Int), (0 : Int), (0 : Int), (0 : Int), (0 : Int), (0 : Int), (0 : Int), (0 : Int), (0 : Int), (0 : Int), (0 : Int), (0 : Int), (0 : Int), (0 : Int), (0 : Int), (0 : Int), (0 : Int), (0 : Int), (0 : Int), (0 : Int), (0 : Int), (0 : Int), (0 : Int), (0 : Int), (0 : Int), (0 : Int), (0 : Int), (0 : Int), (0 : Int), (0 : Int), (0 : Int), (0 : Int), (0 : Int), (0 : Int), (0 : Int), (0 : Int), (0 : Int), (0 : Int), (0 : Int), (0 : Int), (0 : Int), (0 : Int), (0 : Int), (0 : Int), (0 : Int), (0 : Int), (0 : Int), (0 : Int)] : (List Int))) (by simp) (by rfl)) (.cons (opd_int rfl) rfl (LS.arr' (i := 5) (ys := ([(1116352408 : Int), (1899447441 : Int), (3049323471 : Int), (3921009573 : Int), (961987163 : Int), (1508970993 : Int), (0 : Int), (0 : Int), (0 : Int), (0 : Int), (0 : Int), (0 : Int), (0 : Int), (0 : Int), (0 : Int), (0 : Int), (0 : Int), (0 : Int), (0 : Int), (0 : Int), (0 : Int), (0 : Int), (0 : Int), (0 : Int), (0 : Int), (0 : Int), (0 : Int), (0 : Int), (0 : Int), (0 : Int), (0 : Int), (0 : Int), (0 : Int), (0 : Int), (0 : Int), (0 : Int), (0 : Int), (0 : Int), (0 : Int), (0 : Int), (0 : Int), (0 : Int), (0 : Int), (0 : Int), (0 : Int), (0 : Int), (0 : Int), (0 : Int), (0 : Int), (0 : Int), (0 : Int), (0 : Int), (0 : Int), (0 : Int), (0 : Int), (0 : Int), (0 : Int), (0 : Int), (0 : Int), (0 : Int), (0 : Int), (0 : Int), (0 : Int), (0 : Int)] : (List Int))) (by simp) (by rfl)) (.cons (opd_int rfl) rfl (LS.arr' (i := 6) (ys := ([(1116352408 : Int), (1899447441 : Int), (3049323471 : Int), (3921009573 : Int), (961987163 : Int), (1508970993 : Int), (2453635748 : Int), (0 : Int), (0 : Int), (0 : Int), (0 : Int), (0 : Int), (0 : Int), (0 : Int), (0 : Int), (0 : Int), (0 : Int), (0 : Int), (0 : Int), (0 : Int), (0 : Int), (0 : Int), (0 : Int), (0 : Int), (0 : Int), (0 : Int), (0 : Int), (0 : Int), (0 : Int), (0 : Int), (0 : Int), (0 : Int), (0 : Int), (0 : Int), (0 : Int), (0 : Int), (0 : Int), (0 : Int), (0 : Int), (0 : Int), (0 : Int), (0 : Int), (0 : Int), (0 : Int), (0 : Int), (0 : Int), (0 : Int), (0 : Int), (0 : Int), (0 : Int), (0 : Int), (0 : Int), (0 : Int), (0 : Int), (0 : Int), (0 : Int), (0 : Int), (0 : Int), (0 : Int), (0 : Int), (0 : Int), (0 : Int), (0 : Int), (0 : Int)] : (List Int))) (by simp) (by rfl)) (.cons (opd_int rfl) rfl (LS.arr' (i := 7) (ys := ([(1116352408 : Int), (1899447441 : Int), (3049323471 : Int), (3921009573 : Int), (961987163 : Int), (1508970993 : Int), (2453635748 : Int), (2870763221 : Int), (0 : Int), (0 : Int), (0 : Int), (0 : Int), (0 : Int), (0 : Int), (0 : Int), (0 : Int), (0 : Int), (0 : Int), (0 : Int), (0 : Int), (0 : Int), (0 : Int), (0 : Int), (0 : Int), (0 : Int), (0 : Int), (0 : Int), (0 : Int), (0 : Int), (0 : Int), (0 : Int), (0 : Int), (0 : Int), (0 : Int), (0 : Int), (0 : Int), (0 : Int), (0 : Int), (0 : Int), (0 : Int), (0 : Int), (0 : Int), (0 : Int), (0 : Int), (0 : Int), (0 : Int), (0 : Int), (0 : Int), (0 : Int), (0 : Int), (0 : Int), (0 : Int), (0 : Int), (0 : Int), (0 : Int), (0 : Int), (0 : Int), (0 : Int), (0 : Int), (0 : Int), (0 : Int), (0 : Int), (0 : Int), (0 : Int)] : (List Int))) (by simp) (by rfl)) (.cons (opd_int rfl) rfl (LS.arr' (i := 8) (ys := ([(1116352408 : Int), (1899447441 : Int), (3049323471 : Int), (3921009573 : Int), (961987163 : Int), (1508970993 : Int), (2453635748 : Int), (2870763221 : Int), (3624381080 : Int), (0 : Int), (0 : Int), (0 : Int), (0 : Int), (0 : Int), (0 : Int), (0 : Int), (0 : Int), (0 : Int), (0 : Int), (0 : Int), (0 : Int), (0 : Int), (0 : Int), (0 : Int), (0 : Int), (0 : Int), (0 : Int), (0 : Int), (0 : Int), (0 : Int), (0 : Int), (0 : Int), (0 : Int), (0 : Int), (0 : Int), (0 : Int), (0 : Int), (0 : Int), (0 : Int), (0 : Int), (0 : Int), (0 : Int), (0 : Int), (0 : Int), (0 : Int), (0 : Int), (0 : Int), (0 : Int), (0 : Int), (0 : Int), (0 : Int), (0 : Int), (0 : Int), (0 : Int), (0 : Int), (0 : Int), (0 : Int), (0 : Int), (0 : Int), (0 : Int), (0 : Int), (0 : Int), (0 : Int), (0 : Int)] : (List Int))) (by simp) (by rfl)) (.cons (opd_int rfl) rfl (LS.arr' (i := 9) (ys := ([(1116352408 : Int), (1899447441 : Int), (3049323471 : Int), (3921009573 : Int), (961987163 : Int), (1508970993 : Int), (2453635748 : Int), (2870763221 : Int), (3624381080 : Int), (310598401 : Int), (0 : Int), (0 : Int), (0 : Int), (0 : Int), (0 : Int), (0 : Int), (0 : Int), (0 : Int), (0 : Int), (0 : Int), (0 : Int), (0 : Int), (0 : Int), (0 : Int), (0 : Int), (0 : Int), (0 : Int), (0 : Int), (0 : Int), (0 : Int), (0 : Int), (0 : Int), (0 : Int), (0 : Int), (0 : Int), (0 : Int), (0 : Int), (0 : Int), (0 : Int), (0 : Int), (0 : Int), (0 : Int), (0 : Int), (0 : Int), (0 : Int), (0 : Int), (0 : Int), (0 : Int), (0 : Int), (0 : Int), (0 : Int), (0 : Int), (0 : Int), (0 : Int), (0 : Int), (0 : Int), (0 : Int), (0 : Int), (0 : Int), (0 : Int), (0 : Int), (0 : Int), (0 : Int), (0 : Int)] : (List Int))) (by simp) (by rfl)) (.cons (opd_int rfl) rfl (LS.arr' (i := 10) (ys := ([(1116352408 : Int), (1899447441 : Int), (3049323471 : Int), (3921009573 : Int), (961987163 : Int), (1508970993 : Int), (2453635748 : Int), (2870763221 : Int), (3624381080 : Int), (310598401 : Int), (607225278 : Int), (0 : Int), (0 : Int), (0 : Int), (0 : Int), (0 : Int), (0 : Int), (0 : Int), (0 : Int), (0 : Int), (0 : Int), (0 : Int), (0 : Int), (0 : Int), (0 : Int), (0 : Int), (0 : Int), (0 : Int), (0 : Int), (0 : Int), (0 : Int), (0 : Int), (0 : Int), (0 : Int), (0 : Int), (0 : Int), (0 : Int), (0 : Int), (0 : Int), (0 : Int), (0 : Int), (0 : Int), (0 : Int), (0 : Int), (0 : Int), (0 : Int), (0 : Int), (0 : Int), (0 : Int), (0 : Int), (0 : Int), (0 : Int), (0 : Int), (0 : Int), (0 : Int), (0 : Int), (0 : Int), (0 : Int), (0 : Int), (0 : Int), (0 : Int), (0 : Int), (0 : Int), (0 : Int)] : (List Int))) (by simp) (by rfl)) (.cons (opd_int rfl) rfl (LS.arr' (i := 11) (ys := ([(1116352408 : Int), (1899447441 : Int), (3049323471 : Int), (3921009573 : Int), (961987163 : Int), (1508970993 : Int), (2453635748 : Int), (2870763221 : Int), (3624381080 : Int), (310598401 : Int), (607225278 : Int), (1426881987 : Int), (0 : Int), (0 : Int), (0 : Int), (0 : Int), (0 : Int), (0 : Int), (0 : Int), (0 : Int), (0 : Int), (0 : Int), (0 : Int), (0 : Int), (0 : Int), (0 : Int), (0 : Int), (0 : Int), (0 : Int), (0 : Int), (0 : Int), (0 : Int), (0 : Int), (0 : Int), (0 : Int), (0 : Int), (0 : Int), (0 : Int), (0 : Int), (0 : Int), (0 : Int), (0 : Int), (0 : Int), (0 : Int), (0 : Int), (0 : Int), (0 : Int), (0 : Int), (0 : Int), (0 : Int), (0 : Int), (0 : Int), (0 : Int), (0 : Int), (0 : Int), (0 : Int), (0 : Int), (0 : Int), (0 : Int), (0 : Int), (0 : Int), (0 : Int), (0 : Int), (0 : Int)] : (List Int))) (by simp) (by rfl)) (.cons (opd_int rfl) rfl (LS.arr' (i := 12) (ys := ([(1116352408 : Int), (1899447441 : Int), (3049323471 : Int), (3921009573 : Int), (961987163 : Int), (1508970993 : Int), (2453635748 : Int), (2870763221 : Int), (3624381080 : Int), (310598401 : Int), (607225278 : Int), (1426881987 : Int), (1925078388 : Int), (0 : Int), (0 : Int), (0 : Int), (0 : Int), (0 : Int), (0 : Int), (0 : Int), (0 : Int), (0 : Int), (0 : Int), (0 : Int), (0 : Int), (0 : Int), (0 : Int), (0 : Int), (0 : Int), (0 : Int), (0 : Int), (0 : Int), (0 : Int), (0 : Int), (0 : Int), (0 : Int), (0 : Int), (0 : Int), (0 : Int), (0 : Int), (0 : Int), (0 : Int), (0 : Int), (0 : Int), (0 : Int), (0 : Int), (0 : Int), (0 : Int), (0 : Int), (0 : Int), (0 : Int), (0 : Int), (0 : Int), (0 : Int), (0 : Int), (0 : Int), (0 : Int), (0 : Int), (0 : Int), (0 : Int), (0 : Int), (0 : Int), (0 : Int), (0 : Int)] : (List Int))) (by simp) (by rfl)) (.cons (opd_int rfl) rfl (LS.arr' (i := 13) (ys := ([(1116352408 : Int), (1899447441 : Int), (3049323471 : Int), (3921009573 : Int), (961987163 : Int), (1508970993 : Int), (2453635748 : Int), (2870763221 : Int), (3624381080 : Int), (310598401 : Int), (607225278 : Int), (1426881987 : Int), (1925078388 : Int), (2162078206 : Int), (0 : Int), (0 : Int), (0 : Int), (0 : Int), (0 : Int), (0 : Int), (0 : Int), (0 : Int), (0 : Int), (0 : Int), (0 : Int), (0 : Int), (0 : Int), (0 : Int), (0 : Int), (0 : Int), (0 : Int), (0 : Int), (0 : Int), (0 : Int), (0 : Int), (0 : Int), (0 : Int), (0 : Int), (0 : Int), (0 : Int), (0 : Int), (0 : Int), (0 : Int), (0 : Int), (0 : Int), (0 : Int), (0 : Int), (0 : Int), (0 : Int), (0 : Int), (0 : Int), (0 : Int), (0 : Int), (0 : Int), (0 : Int), (0 : Int), (0 : Int), (0 : Int), (0 : Int), (0 : Int), (0 : Int), (0 : Int), (0 : Int), (0 : Int)] : (List Int))) (by simp) (by rfl)) (.cons (opd_int rfl) rfl (LS.arr' (i := 14) (ys := ([(1116352408 : Int), (1899447441 : Int), (3049323471 : Int), (3921009573 : Int), (961987163 : Int), (1508970993 : Int), (2453635748 : Int), (2870763221 : Int), (3624381080 : Int), (310598401 : Int), (607225278 : Int), (1426881987 : Int), (1925078388 : Int), (2162078206 : Int), (2614888103 : Int), (0 : Int), (0 : Int), (0 : Int), (0 : Int), (0 : Int), (0 : Int), (0 : Int), (0 : Int), (0 : Int), (0 : Int), (0 : Int), (0 : Int), (0 : Int), (0 : Int), (0 : Int), (0 : Int), (0 : Int), (0 : Int), (0 : Int), (0 : Int), (0 : Int), (0 : Int), (0 : Int), (0 : Int), (0 : Int), (0 : Int), (0 : Int), (0 : Int), (0 : Int), (0 : Int), (0 : Int), (0 : Int), (0 : Int), (0 : Int), (0 : Int), (0 : Int), (0 : Int), (0 : Int), (0 : Int), (0 : Int), (0 : Int), (0 : Int), (0 : Int), (0 : Int), (0 : Int), (0 : Int), (0 : Int), (0 : Int), (0 : Int)] : (List Int))) (by simp) (by rfl)) (.cons (opd_int rfl) rfl (LS.arr' (i := 15) (ys := ([(1116352408 : Int), (1899447441 : Int), (3049323471 : Int), (3921009573 : Int), (961987163 : Int), (1508970993 : Int), (2453635748 : Int), (2870763221 : Int), (3624381080 : Int), (310598401 : Int), (607225278 : Int), (1426881987 : Int), (1925078388 : Int), (2162078206 : Int), (2614888103 : Int), (3248222580 : Int), (0 : Int), (0 : Int), (0 : Int), (0 : Int), (0 : Int), (0 : Int), (0 : Int), (0 : Int), (0 : Int), (0 : Int), (0 : Int), (0 : Int), (0 : Int), (0 : Int), (0 : Int), (0 : Int), (0 : Int), (0 : Int), (0 : Int), (0 : Int), (0 : Int), (0 : Int), (0 : Int), (0 : Int), (0 : Int), (0 : Int), (0 : Int), (0 : Int), (0 : Int), (0 : Int), (0 : Int), (0 : Int), (0 : Int), (0 : Int), (0 : Int), (0 : Int), (0 : Int), (0 : Int), (0 : Int), (0 : Int), (0 : Int), (0 : Int), (0 : Int), (0 : Int), (0 : Int), (0 : Int), (0 : Int), (0 : Int)] : (List Int))) (by simp) (by rfl)) (.cons (opd_int rfl) rfl (LS.arr' (i := 16) (ys := ([(1116352408 : Int), (1899447441 : Int), (3049323471 : Int), (3921009573 : Int), (961987163 : Int), (1508970993 : Int), (2453635748 : Int), (2870763221 : Int), (3624381080 : Int), (310598401 : Int), (607225278 : Int), (1426881987 : Int), (1925078388 : Int), (2162078206 : Int), (2614888103 : Int), (3248222580 : Int), (3835390401 : Int), (0 : Int), (0 : Int), (0 : Int), (0 : Int), (0 : Int), (0 : Int), (0 : Int), (0 : Int), (0 : Int), (0 : Int), (0 : Int), (0 : Int), (0 : Int), (0 : Int), (0 : Int), (0 : Int), (0 : Int), (0 : Int), (0 : Int), (0 : Int), (0 : Int), (0 : Int), (0 : Int), (0 : Int), (0 : Int), (0 : Int), (0 : Int), (0 : Int), (0 : Int), (0 : Int), (0 : Int), (0 : Int), (0 : Int), (0 : Int), (0 : Int), (0 : Int), (0 : Int), (0 : Int), (0 : Int), (0 : Int), (0 : Int), (0 : Int), (0 : Int), (0 : Int), (0 : Int), (0 : Int), (0 : Int)] : (List Int))) (by simp) (by rfl)) (.cons (opd_int rfl) rfl (LS.arr' (i := 17) (ys := ([(1116352408 : Int), (1899447441 : Int), (3049323471 : Int), (3921009573 : Int), (961987163 : Int), (1508970993 : Int), (2453635748 : Int), (2870763221 : Int), (3624381080 : Int), (310598401 : Int), (607225278 : Int), (1426881987 : Int), (1925078388 : Int), (2162078206 : Int), (2614888103 : Int), (3248222580 : Int), (3835390401 : Int), (4022224774 : Int), (0 : Int), (0 : Int), (0 : Int), (0 : Int), (0 : Int), (0 : Int), (0 : Int), (0 : Int), (0 : Int), (0 : Int), (0 : Int), (0 : Int), (0 : Int), (0 : Int), (0 : Int), (0 : Int), (0 : Int), (0 : Int), (0 : Int), (0 : Int), (0 : Int), (0 : Int), (0 : Int), (0 : Int), (0 : Int), (0 : Int), (0 : Int), (0 : Int), (0 : Int), (0 : Int), (0 : Int), (0 : Int), (0 : Int), (0 : Int), (0 : Int), (0 : Int), (0 : Int), (0 : Int), (0 : Int), (0 : Int), (0 : Int), (0 : Int), (0 : Int), (0 : Int), (0 : Int), (0 : Int)] : (List Int))) (by simp) (by rfl)) (.cons (opd_int rfl) rfl (LS.arr' (i := 18) (ys := ([(1116352408 : Int), (1899447441 : Int), (3049323471 : Int), (3921009573 : Int), (961987163 : Int), (1508970993 : Int), (2453635748 : Int), (2870763221 : Int), (3624381080 : Int), (310598401 : Int), (607225278 : Int), (1426881987 : Int), (1925078388 : Int), (2162078206 : Int), (2614888103 : Int), (3248222580 : Int), (3835390401 : Int), (4022224774 : Int), (264347078 : Int), (0 : Int), (0 : Int), (0 : Int), (0 : Int), (0 : Int), (0 : Int), (0 : Int), (0 : Int), (0 : Int), (0 : Int), (0 : Int), (0 : Int), (0 : Int), (0 : Int), (0 : Int), (0 : Int), (0 : Int), (0 : Int), (0 : Int), (0 : Int), (0 : Int), (0 : Int), (0 : Int), (0 : Int), (0 : Int), (0 : Int), (0 : Int), (0 : Int), (0 : Int), (0 : Int), (0 : Int), (0 : Int), (0 : Int), (0 : Int), (0 : Int), (0 : Int), (0 : Int), (0 : Int), (0 : Int), (0 : Int), (0 : Int), (0 : Int), (0 : Int), (0 : Int), (0 : Int)] : (List Int))) (by simp) (by rfl)) (.cons (opd_int rfl) rfl (LS.arr' (i := 19) (ys := ([(1116352408 : Int), (1899447441 : Int), (3049323471 : Int), (3921009573 : Int), (961987163 : Int), (1508970993 : Int), (2453635748 : Int), (2870763221 : Int), (3624381080 : Int), (310598401 : Int), (607225278 : Int), (1426881987 : Int), (1925078388 : Int), (2162078206 : Int), (2614888103 : Int), (3248222580 : Int), (3835390401 : Int), (4022224774 : Int), (264347078 : Int), (604807628 : Int), (0 : Int), (0 : Int), (0 : Int), (0 : Int), (0 : Int), (0 : Int), (0 : Int), (0 : Int), (0 : Int), (0 : Int), (0 : Int), (0 : Int), (0 : Int), (0 : Int), (0 : Int), (0 : Int), (0 : Int), (0 : Int), (0 : Int), (0 : Int), (0 : Int), (0 : Int), (0 : Int), (0 : Int), (0 : Int), (0 : Int), (0 : Int), (0 : Int), (0 : Int), (0 : Int), (0 : Int), (0 : Int), (0 : Int), (0 : Int), (0 : Int), (0 : Int), (0 : Int), (0 : Int), (0 : Int), (0 : Int), (0 : Int), (0 : Int), (0 : Int), (0 : Int)] : (List Int))) (by simp) (by rfl)) (.cons (opd_int rfl) rfl (LS.arr' (i := 20) (ys := ([(1116352408 : Int), (1899447441 : Int), (3049323471 : Int), (3921009573 : Int), (961987163 : Int), (1508970993 : Int), (2453635748 : Int), (2870763221 : Int), (3624381080 : Int), (310598401 : Int), (607225278 : Int), (1426881987 : Int), (1925078388 : Int), (2162078206 : Int), (2614888103 : Int), (3248222580 : Int), (3835390401 : Int), (4022224774 : Int), (264347078 : Int), (604807628 : Int), (770255983 : Int), (0 : Int), (0 : Int), (0 : Int), (0 : Int), (0 : Int), (0 : Int), (0 : Int), (0 : Int), (0 : Int), (0 : Int), (0 : Int), (0 : Int), (0 : Int), (0 : Int), (0 : Int), (0 : Int), (0 : Int), (0 : Int), (0 : Int), (0 : Int), (0 : Int), (0 : Int), (0 : Int), (0 : Int), (0 : Int), (0 : Int), (0 : Int), (0 : Int), (0 : Int), (0 : Int), (0 : Int), (0 : Int), (0 : Int), (0 : Int), (0 : Int), (0 : Int), (0 : Int), (0 : Int), (0 : Int), (0 : Int), (0 : Int), (0 : Int), (0 : Int)] : (List Int))) (by simp) (by rfl)) (.cons (opd_int rfl) rfl (LS.arr' (i := 21) (ys := ([(1116352408 : Int), (1899447441 : Int), (3049323471 : Int), (3921009573 : Int), (961987163 : Int), (1508970993 : Int), (2453635748 : Int), (2870763221 : Int), (3624381080 : Int), (310598401 : Int), (607225278 : Int), (1426881987 : Int), (1925078388 : Int), (2162078206 : Int), (2614888103 : Int), (3248222580 : Int), (3835390401 : Int), (4022224774 : Int), (264347078 : Int), (604807628 : Int), (770255983 : Int), (1249150122 : Int), (0 : Int), (0 : Int), (0 : Int), (0 : Int), (0 : Int), (0 : Int), (0 : Int), (0 : Int), (0 : Int), (0 : Int), (0 : Int), (0 : Int), (0 : Int), (0 : Int), (0 : Int), (0 : Int), (0 : Int), (0 : Int), (0 : Int), (0 : Int), (0 : Int), (0 : Int), (0 : Int), (0 : Int), (0 : Int), (0 : Int), (0 : Int), (0 : Int), (0 : Int), (0 : Int), (0 : Int), (0 : Int), (0 : Int), (0 : Int), (0 : Int), (0 : Int), (0 : Int), (0 : Int), (0 : Int), (0 : Int), (0 : Int), (0 : Int)] : (List Int))) (by simp) (by rfl)) (.cons (opd_int rfl) rfl (LS.arr' (i := 22) (ys := ([(1116352408 : Int), (1899447441 : Int), (3049323471 : Int), (3921009573 : Int), (961987163 : Int), (1508970993 : Int), (2453635748 : Int), (2870763221 : Int), (3624381080 : Int), (310598401 : Int), (607225278 : Int), (1426881987 : Int), (1925078388 : Int), (2162078206 : Int), (2614888103 : Int), (3248222580 : Int), (3835390401 : Int), (4022224774 : Int), (264347078 : Int), (604807628 : Int), (770255983 : Int), (1249150122 : Int), (1555081692 : Int), (0 : Int), (0 : Int), (0 : Int), (0 : Int), (0 : Int), (0 : Int), (0 : Int), (0 : Int), (0 : Int), (0 : Int), (0 : Int), (0 : Int), (0 : Int), (0 : Int), (0 : Int), (0 : Int), (0 : Int), (0 : Int), (0 : Int), (0 : Int), (0 : Int), (0 : Int), (0 : Int), (0 : Int), (0 : Int), (0 : Int), (0 : Int), (0 : Int), (0 : Int), (0 : Int), (0 : Int), (0 : Int), (0 : Int), (0 : Int), (0 : Int), (0 : Int), (0 : Int), (0 : Int), (0 : Int), (0 : Int), (0 : Int)] : (List Int))) (by simp) (by rfl)) (.cons (opd_int rfl) rfl (LS.arr' (i := 23) (ys := ([(1116352408 : Int), (1899447441 : Int), (3049323471 : Int), (3921009573 : Int), (961987163 : Int), (1508970993 : Int), (2453635748 : Int), (2870763221 : Int), (3624381080 : Int), (310598401 : Int), (607225278 : Int), (1426881987 : Int), (1925078388 : Int), (2162078206 : Int), (2614888103 : Int), (3248222580 : Int), (3835390401 : Int), (4022224774 : Int), (264347078 : Int), (604807628 : Int), (770255983 : Int), (1249150122 : Int), (1555081692 : Int), (1996064986 : Int), (0 : Int), (0 : Int), (0 : Int), (0 : Int), (0 : Int), (0 : Int), (0 : Int), (0 : Int), (0 : Int), (0 : Int), (0 : Int), (0 : Int), (0 : Int), (0 : Int), (0 : Int), (0 : Int), (0 : Int), (0 : Int), (0 : Int), (0 : Int), (0 : Int), (0 : Int), (0 : Int), (0 : Int), (0 : Int), (0 : Int), (0 : Int), (0 : Int), (0 : Int), (0 : Int), (0 : Int), (0 : Int), (0 : Int), (0 : Int), (0 : Int), (0 : Int), (0 : Int), (0 : Int), (0 : Int), (0 : Int)] : (List Int))) (by simp) (by rfl)) (.cons (opd_int rfl) rfl (LS.arr' (i := 24) (ys := ([(1116352408 : Int), (1899447441 : Int), (3049323471 : Int), (3921009573 : Int), (961987163 : Int), (1508970993 : Int), (2453635748 : Int), (2870763221 : Int), (3624381080 : Int), (310598401 : Int), (607225278 : Int), (1426881987 : Int), (1925078388 : Int), (2162078206 : Int), (2614888103 : Int), (3248222580 : Int), (3835390401 : Int), (4022224774 : Int), (264347078 : Int), (604807628 : Int), (770255983 : Int), (1249150122 : Int), (1555081692 : Int), (1996064986 : Int), (2554220882 : Int), (0 : Int), (0 : Int), (0 : Int), (0 : Int), (0 : Int), (0 : Int), (0 : Int), (0 : Int), (0 : Int), (0 : Int), (0 : Int), (0 : Int), (0 : Int), (0 : Int), (0 : Int), (0 : Int), (0 : Int), (0 : Int), (0 : Int), (0 : Int), (0 : Int), (0 : Int), (0 : Int), (0 : Int), (0 : Int), (0 : Int), (0 : Int), (0 : Int), (0 : Int), (0 : Int), (0 : Int), (0 : Int), (0 : Int), (0 : Int), (0 : Int), (0 : Int), (0 : Int), (0 : Int), (0 : Int)] : (List Int))) (by simp) (by rfl)) (.cons (opd_int rfl) rfl (LS.arr' (i := 25) (ys := ([(1116352408 : Int), (1899447441 : Int), (3049323471 : Int), (3921009573 : Int), (961987163 : Int), (1508970993 : Int), (2453635748 : Int), (2870763221 : Int), (3624381080 : Int), (310598401 : Int), (607225278 : Int), (1426881987 : Int), (1925078388 : Int), (2162078206 : Int), (2614888103 : Int), (3248222580 : Int), (3835390401 : Int), (4022224774 : Int), (264347078 : Int), (604807628 : Int), (770255983 : Int), (1249150122 : Int), (1555081692 : Int), (1996064986 : Int), (2554220882 : Int), (2821834349 : Int), (0 : Int), (0 : Int), (0 : Int), (0 : Int), (0 : Int), (0 : Int), (0 : Int), (0 : Int), (0 : Int), (0 : Int), (0 : Int), (0 : Int), (0 : Int), (0 : Int), (0 : Int), (0 : Int), (0 : Int), (0 : Int), (0 : Int), (0 : Int), (0 : Int), (0 : Int), (0 : Int), (0 : Int), (0 : Int), (0 : Int), (0 : Int), (0 : Int), (0 : Int), (0 : Int), (0 : Int), (0 : Int), (0 : Int), (0 : Int), (0 : Int), (0 : Int), (0 : Int), (0 : Int)] : (List Int))) (by simp) (by rfl)) (.cons (opd_int rfl) rfl (LS.arr' (i := 26) (ys := ([(1116352408 : Int), (1899447441 : Int), (3049323471 : Int), (3921009573 : Int), (961987163 : Int), (1508970993 : Int), (2453635748 : Int), (2870763221 : Int), (3624381080 : Int), (310598401 : Int), (607225278 : Int), (1426881987 : Int), (1925078388 : Int), (2162078206 : Int), (2614888103 : Int), (3248222580 : Int), (3835390401 : Int), (4022224774 : Int), (264347078 : Int), (604807628 : Int), (770255983 : Int), (1249150122 : Int), (1555081692 : Int), (1996064986 : Int), (2554220882 : Int), (2821834349 : Int), (2952996808 : Int), (0 : Int), (0 : Int), (0 : Int), (0 : Int), (0 : Int), (0 : Int), (0 : Int), (0 : Int), (0 : Int), (0 : Int), (0 : Int), (0 : Int), (0 : Int), (0 : Int), (0 : Int), (0 : Int), (0 : Int), (0 : Int), (0 : Int), (0 : Int), (0 : Int), (0 : Int), (0 : Int), (0 : Int), (0 : Int), (0 : Int), (0 : Int), (0 : Int), (0 : Int), (0 : Int), (0 : Int), (0 : Int), (0 : Int), (0 : Int), (0 : Int), (0 : Int), (0 : Int)] : (List Int))) (by simp) (by rfl)) (.cons (opd_int rfl) rfl (LS.arr' (i := 27) (ys := ([(1116352408 : Int), (1899447441 : Int), (3049323471 : Int), (3921009573 : Int), (961987163 : Int), (1508970993 : Int), (2453635748 : Int), (2870763221 : Int), (3624381080 : Int), (310598401 : Int), (607225278 : Int), (1426881987 : Int), (1925078388 : Int), (2162078206 : Int), (2614888103 : Int), (3248222580 : Int), (3835390401 : Int), (4022224774 : Int), (264347078 : Int), (604807628 : Int), (770255983 : Int), (1249150122 : Int), (1555081692 : Int), (1996064986 : Int), (2554220882 : Int), (2821834349 : Int), (2952996808 : Int), (3210313671 : Int), (0 : Int), (0 : Int), (0 : Int), (0 : Int), (0 : Int), (0 : Int), (0 : Int), (0 : Int), (0 : Int), (0 : Int), (0 : Int), (0 : Int), (0 : Int), (0 : Int), (0 : Int), (0 : Int), (0 : Int), (0 : Int), (0 : Int), (0 : Int), (0 : Int), (0 : Int), (0 : Int), (0 : Int), (0 : Int), (0 : Int), (0 : Int), (0 : Int), (0 : Int), (0 : Int), (0 : Int), (0 : Int), (0 : Int), (0 : Int), (0 : Int), (0 : Int)] : (List Int))) (by simp) (by rfl)) (.cons (opd_int rfl) rfl (LS.arr' (i := 28) (ys := ([(1116352408 : Int), (1899447441 : Int), (3049323471 : Int), (3921009573 : Int), (961987163 : Int), (1508970993 : Int), (2453635748 : Int), (2870763221 : Int), (3624381080 : Int), (310598401 : Int), (607225278 : Int), (1426881987 : Int), (1925078388 : Int), (2162078206 : Int), (2614888103 : Int), (3248222580 : Int), (3835390401 : Int), (4022224774 : Int), (264347078 : Int), (604807628 : Int), (770255983 : Int), (1249150122 : Int), (1555081692 : Int), (1996064986 : Int), (2554220882 : Int), (2821834349 : Int), (2952996808 : Int), (3210313671 : Int), (3336571891 : Int), (0 : Int), (0 : Int), (0 : Int), (0 : Int), (0 : Int), (0 : Int), (0 : Int), (0 : Int), (0 : Int), (0 : Int), (0 : Int), (0 : Int), (0 : Int), (0 : Int), (0 : Int), (0 : Int), (0 : Int), (0 : Int), (0 : Int), (0 : Int), (0 : Int), (0 : Int), (0 : Int), (0 : Int), (0 : Int), (0 : Int), (0 : Int), (0 : Int), (0 : Int), (0 : Int), (0 : Int), (0 : Int), (0 : Int), (0 : Int), (0 : Int)] : (List Int))) (by simp) (by rfl)) (.cons (opd_int rfl) rfl (LS.arr' (i := 29) (ys := ([(1116352408 : Int), (1899447441 : Int), (3049323471 : Int), (3921009573 : Int), (961987163 : Int), (1508970993 : Int), (2453635748 : Int), (2870763221 : Int), (3624381080 : Int), (310598401 : Int), (607225278 : Int), (1426881987 : Int), (1925078388 : Int), (2162078206 : Int), (2614888103 : Int), (3248222580 : Int), (3835390401 : Int), (4022224774 : Int), (264347078 : Int), (604807628 : Int), (770255983 : Int), (1249150122 : Int), (1555081692 : Int), (1996064986 : Int), (2554220882 : Int), (2821834349 : Int), (2952996808 : Int), (3210313671 : Int), (3336571891 : Int), (3584528711 : Int), (0 : Int), (0 : Int), (0 : Int), (0 : Int), (0 : Int), (0 : Int), (0 : Int), (0 : Int), (0 : Int), (0 : Int), (0 : Int), (0 : Int), (0 : Int), (0 : Int), (0 : Int), (0 : Int), (0 : Int), (0 : Int), (0 : Int), (0 : Int), (0 : Int), (0 : Int), (0 : Int), (0 : Int), (0 : Int), (0 : Int), (0 : Int), (0 : Int), (0 : Int), (0 : Int), (0 : Int), (0 : Int), (0 : Int), (0 : Int)] : (List Int))) (by simp) (by rfl)) (.cons (opd_int rfl) rfl (LS.arr' (i := 30) (ys := ([(1116352408 : Int), (1899447441 : Int), (3049323471 : Int), (3921009573 : Int), (961987163 : Int), (1508970993 : Int), (2453635748 : Int), (2870763221 : Int), (3624381080 : Int), (310598401 : Int), (607225278 : Int), (1426881987 : Int), (1925078388 : Int), (2162078206 : Int), (2614888103 : Int), (3248222580 : Int), (3835390401 : Int), (4022224774 : Int), (264347078 : Int), (604807628 : Int), (770255983 : Int), (1249150122 : Int), (1555081692 : Int), (1996064986 : Int), (2554220882 : Int), (2821834349 : Int), (2952996808 : Int), (3210313671 : Int), (3336571891 : Int), (3584528711 : Int), (113926993 : Int), (0 : Int), (0 : Int), (0 : Int), (0 : Int), (0 : Int), (0 : Int), (0 : Int), (0 : Int), (0 : Int), (0 : Int), (0 : Int), (0 : Int), (0 : Int), (0 : Int), (0 : Int), (0 : Int), (0 : Int), (0 : Int), (0 : Int), (0 : Int), (0 : Int), (0 : Int), (0 : Int), (0 : Int), (0 : Int), (0 : Int), (0 : Int), (0 : Int), (0 : Int), (0 : Int), (0 : Int), (0 : Int), (0 : Int)] : (List Int))) (by simp) (by rfl)) (.cons (opd_int rfl) rfl (LS.arr' (i := 31) (ys := ([(1116352408 : Int), (1899447441 : Int), (3049323471 : Int), (3921009573 : Int), (961987163 : Int), (1508970993 : Int), (2453635748 : Int), (2870763221 : Int), (3624381080 : Int), (310598401 : Int), (607225278 : Int), (1426881987 : Int), (1925078388 : Int), (2162078206 : Int), (2614888103 : Int), (3248222580 : Int), (3835390401 : Int), (4022224774 : Int), (264347078 : Int), (604807628 : Int), (770255983 : Int), (1249150122 : Int), (1555081692 : Int), (1996064986 : Int), (2554220882 : Int), (2821834349 : Int), (2952996808 : Int), (3210313671 : Int), (3336571891 : Int), (3584528711 : Int), (113926993 : Int), (338241895 : Int), (0 : Int), (0 : Int), (0 : Int), (0 : Int), (0 : Int), (0 : Int), (0 : Int), (0 : Int), (0 : Int), (0 : Int), (0 : Int), (0 : Int), (0 : Int), (0 : Int), (0 : Int), (0 : Int), (0 : Int), (0 : Int), (0 : Int), (0 : Int), (0 : Int), (0 : Int), (0 : Int), (0 : Int), (0 : Int), (0 : Int), (0 : Int), (0 : Int), (0 : Int), (0 : Int), (0 : Int), (0 : Int)] : (List Int))) (by simp) (by rfl)) (.cons (opd_int rfl) rfl (LS.arr' (i := 32) (ys := ([(1116352408 : Int), (1899447441 : Int), (3049323471 : Int), (3921009573 : Int), (961987163 : Int), (1508970993 : Int), (2453635748 : Int), (2870763221 : Int), (3624381080 : Int), (310598401 : Int), (607225278 : Int), (1426881987 : Int), (1925078388 : Int), (2162078206 : Int), (2614888103 : Int), (3248222580 : Int), (3835390401 : Int), (4022224774 : Int), (264347078 : Int), (604807628 : Int), (770255983 : Int), (1249150122 : Int), (1555081692 : Int), (1996064986 : Int), (2554220882 : Int), (2821834349 : Int), (2952996808 : Int), (3210313671 : Int), (3336571891 : Int), (3584528711 : Int), (113926993 : Int), (338241895 : Int), (666307205 : Int), (0 : Int), (0 : Int), (0 : Int), (0 : Int), (0 : Int), (0 : Int), (0 : Int), (0 : Int), (0 : Int), (0 : Int), (0 : Int), (0 : Int), (0 : Int), (0 : Int), (0 : Int), (0 : Int), (0 : Int), (0 : Int), (0 : Int), (0 : Int), (0 : Int), (0 : Int), (0 : Int), (0 : Int), (0 : Int), (0 : Int), (0 : Int), (0 : Int), (0 : Int), (0 : Int), (0 : Int)] : (List Int))) (by simp) (by rfl)) (.cons (opd_int rfl) rfl (LS.arr' (i := 33) (ys := ([(1116352408 : Int), (1899447441 : Int), (3049323471 : Int), (3921009573 : Int), (961987163 : Int), (1508970993 : Int), (2453635748 : Int), (2870763221 : Int), (3624381080 : Int), (310598401 : Int), (607225278 : Int), (1426881987 : Int), (1925078388 : Int), (2162078206 : Int), (2614888103 : Int), (3248222580 : Int), (3835390401 : Int), (4022224774 : Int), (264347078 : Int), (604807628 : Int), (770255983 : Int), (1249150122 : Int), (1555081692 : Int), (1996064986 : Int), (2554220882 : Int), (2821834349 : Int), (2952996808 : Int), (3210313671 : Int), (3336571891 : Int), (3584528711 : Int), (113926993 : Int), (338241895 : Int), (666307205 : Int), (773529912 : Int), (0 : Int), (0 : Int), (0 : Int), (0 : Int), (0 : Int), (0 : Int), (0 : Int), (0 : Int), (0 : Int), (0 : Int), (0 : Int), (0 : Int), (0 : Int), (0 : Int), (0 : Int), (0 : Int), (0 : Int), (0 : Int), (0 : Int), (0 : Int), (0 : Int), (0 : Int), (0 : Int), (0 : Int), (0 : Int), (0 : Int), (0 : Int), (0 : Int), (0 : Int), (0 : Int)] : (List Int))) (by simp) (by rfl)) (.cons (opd_int rfl) rfl (LS.arr' (i := 34) (ys := ([(1116352408 : Int), (1899447441 : Int), (3049323471 : Int), (3921009573 : Int), (961987163 : Int), (1508970993 : Int), (2453635748 : Int), (2870763221 : Int), (3624381080 : Int), (310598401 : Int), (607225278 : Int), (1426881987 : Int), (1925078388 : Int), (2162078206 : Int), (2614888103 : Int), (3248222580 : Int), (3835390401 : Int), (4022224774 : Int), (264347078 : Int), (604807628 : Int), (770255983 : Int), (1249150122 : Int), (1555081692 : Int), (1996064986 : Int), (2554220882 : Int), (2821834349 : Int), (2952996808 : Int), (3210313671 : Int), (3336571891 : Int), (3584528711 : Int), (113926993 : Int), (338241895 : Int), (666307205 : Int), (773529912 : Int), (1294757372 : Int), (0 : Int), (0 : Int), (0 : Int), (0 : Int), (0 : Int), (0 : Int), (0 : Int), (0 : Int), (0 : Int), (0 : Int), (0 : Int), (0 : Int), (0 : Int), (0 : Int), (0 : Int), (0 : Int), (0 : Int), (0 : Int), (0 : Int), (0 : Int), (0 : Int), (0 : Int), (0 : Int), (0 : Int), (0 : Int), (0 : Int), (0 : Int), (0 : Int), (0 : Int)] : (List Int))) (by simp) (by rfl)) (.cons (opd_int rfl) rfl (LS.arr' (i := 35) (ys := ([(1116352408 : Int), (1899447441 : Int), (3049323471 : Int), (3921009573 : Int), (961987163 : Int), (1508970993 : Int), (2453635748 : Int), (2870763221 : Int), (3624381080 : Int), (310598401 : Int), (607225278 : Int), (1426881987 : Int), (1925078388 : Int), (2162078206 : Int), (2614888103 : Int), (3248222580 : Int), (3835390401 : Int), (4022224774 : Int), (264347078 : Int), (604807628 : Int), (770255983 : Int), (1249150122 : Int), (1555081692 : Int), (1996064986 : Int), (2554220882 : Int), (2821834349 : Int), (2952996808 : Int), (3210313671 : Int), (3336571891 : Int), (3584528711 : Int), (113926993 : Int), (338241895 : Int), (666307205 : Int), (773529912 : Int), (1294757372 : Int), (1396182291 : Int), (0 : Int), (0 : Int), (0 : Int), (0 : Int), (0 : Int), (0 : Int), (0 : Int), (0 : Int), (0 : Int), (0 : Int), (0 : Int), (0 : Int), (0 : Int), (0 : Int), (0 : Int), (0 : Int), (0 : Int), (0 : Int), (0 : Int), (0 : Int), (0 : Int), (0 : Int), (0 : Int), (0 : Int), (0 : Int), (0 : Int), (0 : Int), (0 : Int)] : (List Int))) (by simp) (by rfl)) (.cons (opd_int rfl) rfl (LS.arr' (i := 36) (ys := ([(1116352408 : Int), (1899447441 : Int), (3049323471 : Int), (3921009573 : Int), (961987163 : Int), (1508970993 : Int), (2453635748 : Int), (2870763221 : Int), (3624381080 : Int), (310598401 : Int), (607225278 : Int), (1426881987 : Int), (1925078388 : Int), (2162078206 : Int), (2614888103 : Int), (3248222580 : Int), (3835390401 : Int), (4022224774 : Int), (264347078 : Int), (604807628 : Int), (770255983 : Int), (1249150122 : Int), (1555081692 : Int), (1996064986 : Int), (2554220882 : Int), (2821834349 : Int), (2952996808 : Int), (3210313671 : Int), (3336571891 : Int), (3584528711 : Int), (113926993 : Int), (338241895 : Int), (666307205 : Int), (773529912 : Int), (1294757372 : Int), (1396182291 : Int), (1695183700 : Int), (0 : Int), (0 : Int), (0 : Int), (0 : Int), (0 : Int), (0 : Int), (0 : Int), (0 : Int), (0 : Int), (0 : Int), (0 : Int), (0 : Int), (0 : Int), (0 : Int), (0 : Int), (0 : Int), (0 : Int), (0 : Int), (0 : Int), (0 : Int), (0 : Int), (0 : Int), (0 : Int), (0 : Int), (0 : Int), (0 : Int), (0 : Int)] : (List Int))) (by simp) (by rfl)) (.cons (opd_int rfl) rfl (LS.arr' (i := 37) (ys := ([(1116352408 : Int), (1899447441 : Int), (3049323471 : Int), (3921009573 : Int), (961987163 : Int), (1508970993 : Int), (2453635748 : Int), (2870763221 : Int), (3624381080 : Int), (310598401 : Int), (607225278 : Int), (1426881987 : Int), (1925078388 : Int), (2162078206 : Int), (2614888103 : Int), (3248222580 : Int), (3835390401 : Int), (4022224774 : Int), (264347078 : Int), (604807628 : Int), (770255983 : Int), (1249150122 : Int), (1555081692 : Int), (1996064986 : Int), (2554220882 : Int), (2821834349 : Int), (2952996808 : Int), (3210313671 : Int), (3336571891 : Int), (3584528711 : Int), (113926993 : Int), (338241895 : Int), (666307205 : Int), (773529912 : Int), (1294757372 : Int), (1396182291 : Int), (1695183700 : Int), (1986661051 : Int), (0 : Int), (0 : Int), (0 : Int), (0 : Int), (0 : Int), (0 : Int), (0 : Int), (0 : Int), (0 : Int), (0 : Int), (0 : Int), (0 : Int), (0 : Int), (0 : Int), (0 : Int), (0 : Int), (0 : Int), (0 : Int), (0 : Int), (0 : Int), (0 : Int), (0 : Int), (0 : Int), (0 : Int), (0 : Int), (0 : Int)] : (List Int))) (by simp) (by rfl)) (.cons (opd_int rfl) rfl (LS.arr' (i := 38) (ys := ([(1116352408 : Int), (1899447441 : Int), (3049323471 : Int), (3921009573 : Int), (961987163 : Int), (1508970993 : Int), (2453635748 : Int), (2870763221 : Int), (3624381080 : Int), (310598401 : Int), (607225278 : Int), (1426881987 : Int), (1925078388 : Int), (2162078206 : Int), (2614888103 : Int), (3248222580 : Int), (3835390401 : Int), (4022224774 : Int), (264347078 : Int), (604807628 : Int), (770255983 : Int), (1249150122 : Int), (1555081692 : Int), (1996064986 : Int), (2554220882 : Int), (2821834349 : Int), (2952996808 : Int), (3210313671 : Int), (3336571891 : Int), (3584528711 : Int), (113926993 : Int), (338241895 : Int), (666307205 : Int), (773529912 : Int), (1294757372 : Int), (1396182291 : Int), (1695183700 : Int), (1986661051 : Int), (2177026350 : Int), (0 : Int), (0 : Int), (0 : Int), (0 : Int), (0 : Int), (0 : Int), (0 : Int), (0 : Int), (0 : Int), (0 : Int), (0 : Int), (0 : Int), (0 : Int), (0 : Int), (0 : Int), (0 : Int), (0 : Int), (0 : Int), (0 : Int), (0 : Int), (0 : Int), (0 : Int), (0 : Int), (0 : Int), (0 : Int)] : (List Int))) (by simp) (by rfl)) (.cons (opd_int rfl) rfl (LS.arr' (i := 39) (ys := ([(1116352408 : Int), (1899447441 : Int), (3049323471 : Int), (3921009573 : Int), (961987163 : Int), (1508970993 : Int), (2453635748 : Int), (2870763221 : Int), (3624381080 : Int), (310598401 : Int), (607225278 : Int), (1426881987 : Int), (1925078388 : Int), (2162078206 : Int), (2614888103 : Int), (3248222580 : Int), (3835390401 : Int), (4022224774 : Int), (264347078 : Int), (604807628 : Int), (770255983 : Int), (1249150122 : Int), (1555081692 : Int), (1996064986 : Int), (2554220882 : Int), (2821834349 : Int), (2952996808 : Int), (3210313671 : Int), (3336571891 : Int), (3584528711 : Int), (113926993 : Int), (338241895 : Int), (666307205 : Int), (773529912 : Int), (1294757372 : Int), (1396182291 : Int), (1695183700 : Int), (1986661051 : Int), (2177026350 : Int), (2456956037 : Int), (0 : Int), (0 : Int), (0 : Int), (0 : Int), (0 : Int), (0 : Int), (0 : Int), (0 : Int), (0 : Int), (0 : Int), (0 : Int), (0 : Int), (0 : Int), (0 : Int), (0 : Int), (0 : Int), (0 : Int), (0 : Int), (0 : Int), (0 : Int), (0 : Int), (0 : Int), (0 : Int), (0 : Int)] : (List Int))) (by simp) (by rfl)) (.cons (opd_int rfl) rfl (LS.arr' (i := 40) (ys := ([(1116352408 : Int), (1899447441 : Int), (3049323471 : Int), (3921009573 : Int), (961987163 : Int), (1508970993 : Int), (2453635748 : Int), (2870763221 : Int), (3624381080 : Int), (310598401 : Int), (607225278 : Int), (1426881987 : Int), (1925078388 : Int), (2162078206 : Int), (2614888103 : Int), (3248222580 : Int), (3835390401 : Int), (4022224774 : Int), (264347078 : Int), (604807628 : Int), (770255983 : Int), (1249150122 : Int), (1555081692 : Int), (1996064986 : Int), (2554220882 : Int), (2821834349 : Int), (2952996808 : Int), (3210313671 : Int), (3336571891 : Int), (3584528711 : Int), (113926993 : Int), (338241895 : Int), (666307205 : Int), (773529912 : Int), (1294757372 : Int), (1396182291 : Int), (1695183700 : Int), (1986661051 : Int), (2177026350 : Int), (2456956037 : Int), (2730485921 : Int), (0 : Int), (0 : Int), (0 : Int), (0 : Int), (0 : Int), (0 : Int), (0 : Int), (0 : Int), (0 : Int), (0 : Int), (0 : Int), (0 : Int), (0 : Int), (0 : Int), (0 : Int), (0 : Int), (0 : Int), (0 : Int), (0 : Int), (0 : Int), (0 : Int), (0 : Int), (0 : Int)] : (List Int))) (by simp) (by rfl)) (.cons (opd_int rfl) rfl (LS.arr' (i := 41) (ys := ([(1116352408 : Int), (1899447441 : Int), (3049323471 : Int), (3921009573 : Int), (961987163 : Int), (1508970993 : Int), (2453635748 : Int), (2870763221 : Int), (3624381080 : Int), (310598401 : Int), (607225278 : Int), (1426881987 : Int), (1925078388 : Int), (2162078206 : Int), (2614888103 : Int), (3248222580 : Int), (3835390401 : Int), (4022224774 : Int), (264347078 : Int), (604807628 : Int), (770255983 : Int), (1249150122 : Int), (1555081692 : Int), (1996064986 : Int), (2554220882 : Int), (2821834349 : Int), (2952996808 : Int), (3210313671 : Int), (3336571891 : Int), (3584528711 : Int), (113926993 : Int), (338241895 : Int), (666307205 : Int), (773529912 : Int), (1294757372 : Int), (1396182291 : Int), (1695183700 : Int), (1986661051 : Int), (2177026350 : Int), (2456956037 : Int), (2730485921 : Int), (2820302411 : Int), (0 : Int), (0 : Int), (0 : Int), (0 : Int), (0 : Int), (0 : Int), (0 : Int), (0 : Int), (0 : Int), (0 : Int), (0 : Int), (0 : Int), (0 : Int), (0 : Int), (0 : Int), (0 : Int), (0 : Int), (0 : Int), (0 : Int), (0 : Int), (0 : Int), (0 : Int)] : (List Int))) (by simp) (by rfl)) (.cons (opd_int rfl) rfl (LS.arr' (i := 42) (ys := ([(1116352408 : Int), (1899447441 : Int), (3049323471 : Int), (3921009573 : Int), (961987163 : Int), (1508970993 : Int), (2453635748 : Int), (2870763221 : Int), (3624381080 : Int), (310598401 : Int), (607225278 : Int), (1426881987 : Int), (1925078388 : Int), (2162078206 : Int), (2614888103 : Int), (3248222580 : Int), (3835390401 : Int), (4022224774 : Int), (264347078 : Int), (604807628 : Int), (770255983 : Int), (1249150122 : Int), (1555081692 : Int), (1996064986 : Int), (2554220882 : Int), (2821834349 : Int), (2952996808 : Int), (3210313671 : Int), (3336571891 : Int), (3584528711 : Int), (113926993 : Int), (338241895 : Int), (666307205 : Int), (773529912 : Int), (1294757372 : Int), (1396182291 : Int), (1695183700 : Int), (1986661051 : Int), (2177026350 : Int), (2456956037 : Int), (2730485921 : Int), (2820302411 : Int), (3259730800 : Int), (0 : Int), (0 : Int), (0 : Int), (0 : Int), (0 : Int), (0 : Int), (0 : Int), (0 : Int), (0 : Int), (0 : Int), (0 : Int), (0 : Int), (0 : Int), (0 : Int), (0 : Int), (0 : Int), (0 : Int), (0 : Int), (0 : Int), (0 : Int), (0 : Int)] : (List Int))) (by simp) (by rfl)) (.cons (opd_int rfl) rfl (LS.arr' (i := 43) (ys := ([(1116352408 : Int), (1899447441 : Int), (3049323471 : Int), (3921009573 : Int), (961987163 : Int), (1508970993 : Int), (2453635748 : Int), (2870763221 : Int), (3624381080 : Int), (310598401 : Int), (607225278 : Int), (1426881987 : Int), (1925078388 : Int), (2162078206 : Int), (2614888103 : Int), (3248222580 : Int), (3835390401 : Int), (4022224774 : Int), (264347078 : Int), (604807628 : Int), (770255983 : Int), (1249150122 : Int), (1555081692 : Int), (1996064986 : Int), (2554220882 : Int), (2821834349 : Int), (2952996808 : Int), (3210313671 : Int), (3336571891 : Int), (3584528711 : Int), (113926993 : Int), (338241895 : Int), (666307205 : Int), (773529912 : Int), (1294757372 : Int), (1396182291 : Int), (1695183700 : Int), (1986661051 : Int), (2177026350 : Int), (2456956037 : Int), (2730485921 : Int), (2820302411 : Int), (3259730800 : Int), (3345764771 : Int), (0 : Int), (0 : Int), (0 : Int), (0 : Int), (0 : Int), (0 : Int), (0 : Int), (0 : Int), (0 : Int), (0 : Int), (0 : Int), (0 : Int), (0 : Int), (0 : Int), (0 : Int), (0 : Int), (0 : Int), (0 : Int), (0 : Int), (0 : Int)] : (List Int))) (by simp) (by rfl)) (.cons (opd_int rfl) rfl (LS.arr' (i := 44) (ys := ([(1116352408 : Int), (1899447441 : Int), (3049323471 : Int), (3921009573 : Int), (961987163 : Int), (1508970993 : Int), (2453635748 : Int), (2870763221 : Int), (3624381080 : Int), (310598401 : Int), (607225278 : Int), (1426881987 : Int), (1925078388 : Int), (2162078206 : Int), (2614888103 : Int), (3248222580 : Int), (3835390401 : Int), (4022224774 : Int), (264347078 : Int), (604807628 : Int), (770255983 : Int), (1249150122 : Int), (1555081692 : Int), (1996064986 : Int), (2554220882 : Int), (2821834349 : Int), (2952996808 : Int), (3210313671 : Int), (3336571891 : Int), (3584528711 : Int), (113926993 : Int), (338241895 : Int), (666307205 : Int), (773529912 : Int), (1294757372 : Int), (1396182291 : Int), (1695183700 : Int), (1986661051 : Int), (2177026350 : Int), (2456956037 : Int), (2730485921 : Int), (2820302411 : Int), (3259730800 : Int), (3345764771 : Int), (3516065817 : Int), (0 : Int), (0 : Int), (0 : Int), (0 : Int), (0 : Int), (0 : Int), (0 : Int), (0 : Int), (0 : Int), (0 : Int), (0 : Int), (0 : Int), (0 : Int), (0 : Int), (0 : Int), (0 : Int), (0 : Int), (0 : Int), (0 : Int)] : (List Int))) (by simp) (by rfl)) (.cons (opd_int rfl) rfl (LS.arr' (i := 45) (ys := ([(1116352408 : Int), (1899447441 : Int), (3049323471 : Int), (3921009573 : Int), (961987163 : Int), (1508970993 : Int), (2453635748 : Int), (2870763221 : Int), (3624381080 : Int), (310598401 : Int), (607225278 : Int), (1426881987 : Int), (1925078388 : Int), (2162078206 : Int), (2614888103 : Int), (3248222580 : Int), (3835390401 : Int), (4022224774 : Int), (264347078 : Int), (604807628 : Int), (770255983 : Int), (1249150122 : Int), (1555081692 : Int), (1996064986 : Int), (2554220882 : Int), (2821834349 : Int), (2952996808 : Int), (3210313671 : Int), (3336571891 : Int), (3584528711 : Int), (113926993 : Int), (338241895 : Int), (666307205 : Int), (773529912 : Int), (1294757372 : Int), (1396182291 : Int), (1695183700 : Int), (1986661051 : Int), (2177026350 : Int), (2456956037 : Int), (2730485921 : Int), (2820302411 : Int), (3259730800 : Int), (3345764771 : Int), (3516065817 : Int), (3600352804 : Int), (0 : Int), (0 : Int), (0 : Int), (0 : Int), (0 : Int), (0 : Int), (0 : Int), (0 : Int), (0 : Int), (0 : Int), (0 : Int), (0 : Int), (0 : Int), (0 : Int), (0 : Int), (0 : Int), (0 : Int), (0 : Int)] : (List Int))) (by simp) (by rfl)) (.cons (opd_int rfl) rfl (LS.arr' (i := 46) (ys := ([(1116352408 : Int), (1899447441 : Int), (3049323471 : Int), (3921009573 : Int), (961987163 : Int), (1508970993 : Int), (2453635748 : Int), (2870763221 : Int), (3624381080 : Int), (310598401 : Int), (607225278 : Int), (1426881987 : Int), (1925078388 : Int), (2162078206 : Int), (2614888103 : Int), (3248222580 : Int), (3835390401 : Int), (4022224774 : Int), (264347078 : Int), (604807628 : Int), (770255983 : Int), (1249150122 : Int), (1555081692 : Int), (1996064986 : Int), (2554220882 : Int), (2821834349 : Int), (2952996808 : Int), (3210313671 : Int), (3336571891 : Int), (3584528711 : Int), (113926993 : Int), (338241895 : Int), (666307205 : Int), (773529912 : Int), (1294757372 : Int), (1396182291 : Int), (1695183700 : Int), (1986661051 : Int), (2177026350 : Int), (2456956037 : Int), (2730485921 : Int), (2820302411 : Int), (3259730800 : Int), (3345764771 : Int), (3516065817 : Int), (3600352804 : Int), (4094571909 : Int), (0 : Int), (0 : Int), (0 : Int), (0 : Int), (0 : Int), (0 : Int), (0 : Int), (0 : Int), (0 : Int), (0 : Int), (0 : Int), (0 : Int), (0 : Int), (0 : Int), (0 : Int), (0 : Int), (0 : Int)] : (List Int))) (by simp) (by rfl)) (.cons (opd_int rfl) rfl (LS.arr' (i := 47) (ys := ([(1116352408 : Int), (1899447441 : Int), (3049323471 : Int), (3921009573 : Int), (961987163 : Int), (1508970993 : Int), (2453635748 : Int), (2870763221 : Int), (3624381080 : Int), (310598401 : Int), (607225278 : Int), (1426881987 : Int), (1925078388 : Int), (2162078206 : Int), (2614888103 : Int), (3248222580 : Int), (3835390401 : Int), (4022224774 : Int), (264347078 : Int), (604807628 : Int), (770255983 : Int), (1249150122 : Int), (1555081692 : Int), (1996064986 : Int), (2554220882 : Int), (2821834349 : Int), (2952996808 : Int), (3210313671 : Int), (3336571891 : Int), (3584528711 : Int), (113926993 : Int), (338241895 : Int), (666307205 : Int), (773529912 : Int), (1294757372 : Int), (1396182291 : Int), (1695183700 : Int), (1986661051 : Int), (2177026350 : Int), (2456956037 : Int), (2730485921 : Int), (2820302411 : Int), (3259730800 : Int), (3345764771 : Int), (3516065817 : Int), (3600352804 : Int), (4094571909 : Int), (275423344 : Int), (0 : Int), (0 : Int), (0 : Int), (0 : Int), (0 : Int), (0 : Int), (0 : Int), (0 : Int), (0 : Int), (0 : Int), (0 : Int), (0 : Int), (0 : Int), (0 : Int), (0 : Int), (0 : Int)] : (List Int))) (by simp) (by rfl)) (.cons (opd_int rfl) rfl (LS.arr' (i := 48) (ys := ([(1116352408 : Int), (1899447441 : Int), (3049323471 : Int), (3921009573 : Int), (961987163 : Int), (1508970993 : Int), (2453635748 : Int), (2870763221 : Int), (3624381080 : Int), (310598401 : Int), (607225278 : Int), (1426881987 : Int), (1925078388 : Int), (2162078206 : Int), (2614888103 : Int), (3248222580 : Int), (3835390401 : Int), (4022224774 : Int), (264347078 : Int), (604807628 : Int), (770255983 : Int), (1249150122 : Int), (1555081692 : Int), (1996064986 : Int), (2554220882 : Int), (2821834349 : Int), (2952996808 : Int), (3210313671 : Int), (3336571891 : Int), (3584528711 : Int), (113926993 : Int), (338241895 : Int), (666307205 : Int), (773529912 : Int), (1294757372 : Int), (1396182291 : Int), (1695183700 : Int), (1986661051 : Int), (2177026350 : Int), (2456956037 : Int), (2730485921 : Int), (2820302411 : Int), (3259730800 : Int), (3345764771 : Int), (3516065817 : Int), (3600352804 : Int), (4094571909 : Int), (275423344 : Int), (430227734 : Int), (0 : Int), (0 : Int), (0 : Int), (0 : Int), (0 : Int), (0 : Int), (0 : Int), (0 : Int), (0 : Int), (0 : Int), (0 : Int), (0 : Int), (0 : Int), (0 : Int), (0 : Int)] : (List Int))) (by simp) (by rfl)) (.cons (opd_int rfl) rfl (LS.arr' (i := 49) (ys := ([(1116352408 : Int), (1899447441 : Int), (3049323471 : Int), (3921009573 : Int), (961987163 : Int), (1508970993 : Int), (2453635748 : Int), (2870763221 : Int), (3624381080 : Int), (310598401 : Int), (607225278 : Int), (1426881987 : Int), (1925078388 : Int), (2162078206 : Int), (2614888103 : Int), (3248222580 : Int), (3835390401 : Int), (4022224774 : Int), (264347078 : Int), (604807628 : Int), (770255983 : Int), (1249150122 : Int), (1555081692 : Int), (1996064986 : Int), (2554220882 : Int), (2821834349 : Int), (2952996808 : Int), (3210313671 : Int), (3336571891 : Int), (3584528711 : Int), (113926993 : Int), (338241895 : Int), (666307205 : Int), (773529912 : Int), (1294757372 : Int), (1396182291 : Int), (1695183700 : Int), (1986661051 : Int), (2177026350 : Int), (2456956037 : Int), (2730485921 : Int), (2820302411 : Int), (3259730800 : Int), (3345764771 : Int), (3516065817 : Int), (3600352804 : Int), (4094571909 : Int), (275423344 : Int), (430227734 : Int), (506948616 : Int), (0 : Int), (0 : Int), (0 : Int), (0 : Int), (0 : Int), (0 : Int), (0 : Int), (0 : Int), (0 : Int), (0 : Int), (0 : Int), (0 : Int), (0 : Int), (0 : Int)] : (List Int))) (by simp) (by rfl)) (.cons (opd_int rfl) rfl (LS.arr' (i := 50) (ys := ([(1116352408 : Int), (1899447441 : Int), (3049323471 : Int), (3921009573 : Int), (961987163 : Int), (1508970993 : Int), (2453635748 : Int), (2870763221 : Int), (3624381080 : Int), (310598401 : Int), (607225278 : Int), (1426881987 : Int), (1925078388 : Int), (2162078206 : Int), (2614888103 : Int), (3248222580 : Int), (3835390401 : Int), (4022224774 : Int), (264347078 : Int), (604807628 : Int), (770255983 : Int), (1249150122 : Int), (1555081692 : Int), (1996064986 : Int), (2554220882 : Int), (2821834349 : Int), (2952996808 : Int), (3210313671 : Int), (3336571891 : Int), (3584528711 : Int), (113926993 : Int), (338241895 : Int), (666307205 : Int), (773529912 : Int), (1294757372 : Int), (1396182291 : Int), (1695183700 : Int), (1986661051 : Int), (2177026350 : Int), (2456956037 : Int), (2730485921 : Int), (2820302411 : Int), (3259730800 : Int), (3345764771 : Int), (3516065817 : Int), (3600352804 : Int), (4094571909 : Int), (275423344 : Int), (430227734 : Int), (506948616 : Int), (659060556 : Int), (0 : Int), (0 : Int), (0 : Int), (0 : Int), (0 : Int), (0 : Int), (0 : Int), (0 : Int), (0 : Int), (0 : Int), (0 : Int), (0 : Int), (0 : Int)] : (List Int))) (by simp) (by rfl)) (.cons (opd_int rfl) rfl (LS.arr' (i := 51) (ys := ([(1116352408 : Int), (1899447441 : Int), (3049323471 : Int), (3921009573 : Int), (961987163 : Int), (1508970993 : Int), (2453635748 : Int), (2870763221 : Int), (3624381080 : Int), (310598401 : Int), (607225278 : Int), (1426881987 : Int), (1925078388 : Int), (2162078206 : Int), (2614888103 : Int), (3248222580 : Int), (3835390401 : Int), (4022224774 : Int), (264347078 : Int), (604807628 : Int), (770255983 : Int), (1249150122 : Int), (1555081692 : Int), (1996064986 : Int), (2554220882 : Int), (2821834349 : Int), (2952996808 : Int), (3210313671 : Int), (3336571891 : Int), (3584528711 : Int), (113926993 : Int), (338241895 : Int), (666307205 : Int), (773529912 : Int), (1294757372 : Int), (1396182291 : Int), (1695183700 : Int), (1986661051 : Int), (2177026350 : Int), (2456956037 : Int), (2730485921 : Int), (2820302411 : Int), (3259730800 : Int), (3345764771 : Int), (3516065817 : Int), (3600352804 : Int), (4094571909 : Int), (275423344 : Int), (430227734 : Int), (506948616 : Int), (659060556 : Int), (883997877 : Int), (0 : Int), (0 : Int), (0 : Int), (0 : Int), (0 : Int), (0 : Int), (0 : Int), (0 : Int), (0 : Int), (0 : Int), (0 : Int), (0 : Int)] : (List Int))) (by simp) (by rfl)) (.cons (opd_int rfl) rfl (LS.arr' (i := 52) (ys := ([(1116352408 : Int), (1899447441 : Int), (3049323471 : Int), (3921009573 : Int), (961987163 : Int), (1508970993 : Int), (2453635748 : Int), (2870763221 : Int), (3624381080 : Int), (310598401 : Int), (607225278 : Int), (1426881987 : Int), (1925078388 : Int), (2162078206 : Int), (2614888103 : Int), (3248222580 : Int), (3835390401 : Int), (4022224774 : Int), (264347078 : Int), (604807628 : Int), (770255983 : Int), (1249150122 : Int), (1555081692 : Int), (1996064986 : Int), (2554220882 : Int), (2821834349 : Int), (2952996808 : Int), (3210313671 : Int), (3336571891 : Int), (3584528711 : Int), (113926993 : Int), (338241895 : Int), (666307205 : Int), (773529912 : Int), (1294757372 : Int), (1396182291 : Int), (1695183700 : Int), (1986661051 : Int), (2177026350 : Int), (2456956037 : Int), (2730485921 : Int), (2820302411 : Int), (3259730800 : Int), (3345764771 : Int), (3516065817 : Int), (3600352804 : Int), (4094571909 : Int), (275423344 : Int), (430227734 : Int), (506948616 : Int), (659060556 : Int), (883997877 : Int), (958139571 : Int), (0 : Int), (0 : Int), (0 : Int), (0 : Int), (0 : Int), (0 : Int), (0 : Int), (0 : Int), (0 : Int), (0 : Int), (0 : Int)] : (List Int))) (by simp) (by rfl)) (.cons (opd_int rfl) rfl (LS.arr' (i := 53) (ys := ([(1116352408 : Int), (1899447441 : Int), (3049323471 : Int), (3921009573 : Int), (961987163 : Int), (1508970993 : Int), (2453635748 : Int), (2870763221 : Int), (3624381080 : Int), (310598401 : Int), (607225278 : Int), (1426881987 : Int), (1925078388 : Int), (2162078206 : Int), (2614888103 : Int), (3248222580 : Int), (3835390401 : Int), (4022224774 : Int), (264347078 : Int), (604807628 : Int), (770255983 : Int), (1249150122 : Int), (1555081692 : Int), (1996064986 : Int), (2554220882 : Int), (2821834349 : Int), (2952996808 : Int), (3210313671 : Int), (3336571891 : Int), (3584528711 : Int), (113926993 : Int), (338241895 : Int), (666307205 : Int), (773529912 : Int), (1294757372 : Int), (1396182291 : Int), (1695183700 : Int), (1986661051 : Int), (2177026350 : Int), (2456956037 : Int), (2730485921 : Int), (2820302411 : Int), (3259730800 : Int), (3345764771 : Int), (3516065817 : Int), (3600352804 : Int), (4094571909 : Int), (275423344 : Int), (430227734 : Int), (506948616 : Int), (659060556 : Int), (883997877 : Int), (958139571 : Int), (1322822218 : Int), (0 : Int), (0 : Int), (0 : Int), (0 : Int), (0 : Int), (0 : Int), (0 : Int), (0 : Int), (0 : Int), (0 : Int)] : (List Int))) (by simp) (by rfl)) (.cons (opd_int rfl) rfl (LS.arr' (i := 54) (ys := ([(1116352408 : Int), (1899447441 : Int), (3049323471 : Int), (3921009573 : Int), (961987163 : Int), (1508970993 : Int), (2453635748 : Int), (2870763221 : Int), (3624381080 : Int), (310598401 : Int), (607225278 : Int), (1426881987 : Int), (1925078388 : Int), (2162078206 : Int), (2614888103 : Int), (3248222580 : Int), (3835390401 : Int), (4022224774 : Int), (264347078 : Int), (604807628 : Int), (770255983 : Int), (1249150122 : Int), (1555081692 : Int), (1996064986 : Int), (2554220882 : Int), (2821834349 : Int), (2952996808 : Int), (3210313671 : Int), (3336571891 : Int), (3584528711 : Int), (113926993 : Int), (338241895 : Int), (666307205 : Int), (773529912 : Int), (1294757372 : Int), (1396182291 : Int), (1695183700 : Int), (1986661051 : Int), (2177026350 : Int), (2456956037 : Int), (2730485921 : Int), (2820302411 : Int), (3259730800 : Int), (3345764771 : Int), (3516065817 : Int), (3600352804 : Int), (4094571909 : Int), (275423344 : Int), (430227734 : Int), (506948616 : Int), (659060556 : Int), (883997877 : Int), (958139571 : Int), (1322822218 : Int), (1537002063 : Int), (0 : Int), (0 : Int), (0 : Int), (0 : Int), (0 : Int), (0 : Int), (0 : Int), (0 : Int), (0 : Int)] : (List Int))) (by simp) (by rfl)) (.cons (opd_int rfl) rfl (LS.arr' (i := 55) (ys := ([(1116352408 : Int), (1899447441 : Int), (3049323471 : Int), (3921009573 : Int), (961987163 : Int), (1508970993 : Int), (2453635748 : Int), (2870763221 : Int), (3624381080 : Int), (310598401 : Int), (607225278 : Int), (1426881987 : Int), (1925078388 : Int), (2162078206 : Int), (2614888103 : Int), (3248222580 : Int), (3835390401 : Int), (4022224774 : Int), (264347078 : Int), (604807628 : Int), (770255983 : Int), (1249150122 : Int), (1555081692 : Int), (1996064986 : Int), (2554220882 : Int), (2821834349 : Int), (2952996808 : Int), (3210313671 : Int), (3336571891 : Int), (3584528711 : Int), (113926993 : Int), (338241895 : Int), (666307205 : Int), (773529912 : Int), (1294757372 : Int), (1396182291 : Int), (1695183700 : Int), (1986661051 : Int), (2177026350 : Int), (2456956037 : Int), (2730485921 : Int), (2820302411 : Int), (3259730800 : Int), (3345764771 : Int), (3516065817 : Int), (3600352804 : Int), (4094571909 : Int), (275423344 : Int), (430227734 : Int), (506948616 : Int), (659060556 : Int), (883997877 : Int), (958139571 : Int), (1322822218 : Int), (1537002063 : Int), (1747873779 : Int), (0 : Int), (0 : Int), (0 : Int), (0 : Int), (0 : Int), (0 : Int), (0 : Int), (0 : Int)] : (List Int))) (by simp) (by rfl)) (.cons (opd_int rfl) rfl (LS.arr' (i := 56) (ys := ([(1116352408 : Int), (1899447441 : Int), (3049323471 : Int), (3921009573 : Int), (961987163 : Int), (1508970993 : Int), (2453635748 : Int), (2870763221 : Int), (3624381080 : Int), (310598401 : Int), (607225278 : Int), (1426881987 : Int), (1925078388 : Int), (2162078206 : Int), (2614888103 : Int), (3248222580 : Int), (3835390401 : Int), (4022224774 : Int), (264347078 : Int), (604807628 : Int), (770255983 : Int), (1249150122 : Int), (1555081692 : Int), (1996064986 : Int), (2554220882 : Int), (2821834349 : Int), (2952996808 : Int), (3210313671 : Int), (3336571891 : Int), (3584528711 : Int), (113926993 : Int), (338241895 : Int), (666307205 : Int), (773529912 : Int), (1294757372 : Int), (1396182291 : Int), (1695183700 : Int), (1986661051 : Int), (2177026350 : Int), (2456956037 : Int), (2730485921 : Int), (2820302411 : Int), (3259730800 : Int), (3345764771 : Int), (3516065817 : Int), (3600352804 : Int), (4094571909 : Int), (275423344 : Int), (430227734 : Int), (506948616 : Int), (659060556 : Int), (883997877 : Int), (958139571 : Int), (1322822218 : Int), (1537002063 : Int), (1747873779 : Int), (1955562222 : Int), (0 : Int), (0 : Int), (0 : Int), (0 : Int), (0 : Int), (0 : Int), (0 : Int)] : (List Int))) (by simp) (by rfl)) (.cons (opd_int rfl) rfl (LS.arr' (i := 57) (ys := ([(1116352408 : Int), (1899447441 : Int), (3049323471 : Int), (3921009573 : Int), (961987163 : Int), (1508970993 : Int), (2453635748 : Int), (2870763221 : Int), (3624381080 : Int), (310598401 : Int), (607225278 : Int), (1426881987 : Int), (1925078388 : Int), (2162078206 : Int), (2614888103 : Int), (3248222580 : Int), (3835390401 : Int), (4022224774 : Int), (264347078 : Int), (604807628 : Int), (770255983 : Int), (1249150122 : Int), (1555081692 : Int), (1996064986 : Int), (2554220882 : Int), (2821834349 : Int), (2952996808 : Int), (3210313671 : Int), (3336571891 : Int), (3584528711 : Int), (113926993 : Int), (338241895 : Int), (666307205 : Int), (773529912 : Int), (1294757372 : Int), (1396182291 : Int), (1695183700 : Int), (1986661051 : Int), (2177026350 : Int), (2456956037 : Int), (2730485921 : Int), (2820302411 : Int), (3259730800 : Int), (3345764771 : Int), (3516065817 : Int), (3600352804 : Int), (4094571909 : Int), (275423344 : Int), (430227734 : Int), (506948616 : Int), (659060556 : Int), (883997877 : Int), (958139571 : Int), (1322822218 : Int), (1537002063 : Int), (1747873779 : Int), (1955562222 : Int), (2024104815 : Int), (0 : Int), (0 : Int), (0 : Int), (0 : Int), (0 : Int), (0 : Int)] : (List Int))) (by simp) (by rfl)) (.cons (opd_int rfl) rfl (LS.arr' (i := 58) (ys := ([(1116352408 : Int), (1899447441 : Int), (3049323471 : Int), (3921009573 : Int), (961987163 : Int), (1508970993 : Int), (2453635748 : Int), (2870763221 : Int), (3624381080 : Int), (310598401 : Int), (607225278 : Int), (1426881987 : Int), (1925078388 : Int), (2162078206 : Int), (2614888103 : Int), (3248222580 : Int), (3835390401 : Int), (4022224774 : Int), (264347078 : Int), (604807628 : Int), (770255983 : Int), (1249150122 : Int), (1555081692 : Int), (1996064986 : Int), (2554220882 : Int), (2821834349 : Int), (2952996808 : Int), (3210313671 : Int), (3336571891 : Int), (3584528711 : Int), (113926993 : Int), (338241895 : Int), (666307205 : Int), (773529912 : Int), (1294757372 : Int), (1396182291 : Int), (1695183700 : Int), (1986661051 : Int), (2177026350 : Int), (2456956037 : Int), (2730485921 : Int), (2820302411 : Int), (3259730800 : Int), (3345764771 : Int), (3516065817 : Int), (3600352804 : Int), (4094571909 : Int), (275423344 : Int), (430227734 : Int), (506948616 : Int), (659060556 : Int), (883997877 : Int), (958139571 : Int), (1322822218 : Int), (1537002063 : Int), (1747873779 : Int), (1955562222 : Int), (2024104815 : Int), (2227730452 : Int), (0 : Int), (0 : Int), (0 : Int), (0 : Int), (0 : Int)] : (List Int))) (by simp) (by rfl)) (.cons (opd_int rfl) rfl (LS.arr' (i := 59) (ys := ([(1116352408 : Int), (1899447441 : Int), (3049323471 : Int), (3921009573 : Int), (961987163 : Int), (1508970993 : Int), (2453635748 : Int), (2870763221 : Int), (3624381080 : Int), (310598401 : Int), (607225278 : Int), (1426881987 : Int), (1925078388 : Int), (2162078206 : Int), (2614888103 : Int), (3248222580 : Int), (3835390401 : Int), (4022224774 : Int), (264347078 : Int), (604807628 : Int), (770255983 : Int), (1249150122 : Int), (1555081692 : Int), (1996064986 : Int), (2554220882 : Int), (2821834349 : Int), (2952996808 : Int), (3210313671 : Int), (3336571891 : Int), (3584528711 : Int), (113926993 : Int), (338241895 : Int), (666307205 : Int), (773529912 : Int), (1294757372 : Int), (1396182291 : Int), (1695183700 : Int), (1986661051 : Int), (2177026350 : Int), (2456956037 : Int), (2730485921 : Int), (2820302411 : Int), (3259730800 : Int), (3345764771 : Int), (3516065817 : Int), (3600352804 : Int), (4094571909 : Int), (275423344 : Int), (430227734 : Int), (506948616 : Int), (659060556 : Int), (883997877 : Int), (958139571 : Int), (1322822218 : Int), (1537002063 : Int), (1747873779 : Int), (1955562222 : Int), (2024104815 : Int), (2227730452 : Int), (2361852424 : Int), (0 : Int), (0 : Int), (0 : Int), (0 : Int)] : (List Int))) (by simp) (by rfl)) (.cons (opd_int rfl) rfl (LS.arr' (i := 60) (ys := ([(1116352408 : Int), (1899447441 : Int), (3049323471 : Int), (3921009573 : Int), (961987163 : Int), (1508970993 : Int), (2453635748 : Int), (2870763221 : Int), (3624381080 : Int), (310598401 : Int), (607225278 : Int), (1426881987 : Int), (1925078388 : Int), (2162078206 : Int), (2614888103 : Int), (3248222580 : Int), (3835390401 : Int), (4022224774 : Int), (264347078 : Int), (604807628 : Int), (770255983 : Int), (1249150122 : Int), (1555081692 : Int), (1996064986 : Int), (2554220882 : Int), (2821834349 : Int), (2952996808 : Int), (3210313671 : Int), (3336571891 : Int), (3584528711 : Int), (113926993 : Int), (338241895 : Int), (666307205 : Int), (773529912 : Int), (1294757372 : Int), (1396182291 : Int), (1695183700 : Int), (1986661051 : Int), (2177026350 : Int), (2456956037 : Int), (2730485921 : Int), (2820302411 : Int), (3259730800 : Int), (3345764771 : Int), (3516065817 : Int), (3600352804 : Int), (4094571909 : Int), (275423344 : Int), (430227734 : Int), (506948616 : Int), (659060556 : Int), (883997877 : Int), (958139571 : Int), (1322822218 : Int), (1537002063 : Int), (1747873779 : Int), (1955562222 : Int), (2024104815 : Int), (2227730452 : Int), (2361852424 : Int), (2428436474 : Int), (0 : Int), (0 : Int), (0 : Int)] : (List Int))) (by simp) (by rfl)) (.cons (opd_int rfl) rfl (LS.arr' (i := 61) (ys := ([(1116352408 : Int), (1899447441 : Int), (3049323471 : Int), (3921009573 : Int), (961987163 : Int), (1508970993 : Int), (2453635748 : Int), (2870763221 : Int), (3624381080 : Int), (310598401 : Int), (607225278 : Int), (1426881987 : Int), (1925078388 : Int), (2162078206 : Int), (2614888103 : Int), (3248222580 : Int), (3835390401 : Int), (4022224774 : Int), (264347078 : Int), (604807628 : Int), (770255983 : Int), (1249150122 : Int), (1555081692 : Int), (1996064986 : Int), (2554220882 : Int), (2821834349 : Int), (2952996808 : Int), (3210313671 : Int), (3336571891 : Int), (3584528711 : Int), (113926993 : Int), (338241895 : Int), (666307205 : Int), (773529912 : Int), (1294757372 : Int), (1396182291 : Int), (1695183700 : Int), (1986661051 : Int), (2177026350 : Int), (2456956037 : Int), (2730485921 : Int), (2820302411 : Int), (3259730800 : Int), (3345764771 : Int), (3516065817 : Int), (3600352804 : Int), (4094571909 : Int), (275423344 : Int), (430227734 : Int), (506948616 : Int), (659060556 : Int), (883997877 : Int), (958139571 : Int), (1322822218 : Int), (1537002063 : Int), (1747873779 : Int), (1955562222 : Int), (2024104815 : Int), (2227730452 : Int), (2361852424 : Int), (2428436474 : Int), (2756734187 : Int), (0 : Int), (0 : Int)] : (List Int))) (by simp) (by rfl)) (.cons (opd_int rfl) rfl (LS.arr' (i := 62) (ys := ([(1116352408 : Int), (1899447441 : Int), (3049323471 : Int), (3921009573 : Int), (961987163 : Int), (1508970993 : Int), (2453635748 : Int), (2870763221 : Int), (3624381080 : Int), (310598401 : Int), (607225278 : Int), (1426881987 : Int), (1925078388 : Int), (2162078206 : Int), (2614888103 : Int), (3248222580 : Int), (3835390401 : Int), (4022224774 : Int), (264347078 : Int), (604807628 : Int), (770255983 : Int), (1249150122 : Int), (1555081692 : Int), (1996064986 : Int), (2554220882 : Int), (2821834349 : Int), (2952996808 : Int), (3210313671 : Int), (3336571891 : Int), (3584528711 : Int), (113926993 : Int), (338241895 : Int), (666307205 : Int), (773529912 : Int), (1294757372 : Int), (1396182291 : Int), (1695183700 : Int), (1986661051 : Int), (2177026350 : Int), (2456956037 : Int), (2730485921 : Int), (2820302411 : Int), (3259730800 : Int), (3345764771 : Int), (3516065817 : Int), (3600352804 : Int), (4094571909 : Int), (275423344 : Int), (430227734 : Int), (506948616 : Int), (659060556 : Int), (883997877 : Int), (958139571 : Int), (1322822218 : Int), (1537002063 : Int), (1747873779 : Int), (1955562222 : Int), (2024104815 : Int), (2227730452 : Int), (2361852424 : Int), (2428436474 : Int), (2756734187 : Int), (3204031479 : Int), (0 : Int)] : (List Int))) (by simp) (by rfl)) (.cons (opd_int rfl) rfl (LS.arr' (i := 63) (ys := ([(1116352408 : Int), (1899447441 : Int), (3049323471 : Int), (3921009573 : Int), (961987163 : Int), (1508970993 : Int), (2453635748 : Int), (2870763221 : Int), (3624381080 : Int), (310598401 : Int), (607225278 : Int), (1426881987 : Int), (1925078388 : Int), (2162078206 : Int), (2614888103 : Int), (3248222580 : Int), (3835390401 : Int), (4022224774 : Int), (264347078 : Int), (604807628 : Int), (770255983 : Int), (1249150122 : Int), (1555081692 : Int), (1996064986 : Int), (2554220882 : Int), (2821834349 : Int), (2952996808 : Int), (3210313671 : Int), (3336571891 : Int), (3584528711 : Int), (113926993 : Int), (338241895 : Int), (666307205 : Int), (773529912 : Int), (1294757372 : Int), (1396182291 : Int), (1695183700 : Int), (1986661051 : Int), (2177026350 : Int), (2456956037 : Int), (2730485921 : Int), (2820302411 : Int), (3259730800 : Int), (3345764771 : Int), (3516065817 : Int), (3600352804 : Int), (4094571909 : Int), (275423344 : Int), (430227734 : Int), (506948616 : Int), (659060556 : Int), (883997877 : Int), (958139571 : Int), (1322822218 : Int), (1537002063 : Int), (1747873779 : Int), (1955562222 : Int), (2024104815 : Int), (2227730452 : Int), (2361852424 : Int), (2428436474 : Int), (2756734187 : Int), (3204031479 : Int), (3329325298 : Int)] : (List Int))) (by simp) (by rfl)) (.nil _))))))))))))))))))))))))))))))))))))))))))))))))))))))))))))))))) : Ob _ _ _ _ _ ((karr 64 (kint .u32)).V ([(1116352408 : Int), (1899447441 : Int), (3049323471 : Int), (3921009573 : Int), (961987163 : Int), (1508970993 : Int), (2453635748 : Int), (2870763221 : Int), (3624381080 : Int), (310598401 : Int), (607225278 : Int), (1426881987 : Int), (1925078388 : Int), (2162078206 : Int), (2614888103 : Int), (3248222580 : Int), (3835390401 : Int), (4022224774 : Int), (264347078 : Int), (604807628 : Int), (770255983 : Int), (1249150122 : Int), (1555081692 : Int), (1996064986 : Int), (2554220882 : Int), (2821834349 : Int), (2952996808 : Int), (3210313671 : Int), (3336571891 : Int), (3584528711 : Int), (113926993 : Int), (338241895 : Int), (666307205 : Int), (773529912 : Int), (1294757372 : Int), (1396182291 : Int), (1695183700 : Int), (1986661051 : Int), (2177026350 : Int), (2456956037 : Int), (2730485921 : Int), (2820302411 : Int), (3259730800 : Int), (3345764771 : Int), (3516065817 : Int), (3600352804 : Int), (4094571909 : Int), (275423344 : Int), (430227734 : Int), (506948616 : Int), (659060556 : Int), (883997877 : Int), (958139571 : Int), (1322822218 : Int), (1537002063 : Int), (1747873779 : Int), (1955562222 : Int), (2024104815 : Int), (2227730452 : Int), (2361852424 : Int), (2428436474 : Int), (2756734187 : Int), (3204031479 : Int), (3329325298 : Int)] : (List Int))))).nm e_x1) fun a4 w4 s4 => ?_; clear s3
  refine seq_opx0 (B' := (fun _ : Unit => [BF b1 74 (karr 64 (kint .u32)) x1])) s4 rfl rfl (ob_store (A := []) rfl tk74 (.tmp rfl) (.tmp rfl) rfl (LS.refl _ _ _) rfl) fun _ a5 w5 s5 => ?_; clear s4
  refine wpList_nil ?_
  refine then_normal ?_
  refine hK2 _ _ ?_
  have s6 := s5.sub (.cons (t := 0) rfl .nil); clear s5
  refine wp_ret ?_
  obtain rfl := Option.some.inj h1
  exact leave s6 (.inl rfl) rfl (.cons (.cell rfl tk74 (.head _) (LG.refl _ _)) .nil)

/- 29 cabal/cabalref01.Block -/
theorem c_cabalref01_Block (k : Nat) (p1 : (List Int)) (p2 : (List Int)) (r : (List Int)) (h0 : cabalref01_Block k p1 p2 = some r) (ok : Ok) (w0 : World) (z0 : Value) (z1 : Value) (u0 : ((karr 8 (kint .u32)).V p1).holds ok w0 z0) (u1 : (kstr.V p2).holds ok w0 z1) :
    Gives Tryd.prog 29 [z0, z1] ok w0 (resFact [(karr 8 (kint .u32)).V r]) := by
  unfold cabalref01_Block at h0
  refine enter (N := 211) Tryd.func29 rfl rfl (of_decide_eq_true rfl) (.cons u0 (.cons u1 .nil)) fun a1 s1 => ?_
  refine wp_seq_k fun K1 hK1 => ?_
  refine wp_region_lit ?_
  refine seq_opx (B' := (fun b1 : Nat => [BF b1 60 (karr 8 (kint .u32)) p1])) s1 rfl rfl (of_decide_eq_true rfl) (ob_box rfl (.tmp rfl)) fun b1 a2 w2 s2 => ?_; clear s1
  refine seq_opx (B' := (fun b2 : Nat => [BF b2 60 (karr 8 (kint .u32)) (List.replicate 8 (0 : Int)), BF b1 60 (karr 8 (kint .u32)) p1])) s2 rfl rfl (of_decide_eq_true rfl) (ob_new (k := (karr 8 (kint .u32))) rfl zz60 (Zr.arr 8 (Zr.int .u32))) fun b2 a3 w3 s3 => ?_; clear s2
  refine wpList_nil ?_
  refine then_normal ?_
  refine hK1 _ _ ?_
  have s4 := s3.sub (.cons (t := 1) rfl (.cons (t := 2) rfl (.cons (t := 4) rfl .nil))); clear s3
  refine wp_seq_k fun K2 hK2 => ?_
  refine wp_region_lit ?_
  refine seq_opx (B' := (fun b3 : Nat => [BF b3 74 (karr 64 (kint .u32)) (List.replicate 64 (0 : Int)), BF b2 60 (karr 8 (kint .u32)) (List.replicate 8 (0 : Int)), BF b1 60 (karr 8 (kint .u32)) p1])) s4 rfl rfl (of_decide_eq_true rfl) (ob_new (k := (karr 64 (kint .u32))) rfl zz74 (Zr.arr 64 (Zr.int .u32))) fun b3 a5 w5 s5 => ?_; clear s4
  refine wpList_nil ?_
  refine then_normal ?_
  refine hK2 _ _ ?_
  have s6 := s5.sub (.cons (t := 1) rfl (.cons (t := 2) rfl (.cons (t := 4) rfl (.cons (t := 5) rfl .nil)))); clear s5
  refine wp_seq_k fun K3 hK3 => ?_
  refine wp_seq_k fun K4 hK4 => ?_
  refine wp_region_lit ?_
  refine seq_op s6 rfl rfl (of_decide_eq_true rfl) (ob_assign rfl (opd_int rfl)) fun a7 w7 s7 => ?_; clear s6
  refine wpList_nil ?_
  refine then_normal ?_
  refine hK4 _ _ ?_
  have s8 := s7.sub (.cons (t := 1) rfl (.cons (t := 2) rfl (.cons (t := 4) rfl (.cons (t := 5) rfl (.cons (t := 6) rfl .nil))))); clear s7
  have hj1 : ∀ (y1 : (List Int)) (a : Act) (w : World), (cabalref01_Block.j1 k p1) y1 = some r → St ⟨211, w0, ok, []⟩ [BF b1 60 (karr 8 (kint .u32)) p1, BF b2 60 (karr 8 (kint .u32)) (List.replicate 8 (0 : Int)), BF b3 74 (karr 64 (kint .u32)) y1] [(2, (ptrB b1 0)), (4, (ptrB b2 0)), (5, (ptrB b3 0))] a w → K3 a w := by
    intro y1 a9 w9 h1 s9
    unfold cabalref01_Block.j1 at h1
    refine hK3 _ _ ?_
    refine wp_seq_k fun K5 hK5 => ?_
    refine wp_seq_k fun K6 hK6 => ?_
    refine wp_region_lit ?_
    refine seq_op s9 rfl rfl (of_decide_eq_true rfl) (ob_assign rfl (opd_int rfl)) fun a10 w10 s10 => ?_; clear s9
    refine wpList_nil ?_
    refine then_normal ?_
    refine hK6 _ _ ?_
    have s11 := s10.sub (.cons (t := 2) rfl (.cons (t := 4) rfl (.cons (t := 5) rfl (.cons (t := 7) rfl .nil)))); clear s10
    have hj2 : ∀ (y2 : (List Int)) (a : Act) (w : World), (cabalref01_Block.j2 k p1) y2 = some r → St ⟨211, w0, ok, []⟩ [BF b1 60 (karr 8 (kint .u32)) p1, BF b2 60 (karr 8 (kint .u32)) (List.replicate 8 (0 : Int)), BF b3 74 (karr 64 (kint .u32)) y2] [(2, (ptrB b1 0)), (4, (ptrB b2 0)), (5, (ptrB b3 0))] a w → K5 a w := by
      intro y2 a12 w12 h2 s12
      unfold cabalref01_Block.j2 at h2
      refine hK5 _ _ ?_
      refine wp_seq_k fun K7 hK7 => ?_
      refine wp_region_lit ?_
      obtain ⟨x1, e_x1, h3⟩ := bind_some h2; clear h2
      refine seq_op s12 rfl rfl (of_decide_eq_true rfl) (ob_callD (args := []) rfl .direct hb34 (fun a w s fs gs hf hg => by obtain rfl := hf.unnil; obtain rfl := hg.unnil; exact c_cabalref01_Rounds k _ e_x1 _ _)) fun a13 w13 s13 => ?_; clear s12
      refine seq_opx (B' := (fun b4 : Nat => [BF b4 74 (karr 64 (kint .u32)) (List.replicate 64 (0 : Int)), BF b1 60 (karr 8 (kint .u32)) p1, BF b2 60 (karr 8 (kint .u32)) (List.replicate 8 (0 : Int)), BF b3 74 (karr 64 (kint .u32)) y2])) s13 rfl rfl (of_decide_eq_true rfl) (ob_new (k := (karr 64 (kint .u32))) rfl zz74 (Zr.arr 64 (Zr.int .u32))) fun b4 a14 w14 s14 => ?_; clear s13
      refine seq_opx0 (B' := (fun _ : Unit => [BF b4 74 (karr 64 (kint .u32)) x1, BF b1 60 (karr 8 (kint .u32)) p1, BF b2 60 (karr 8 (kint .u32)) (List.replicate 8 (0 : Int)), BF b3 74 (karr 64 (kint .u32)) y2])) s14 rfl rfl (ob_store (A := []) rfl tk74 (.tmp rfl) (.tmp rfl) rfl (LS.refl _ _ _) rfl) fun _ a15 w15 s15 => ?_; clear s14
      refine wpList_nil ?_
      refine then_normal ?_
      refine hK7 _ _ ?_
      have s16 := s15.sub (.cons (t := 2) rfl (.cons (t := 4) rfl (.cons (t := 5) rfl (.cons (t := 10) rfl .nil)))); clear s15
      refine wp_seq_k fun K8 hK8 => ?_
      obtain ⟨x2, e_x2, h4⟩ := bind_some h3; clear h3
      obtain ⟨x3, e_x3, h5⟩ := bind_some h4; clear h4
      obtain ⟨x4, e_x4, h6⟩ := bind_some h5; clear h5
      obtain ⟨x5, e_x5, h7⟩ := bind_some h6; clear h6
      refine wp_goes (Fs := [(ptrB b1 ((0 : Int).toNat * 1)), ((kint .u32).V x2), (ptrB b1 ((1 : Int).toNat * 1)), ((kint .u32).V x3), (ptrB b1 ((2 : Int).toNat * 1)), ((kint .u32).V x4), (ptrB b1 ((3 : Int).toNat * 1)), ((kint .u32).V x5), ((kint .u32).V x2), ((kint .u32).V x3), ((kint .u32).V x4)]) (bits := [0, 1, 0, 4, 0, 16, 0, 64, 3, 271, 831, 2047]) (m := 11) (todo := 0) mx s16 ?_; clear s16
      refine goes_last (by kernel_rfl) rfl (opsS_cons (.plain _ (Av.old (t := 2) rfl rfl Av.nil) rfl rfl (ob_indexAddr rfl Tryd.underlying60 sz59 (.tmp rfl) (opd_int rfl) (by decide) (by decide) (Nat.zero_add _))) (opsS_cons (.plain _ (Av.new (j := 0) rfl rfl rfl Av.nil) rfl rfl (ob_load rfl tk59 (.tmp rfl) (.tail _ (.head _)) (LG.arrA e_x2))) (opsS_cons (.plain _ (Av.old (t := 2) rfl rfl Av.nil) rfl rfl (ob_indexAddr rfl Tryd.underlying60 sz59 (.tmp rfl) (opd_int rfl) (by decide) (by decide) (Nat.zero_add _))) (opsS_cons (.plain _ (Av.new (j := 2) rfl rfl rfl Av.nil) rfl rfl (ob_load rfl tk59 (.tmp rfl) (.tail _ (.head _)) (LG.arrA e_x3))) (opsS_cons (.plain _ (Av.old (t := 2) rfl rfl Av.nil) rfl rfl (ob_indexAddr rfl Tryd.underlying60 sz59 (.tmp rfl) (opd_int rfl) (by decide) (by decide) (Nat.zero_add _))) (opsS_cons (.plain _ (Av.new (j := 4) rfl rfl rfl Av.nil) rfl rfl (ob_load rfl tk59 (.tmp rfl) (.tail _ (.head _)) (LG.arrA e_x4))) (opsS_cons (.plain _ (Av.old (t := 2) rfl rfl Av.nil) rfl rfl (ob_indexAddr rfl Tryd.underlying60 sz59 (.tmp rfl) (opd_int rfl) (by decide) (by decide) (Nat.zero_add _))) (opsS_cons (.plain _ (Av.new (j := 6) rfl rfl rfl Av.nil) rfl rfl (ob_load rfl tk59 (.tmp rfl) (.tail _ (.head _)) (LG.arrA e_x5))) (opsS_cons (.plain _ (Av.new (j := 1) rfl rfl rfl Av.nil) rfl rfl (ob_assign rfl (.tmp rfl))) (opsS_cons (.plain _ (Av.new (j := 3) rfl rfl rfl Av.nil) rfl rfl (ob_assign rfl (.tmp rfl))) (opsS_cons (.plain _ (Av.new (j := 5) rfl rfl rfl Av.nil) rfl rfl (ob_assign rfl (.tmp rfl))) opsS_nil))))))))))) (out_old (t := 2) rfl rfl (out_old (t := 4) rfl rfl (out_old (t := 5) rfl rfl (out_old (t := 10) rfl rfl (out_new (i := 8) (by decide) rfl rfl (out_new (i := 9) (by decide) rfl rfl (out_new (i := 10) (by decide) rfl rfl (out_new (i := 7) (by decide) rfl rfl out_nil)))))))) fun a17 w17 s17 => ?_
      refine seq_op s17 rfl rfl (of_decide_eq_true rfl) (ob_assign rfl (.tmp rfl)) fun a18 w18 s18 => ?_; clear s17
      refine wpList_nil ?_
      refine then_normal ?_
      refine hK8 _ _ ?_
      have s19 := s18.sub (.cons (t := 2) rfl (.cons (t := 4) rfl (.cons (t := 5) rfl (.cons (t := 10) rfl (.cons (t := 11) rfl (.cons (t := 12) rfl (.cons (t := 13) rfl (.cons (t := 14) rfl .nil)))))))); clear s18
      refine wp_seq_k fun K9 hK9 => ?_
      obtain ⟨x6, e_x6, h8⟩ := bind_some h7; clear h7
      obtain ⟨x7, e_x7, h9⟩ := bind_some h8; clear h8
      obtain ⟨x8, e_x8, h10⟩ := bind_some h9; clear h9
      obtain ⟨x9, e_x9, h11⟩ := bind_some h10; clear h10
      refine wp_goes (Fs := [(ptrB b1 ((4 : Int).toNat * 1)), ((kint .u32).V x6), (ptrB b1 ((5 : Int).toNat * 1)), ((kint .u32).V x7), (ptrB b1 ((6 : Int).toNat * 1)), ((kint .u32).V x8), (ptrB b1 ((7 : Int).toNat * 1)), ((kint .u32).V x9), ((kint .u32).V x6), ((kint .u32).V x7), ((kint .u32).V x8)]) (bits := [0, 1, 0, 4, 0, 16, 0, 64, 3, 271, 831, 2047]) (m := 11) (todo := 0) mx s19 ?_; clear s19
      refine goes_last (by kernel_rfl) rfl (opsS_cons (.plain _ (Av.old (t := 2) rfl rfl Av.nil) rfl rfl (ob_indexAddr rfl Tryd.underlying60 sz59 (.tmp rfl) (opd_int rfl) (by decide) (by decide) (Nat.zero_add _))) (opsS_cons (.plain _ (Av.new (j := 0) rfl rfl rfl Av.nil) rfl rfl (ob_load rfl tk59 (.tmp rfl) (.tail _ (.head _)) (LG.arrA e_x6))) (opsS_cons (.plain _ (Av.old (t := 2) rfl rfl Av.nil) rfl rfl (ob_indexAddr rfl Tryd.underlying60 sz59 (.tmp rfl) (opd_int rfl) (by decide) (by decide) (Nat.zero_add _))) (opsS_cons (.plain _ (Av.new (j := 2) rfl rfl rfl Av.nil) rfl rfl (ob_load rfl tk59 (.tmp rfl) (.tail _ (.head _)) (LG.arrA e_x7))) (opsS_cons (.plain _ (Av.old (t := 2) rfl rfl Av.nil) rfl rfl (ob_indexAddr rfl Tryd.underlying60 sz59 (.tmp rfl) (opd_int rfl) (by decide) (by decide) (Nat.zero_add _))) (opsS_cons (.plain _ (Av.new (j := 4) rfl rfl rfl Av.nil) rfl rfl (ob_load rfl tk59 (.tmp rfl) (.tail _ (.head _)) (LG.arrA e_x8))) (opsS_cons (.plain _ (Av.old (t := 2) rfl rfl Av.nil) rfl rfl (ob_indexAddr rfl Tryd.underlying60 sz59 (.tmp rfl) (opd_int rfl) (by decide) (by decide) (Nat.zero_add _))) (opsS_cons (.plain _ (Av.new (j := 6) rfl rfl rfl Av.nil) rfl rfl (ob_load rfl tk59 (.tmp rfl) (.tail _ (.head _)) (LG.arrA e_x9))) (opsS_cons (.plain _ (Av.new (j := 1) rfl rfl rfl Av.nil) rfl rfl (ob_assign rfl (.tmp rfl))) (opsS_cons (.plain _ (Av.new (j := 3) rfl rfl rfl Av.nil) rfl rfl (ob_assign rfl (.tmp rfl))) (opsS_cons (.plain _ (Av.new (j := 5) rfl rfl rfl Av.nil) rfl rfl (ob_assign rfl (.tmp rfl))) opsS_nil))))))))))) (out_old (t := 2) rfl rfl (out_old (t := 4) rfl rfl (out_old (t := 5) rfl rfl (out_old (t := 10) rfl rfl (out_old (t := 11) rfl rfl (out_old (t := 12) rfl rfl (out_old (t := 13) rfl rfl (out_old (t := 14) rfl rfl (out_new (i := 8) (by decide) rfl rfl (out_new (i := 9) (by decide) rfl rfl (out_new (i := 10) (by decide) rfl rfl (out_new (i := 7) (by decide) rfl rfl out_nil)))))))))))) fun a20 w20 s20 => ?_
      refine seq_op s20 rfl rfl (of_decide_eq_true rfl) (ob_assign rfl (.tmp rfl)) fun a21 w21 s21 => ?_; clear s20
      refine wpList_nil ?_
      refine then_normal ?_
      refine hK9 _ _ ?_
      have s22 := s21.sub (.cons (t := 2) rfl (.cons (t := 4) rfl (.cons (t := 5) rfl (.cons (t := 10) rfl (.cons (t := 11) rfl (.cons (t := 12) rfl (.cons (t := 13) rfl (.cons (t := 14) rfl (.cons (t := 15) rfl (.cons (t := 16) rfl (.cons (t := 17) rfl (.cons (t := 18) rfl .nil)))))))))))); clear s21
      refine wp_seq_k fun K10 hK10 => ?_
      refine wp_seq_k fun K11 hK11 => ?_
      refine wp_region_lit ?_
      refine seq_op s22 rfl rfl (of_decide_eq_true rfl) (ob_assign rfl (opd_int rfl)) fun a23 w23 s23 => ?_; clear s22
      refine wpList_nil ?_
      refine then_normal ?_
      refine hK11 _ _ ?_
      have s24 := s23.sub (.cons (t := 2) rfl (.cons (t := 4) rfl (.cons (t := 5) rfl (.cons (t := 10) rfl (.cons (t := 11) rfl (.cons (t := 12) rfl (.cons (t := 13) rfl (.cons (t := 14) rfl (.cons (t := 15) rfl (.cons (t := 16) rfl (.cons (t := 17) rfl (.cons (t := 18) rfl (.cons (t := 19) rfl .nil))))))))))))); clear s23
      have hj3 : ∀ (y3 : Int) (y4 : Int) (y5 : Int) (y6 : Int) (y7 : Int) (y8 : Int) (y9 : Int) (y10 : Int) (a : Act) (w : World), (cabalref01_Block.j3 k p1) y3 y4 y5 y6 y7 y8 y9 y10 = some r → St ⟨211, w0, ok, []⟩ [BF b1 60 (karr 8 (kint .u32)) p1, BF b2 60 (karr 8 (kint .u32)) (List.replicate 8 (0 : Int))] [(2, (ptrB b1 0)), (4, (ptrB b2 0)), (11, ((kint .u32).V y3)), (12, ((kint .u32).V y4)), (13, ((kint .u32).V y5)), (14, ((kint .u32).V y6)), (15, ((kint .u32).V y7)), (16, ((kint .u32).V y8)), (17, ((kint .u32).V y9)), (18, ((kint .u32).V y10))] a w → K10 a w := by
        intro y3 y4 y5 y6 y7 y8 y9 y10 a25 w25 h12 s25
        unfold cabalref01_Block.j3 at h12
        refine hK10 _ _ ?_
        refine wp_seq_k fun K12 hK12 => ?_
        refine wp_region_lit ?_
        refine seq_op s25 rfl rfl (of_decide_eq_true rfl) (ob_indexAddr rfl Tryd.underlying60 sz59 (.tmp rfl) (opd_int rfl) (by decide) (by decide) (Nat.zero_add _)) fun a26 w26 s26 => ?_; clear s25
        obtain ⟨x10, e_x10, h13⟩ := bind_some h12; clear h12
        refine seq_op s26 rfl rfl (of_decide_eq_true rfl) (ob_load rfl tk59 (.tmp rfl) (.head _) (LG.arrA e_x10)) fun a27 w27 s27 => ?_; clear s26
        refine seq_op s27 rfl rfl (of_decide_eq_true rfl) (ob_move rfl (.tmp rfl)) fun a28 w28 s28 => ?_; clear s27
        refine seq_op s28 rfl rfl (of_decide_eq_true rfl) (ob_add rfl (.tmp rfl) (.tmp rfl)) fun a29 w29 s29 => ?_; clear s28
        refine seq_op s29 rfl rfl (of_decide_eq_true rfl) (ob_indexAddr rfl Tryd.underlying60 sz59 (.tmp rfl) (opd_int rfl) (by decide) (by decide) (Nat.zero_add _)) fun a30 w30 s30 => ?_; clear s29
        obtain ⟨x11, e_x11, h14⟩ := bind_some h13; clear h13
        refine seq_op s30 rfl rfl (of_decide_eq_true rfl) (ob_load rfl tk59 (.tmp rfl) (.head _) (LG.arrA e_x11)) fun a31 w31 s31 => ?_; clear s30
        refine seq_op s31 rfl rfl (of_decide_eq_true rfl) (ob_move rfl (.tmp rfl)) fun a32 w32 s32 => ?_; clear s31
        refine seq_op s32 rfl rfl (of_decide_eq_true rfl) (ob_add rfl (.tmp rfl) (.tmp rfl)) fun a33 w33 s33 => ?_; clear s32
        refine seq_op s33 rfl rfl (of_decide_eq_true rfl) (ob_indexAddr rfl Tryd.underlying60 sz59 (.tmp rfl) (opd_int rfl) (by decide) (by decide) (Nat.zero_add _)) fun a34 w34 s34 => ?_; clear s33
        obtain ⟨x12, e_x12, h15⟩ := bind_some h14; clear h14
        refine seq_op s34 rfl rfl (of_decide_eq_true rfl) (ob_load rfl tk59 (.tmp rfl) (.head _) (LG.arrA e_x12)) fun a35 w35 s35 => ?_; clear s34
        refine seq_op s35 rfl rfl (of_decide_eq_true rfl) (ob_move rfl (.tmp rfl)) fun a36 w36 s36 => ?_; clear s35
        refine seq_op s36 rfl rfl (of_decide_eq_true rfl) (ob_add rfl (.tmp rfl) (.tmp rfl)) fun a37 w37 s37 => ?_; clear s36
        refine seq_op s37 rfl rfl (of_decide_eq_true rfl) (ob_indexAddr rfl Tryd.underlying60 sz59 (.tmp rfl) (opd_int rfl) (by decide) (by decide) (Nat.zero_add _)) fun a38 w38 s38 => ?_; clear s37
        obtain ⟨x13, e_x13, h16⟩ := bind_some h15; clear h15
        refine seq_op s38 rfl rfl (of_decide_eq_true rfl) (ob_load rfl tk59 (.tmp rfl) (.head _) (LG.arrA e_x13)) fun a39 w39 s39 => ?_; clear s38
        refine seq_op s39 rfl rfl (of_decide_eq_true rfl) (ob_move rfl (.tmp rfl)) fun a40 w40 s40 => ?_; clear s39
        refine seq_op s40 rfl rfl (of_decide_eq_true rfl) (ob_add rfl (.tmp rfl) (.tmp rfl)) fun a41 w41 s41 => ?_; clear s40
        refine seq_op s41 rfl rfl (of_decide_eq_true rfl) (ob_indexAddr rfl Tryd.underlying60 sz59 (.tmp rfl) (opd_int rfl) (by decide) (by decide) (Nat.zero_add _)) fun a42 w42 s42 => ?_; clear s41
        obtain ⟨x14, e_x14, h17⟩ := bind_some h16; clear h16
        refine seq_op s42 rfl rfl (of_decide_eq_true rfl) (ob_load rfl tk59 (.tmp rfl) (.head _) (LG.arrA e_x14)) fun a43 w43 s43 => ?_; clear s42
        refine seq_op s43 rfl rfl (of_decide_eq_true rfl) (ob_move rfl (.tmp rfl)) fun a44 w44 s44 => ?_; clear s43
        refine seq_op s44 rfl rfl (of_decide_eq_true rfl) (ob_add rfl (.tmp rfl) (.tmp rfl)) fun a45 w45 s45 => ?_; clear s44
        refine seq_op s45 rfl rfl (of_decide_eq_true rfl) (ob_indexAddr rfl Tryd.underlying60 sz59 (.tmp rfl) (opd_int rfl) (by decide) (by decide) (Nat.zero_add _)) fun a46 w46 s46 => ?_; clear s45
        obtain ⟨x15, e_x15, h18⟩ := bind_some h17; clear h17
        refine seq_op s46 rfl rfl (of_decide_eq_true rfl) (ob_load rfl tk59 (.tmp rfl) (.head _) (LG.arrA e_x15)) fun a47 w47 s47 => ?_; clear s46
        refine seq_op s47 rfl rfl (of_decide_eq_true rfl) (ob_move rfl (.tmp rfl)) fun a48 w48 s48 => ?_; clear s47
        refine seq_op s48 rfl rfl (of_decide_eq_true rfl) (ob_add rfl (.tmp rfl) (.tmp rfl)) fun a49 w49 s49 => ?_; clear s48
        refine seq_op s49 rfl rfl (of_decide_eq_true rfl) (ob_indexAddr rfl Tryd.underlying60 sz59 (.tmp rfl) (opd_int rfl) (by decide) (by decide) (Nat.zero_add _)) fun a50 w50 s50 => ?_; clear s49
        obtain ⟨x16, e_x16, h19⟩ := bind_some h18; clear h18
        refine seq_op s50 rfl rfl (of_decide_eq_true rfl) (ob_load rfl tk59 (.tmp rfl) (.head _) (LG.arrA e_x16)) fun a51 w51 s51 => ?_; clear s50
        refine seq_op s51 rfl rfl (of_decide_eq_true rfl) (ob_move rfl (.tmp rfl)) fun a52 w52 s52 => ?_; clear s51
        refine seq_op s52 rfl rfl (of_decide_eq_true rfl) (ob_add rfl (.tmp rfl) (.tmp rfl)) fun a53 w53 s53 => ?_; clear s52
        refine seq_op s53 rfl rfl (of_decide_eq_true rfl) (ob_indexAddr rfl Tryd.underlying60 sz59 (.tmp rfl) (opd_int rfl) (by decide) (by decide) (Nat.zero_add _)) fun a54 w54 s54 => ?_; clear s53
        obtain ⟨x17, e_x17, h20⟩ := bind_some h19; clear h19
        refine seq_op s54 rfl rfl (of_decide_eq_true rfl) (ob_load rfl tk59 (.tmp rfl) (.head _) (LG.arrA e_x17)) fun a55 w55 s55 => ?_; clear s54
        refine seq_op s55 rfl rfl (of_decide_eq_true rfl) (ob_move rfl (.tmp rfl)) fun a56 w56 s56 => ?_; clear s55
        refine seq_op s56 rfl rfl (of_decide_eq_true rfl) (ob_add rfl (.tmp rfl) (.tmp rfl)) fun a57 w57 s57 => ?_; clear s56
        obtain ⟨x18, e_x18, h21⟩ := bind_some h20; clear h20; replace e_x18 := Option.some.inj e_x18
        refine seq_op s57 rfl rfl (of_decide_eq_true rfl) (((ob_mkArr (k := (kint .u32)) rfl Tryd.underlying60 zz60 sz59 (Zr.arr 8 (Zr.int .u32)) (.cons (.tmp rfl) rfl (LS.arr' (i := 0) (ys := ([(iadd .u32 x10 y3), (0 : Int), (0 : Int), (0 : Int), (0 : Int), (0 : Int), (0 : Int), (0 : Int)] : (List Int))) (by simp) (by rfl)) (.cons (.tmp rfl) rfl (LS.arr' (i := 1) (ys := ([(iadd .u32 x10 y3), (iadd .u32 x11 y4), (0 : Int), (0 : Int), (0 : Int), (0 : Int), (0 : Int), (0 : Int)] : (List Int))) (by simp) (by rfl)) (.cons (.tmp rfl) rfl (LS.arr' (i := 2) (ys := ([(iadd .u32 x10 y3), (iadd .u32 x11 y4), (iadd .u32 x12 y5), (0 : Int), (0 : Int), (0 : Int), (0 : Int), (0 : Int)] : (List Int))) (by simp) (by rfl)) (.cons (.tmp rfl) rfl (LS.arr' (i := 3) (ys := ([(iadd .u32 x10 y3), (iadd .u32 x11 y4), (iadd .u32 x12 y5), (iadd .u32 x13 y6), (0 : Int), (0 : Int), (0 : Int), (0 : Int)] : (List Int))) (by simp) (by rfl)) (.cons (.tmp rfl) rfl (LS.arr' (i := 4) (ys := ([(iadd .u32 x10 y3), (iadd .u32 x11 y4), (iadd .u32 x12 y5), (iadd .u32 x13 y6), (iadd .u32 x14 y7), (0 : Int), (0 : Int), (0 : Int)] : (List Int))) (by simp) (by rfl)) (.cons (.tmp rfl) rfl (LS.arr' (i := 5) (ys := ([(iadd .u32 x10 y3), (iadd .u32 x11 y4), (iadd .u32 x12 y5), (iadd .u32 x13 y6), (iadd .u32 x14 y7), (iadd .u32 x15 y8), (0 : Int), (0 : Int)] : (List Int))) (by simp) (by rfl)) (.cons (.tmp rfl) rfl (LS.arr' (i := 6) (ys := ([(iadd .u32 x10 y3), (iadd .u32 x11 y4), (iadd .u32 x12 y5), (iadd .u32 x13 y6), (iadd .u32 x14 y7), (iadd .u32 x15 y8), (iadd .u32 x16 y9), (0 : Int)] : (List Int))) (by simp) (by rfl)) (.cons (.tmp rfl) rfl (LS.arr' (i := 7) (ys := ([(iadd .u32 x10 y3), (iadd .u32 x11 y4), (iadd .u32 x12 y5), (iadd .u32 x13 y6), (iadd .u32 x14 y7), (iadd .u32 x15 y8), (iadd .u32 x16 y9), (iadd .u32 x17 y10)] : (List Int))) (by simp) (by rfl)) (.nil _))))))))) : Ob _ _ _ _ _ ((karr 8 (kint .u32)).V ([(iadd .u32 x10 y3), (iadd .u32 x11 y4), (iadd .u32 x12 y5), (iadd .u32 x13 y6), (iadd .u32 x14 y7), (iadd .u32 x15 y8), (iadd .u32 x16 y9), (iadd .u32 x17 y10)] : (List Int))))).nm e_x18) fun a58 w58 s58 => ?_; clear s57
        refine seq_opx0 (B' := (fun _ : Unit => [BF b1 60 (karr 8 (kint .u32)) p1, BF b2 60 (karr 8 (kint .u32)) x18])) s58 rfl rfl (ob_store (A := [_]) rfl tk60 (.tmp rfl) (.tmp rfl) rfl (LS.refl _ _ _) rfl) fun _ a59 w59 s59 => ?_; clear s58
        refine wpList_nil ?_
        refine then_normal ?_
        refine hK12 _ _ ?_
        have s60 := s59.sub (.cons (t := 4) rfl .nil); clear s59
        have s61 := St.drop (A := []) s60; clear s60
        refine wp_ret ?_
        obtain rfl := Option.some.inj h21
        exact leave s61 (.inl rfl) rfl (.cons (.cell rfl tk60 (.head _) (LG.refl _ _)) .nil)
      refine wp_block ?_
      have s62 := s24.perm (toFront [_] (toFront [_] (toFront [_] (toFront [] (List.Perm.refl _))))); clear s24
      refine wp_loop_fuel (fun m (q : Int × Int × Int × Int × Int × Int × Int × Int × Int) => cabalref01_Block.l1 k x1 y2 p1 m q.1 q.2.1 q.2.2.1 q.2.2.2.1 q.2.2.2.2.1 q.2.2.2.2.2.1 q.2.2.2.2.2.2.1 q.2.2.2.2.2.2.2.1 q.2.2.2.2.2.2.2.2) r (fun _ => rfl) (fun q a w => St ⟨211, w0, ok, []⟩ [BF b1 60 (karr 8 (kint .u32)) p1, BF b2 60 (karr 8 (kint .u32)) (List.replicate 8 (0 : Int)), BF b3 74 (karr 64 (kint .u32)) y2, BF b4 74 (karr 64 (kint .u32)) x1] [(2, (ptrB b1 0)), (4, (ptrB b2 0)), (5, (ptrB b3 0)), (10, (ptrB b4 0)), (11, ((kint .u32).V q.1)), (12, ((kint .u32).V q.2.1)), (13, ((kint .u32).V q.2.2.1)), (14, ((kint .u32).V q.2.2.2.1)), (15, ((kint .u32).V q.2.2.2.2.1)), (16, ((kint .u32).V q.2.2.2.2.2.1)), (17, ((kint .u32).V q.2.2.2.2.2.2.1)), (18, ((kint .u32).V q.2.2.2.2.2.2.2.1)), (19, ((kint .i64).V q.2.2.2.2.2.2.2.2))] a w) ?_ k (x2, x3, x4, x5, x6, x7, x8, x9, (0 : Int)) _ _ h11 (s62.sub (.cons rfl (.cons rfl (.cons rfl (.cons rfl (.cons rfl (.cons rfl (.cons rfl (.cons rfl (.cons rfl (.cons rfl (.cons rfl (.cons rfl (.cons rfl .nil))))))))))))))
      rintro n1 ⟨y11, y12, y13, y14, y15, y16, y17, y18, y19⟩ a63 w63 h22 s63 K13 hK13
      replace h22 : cabalref01_Block.l1 k x1 y2 p1 (n1 + 1) y11 y12 y13 y14 y15 y16 y17 y18 y19 = some r := h22; rw [cabalref01_Block.l1] at h22
      have h23 := h22; clear h22
      refine wp_seq_k fun K14 hK14 => ?_
      refine wp_seq_k fun K15 hK15 => ?_
      refine wp_region_lit ?_
      refine seq_op s63 rfl rfl (of_decide_eq_true rfl) (ob_move rfl (.tmp rfl)) fun a64 w64 s64 => ?_; clear s63
      refine seq_op s64 rfl rfl (of_decide_eq_true rfl) (ob_lss rfl (.tmp rfl) (opd_int rfl)) fun a65 w65 s65 => ?_; clear s64
      refine wpList_nil ?_
      refine then_normal ?_
      refine hK15 _ _ ?_
      have s66 := s65.sub (.cons (t := 2) rfl (.cons (t := 4) rfl (.cons (t := 5) rfl (.cons (t := 10) rfl (.cons (t := 11) rfl (.cons (t := 12) rfl (.cons (t := 13) rfl (.cons (t := 14) rfl (.cons (t := 15) rfl (.cons (t := 16) rfl (.cons (t := 17) rfl (.cons (t := 18) rfl (.cons (t := 19) rfl (.cons (t := 116) rfl .nil)))))))))))))); clear s65
      refine cond_split s66 (.tmp rfl) (fun hc1 => ?_) (fun hc1 => ?_)
      · replace h23 := ite_t hc1 h23
        have h24 := h23; clear h23
        refine wp_skip ?_
        refine then_normal ?_
        refine hK14 _ _ ?_
        have s67 := s66.sub (.cons (t := 2) rfl (.cons (t := 4) rfl (.cons (t := 5) rfl (.cons (t := 10) rfl (.cons (t := 11) rfl (.cons (t := 12) rfl (.cons (t := 13) rfl (.cons (t := 14) rfl (.cons (t := 15) rfl (.cons (t := 16) rfl (.cons (t := 17) rfl (.cons (t := 18) rfl (.cons (t := 19) rfl .nil))))))))))))); clear s66
        refine wp_seq_k fun K16 hK16 => ?_
        refine wp_block ?_
        refine wp_seq_k fun K17 hK17 => ?_
        obtain ⟨x19, e_x19, h25⟩ := bind_some h24; clear h24
        obtain ⟨x20, e_x20, h26⟩ := bind_some h25; clear h25
        obtain ⟨x21, e_x21, h27⟩ := bind_some h26; clear h26
        obtain ⟨x22, e_x22, h28⟩ := bind_some h27; clear h27; replace e_x22 := Option.some.inj e_x22
        obtain ⟨g1, h29⟩ := guard_some h28; clear h28
        obtain ⟨x23, e_x23, h30⟩ := bind_some h29; clear h29
        obtain ⟨g2, h31⟩ := guard_some h30; clear h30
        obtain ⟨x24, e_x24, h32⟩ := bind_some h31; clear h31
        refine wp_goes (Fs := [((kint .u32).V y18), ((kint .u32).V y15), ((kint .u32).V x19), ((kint .u32).V y15), ((kint .u32).V x20), ((kint .u32).V (ixor .u32 x19 x20)), ((kint .u32).V y15), ((kint .u32).V x21), ((kint .u32).V (ixor .u32 (ixor .u32 x19 x20) x21)), ((kint .u32).V (iadd .u32 y18 (ixor .u32 (ixor .u32 x19 x20) x21))), ((kint .u32).V y15), ((kint .u32).V y16), ((kint .u32).V (iand .u32 y15 y16)), ((kint .u32).V y15), ((kint .u32).V (inot .u32 y15)), ((kint .u32).V y17), ((kint .u32).V (iand .u32 (inot .u32 y15) y17)), ((kint .u32).V (ior .u32 (iand .u32 y15 y16) (iand .u32 (inot .u32 y15) y17))), ((kint .u32).V x22), ((kint .i64).V y19), (ptrB b4 (y19.toNat * 1)), ((kint .u32).V x23), ((kint .u32).V (iadd .u32 x22 x23)), ((kint .i64).V y19), (ptrB b3 (y19.toNat * 1)), ((kint .u32).V x24)]) (bits := [0, 0, 2, 0, 14, 30, 0, 94, 254, 511, 0, 0, 3072, 0, 8192, 0, 57344, 130048, 262143, 0, 524288, 1572864, 4194303, 0, 8388608, 25165824, 67108863, 134217727]) (m := 26) (todo := 0) mx s67 ?_; clear s67
        refine goes_last (by kernel_rfl) rfl (opsS_cons (.plain _ (Av.old (t := 18) rfl rfl Av.nil) rfl rfl (ob_move rfl (.tmp rfl))) (opsS_cons (.plain _ (Av.old (t := 15) rfl rfl Av.nil) rfl rfl (ob_move rfl (.tmp rfl))) (opsS_cons (.plain _ (Av.new (j := 1) rfl rfl rfl Av.nil) rfl rfl (ob_callD (args := [_, _]) rfl .direct hb33 (fun a w s fs gs hf hg => by obtain rfl := hf.unnil; obtain rfl := hg.unnil; exact c_cabalref01_Right k _ _ _ e_x19 _ _ _ _ (s.arg (.tmp rfl)) (s.arg (opd_int rfl))))) (opsS_cons (.plain _ (Av.old (t := 15) rfl rfl Av.nil) rfl rfl (ob_move rfl (.tmp rfl))) (opsS_cons (.plain _ (Av.new (j := 3) rfl rfl rfl Av.nil) rfl rfl (ob_callD (args := [_, _]) rfl .direct hb33 (fun a w s fs gs hf hg => by obtain rfl := hf.unnil; obtain rfl := hg.unnil; exact c_cabalref01_Right k _ _ _ e_x20 _ _ _ _ (s.arg (.tmp rfl)) (s.arg (opd_int rfl))))) (opsS_cons (.plain _ (Av.new (j := 2) rfl rfl rfl (Av.new (j := 4) rfl rfl rfl Av.nil)) rfl rfl (ob_xor rfl (.tmp rfl) (.tmp rfl))) (opsS_cons (.plain _ (Av.old (t := 15) rfl rfl Av.nil) rfl rfl (ob_move rfl (.tmp rfl))) (opsS_cons (.plain _ (Av.new (j := 6) rfl rfl rfl Av.nil) rfl rfl (ob_callD (args := [_, _]) rfl .direct hb33 (fun a w s fs gs hf hg => by obtain rfl := hf.unnil; obtain rfl := hg.unnil; exact c_cabalref01_Right k _ _ _ e_x21 _ _ _ _ (s.arg (.tmp rfl)) (s.arg (opd_int rfl))))) (opsS_cons (.plain _ (Av.new (j := 5) rfl rfl rfl (Av.new (j := 7) rfl rfl rfl Av.nil)) rfl rfl (ob_xor rfl (.tmp rfl) (.tmp rfl))) (opsS_cons (.plain _ (Av.new (j := 0) rfl rfl rfl (Av.new (j := 8) rfl rfl rfl Av.nil)) rfl rfl (ob_add rfl (.tmp rfl) (.tmp rfl))) (opsS_cons (.plain _ (Av.old (t := 15) rfl rfl Av.nil) rfl rfl (ob_move rfl (.tmp rfl))) (opsS_cons (.plain _ (Av.old (t := 16) rfl rfl Av.nil) rfl rfl (ob_move rfl (.tmp rfl))) (opsS_cons (.plain _ (Av.new (j := 10) rfl rfl rfl (Av.new (j := 11) rfl rfl rfl Av.nil)) rfl rfl (ob_and rfl (.tmp rfl) (.tmp rfl))) (opsS_cons (.plain _ (Av.old (t := 15) rfl rfl Av.nil) rfl rfl (ob_move rfl (.tmp rfl))) (opsS_cons (.plain _ (Av.new (j := 13) rfl rfl rfl Av.nil) rfl rfl (ob_xor1 rfl (.tmp rfl))) (opsS_cons (.plain _ (Av.old (t := 17) rfl rfl Av.nil) rfl rfl (ob_move rfl (.tmp rfl))) (opsS_cons (.plain _ (Av.new (j := 14) rfl rfl rfl (Av.new (j := 15) rfl rfl rfl Av.nil)) rfl rfl (ob_and rfl (.tmp rfl) (.tmp rfl))) (opsS_cons (.plain _ (Av.new (j := 12) rfl rfl rfl (Av.new (j := 16) rfl rfl rfl Av.nil)) rfl rfl (ob_or rfl (.tmp rfl) (.tmp rfl))) (opsS_cons (.plain _ (Av.new (j := 9) rfl rfl rfl (Av.new (j := 17) rfl rfl rfl Av.nil)) rfl rfl ((ob_add rfl (.tmp rfl) (.tmp rfl)).nm e_x22)) (opsS_cons (.plain _ (Av.old (t := 19) rfl rfl Av.nil) rfl rfl (ob_move rfl (.tmp rfl))) (opsS_cons (.plain _ (Av.old (t := 10) rfl rfl (Av.new (j := 19) rfl rfl rfl Av.nil)) rfl rfl (ob_indexAddr rfl Tryd.underlying74 sz59 (.tmp rfl) (.tmp rfl) g1.1 g1.2 (Nat.zero_add _))) (opsS_cons (.plain _ (Av.new (j := 20) rfl rfl rfl Av.nil) rfl rfl (ob_load rfl tk59 (.tmp rfl) (.tail _ (.tail _ (.tail _ (.head _)))) (LG.arrA e_x23))) (opsS_cons (.plain _ (Av.new (j := 18) rfl rfl rfl (Av.new (j := 21) rfl rfl rfl Av.nil)) rfl rfl (ob_add rfl (.tmp rfl) (.tmp rfl))) (opsS_cons (.plain _ (Av.old (t := 19) rfl rfl Av.nil) rfl rfl (ob_move rfl (.tmp rfl))) (opsS_cons (.plain _ (Av.old (t := 5) rfl rfl (Av.new (j := 23) rfl rfl rfl Av.nil)) rfl rfl (ob_indexAddr rfl Tryd.underlying74 sz59 (.tmp rfl) (.tmp rfl) g2.1 g2.2 (Nat.zero_add _))) (opsS_cons (.plain _ (Av.new (j := 24) rfl rfl rfl Av.nil) rfl rfl (ob_load rfl tk59 (.tmp rfl) (.tail _ (.tail _ (.head _))) (LG.arrA e_x24))) opsS_nil)))))))))))))))))))))))))) (out_old (t := 2) rfl rfl (out_old (t := 4) rfl rfl (out_old (t := 5) rfl rfl (out_old (t := 10) rfl rfl (out_old (t := 11) rfl rfl (out_old (t := 12) rfl rfl (out_old (t := 13) rfl rfl (out_old (t := 14) rfl rfl (out_old (t := 15) rfl rfl (out_old (t := 16) rfl rfl (out_old (t := 17) rfl rfl (out_old (t := 19) rfl rfl (out_new (i := 22) (by decide) rfl rfl (out_new (i := 25) (by decide) rfl rfl out_nil)))))))))))))) fun a68 w68 s68 => ?_
        refine seq_op s68 rfl rfl (of_decide_eq_true rfl) (ob_add rfl (.tmp rfl) (.tmp rfl)) fun a69 w69 s69 => ?_; clear s68
        refine seq_op s69 rfl rfl (of_decide_eq_true rfl) (ob_assign rfl (.tmp rfl)) fun a70 w70 s70 => ?_; clear s69
        refine wpList_nil ?_
        refine then_normal ?_
        refine hK17 _ _ ?_
        have s71 := s70.sub (.cons (t := 2) rfl (.cons (t := 4) rfl (.cons (t := 5) rfl (.cons (t := 10) rfl (.cons (t := 11) rfl (.cons (t := 12) rfl (.cons (t := 13) rfl (.cons (t := 14) rfl (.cons (t := 15) rfl (.cons (t := 16) rfl (.cons (t := 17) rfl (.cons (t := 19) rfl (.cons (t := 20) rfl .nil))))))))))))); clear s70
        refine wp_seq_k fun K18 hK18 => ?_
        refine wp_region_lit ?_
        refine seq_op s71 rfl rfl (of_decide_eq_true rfl) (ob_move rfl (.tmp rfl)) fun a72 w72 s72 => ?_; clear s71
        obtain ⟨x25, e_x25, h33⟩ := bind_some h32; clear h32
        refine seq_op s72 rfl rfl (of_decide_eq_true rfl) (ob_callD (args := [_, _]) rfl .direct hb33 (fun a w s fs gs hf hg => by obtain rfl := hf.unnil; obtain rfl := hg.unnil; exact c_cabalref01_Right k _ _ _ e_x25 _ _ _ _ (s.arg (.tmp rfl)) (s.arg (opd_int rfl)))) fun a73 w73 s73 => ?_; clear s72
        refine seq_op s73 rfl rfl (of_decide_eq_true rfl) (ob_move rfl (.tmp rfl)) fun a74 w74 s74 => ?_; clear s73
        obtain ⟨x26, e_x26, h34⟩ := bind_some h33; clear h33
        refine seq_op s74 rfl rfl (of_decide_eq_true rfl) (ob_callD (args := [_, _]) rfl .direct hb33 (fun a w s fs gs hf hg => by obtain rfl := hf.unnil; obtain rfl := hg.unnil; exact c_cabalref01_Right k _ _ _ e_x26 _ _ _ _ (s.arg (.tmp rfl)) (s.arg (opd_int rfl)))) fun a75 w75 s75 => ?_; clear s74
        refine seq_op s75 rfl rfl (of_decide_eq_true rfl) (ob_xor rfl (.tmp rfl) (.tmp rfl)) fun a76 w76 s76 => ?_; clear s75
        refine seq_op s76 rfl rfl (of_decide_eq_true rfl) (ob_move rfl (.tmp rfl)) fun a77 w77 s77 => ?_; clear s76
        obtain ⟨x27, e_x27, h35⟩ := bind_some h34; clear h34
        refine seq_op s77 rfl rfl (of_decide_eq_true rfl) (ob_callD (args := [_, _]) rfl .direct hb33 (fun a w s fs gs hf hg => by obtain rfl := hf.unnil; obtain rfl := hg.unnil; exact c_cabalref01_Right k _ _ _ e_x27 _ _ _ _ (s.arg (.tmp rfl)) (s.arg (opd_int rfl)))) fun a78 w78 s78 => ?_; clear s77
        refine seq_op s78 rfl rfl (of_decide_eq_true rfl) (ob_xor rfl (.tmp rfl) (.tmp rfl)) fun a79 w79 s79 => ?_; clear s78
        refine seq_op s79 rfl rfl (of_decide_eq_true rfl) (ob_move rfl (.tmp rfl)) fun a80 w80 s80 => ?_; clear s79
        refine seq_op s80 rfl rfl (of_decide_eq_true rfl) (ob_move rfl (.tmp rfl)) fun a81 w81 s81 => ?_; clear s80
        refine seq_op s81 rfl rfl (of_decide_eq_true rfl) (ob_and rfl (.tmp rfl) (.tmp rfl)) fun a82 w82 s82 => ?_; clear s81
        refine seq_op s82 rfl rfl (of_decide_eq_true rfl) (ob_move rfl (.tmp rfl)) fun a83 w83 s83 => ?_; clear s82
        refine seq_op s83 rfl rfl (of_decide_eq_true rfl) (ob_move rfl (.tmp rfl)) fun a84 w84 s84 => ?_; clear s83
        refine seq_op s84 rfl rfl (of_decide_eq_true rfl) (ob_and rfl (.tmp rfl) (.tmp rfl)) fun a85 w85 s85 => ?_; clear s84
        refine seq_op s85 rfl rfl (of_decide_eq_true rfl) (ob_or rfl (.tmp rfl) (.tmp rfl)) fun a86 w86 s86 => ?_; clear s85
        refine seq_op s86 rfl rfl (of_decide_eq_true rfl) (ob_move rfl (.tmp rfl)) fun a87 w87 s87 => ?_; clear s86
        refine seq_op s87 rfl rfl (of_decide_eq_true rfl) (ob_move rfl (.tmp rfl)) fun a88 w88 s88 => ?_; clear s87
        refine seq_op s88 rfl rfl (of_decide_eq_true rfl) (ob_and rfl (.tmp rfl) (.tmp rfl)) fun a89 w89 s89 => ?_; clear s88
        obtain ⟨x28, e_x28, h36⟩ := bind_some h35; clear h35; replace e_x28 := Option.some.inj e_x28
        refine seq_op s89 rfl rfl (of_decide_eq_true rfl) ((ob_or rfl (.tmp rfl) (.tmp rfl)).nm e_x28) fun a90 w90 s90 => ?_; clear s89
        refine seq_op s90 rfl rfl (of_decide_eq_true rfl) (ob_add rfl (.tmp rfl) (.tmp rfl)) fun a91 w91 s91 => ?_; clear s90
        refine seq_op s91 rfl rfl (of_decide_eq_true rfl) (ob_assign rfl (.tmp rfl)) fun a92 w92 s92 => ?_; clear s91
        refine wpList_nil ?_
        refine then_normal ?_
        refine hK18 _ _ ?_
        have s93 := s92.sub (.cons (t := 2) rfl (.cons (t := 4) rfl (.cons (t := 5) rfl (.cons (t := 10) rfl (.cons (t := 11) rfl (.cons (t := 12) rfl (.cons (t := 13) rfl (.cons (t := 14) rfl (.cons (t := 15) rfl (.cons (t := 16) rfl (.cons (t := 17) rfl (.cons (t := 19) rfl (.cons (t := 20) rfl (.cons (t := 21) rfl .nil)))))))))))))); clear s92
        refine wp_seq_k fun K19 hK19 => ?_
        refine wp_region_lit ?_
        refine seq_op s93 rfl rfl (of_decide_eq_true rfl) (ob_move rfl (.tmp rfl)) fun a94 w94 s94 => ?_; clear s93
        refine seq_op s94 rfl rfl (of_decide_eq_true rfl) (ob_assign rfl (.tmp rfl)) fun a95 w95 s95 => ?_; clear s94
        refine wpList_nil ?_
        refine then_normal ?_
        refine hK19 _ _ ?_
        have s96 := s95.sub (.cons (t := 2) rfl (.cons (t := 4) rfl (.cons (t := 5) rfl (.cons (t := 10) rfl (.cons (t := 11) rfl (.cons (t := 12) rfl (.cons (t := 13) rfl (.cons (t := 14) rfl (.cons (t := 15) rfl (.cons (t := 16) rfl (.cons (t := 18) rfl (.cons (t := 19) rfl (.cons (t := 20) rfl (.cons (t := 21) rfl .nil)))))))))))))); clear s95
        refine wp_seq_k fun K20 hK20 => ?_
        refine wp_region_lit ?_
        refine seq_op s96 rfl rfl (of_decide_eq_true rfl) (ob_move rfl (.tmp rfl)) fun a97 w97 s97 => ?_; clear s96
        refine seq_op s97 rfl rfl (of_decide_eq_true rfl) (ob_assign rfl (.tmp rfl)) fun a98 w98 s98 => ?_; clear s97
        refine wpList_nil ?_
        refine then_normal ?_
        refine hK20 _ _ ?_
        have s99 := s98.sub (.cons (t := 2) rfl (.cons (t := 4) rfl (.cons (t := 5) rfl (.cons (t := 10) rfl (.cons (t := 11) rfl (.cons (t := 12) rfl (.cons (t := 13) rfl (.cons (t := 14) rfl (.cons (t := 15) rfl (.cons (t := 17) rfl (.cons (t := 18) rfl (.cons (t := 19) rfl (.cons (t := 20) rfl (.cons (t := 21) rfl .nil)))))))))))))); clear s98
        refine wp_seq_k fun K21 hK21 => ?_
        refine wp_region_lit ?_
        refine seq_op s99 rfl rfl (of_decide_eq_true rfl) (ob_move rfl (.tmp rfl)) fun a100 w100 s100 => ?_; clear s99
        refine seq_op s100 rfl rfl (of_decide_eq_true rfl) (ob_assign rfl (.tmp rfl)) fun a101 w101 s101 => ?_; clear s100
        refine wpList_nil ?_
        refine then_normal ?_
        refine hK21 _ _ ?_
        have s102 := s101.sub (.cons (t := 2) rfl (.cons (t := 4) rfl (.cons (t := 5) rfl (.cons (t := 10) rfl (.cons (t := 11) rfl (.cons (t := 12) rfl (.cons (t := 13) rfl (.cons (t := 14) rfl (.cons (t := 16) rfl (.cons (t := 17) rfl (.cons (t := 18) rfl (.cons (t := 19) rfl (.cons (t := 20) rfl (.cons (t := 21) rfl .nil)))))))))))))); clear s101
        refine wp_seq_k fun K22 hK22 => ?_
        refine wp_region_lit ?_
        refine seq_op s102 rfl rfl (of_decide_eq_true rfl) (ob_move rfl (.tmp rfl)) fun a103 w103 s103 => ?_; clear s102
        refine seq_op s103 rfl rfl (of_decide_eq_true rfl) (ob_move rfl (.tmp rfl)) fun a104 w104 s104 => ?_; clear s103
        refine seq_op s104 rfl rfl (of_decide_eq_true rfl) (ob_add rfl (.tmp rfl) (.tmp rfl)) fun a105 w105 s105 => ?_; clear s104
        refine seq_op s105 rfl rfl (of_decide_eq_true rfl) (ob_assign rfl (.tmp rfl)) fun a106 w106 s106 => ?_; clear s105
        refine wpList_nil ?_
        refine then_normal ?_
        refine hK22 _ _ ?_
        have s107 := s106.sub (.cons (t := 2) rfl (.cons (t := 4) rfl (.cons (t := 5) rfl (.cons (t := 10) rfl (.cons (t := 11) rfl (.cons (t := 12) rfl (.cons (t := 13) rfl (.cons (t := 15) rfl (.cons (t := 16) rfl (.cons (t := 17) rfl (.cons (t := 18) rfl (.cons (t := 19) rfl (.cons (t := 20) rfl (.cons (t := 21) rfl .nil)))))))))))))); clear s106
        refine wp_seq_k fun K23 hK23 => ?_
        refine wp_region_lit ?_
        refine seq_op s107 rfl rfl (of_decide_eq_true rfl) (ob_move rfl (.tmp rfl)) fun a108 w108 s108 => ?_; clear s107
        refine seq_op s108 rfl rfl (of_decide_eq_true rfl) (ob_assign rfl (.tmp rfl)) fun a109 w109 s109 => ?_; clear s108
        refine wpList_nil ?_
        refine then_normal ?_
        refine hK23 _ _ ?_
        have s110 := s109.sub (.cons (t := 2) rfl (.cons (t := 4) rfl (.cons (t := 5) rfl (.cons (t := 10) rfl (.cons (t := 11) rfl (.cons (t := 12) rfl (.cons (t := 14) rfl (.cons (t := 15) rfl (.cons (t := 16) rfl (.cons (t := 17) rfl (.cons (t := 18) rfl (.cons (t := 19) rfl (.cons (t := 20) rfl (.cons (t := 21) rfl .nil)))))))))))))); clear s109
        refine wp_seq_k fun K24 hK24 => ?_
        refine wp_region_lit ?_
        refine seq_op s110 rfl rfl (of_decide_eq_true rfl) (ob_move rfl (.tmp rfl)) fun a111 w111 s111 => ?_; clear s110
        refine seq_op s111 rfl rfl (of_decide_eq_true rfl) (ob_assign rfl (.tmp rfl)) fun a112 w112 s112 => ?_; clear s111
        refine wpList_nil ?_
        refine then_normal ?_
        refine hK24 _ _ ?_
        have s113 := s112.sub (.cons (t := 2) rfl (.cons (t := 4) rfl (.cons (t := 5) rfl (.cons (t := 10) rfl (.cons (t := 11) rfl (.cons (t := 13) rfl (.cons (t := 14) rfl (.cons (t := 15) rfl (.cons (t := 16) rfl (.cons (t := 17) rfl (.cons (t := 18) rfl (.cons (t := 19) rfl (.cons (t := 20) rfl (.cons (t := 21) rfl .nil)))))))))))))); clear s112
        refine wp_seq_k fun K25 hK25 => ?_
        refine wp_region_lit ?_
        refine seq_op s113 rfl rfl (of_decide_eq_true rfl) (ob_move rfl (.tmp rfl)) fun a114 w114 s114 => ?_; clear s113
        refine seq_op s114 rfl rfl (of_decide_eq_true rfl) (ob_assign rfl (.tmp rfl)) fun a115 w115 s115 => ?_; clear s114
        refine wpList_nil ?_
        refine then_normal ?_
        refine hK25 _ _ ?_
        have s116 := s115.sub (.cons (t := 2) rfl (.cons (t := 4) rfl (.cons (t := 5) rfl (.cons (t := 10) rfl (.cons (t := 12) rfl (.cons (t := 13) rfl (.cons (t := 14) rfl (.cons (t := 15) rfl (.cons (t := 16) rfl (.cons (t := 17) rfl (.cons (t := 18) rfl (.cons (t := 19) rfl (.cons (t := 20) rfl (.cons (t := 21) rfl .nil)))))))))))))); clear s115
        refine wp_region_lit ?_
        refine seq_op s116 rfl rfl (of_decide_eq_true rfl) (ob_move rfl (.tmp rfl)) fun a117 w117 s117 => ?_; clear s116
        refine seq_op s117 rfl rfl (of_decide_eq_true rfl) (ob_move rfl (.tmp rfl)) fun a118 w118 s118 => ?_; clear s117
        obtain ⟨x29, e_x29, h37⟩ := bind_some h36; clear h36; replace e_x29 := Option.some.inj e_x29
        refine seq_op s118 rfl rfl (of_decide_eq_true rfl) ((ob_add rfl (.tmp rfl) (.tmp rfl)).nm e_x29) fun a119 w119 s119 => ?_; clear s118
        refine seq_op s119 rfl rfl (of_decide_eq_true rfl) (ob_assign rfl (.tmp rfl)) fun a120 w120 s120 => ?_; clear s119
        refine wpList_nil ?_
        refine in_normal ?_
        refine then_normal ?_
        refine hK16 _ _ ?_
        have s121 := s120.sub (.cons (t := 2) rfl (.cons (t := 4) rfl (.cons (t := 5) rfl (.cons (t := 10) rfl (.cons (t := 11) rfl (.cons (t := 12) rfl (.cons (t := 13) rfl (.cons (t := 14) rfl (.cons (t := 15) rfl (.cons (t := 16) rfl (.cons (t := 17) rfl (.cons (t := 18) rfl (.cons (t := 19) rfl .nil))))))))))))); clear s120
        refine wp_region_lit ?_
        refine seq_op s121 rfl rfl (of_decide_eq_true rfl) (ob_move rfl (.tmp rfl)) fun a122 w122 s122 => ?_; clear s121
        refine seq_op s122 rfl rfl (of_decide_eq_true rfl) (ob_add rfl (.tmp rfl) (opd_int rfl)) fun a123 w123 s123 => ?_; clear s122
        refine seq_op s123 rfl rfl (of_decide_eq_true rfl) (ob_assign rfl (.tmp rfl)) fun a124 w124 s124 => ?_; clear s123
        refine wpList_nil ?_
        refine then_normal ?_
        exact hK13 (x29, y11, y12, y13, (iadd .u32 y14 (iadd .u32 (iadd .u32 x22 x23) x24)), y15, y16, y17, (iadd .i64 y19 (1 : Int))) _ _ h37 (s124.sub (.cons rfl (.cons rfl (.cons rfl (.cons rfl (.cons rfl (.cons rfl (.cons rfl (.cons rfl (.cons rfl (.cons rfl (.cons rfl (.cons rfl (.cons rfl .nil))))))))))))))
      · replace h23 := ite_f hc1 h23
        have h38 := h23; clear h23
        refine wp_exit ?_
        refine (then_exit (then_exit (in_here ?_)))
        refine then_normal ?_
        have s125 := St.drop (A := [_, _]) s66; clear s66
        have s126 := St.drop (A := [_, _]) s125; clear s125
        exact hj3 y11 y12 y13 y14 y15 y16 y17 y18 _ _ h38 (s126.sub (.cons rfl (.cons rfl (.cons rfl (.cons rfl (.cons rfl (.cons rfl (.cons rfl (.cons rfl (.cons rfl (.cons rfl .nil)))))))))))
    refine wp_block ?_
    refine wp_loop_fuel (fun m (q : Int × (List Int)) => cabalref01_Block.l2 k p1 m q.1 q.2) r (fun _ => rfl) (fun q a w => St ⟨211, w0, ok, []⟩ [BF b1 60 (karr 8 (kint .u32)) p1, BF b2 60 (karr 8 (kint .u32)) (List.replicate 8 (0 : Int)), BF b3 74 (karr 64 (kint .u32)) q.2] [(2, (ptrB b1 0)), (4, (ptrB b2 0)), (5, (ptrB b3 0)), (7, ((kint .i64).V q.1))] a w) ?_ k ((16 : Int), y1) _ _ h1 (s11.sub (.cons rfl (.cons rfl (.cons rfl (.cons rfl .nil)))))
    rintro n2 ⟨y20, y21⟩ a127 w127 h39 s127 K26 hK26
    replace h39 : cabalref01_Block.l2 k p1 (n2 + 1) y20 y21 = some r := h39; rw [cabalref01_Block.l2] at h39
    have h40 := h39; clear h39
    refine wp_seq_k fun K27 hK27 => ?_
    refine wp_seq_k fun K28 hK28 => ?_
    refine wp_region_lit ?_
    refine seq_op s127 rfl rfl (of_decide_eq_true rfl) (ob_move rfl (.tmp rfl)) fun a128 w128 s128 => ?_; clear s127
    refine seq_op s128 rfl rfl (of_decide_eq_true rfl) (ob_lss rfl (.tmp rfl) (opd_int rfl)) fun a129 w129 s129 => ?_; clear s128
    refine wpList_nil ?_
    refine then_normal ?_
    refine hK28 _ _ ?_
    have s130 := s129.sub (.cons (t := 2) rfl (.cons (t := 4) rfl (.cons (t := 5) rfl (.cons (t := 7) rfl (.cons (t := 58) rfl .nil))))); clear s129
    refine cond_split s130 (.tmp rfl) (fun hc2 => ?_) (fun hc2 => ?_)
    · replace h40 := ite_t hc2 h40
      have h41 := h40; clear h40
      refine wp_skip ?_
      refine then_normal ?_
      refine hK27 _ _ ?_
      have s131 := s130.sub (.cons (t := 2) rfl (.cons (t := 4) rfl (.cons (t := 5) rfl (.cons (t := 7) rfl .nil)))); clear s130
      refine wp_seq_k fun K29 hK29 => ?_
      refine wp_block ?_
      refine wp_seq_k fun K30 hK30 => ?_
      obtain ⟨g3, h42⟩ := guard_some h41; clear h41
      obtain ⟨x30, e_x30, h43⟩ := bind_some h42; clear h42
      obtain ⟨g4, h44⟩ := guard_some h43; clear h43
      obtain ⟨x31, e_x31, h45⟩ := bind_some h44; clear h44
      refine wp_goes (Fs := [((kint .i64).V y20), ((kint .i64).V (isub .i64 y20 (15 : Int))), (ptrB b3 ((isub .i64 y20 (15 : Int)).toNat * 1)), ((kint .u32).V x30), ((kint .i64).V y20), ((kint .i64).V (isub .i64 y20 (2 : Int))), (ptrB b3 ((isub .i64 y20 (2 : Int)).toNat * 1)), ((kint .u32).V x31), ((kint .u32).V x30)]) (bits := [0, 1, 3, 7, 0, 16, 48, 112, 15, 511]) (m := 9) (todo := 0) mx s131 ?_; clear s131
      refine goes_last (by kernel_rfl) rfl (opsS_cons (.plain _ (Av.old (t := 7) rfl rfl Av.nil) rfl rfl (ob_move rfl (.tmp rfl))) (opsS_cons (.plain _ (Av.new (j := 0) rfl rfl rfl Av.nil) rfl rfl (ob_sub rfl (.tmp rfl) (opd_int rfl))) (opsS_cons (.plain _ (Av.old (t := 5) rfl rfl (Av.new (j := 1) rfl rfl rfl Av.nil)) rfl rfl (ob_indexAddr rfl Tryd.underlying74 sz59 (.tmp rfl) (.tmp rfl) g3.1 g3.2 (Nat.zero_add _))) (opsS_cons (.plain _ (Av.new (j := 2) rfl rfl rfl Av.nil) rfl rfl (ob_load rfl tk59 (.tmp rfl) (.tail _ (.tail _ (.head _))) (LG.arrA e_x30))) (opsS_cons (.plain _ (Av.old (t := 7) rfl rfl Av.nil) rfl rfl (ob_move rfl (.tmp rfl))) (opsS_cons (.plain _ (Av.new (j := 4) rfl rfl rfl Av.nil) rfl rfl (ob_sub rfl (.tmp rfl) (opd_int rfl))) (opsS_cons (.plain _ (Av.old (t := 5) rfl rfl (Av.new (j := 5) rfl rfl rfl Av.nil)) rfl rfl (ob_indexAddr rfl Tryd.underlying74 sz59 (.tmp rfl) (.tmp rfl) g4.1 g4.2 (Nat.zero_add _))) (opsS_cons (.plain _ (Av.new (j := 6) rfl rfl rfl Av.nil) rfl rfl (ob_load rfl tk59 (.tmp rfl) (.tail _ (.tail _ (.head _))) (LG.arrA e_x31))) (opsS_cons (.plain _ (Av.new (j := 3) rfl rfl rfl Av.nil) rfl rfl (ob_assign rfl (.tmp rfl))) opsS_nil))))))))) (out_old (t := 2) rfl rfl (out_old (t := 4) rfl rfl (out_old (t := 5) rfl rfl (out_old (t := 7) rfl rfl (out_new (i := 8) (by decide) rfl rfl (out_new (i := 7) (by decide) rfl rfl out_nil)))))) fun a132 w132 s132 => ?_
      refine seq_op s132 rfl rfl (of_decide_eq_true rfl) (ob_assign rfl (.tmp rfl)) fun a133 w133 s133 => ?_; clear s132
      refine wpList_nil ?_
      refine then_normal ?_
      refine hK30 _ _ ?_
      have s134 := s133.sub (.cons (t := 2) rfl (.cons (t := 4) rfl (.cons (t := 5) rfl (.cons (t := 7) rfl (.cons (t := 8) rfl (.cons (t := 9) rfl .nil)))))); clear s133
      obtain ⟨x32, e_x32, h46⟩ := bind_some h45; clear h45
      obtain ⟨x33, e_x33, h47⟩ := bind_some h46; clear h46
      obtain ⟨g5, h48⟩ := guard_some h47; clear h47
      obtain ⟨x34, e_x34, h49⟩ := bind_some h48; clear h48
      obtain ⟨x35, e_x35, h50⟩ := bind_some h49; clear h49; replace e_x35 := Option.some.inj e_x35
      obtain ⟨x36, e_x36, h51⟩ := bind_some h50; clear h50
      obtain ⟨x37, e_x37, h52⟩ := bind_some h51; clear h51
      obtain ⟨x38, e_x38, h53⟩ := bind_some h52; clear h52; replace e_x38 := Option.some.inj e_x38
      obtain ⟨g6, h54⟩ := guard_some h53; clear h53
      obtain ⟨x39, e_x39, h55⟩ := bind_some h54; clear h54
      refine wp_goes (Fs := [((kint .i64).V y20), ((kint .u32).V x31), ((kint .u32).V x32), ((kint .u32).V x31), ((kint .u32).V x33), ((kint .u32).V (ixor .u32 x32 x33)), ((kint .u32).V x31), ((kint .u32).V (ishr .u32 x31 (10 : Int))), ((kint .u32).V (ixor .u32 (ixor .u32 x32 x33) (ishr .u32 x31 (10 : Int)))), ((kint .i64).V y20), ((kint .i64).V (isub .i64 y20 (7 : Int))), (ptrB b3 ((isub .i64 y20 (7 : Int)).toNat * 1)), ((kint .u32).V x34), ((kint .u32).V x35), ((kint .u32).V x30), ((kint .u32).V x36), ((kint .u32).V x30), ((kint .u32).V x37), ((kint .u32).V (ixor .u32 x36 x37)), ((kint .u32).V x30), ((kint .u32).V (ishr .u32 x30 (3 : Int))), ((kint .u32).V (ixor .u32 (ixor .u32 x36 x37) (ishr .u32 x30 (3 : Int)))), ((kint .u32).V x38), ((kint .i64).V y20), ((kint .i64).V (isub .i64 y20 (16 : Int))), (ptrB b3 ((isub .i64 y20 (16 : Int)).toNat * 1)), ((kint .u32).V x39), ((kint .u32).V (iadd .u32 x38 x39))]) (bits := [0, 0, 2, 0, 14, 30, 0, 64, 254, 0, 512, 1536, 3584, 8190, 0, 16414, 0, 114718, 245790, 0, 524288, 2080798, 4194302, 0, 8388608, 25165824, 58720256, 134217726, 268435455, 536870911]) (m := 28) (todo := 0) mx s134 ?_; clear s134
      refine goes_last (by kernel_rfl) rfl (opsS_cons (.plain _ (Av.old (t := 7) rfl rfl Av.nil) rfl rfl (ob_move rfl (.tmp rfl))) (opsS_cons (.plain _ (Av.old (t := 9) rfl rfl Av.nil) rfl rfl (ob_move rfl (.tmp rfl))) (opsS_cons (.plain _ (Av.new (j := 1) rfl rfl rfl Av.nil) rfl rfl (ob_callD (args := [_, _]) rfl .direct hb33 (fun a w s fs gs hf hg => by obtain rfl := hf.unnil; obtain rfl := hg.unnil; exact c_cabalref01_Right k _ _ _ e_x32 _ _ _ _ (s.arg (.tmp rfl)) (s.arg (opd_int rfl))))) (opsS_cons (.plain _ (Av.old (t := 9) rfl rfl Av.nil) rfl rfl (ob_move rfl (.tmp rfl))) (opsS_cons (.plain _ (Av.new (j := 3) rfl rfl rfl Av.nil) rfl rfl (ob_callD (args := [_, _]) rfl .direct hb33 (fun a w s fs gs hf hg => by obtain rfl := hf.unnil; obtain rfl := hg.unnil; exact c_cabalref01_Right k _ _ _ e_x33 _ _ _ _ (s.arg (.tmp rfl)) (s.arg (opd_int rfl))))) (opsS_cons (.plain _ (Av.new (j := 2) rfl rfl rfl (Av.new (j := 4) rfl rfl rfl Av.nil)) rfl rfl (ob_xor rfl (.tmp rfl) (.tmp rfl))) (opsS_cons (.plain _ (Av.old (t := 9) rfl rfl Av.nil) rfl rfl (ob_move rfl (.tmp rfl))) (opsS_cons (.plain _ (Av.new (j := 6) rfl rfl rfl Av.nil) rfl rfl (ob_shr rfl (.tmp rfl) (opd_int rfl) (by decide))) (opsS_cons (.plain _ (Av.new (j := 5) rfl rfl rfl (Av.new (j := 7) rfl rfl rfl Av.nil)) rfl rfl (ob_xor rfl (.tmp rfl) (.tmp rfl))) (opsS_cons (.plain _ (Av.old (t := 7) rfl rfl Av.nil) rfl rfl (ob_move rfl (.tmp rfl))) (opsS_cons (.plain _ (Av.new (j := 9) rfl rfl rfl Av.nil) rfl rfl (ob_sub rfl (.tmp rfl) (opd_int rfl))) (opsS_cons (.plain _ (Av.old (t := 5) rfl rfl (Av.new (j := 10) rfl rfl rfl Av.nil)) rfl rfl (ob_indexAddr rfl Tryd.underlying74 sz59 (.tmp rfl) (.tmp rfl) g5.1 g5.2 (Nat.zero_add _))) (opsS_cons (.plain _ (Av.new (j := 11) rfl rfl rfl Av.nil) rfl rfl (ob_load rfl tk59 (.tmp rfl) (.tail _ (.tail _ (.head _))) (LG.arrA e_x34))) (opsS_cons (.plain _ (Av.new (j := 8) rfl rfl rfl (Av.new (j := 12) rfl rfl rfl Av.nil)) rfl rfl ((ob_add rfl (.tmp rfl) (.tmp rfl)).nm e_x35)) (opsS_cons (.plain _ (Av.old (t := 8) rfl rfl Av.nil) rfl rfl (ob_move rfl (.tmp rfl))) (opsS_cons (.plain _ (Av.new (j := 14) rfl rfl rfl Av.nil) rfl rfl (ob_callD (args := [_, _]) rfl .direct hb33 (fun a w s fs gs hf hg => by obtain rfl := hf.unnil; obtain rfl := hg.unnil; exact c_cabalref01_Right k _ _ _ e_x36 _ _ _ _ (s.arg (.tmp rfl)) (s.arg (opd_int rfl))))) (opsS_cons (.plain _ (Av.old (t := 8) rfl rfl Av.nil) rfl rfl (ob_move rfl (.tmp rfl))) (opsS_cons (.plain _ (Av.new (j := 16) rfl rfl rfl Av.nil) rfl rfl (ob_callD (args := [_, _]) rfl .direct hb33 (fun a w s fs gs hf hg => by obtain rfl := hf.unnil; obtain rfl := hg.unnil; exact c_cabalref01_Right k _ _ _ e_x37 _ _ _ _ (s.arg (.tmp rfl)) (s.arg (opd_int rfl))))) (opsS_cons (.plain _ (Av.new (j := 15) rfl rfl rfl (Av.new (j := 17) rfl rfl rfl Av.nil)) rfl rfl (ob_xor rfl (.tmp rfl) (.tmp rfl))) (opsS_cons (.plain _ (Av.old (t := 8) rfl rfl Av.nil) rfl rfl (ob_move rfl (.tmp rfl))) (opsS_cons (.plain _ (Av.new (j := 19) rfl rfl rfl Av.nil) rfl rfl (ob_shr rfl (.tmp rfl) (opd_int rfl) (by decide))) (opsS_cons (.plain _ (Av.new (j := 18) rfl rfl rfl (Av.new (j := 20) rfl rfl rfl Av.nil)) rfl rfl (ob_xor rfl (.tmp rfl) (.tmp rfl))) (opsS_cons (.plain _ (Av.new (j := 13) rfl rfl rfl (Av.new (j := 21) rfl rfl rfl Av.nil)) rfl rfl ((ob_add rfl (.tmp rfl) (.tmp rfl)).nm e_x38)) (opsS_cons (.plain _ (Av.old (t := 7) rfl rfl Av.nil) rfl rfl (ob_move rfl (.tmp rfl))) (opsS_cons (.plain _ (Av.new (j := 23) rfl rfl rfl Av.nil) rfl rfl (ob_sub rfl (.tmp rfl) (opd_int rfl))) (opsS_cons (.plain _ (Av.old (t := 5) rfl rfl (Av.new (j := 24) rfl rfl rfl Av.nil)) rfl rfl (ob_indexAddr rfl Tryd.underlying74 sz59 (.tmp rfl) (.tmp rfl) g6.1 g6.2 (Nat.zero_add _))) (opsS_cons (.plain _ (Av.new (j := 25) rfl rfl rfl Av.nil) rfl rfl (ob_load rfl tk59 (.tmp rfl) (.tail _ (.tail _ (.head _))) (LG.arrA e_x39))) (opsS_cons (.plain _ (Av.new (j := 22) rfl rfl rfl (Av.new (j := 26) rfl rfl rfl Av.nil)) rfl rfl (ob_add rfl (.tmp rfl) (.tmp rfl))) opsS_nil)))))))))))))))))))))))))))) (out_old (t := 2) rfl rfl (out_old (t := 4) rfl rfl (out_old (t := 5) rfl rfl (out_old (t := 7) rfl rfl (out_new (i := 0) (by decide) rfl rfl (out_new (i := 27) (by decide) rfl rfl out_nil)))))) fun a135 w135 s135 => ?_
      obtain ⟨g7, h56⟩ := guard_some h55; clear h55
      refine seq_op s135 rfl rfl (of_decide_eq_true rfl) (ob_indexAddr rfl Tryd.underlying74 sz59 (.tmp rfl) (.tmp rfl) g7.1 g7.2 (Nat.zero_add _)) fun a136 w136 s136 => ?_; clear s135
      obtain ⟨x40, e_x40, h57⟩ := bind_some h56; clear h56
      refine seq_opx0 (B' := (fun _ : Unit => [BF b1 60 (karr 8 (kint .u32)) p1, BF b2 60 (karr 8 (kint .u32)) (List.replicate 8 (0 : Int)), BF b3 74 (karr 64 (kint .u32)) x40])) s136 rfl rfl (ob_store (A := [_, _]) rfl tk59 (.tmp rfl) (.tmp rfl) rfl (LS.arrS e_x40) rfl) fun _ a137 w137 s137 => ?_; clear s136
      refine wpList_nil ?_
      refine in_normal ?_
      refine then_normal ?_
      refine hK29 _ _ ?_
      have s138 := s137.sub (.cons (t := 2) rfl (.cons (t := 4) rfl (.cons (t := 5) rfl (.cons (t := 7) rfl .nil)))); clear s137
      refine wp_region_lit ?_
      refine seq_op s138 rfl rfl (of_decide_eq_true rfl) (ob_move rfl (.tmp rfl)) fun a139 w139 s139 => ?_; clear s138
      refine seq_op s139 rfl rfl (of_decide_eq_true rfl) (ob_add rfl (.tmp rfl) (opd_int rfl)) fun a140 w140 s140 => ?_; clear s139
      refine seq_op s140 rfl rfl (of_decide_eq_true rfl) (ob_assign rfl (.tmp rfl)) fun a141 w141 s141 => ?_; clear s140
      refine wpList_nil ?_
      refine then_normal ?_
      exact hK26 ((iadd .i64 y20 (1 : Int)), x40) _ _ h57 (s141.sub (.cons rfl (.cons rfl (.cons rfl (.cons rfl .nil)))))
    · replace h40 := ite_f hc2 h40
      have h58 := h40; clear h40
      refine wp_exit ?_
      refine (then_exit (then_exit (in_here ?_)))
      refine then_normal ?_
      exact hj2 y21 _ _ h58 (s130.sub (.cons rfl (.cons rfl (.cons rfl .nil))))
  refine wp_block ?_
  have s142 := s8.perm (toFront [_, _] (toFront [_] (toFront [] (List.Perm.refl _)))); clear s8
  refine wp_loop_fuel (fun m (q : Int × (List Int)) => cabalref01_Block.l3 k p2 p1 m q.1 q.2) r (fun _ => rfl) (fun q a w => St ⟨211, w0, ok, []⟩ [BF b1 60 (karr 8 (kint .u32)) p1, BF b2 60 (karr 8 (kint .u32)) (List.replicate 8 (0 : Int)), BF b3 74 (karr 64 (kint .u32)) q.2] [(1, (kstr.V p2)), (2, (ptrB b1 0)), (4, (ptrB b2 0)), (5, (ptrB b3 0)), (6, ((kint .i64).V q.1))] a w) ?_ k ((0 : Int), (List.replicate 64 (0 : Int))) _ _ h0 (s142.sub (.cons rfl (.cons rfl (.cons rfl (.cons rfl (.cons rfl .nil))))))
  rintro n3 ⟨y22, y23⟩ a143 w143 h59 s143 K31 hK31
  replace h59 : cabalref01_Block.l3 k p2 p1 (n3 + 1) y22 y23 = some r := h59; rw [cabalref01_Block.l3] at h59
  have h60 := h59; clear h59
  refine wp_seq_k fun K32 hK32 => ?_
  refine wp_seq_k fun K33 hK33 => ?_
  refine wp_region_lit ?_
  refine seq_op s143 rfl rfl (of_decide_eq_true rfl) (ob_move rfl (.tmp rfl)) fun a144 w144 s144 => ?_; clear s143
  refine seq_op s144 rfl rfl (of_decide_eq_true rfl) (ob_lss rfl (.tmp rfl) (opd_int rfl)) fun a145 w145 s145 => ?_; clear s144
  refine wpList_nil ?_
  refine then_normal ?_
  refine hK33 _ _ ?_
  have s146 := s145.sub (.cons (t := 1) rfl (.cons (t := 2) rfl (.cons (t := 4) rfl (.cons (t := 5) rfl (.cons (t := 6) rfl (.cons (t := 23) rfl .nil)))))); clear s145
  refine cond_split s146 (.tmp rfl) (fun hc3 => ?_) (fun hc3 => ?_)
  · replace h60 := ite_t hc3 h60
    have h61 := h60; clear h60
    refine wp_skip ?_
    refine then_normal ?_
    refine hK32 _ _ ?_
    have s147 := s146.sub (.cons (t := 1) rfl (.cons (t := 2) rfl (.cons (t := 4) rfl (.cons (t := 5) rfl (.cons (t := 6) rfl .nil))))); clear s146
    refine wp_seq_k fun K34 hK34 => ?_
    refine wp_block ?_
    obtain ⟨x41, e_x41, h62⟩ := bind_some h61; clear h61
    obtain ⟨x42, e_x42, h63⟩ := bind_some h62; clear h62
    obtain ⟨x43, e_x43, h64⟩ := bind_some h63; clear h63; replace e_x43 := Option.some.inj e_x43
    obtain ⟨x44, e_x44, h65⟩ := bind_some h64; clear h64
    obtain ⟨x45, e_x45, h66⟩ := bind_some h65; clear h65
    obtain ⟨x46, e_x46, h67⟩ := bind_some h66; clear h66; replace e_x46 := Option.some.inj e_x46
    refine wp_goes (Fs := [((kint .i64).V y22), (kstr.V p2), ((kint .i64).V y22), ((kint .i64).V (imul .i64 (4 : Int) y22)), ((kint .u8).V x41), ((kint .u32).V (IntKind.wrap .u32 x41)), ((kint .u32).V (imul .u32 (IntKind.wrap .u32 x41) (16777216 : Int))), (kstr.V p2), ((kint .i64).V y22), ((kint .i64).V (imul .i64 (4 : Int) y22)), ((kint .i64).V (iadd .i64 (imul .i64 (4 : Int) y22) (1 : Int))), ((kint .u8).V x42), ((kint .u32).V (IntKind.wrap .u32 x42)), ((kint .u32).V (imul .u32 (IntKind.wrap .u32 x42) (65536 : Int))), ((kint .u32).V x43), (kstr.V p2), ((kint .i64).V y22), ((kint .i64).V (imul .i64 (4 : Int) y22)), ((kint .i64).V (iadd .i64 (imul .i64 (4 : Int) y22) (2 : Int))), ((kint .u8).V x44), ((kint .u32).V (IntKind.wrap .u32 x44)), ((kint .u32).V (imul .u32 (IntKind.wrap .u32 x44) (256 : Int))), ((kint .u32).V (iadd .u32 x43 (imul .u32 (IntKind.wrap .u32 x44) (256 : Int)))), (kstr.V p2), ((kint .i64).V y22), ((kint .i64).V (imul .i64 (4 : Int) y22)), ((kint .i64).V (iadd .i64 (imul .i64 (4 : Int) y22) (3 : Int))), ((kint .u8).V x45), ((kint .u32).V (IntKind.wrap .u32 x45)), ((kint .u32).V x46)]) (bits := [0, 0, 0, 4, 14, 30, 62, 0, 0, 256, 768, 1920, 3968, 8064, 16382, 0, 0, 65536, 196608, 491520, 1015808, 2064384, 4194302, 0, 0, 16777216, 50331648, 125829120, 260046848, 536870910, 1073741823, 2147483647]) (m := 30) (todo := 0) mx s147 ?_; clear s147
    refine goes_last (by kernel_rfl) rfl (opsS_cons (.plain _ (Av.old (t := 6) rfl rfl Av.nil) rfl rfl (ob_move rfl (.tmp rfl))) (opsS_cons (.plain _ (Av.old (t := 1) rfl rfl Av.nil) rfl rfl (ob_move rfl (.tmp rfl))) (opsS_cons (.plain _ (Av.old (t := 6) rfl rfl Av.nil) rfl rfl (ob_move rfl (.tmp rfl))) (opsS_cons (.plain _ (Av.new (j := 2) rfl rfl rfl Av.nil) rfl rfl (ob_mul rfl (opd_int rfl) (.tmp rfl))) (opsS_cons (.plain _ (Av.new (j := 1) rfl rfl rfl (Av.new (j := 3) rfl rfl rfl Av.nil)) rfl rfl (ob_indexStr rfl Tryd.underlying9 (.tmp rfl) (.tmp rfl) e_x41)) (opsS_cons (.plain _ (Av.new (j := 4) rfl rfl rfl Av.nil) rfl rfl (ob_conv rfl _ Tryd.underlying5 Tryd.underlying59 (.tmp rfl))) (opsS_cons (.plain _ (Av.new (j := 5) rfl rfl rfl Av.nil) rfl rfl (ob_mul rfl (.tmp rfl) (opd_int rfl))) (opsS_cons (.plain _ (Av.old (t := 1) rfl rfl Av.nil) rfl rfl (ob_move rfl (.tmp rfl))) (opsS_cons (.plain _ (Av.old (t := 6) rfl rfl Av.nil) rfl rfl (ob_move rfl (.tmp rfl))) (opsS_cons (.plain _ (Av.new (j := 8) rfl rfl rfl Av.nil) rfl rfl (ob_mul rfl (opd_int rfl) (.tmp rfl))) (opsS_cons (.plain _ (Av.new (j := 9) rfl rfl rfl Av.nil) rfl rfl (ob_add rfl (.tmp rfl) (opd_int rfl))) (opsS_cons (.plain _ (Av.new (j := 7) rfl rfl rfl (Av.new (j := 10) rfl rfl rfl Av.nil)) rfl rfl (ob_indexStr rfl Tryd.underlying9 (.tmp rfl) (.tmp rfl) e_x42)) (opsS_cons (.plain _ (Av.new (j := 11) rfl rfl rfl Av.nil) rfl rfl (ob_conv rfl _ Tryd.underlying5 Tryd.underlying59 (.tmp rfl))) (opsS_cons (.plain _ (Av.new (j := 12) rfl rfl rfl Av.nil) rfl rfl (ob_mul rfl (.tmp rfl) (opd_int rfl))) (opsS_cons (.plain _ (Av.new (j := 6) rfl rfl rfl (Av.new (j := 13) rfl rfl rfl Av.nil)) rfl rfl ((ob_add rfl (.tmp rfl) (.tmp rfl)).nm e_x43)) (opsS_cons (.plain _ (Av.old (t := 1) rfl rfl Av.nil) rfl rfl (ob_move rfl (.tmp rfl))) (opsS_cons (.plain _ (Av.old (t := 6) rfl rfl Av.nil) rfl rfl (ob_move rfl (.tmp rfl))) (opsS_cons (.plain _ (Av.new (j := 16) rfl rfl rfl Av.nil) rfl rfl (ob_mul rfl (opd_int rfl) (.tmp rfl))) (opsS_cons (.plain _ (Av.new (j := 17) rfl rfl rfl Av.nil) rfl rfl (ob_add rfl (.tmp rfl) (opd_int rfl))) (opsS_cons (.plain _ (Av.new (j := 15) rfl rfl rfl (Av.new (j := 18) rfl rfl rfl Av.nil)) rfl rfl (ob_indexStr rfl Tryd.underlying9 (.tmp rfl) (.tmp rfl) e_x44)) (opsS_cons (.plain _ (Av.new (j := 19) rfl rfl rfl Av.nil) rfl rfl (ob_conv rfl _ Tryd.underlying5 Tryd.underlying59 (.tmp rfl))) (opsS_cons (.plain _ (Av.new (j := 20) rfl rfl rfl Av.nil) rfl rfl (ob_mul rfl (.tmp rfl) (opd_int rfl))) (opsS_cons (.plain _ (Av.new (j := 14) rfl rfl rfl (Av.new (j := 21) rfl rfl rfl Av.nil)) rfl rfl (ob_add rfl (.tmp rfl) (.tmp rfl))) (opsS_cons (.plain _ (Av.old (t := 1) rfl rfl Av.nil) rfl rfl (ob_move rfl (.tmp rfl))) (opsS_cons (.plain _ (Av.old (t := 6) rfl rfl Av.nil) rfl rfl (ob_move rfl (.tmp rfl))) (opsS_cons (.plain _ (Av.new (j := 24) rfl rfl rfl Av.nil) rfl rfl (ob_mul rfl (opd_int rfl) (.tmp rfl))) (opsS_cons (.plain _ (Av.new (j := 25) rfl rfl rfl Av.nil) rfl rfl (ob_add rfl (.tmp rfl) (opd_int rfl))) (opsS_cons (.plain _ (Av.new (j := 23) rfl rfl rfl (Av.new (j := 26) rfl rfl rfl Av.nil)) rfl rfl (ob_indexStr rfl Tryd.underlying9 (.tmp rfl) (.tmp rfl) e_x45)) (opsS_cons (.plain _ (Av.new (j := 27) rfl rfl rfl Av.nil) rfl rfl (ob_conv rfl _ Tryd.underlying5 Tryd.underlying59 (.tmp rfl))) (opsS_cons (.plain _ (Av.new (j := 22) rfl rfl rfl (Av.new (j := 28) rfl rfl rfl Av.nil)) rfl rfl ((ob_add rfl (.tmp rfl) (.tmp rfl)).nm e_x46)) opsS_nil)))))))))))))))))))))))))))))) (out_old (t := 1) rfl rfl (out_old (t := 2) rfl rfl (out_old (t := 4) rfl rfl (out_old (t := 5) rfl rfl (out_old (t := 6) rfl rfl (out_new (i := 0) (by decide) rfl rfl (out_new (i := 29) (by decide) rfl rfl out_nil))))))) fun a148 w148 s148 => ?_
    obtain ⟨g8, h68⟩ := guard_some h67; clear h67
    refine seq_op s148 rfl rfl (of_decide_eq_true rfl) (ob_indexAddr rfl Tryd.underlying74 sz59 (.tmp rfl) (.tmp rfl) g8.1 g8.2 (Nat.zero_add _)) fun a149 w149 s149 => ?_; clear s148
    obtain ⟨x47, e_x47, h69⟩ := bind_some h68; clear h68
    refine seq_opx0 (B' := (fun _ : Unit => [BF b1 60 (karr 8 (kint .u32)) p1, BF b2 60 (karr 8 (kint .u32)) (List.replicate 8 (0 : Int)), BF b3 74 (karr 64 (kint .u32)) x47])) s149 rfl rfl (ob_store (A := [_, _]) rfl tk59 (.tmp rfl) (.tmp rfl) rfl (LS.arrS e_x47) rfl) fun _ a150 w150 s150 => ?_; clear s149
    refine wpList_nil ?_
    refine in_normal ?_
    refine then_normal ?_
    refine hK34 _ _ ?_
    have s151 := s150.sub (.cons (t := 1) rfl (.cons (t := 2) rfl (.cons (t := 4) rfl (.cons (t := 5) rfl (.cons (t := 6) rfl .nil))))); clear s150
    refine wp_region_lit ?_
    refine seq_op s151 rfl rfl (of_decide_eq_true rfl) (ob_move rfl (.tmp rfl)) fun a152 w152 s152 => ?_; clear s151
    refine seq_op s152 rfl rfl (of_decide_eq_true rfl) (ob_add rfl (.tmp rfl) (opd_int rfl)) fun a153 w153 s153 => ?_; clear s152
    refine seq_op s153 rfl rfl (of_decide_eq_true rfl) (ob_assign rfl (.tmp rfl)) fun a154 w154 s154 => ?_; clear s153
    refine wpList_nil ?_
    refine then_normal ?_
    exact hK31 ((iadd .i64 y22 (1 : Int)), x47) _ _ h69 (s154.sub (.cons rfl (.cons rfl (.cons rfl (.cons rfl (.cons rfl .nil))))))
  · replace h60 := ite_f hc3 h60
    have h70 := h60; clear h60
    refine wp_exit ?_
    refine (then_exit (then_exit (in_here ?_)))
    refine then_normal ?_
    exact hj1 y23 _ _ h70 (s146.sub (.cons rfl (.cons rfl (.cons rfl .nil))))

end Go.Proofs.YtankoeffbdnffaaDoor
