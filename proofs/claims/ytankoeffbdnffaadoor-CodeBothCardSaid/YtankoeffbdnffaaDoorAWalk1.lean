/- Each function's code comes to what its plain function answers. No condition. -/
import Derived.Test.YtankoeffbdnffaaDoorAFacts
namespace Go.Proofs.YtankoeffbdnffaaDoor
open Go Go.RowKit Go.Proofs.Kit Go.Proofs.Pure
set_option linter.unusedVariables false
set_option linter.unusedSimpArgs false
set_option maxRecDepth 100000
set_option maxHeartbeats 2000000

/- 11 cabal/code.by10 -/
theorem c_code_by10 (k : Nat) (p1 : (List Int)) (r : (Int × (List Int))) (h0 : code_by10 k p1 = some r) (ok : Ok) (w0 : World) (z0 : Value) (b00 : Nat) (l0 : ∀ q, q ∈ [BF b00 23 (karr 32 (kint .u8)) p1] → q.holds ok w0) (d0 : ∀ c, c ∈ idsOf [BF b00 23 (karr 32 (kint .u8)) p1] → ¬ ok c) (nd : (idsOf [BF b00 23 (karr 32 (kint .u8)) p1]).Nodup) (u0 : (ptrB b00 0).holds ok w0 z0) :
    GivesX Tryd.prog 11 [z0] ok w0 [BF b00 23 (karr 32 (kint .u8)) p1] (fun g : Unit => resFact [(kint .u8).V r.1]) (fun g : Unit => [BF b00 23 (karr 32 (kint .u8)) r.2]) := by
  unfold code_by10 at h0
  refine enterX (N := 29) Tryd.func11 rfl rfl (of_decide_eq_true rfl) (.cons u0 .nil) nd l0 d0 fun a1 s1 => ?_
  refine wp_seq_k fun K1 hK1 => ?_
  refine wp_region_lit ?_
  refine seq_op s1 rfl rfl (of_decide_eq_true rfl) (ob_assign rfl (opd_int rfl)) fun a2 w2 s2 => ?_; clear s1
  refine wpList_nil ?_
  refine then_normal ?_
  refine hK1 _ _ ?_
  have s3 := s2.sub (.cons (t := 0) rfl .nil); clear s2
  refine wp_seq_k fun K2 hK2 => ?_
  refine wp_region_lit ?_
  refine seq_op s3 rfl rfl (of_decide_eq_true rfl) (ob_assign rfl (opd_int rfl)) fun a4 w4 s4 => ?_; clear s3
  refine wpList_nil ?_
  refine then_normal ?_
  refine hK2 _ _ ?_
  have s5 := s4.sub (.cons (t := 0) rfl (.cons (t := 3) rfl .nil)); clear s4
  refine wp_seq_k fun K3 hK3 => ?_
  refine wp_seq_k fun K4 hK4 => ?_
  refine wp_region_lit ?_
  refine seq_op s5 rfl rfl (of_decide_eq_true rfl) (ob_move rfl (opd_int rfl)) fun a6 w6 s6 => ?_; clear s5
  refine wpList_nil ?_
  refine then_normal ?_
  refine hK4 _ _ ?_
  have s7 := s6.sub (.cons (t := 0) rfl (.cons (t := 3) rfl (.cons (t := 5) rfl .nil))); clear s6
  have hj1 : ∀ (y1 : Int) (y2 : (List Int)) (a : Act) (w : World), (code_by10.j1 k) y1 y2 = some r → St ⟨29, w0, ok, (idsOf [BF b00 23 (karr 32 (kint .u8)) p1])⟩ [BF b00 23 (karr 32 (kint .u8)) y2] [(3, ((kint .i64).V y1))] a w → K3 a w := by
    intro y1 y2 a8 w8 h1 s8
    unfold code_by10.j1 at h1
    refine hK3 _ _ ?_
    refine wp_seq_k fun K5 hK5 => ?_
    refine wp_region_lit ?_
    refine seq_op s8 rfl rfl (of_decide_eq_true rfl) (ob_move rfl (.tmp rfl)) fun a9 w9 s9 => ?_; clear s8
    refine seq_op s9 rfl rfl (of_decide_eq_true rfl) (ob_conv rfl _ Tryd.underlying3 Tryd.underlying5 (.tmp rfl)) fun a10 w10 s10 => ?_; clear s9
    refine seq_op s10 rfl rfl (of_decide_eq_true rfl) (ob_assign rfl (.tmp rfl)) fun a11 w11 s11 => ?_; clear s10
    refine wpList_nil ?_
    refine then_normal ?_
    refine hK5 _ _ ?_
    have s12 := s11.sub (.cons (t := 2) rfl .nil); clear s11
    refine wp_ret ?_
    obtain rfl := Option.some.inj h1
    exact leaveXD (D := []) () s12 rfl (.inl rfl) rfl (.cons (.tmp rfl) .nil) rfl
  refine wp_block ?_
  refine wp_loop_fuel (fun m (q : Int × Int × (List Int)) => code_by10.l1 k m q.1 q.2.1 q.2.2) r (fun _ => rfl) (fun q a w => St ⟨29, w0, ok, (idsOf [BF b00 23 (karr 32 (kint .u8)) p1])⟩ [BF b00 23 (karr 32 (kint .u8)) q.2.2] [(0, (ptrB b00 0)), (3, ((kint .i64).V q.1)), (5, ((kint .i64).V q.2.1))] a w) ?_ k ((0 : Int), (0 : Int), p1) _ _ h0 (s7.sub (.cons rfl (.cons rfl (.cons rfl .nil))))
  rintro n1 ⟨y3, y4, y5⟩ a13 w13 h2 s13 K6 hK6
  replace h2 : code_by10.l1 k (n1 + 1) y3 y4 y5 = some r := h2; rw [code_by10.l1] at h2
  have h3 := h2; clear h2
  refine wp_seq_k fun K7 hK7 => ?_
  refine wp_region_lit ?_
  refine seq_op s13 rfl rfl (of_decide_eq_true rfl) (ob_lss rfl (.tmp rfl) (opd_int rfl)) fun a14 w14 s14 => ?_; clear s13
  refine wpList_nil ?_
  refine then_normal ?_
  refine hK7 _ _ ?_
  have s15 := s14.sub (.cons (t := 0) rfl (.cons (t := 3) rfl (.cons (t := 5) rfl (.cons (t := 6) rfl .nil)))); clear s14
  refine wp_seq_k fun K8 hK8 => ?_
  refine cond_split s15 (.tmp rfl) (fun hc1 => ?_) (fun hc1 => ?_)
  · replace h3 := ite_t hc1 h3
    have h4 := h3; clear h3
    refine wp_skip ?_
    refine then_normal ?_
    refine hK8 _ _ ?_
    have s16 := s15.sub (.cons (t := 0) rfl (.cons (t := 3) rfl (.cons (t := 5) rfl .nil))); clear s15
    refine wp_seq_k fun K9 hK9 => ?_
    refine wp_block ?_
    refine wp_seq_k fun K10 hK10 => ?_
    refine wp_region_lit ?_
    refine seq_op s16 rfl rfl (of_decide_eq_true rfl) (ob_move rfl (.tmp rfl)) fun a17 w17 s17 => ?_; clear s16
    refine seq_op s17 rfl rfl (of_decide_eq_true rfl) (ob_assign rfl (.tmp rfl)) fun a18 w18 s18 => ?_; clear s17
    refine wpList_nil ?_
    refine then_normal ?_
    refine hK10 _ _ ?_
    have s19 := s18.sub (.cons (t := 0) rfl (.cons (t := 3) rfl (.cons (t := 4) rfl (.cons (t := 5) rfl .nil)))); clear s18
    refine wp_seq_k fun K11 hK11 => ?_
    refine wp_region_lit ?_
    refine seq_op s19 rfl rfl (of_decide_eq_true rfl) (ob_move rfl (.tmp rfl)) fun a20 w20 s20 => ?_; clear s19
    refine seq_op s20 rfl rfl (of_decide_eq_true rfl) (ob_shl rfl (.tmp rfl) (opd_int rfl) (by decide)) fun a21 w21 s21 => ?_; clear s20
    refine seq_op s21 rfl rfl (of_decide_eq_true rfl) (ob_move rfl (.tmp rfl)) fun a22 w22 s22 => ?_; clear s21
    refine seq_op s22 rfl rfl (of_decide_eq_true rfl) (ob_move rfl (.tmp rfl)) fun a23 w23 s23 => ?_; clear s22
    refine seq_op s23 rfl rfl (of_decide_eq_true rfl) (ob_nilCheck rfl (.tmp rfl)) fun a24 w24 s24 => ?_; clear s23
    obtain ⟨g1, h5⟩ := guard_some h4; clear h4
    refine seq_op s24 rfl rfl (of_decide_eq_true rfl) (ob_indexAddr rfl Tryd.underlying23 sz5 (.tmp rfl) (.tmp rfl) g1.1 g1.2 (Nat.zero_add _)) fun a25 w25 s25 => ?_; clear s24
    obtain ⟨x1, e_x1, h6⟩ := bind_some h5; clear h5
    refine seq_op s25 rfl rfl (of_decide_eq_true rfl) (ob_load rfl tk5 (.tmp rfl) (.head _) (LG.arrA e_x1)) fun a26 w26 s26 => ?_; clear s25
    refine seq_op s26 rfl rfl (of_decide_eq_true rfl) (ob_conv rfl _ Tryd.underlying5 Tryd.underlying3 (.tmp rfl)) fun a27 w27 s27 => ?_; clear s26
    refine seq_op s27 rfl rfl (of_decide_eq_true rfl) (ob_or rfl (.tmp rfl) (.tmp rfl)) fun a28 w28 s28 => ?_; clear s27
    refine seq_op s28 rfl rfl (of_decide_eq_true rfl) (ob_assign rfl (.tmp rfl)) fun a29 w29 s29 => ?_; clear s28
    refine wpList_nil ?_
    refine then_normal ?_
    refine hK11 _ _ ?_
    have s30 := s29.sub (.cons (t := 0) rfl (.cons (t := 3) rfl (.cons (t := 4) rfl (.cons (t := 5) rfl .nil)))); clear s29
    refine wp_seq_k fun K12 hK12 => ?_
    refine wp_region_lit ?_
    refine seq_op s30 rfl rfl (of_decide_eq_true rfl) (ob_move rfl (.tmp rfl)) fun a31 w31 s31 => ?_; clear s30
    refine seq_op s31 rfl rfl (of_decide_eq_true rfl) (ob_move rfl (.tmp rfl)) fun a32 w32 s32 => ?_; clear s31
    refine seq_op s32 rfl rfl (of_decide_eq_true rfl) (ob_move rfl (.tmp rfl)) fun a33 w33 s33 => ?_; clear s32
    obtain ⟨x2, e_x2, h7⟩ := bind_some h6; clear h6; replace e_x2 := Option.some.inj e_x2
    refine seq_op s33 rfl rfl (of_decide_eq_true rfl) ((ob_quo rfl (.tmp rfl) (opd_int rfl) (by decide)).nm e_x2) fun a34 w34 s34 => ?_; clear s33
    refine seq_op s34 rfl rfl (of_decide_eq_true rfl) (ob_conv rfl _ Tryd.underlying3 Tryd.underlying5 (.tmp rfl)) fun a35 w35 s35 => ?_; clear s34
    refine seq_op s35 rfl rfl (of_decide_eq_true rfl) (ob_nilCheck rfl (.tmp rfl)) fun a36 w36 s36 => ?_; clear s35
    obtain ⟨g2, h8⟩ := guard_some h7; clear h7
    refine seq_op s36 rfl rfl (of_decide_eq_true rfl) (ob_indexAddr rfl Tryd.underlying23 sz5 (.tmp rfl) (.tmp rfl) g2.1 g2.2 (Nat.zero_add _)) fun a37 w37 s37 => ?_; clear s36
    obtain ⟨x3, e_x3, h9⟩ := bind_some h8; clear h8
    refine seq_opx0 (B' := (fun _ : Unit => [BF b00 23 (karr 32 (kint .u8)) x3])) s37 rfl rfl (ob_store (A := []) rfl tk5 (.tmp rfl) (.tmp rfl) rfl (LS.arrS e_x3) rfl) fun _ a38 w38 s38 => ?_; clear s37
    refine wpList_nil ?_
    refine then_normal ?_
    refine hK12 _ _ ?_
    have s39 := s38.sub (.cons (t := 0) rfl (.cons (t := 3) rfl (.cons (t := 5) rfl .nil))); clear s38
    refine wp_region_lit ?_
    refine seq_op s39 rfl rfl (of_decide_eq_true rfl) (ob_move rfl (.tmp rfl)) fun a40 w40 s40 => ?_; clear s39
    obtain ⟨x4, e_x4, h10⟩ := bind_some h9; clear h9; replace e_x4 := Option.some.inj e_x4
    refine seq_op s40 rfl rfl (of_decide_eq_true rfl) ((ob_rem rfl (.tmp rfl) (opd_int rfl) (by decide)).nm e_x4) fun a41 w41 s41 => ?_; clear s40
    refine seq_op s41 rfl rfl (of_decide_eq_true rfl) (ob_assign rfl (.tmp rfl)) fun a42 w42 s42 => ?_; clear s41
    refine wpList_nil ?_
    refine in_normal ?_
    refine then_normal ?_
    refine hK9 _ _ ?_
    have s43 := s42.sub (.cons (t := 0) rfl (.cons (t := 3) rfl (.cons (t := 5) rfl .nil))); clear s42
    refine wp_region_lit ?_
    refine seq_op s43 rfl rfl (of_decide_eq_true rfl) (ob_add rfl (.tmp rfl) (opd_int rfl)) fun a44 w44 s44 => ?_; clear s43
    refine seq_op s44 rfl rfl (of_decide_eq_true rfl) (ob_move rfl (.tmp rfl)) fun a45 w45 s45 => ?_; clear s44
    refine wpList_nil ?_
    refine then_normal ?_
    exact hK6 (x4, (iadd .i64 y4 (1 : Int)), x3) _ _ h10 (s45.sub (.cons rfl (.cons rfl (.cons rfl .nil))))
  · replace h3 := ite_f hc1 h3
    have h11 := h3; clear h3
    refine wp_exit ?_
    refine (then_exit (then_exit (in_here ?_)))
    refine then_normal ?_
    exact hj1 y3 y5 _ _ h11 (s15.sub (.cons rfl .nil))

/- 12 (*cabal/code.digits).check -/
theorem c_code_digits_check (k : Nat) (p1 : (List Int)) (r : (Int × Int)) (h0 : code_digits_check k p1 = some r) (ok : Ok) (w0 : World) (z0 : Value) (u0 : (ptrTo (karr 80 (kint .u8)) p1).holds ok w0 z0) :
    Gives Tryd.prog 12 [z0] ok w0 (resFact [(kint .u8).V r.1, (kint .u8).V r.2]) := by
  unfold code_digits_check at h0
  refine enter (N := 32) Tryd.func12 rfl rfl (of_decide_eq_true rfl) (.cons u0 .nil) fun a1 s1 => ?_
  refine wp_seq_k fun K1 hK1 => ?_
  refine wp_region_lit ?_
  refine seq_op s1 rfl rfl (of_decide_eq_true rfl) (ob_assign rfl (opd_int rfl)) fun a2 w2 s2 => ?_; clear s1
  refine seq_op s2 rfl rfl (of_decide_eq_true rfl) (ob_assign rfl (opd_int rfl)) fun a3 w3 s3 => ?_; clear s2
  refine wpList_nil ?_
  refine then_normal ?_
  refine hK1 _ _ ?_
  have s4 := s3.sub (.cons (t := 0) rfl .nil); clear s3
  refine wp_seq_k fun K2 hK2 => ?_
  refine wp_region_lit ?_
  refine seq_op s4 rfl rfl (of_decide_eq_true rfl) (ob_assign rfl (opd_int rfl)) fun a5 w5 s5 => ?_; clear s4
  refine wpList_nil ?_
  refine then_normal ?_
  refine hK2 _ _ ?_
  have s6 := s5.sub (.cons (t := 0) rfl (.cons (t := 4) rfl .nil)); clear s5
  refine wp_seq_k fun K3 hK3 => ?_
  refine wp_seq_k fun K4 hK4 => ?_
  refine wp_region_lit ?_
  refine seq_op s6 rfl rfl (of_decide_eq_true rfl) (ob_move rfl (.tmp rfl)) fun a7 w7 s7 => ?_; clear s6
  refine seq_op s7 rfl rfl (of_decide_eq_true rfl) (ob_nilCheckr rfl (.tmp rfl)) fun a8 w8 s8 => ?_; clear s7
  obtain ⟨x1, e_x1, h1⟩ := bind_some h0; clear h0
  refine seq_op s8 rfl rfl (of_decide_eq_true rfl) (ob_sliceArrr rfl Tryd.underlying32 sz5 (.tmp rfl) (by decide) .none (.some (opd_int rfl)) e_x1) fun a9 w9 s9 => ?_; clear s8
  refine seq_op s9 rfl rfl (of_decide_eq_true rfl) (ob_lens rfl Tryd.underlying38 (.tmp rfl)) fun a10 w10 s10 => ?_; clear s9
  refine seq_op s10 rfl rfl (of_decide_eq_true rfl) (ob_move rfl (opd_int rfl)) fun a11 w11 s11 => ?_; clear s10
  refine wpList_nil ?_
  refine then_normal ?_
  refine hK4 _ _ ?_
  have s12 := s11.sub (.cons (t := 4) rfl (.cons (t := 9) rfl (.cons (t := 10) rfl (.cons (t := 11) rfl .nil)))); clear s11
  have hj1 : ∀ (y1 : Int) (a : Act) (w : World), (code_digits_check.j1 k) y1 = some r → St ⟨32, w0, ok, []⟩ [] [(4, ((kint .i64).V y1))] a w → K3 a w := by
    intro y1 a13 w13 h2 s13
    unfold code_digits_check.j1 at h2
    refine hK3 _ _ ?_
    refine wp_seq_k fun K5 hK5 => ?_
    refine wp_region_lit ?_
    refine seq_op s13 rfl rfl (of_decide_eq_true rfl) (ob_move rfl (.tmp rfl)) fun a14 w14 s14 => ?_; clear s13
    refine seq_op s14 rfl rfl (of_decide_eq_true rfl) (ob_mul rfl (opd_int rfl) (.tmp rfl)) fun a15 w15 s15 => ?_; clear s14
    refine seq_op s15 rfl rfl (of_decide_eq_true rfl) (ob_rem rfl (.tmp rfl) (opd_int rfl) (by decide)) fun a16 w16 s16 => ?_; clear s15
    refine seq_op s16 rfl rfl (of_decide_eq_true rfl) (ob_sub rfl (opd_int rfl) (.tmp rfl)) fun a17 w17 s17 => ?_; clear s16
    refine seq_op s17 rfl rfl (of_decide_eq_true rfl) (ob_assign rfl (.tmp rfl)) fun a18 w18 s18 => ?_; clear s17
    refine wpList_nil ?_
    refine then_normal ?_
    refine hK5 _ _ ?_
    have s19 := s18.sub (.cons (t := 4) rfl .nil); clear s18
    refine wp_seq_k fun K6 hK6 => ?_
    refine wp_region_lit ?_
    refine seq_op s19 rfl rfl (of_decide_eq_true rfl) (ob_move rfl (.tmp rfl)) fun a20 w20 s20 => ?_; clear s19
    obtain ⟨x2, e_x2, h3⟩ := bind_some h2; clear h2; replace e_x2 := Option.some.inj e_x2
    refine seq_op s20 rfl rfl (of_decide_eq_true rfl) ((ob_quo rfl (.tmp rfl) (opd_int rfl) (by decide)).nm e_x2) fun a21 w21 s21 => ?_; clear s20
    refine seq_op s21 rfl rfl (of_decide_eq_true rfl) (ob_conv rfl _ Tryd.underlying3 Tryd.underlying5 (.tmp rfl)) fun a22 w22 s22 => ?_; clear s21
    refine seq_op s22 rfl rfl (of_decide_eq_true rfl) (ob_move rfl (.tmp rfl)) fun a23 w23 s23 => ?_; clear s22
    obtain ⟨x3, e_x3, h4⟩ := bind_some h3; clear h3; replace e_x3 := Option.some.inj e_x3
    refine seq_op s23 rfl rfl (of_decide_eq_true rfl) ((ob_rem rfl (.tmp rfl) (opd_int rfl) (by decide)).nm e_x3) fun a24 w24 s24 => ?_; clear s23
    refine seq_op s24 rfl rfl (of_decide_eq_true rfl) (ob_conv rfl _ Tryd.underlying3 Tryd.underlying5 (.tmp rfl)) fun a25 w25 s25 => ?_; clear s24
    refine seq_op s25 rfl rfl (of_decide_eq_true rfl) (ob_assign rfl (.tmp rfl)) fun a26 w26 s26 => ?_; clear s25
    refine seq_op s26 rfl rfl (of_decide_eq_true rfl) (ob_assign rfl (.tmp rfl)) fun a27 w27 s27 => ?_; clear s26
    refine wpList_nil ?_
    refine then_normal ?_
    refine hK6 _ _ ?_
    have s28 := s27.sub (.cons (t := 2) rfl (.cons (t := 3) rfl .nil)); clear s27
    refine wp_ret ?_
    obtain rfl := Option.some.inj h4
    exact leave s28 (.inl rfl) rfl (.cons (.tmp rfl) (.cons (.tmp rfl) .nil))
  refine wp_block ?_
  refine wp_loop_fuel (fun m (q : Int × Int) => code_digits_check.l1 k x1 m q.1 q.2) r (fun _ => rfl) (fun q a w => St ⟨32, w0, ok, []⟩ [] [(4, ((kint .i64).V q.1)), (9, ((ksl (kint .u8)).V x1)), (10, ((kint .i64).V (x1.length : Int))), (11, ((kint .i64).V q.2))] a w) ?_ k ((0 : Int), (0 : Int)) _ _ h1 (s12.sub (.cons rfl (.cons rfl (.cons rfl (.cons rfl .nil)))))
  rintro n1 ⟨y2, y3⟩ a29 w29 h5 s29 K7 hK7
  replace h5 : code_digits_check.l1 k x1 (n1 + 1) y2 y3 = some r := h5; rw [code_digits_check.l1] at h5
  have h6 := h5; clear h5
  refine wp_seq_k fun K8 hK8 => ?_
  refine wp_region_lit ?_
  refine seq_op s29 rfl rfl (of_decide_eq_true rfl) (ob_lss rfl (.tmp rfl) (.tmp rfl)) fun a30 w30 s30 => ?_; clear s29
  refine wpList_nil ?_
  refine then_normal ?_
  refine hK8 _ _ ?_
  have s31 := s30.sub (.cons (t := 4) rfl (.cons (t := 9) rfl (.cons (t := 10) rfl (.cons (t := 11) rfl (.cons (t := 12) rfl .nil))))); clear s30
  refine wp_seq_k fun K9 hK9 => ?_
  refine cond_split s31 (.tmp rfl) (fun hc1 => ?_) (fun hc1 => ?_)
  · replace h6 := ite_t hc1 h6
    have h7 := h6; clear h6
    refine wp_skip ?_
    refine then_normal ?_
    refine hK9 _ _ ?_
    have s32 := s31.sub (.cons (t := 4) rfl (.cons (t := 9) rfl (.cons (t := 10) rfl (.cons (t := 11) rfl .nil)))); clear s31
    refine wp_seq_k fun K10 hK10 => ?_
    refine wp_block ?_
    refine wp_seq_k fun K11 hK11 => ?_
    refine wp_region_lit ?_
    obtain ⟨x4, e_x4, h8⟩ := bind_some h7; clear h7
    refine seq_op s32 rfl rfl (of_decide_eq_true rfl) (ob_indexAddrs rfl Tryd.underlying38 sz5 (.tmp rfl) (.tmp rfl) e_x4) fun a33 w33 s33 => ?_; clear s32
    refine seq_op s33 rfl rfl (of_decide_eq_true rfl) (ob_loadr rfl tk5 (.tmp rfl)) fun a34 w34 s34 => ?_; clear s33
    refine seq_op s34 rfl rfl (of_decide_eq_true rfl) (ob_assign rfl (.tmp rfl)) fun a35 w35 s35 => ?_; clear s34
    refine wpList_nil ?_
    refine then_normal ?_
    refine hK11 _ _ ?_
    have s36 := s35.sub (.cons (t := 4) rfl (.cons (t := 6) rfl (.cons (t := 9) rfl (.cons (t := 10) rfl (.cons (t := 11) rfl .nil))))); clear s35
    refine wp_region_lit ?_
    refine seq_op s36 rfl rfl (of_decide_eq_true rfl) (ob_move rfl (.tmp rfl)) fun a37 w37 s37 => ?_; clear s36
    refine seq_op s37 rfl rfl (of_decide_eq_true rfl) (ob_mul rfl (opd_int rfl) (.tmp rfl)) fun a38 w38 s38 => ?_; clear s37
    refine seq_op s38 rfl rfl (of_decide_eq_true rfl) (ob_move rfl (.tmp rfl)) fun a39 w39 s39 => ?_; clear s38
    refine seq_op s39 rfl rfl (of_decide_eq_true rfl) (ob_conv rfl _ Tryd.underlying5 Tryd.underlying3 (.tmp rfl)) fun a40 w40 s40 => ?_; clear s39
    refine seq_op s40 rfl rfl (of_decide_eq_true rfl) (ob_add rfl (.tmp rfl) (.tmp rfl)) fun a41 w41 s41 => ?_; clear s40
    obtain ⟨x5, e_x5, h9⟩ := bind_some h8; clear h8; replace e_x5 := Option.some.inj e_x5
    refine seq_op s41 rfl rfl (of_decide_eq_true rfl) ((ob_rem rfl (.tmp rfl) (opd_int rfl) (by decide)).nm e_x5) fun a42 w42 s42 => ?_; clear s41
    refine seq_op s42 rfl rfl (of_decide_eq_true rfl) (ob_assign rfl (.tmp rfl)) fun a43 w43 s43 => ?_; clear s42
    refine wpList_nil ?_
    refine in_normal ?_
    refine then_normal ?_
    refine hK10 _ _ ?_
    have s44 := s43.sub (.cons (t := 4) rfl (.cons (t := 9) rfl (.cons (t := 10) rfl (.cons (t := 11) rfl .nil)))); clear s43
    refine wp_region_lit ?_
    refine seq_op s44 rfl rfl (of_decide_eq_true rfl) (ob_add rfl (.tmp rfl) (opd_int rfl)) fun a45 w45 s45 => ?_; clear s44
    refine seq_op s45 rfl rfl (of_decide_eq_true rfl) (ob_move rfl (.tmp rfl)) fun a46 w46 s46 => ?_; clear s45
    refine wpList_nil ?_
    refine then_normal ?_
    exact hK7 (x5, (iadd .i64 y3 (1 : Int))) _ _ h9 (s46.sub (.cons rfl (.cons rfl (.cons rfl (.cons rfl .nil)))))
  · replace h6 := ite_f hc1 h6
    have h10 := h6; clear h6
    refine wp_exit ?_
    refine (then_exit (then_exit (in_here ?_)))
    refine then_normal ?_
    exact hj1 y2 _ _ h10 (s31.sub (.cons rfl .nil))

/- 24 (*strings.Builder).copyCheck -/
theorem c_strings_Builder_copyCheck (k : Nat) (p1 : strings_Builder) (r : strings_Builder) (h0 : strings_Builder_copyCheck k p1 = some r) (ok : Ok) (w0 : World) (z0 : Value) (b00 : Nat) (w0_1 : Value) (l0 : ∀ q, q ∈ [BF b00 40 (ko_strings_Builder_1 b00 w0_1) (⟨p1.addr, []⟩ : strings_Builder), RowF w0_1 5 (kint .u8) p1.buf] → q.holds ok w0) (d0 : ∀ c, c ∈ idsOf [BF b00 40 (ko_strings_Builder_1 b00 w0_1) (⟨p1.addr, []⟩ : strings_Builder), RowF w0_1 5 (kint .u8) p1.buf] → ¬ ok c) (nd : (idsOf [BF b00 40 (ko_strings_Builder_1 b00 w0_1) (⟨p1.addr, []⟩ : strings_Builder), RowF w0_1 5 (kint .u8) p1.buf]).Nodup) (u0 : (ptrB b00 0).holds ok w0 z0) :
    GivesX Tryd.prog 24 [z0] ok w0 [BF b00 40 (ko_strings_Builder_1 b00 w0_1) (⟨p1.addr, []⟩ : strings_Builder), RowF w0_1 5 (kint .u8) p1.buf] (fun g : Value => resFact []) (fun g : Value => [BF b00 40 (ko_strings_Builder_1 b00 (g)) (⟨r.addr, []⟩ : strings_Builder), RowF (g) 5 (kint .u8) r.buf]) := by
  unfold strings_Builder_copyCheck at h0
  refine enterX (N := 20) Tryd.func24 rfl rfl (of_decide_eq_true rfl) (.cons u0 .nil) nd l0 d0 fun a1 s1 => ?_
  refine wp_seq_k fun K1 hK1 => ?_
  refine wp_region_lit ?_
  refine seq_op s1 rfl rfl (of_decide_eq_true rfl) (ob_move rfl (.tmp rfl)) fun a2 w2 s2 => ?_; clear s1
  refine seq_op s2 rfl rfl (of_decide_eq_true rfl) (ob_nilCheck rfl (.tmp rfl)) fun a3 w3 s3 => ?_; clear s2
  refine seq_op s3 rfl rfl (of_decide_eq_true rfl) (ob_fieldAddr (off' := 0) rfl Tryd.underlying40 rfl sz37 (by decide) (.tmp rfl) rfl) fun a4 w4 s4 => ?_; clear s3
  refine seq_op s4 rfl rfl (of_decide_eq_true rfl) ((ob_load rfl (tkb37 _) (.tmp rfl) (.head _) (lgo_strings_Builder_1_addr (⟨p1.addr, []⟩ : strings_Builder))).as V_kbad) fun a5 w5 s5 => ?_; clear s4
  refine seq_op s5 rfl rfl (of_decide_eq_true rfl) (ob_badNil rfl pt37 (.tmp rfl) opd_is) fun a6 w6 s6 => ?_; clear s5
  refine wpList_nil ?_
  refine then_normal ?_
  refine hK1 _ _ ?_
  have s7 := s6.sub (.cons (t := 0) rfl (.cons (t := 6) rfl .nil)); clear s6
  refine cond_split s7 (.tmp rfl) (fun hc1 => ?_) (fun hc1 => ?_)
  · replace h0 := ite_t hc1 h0
    have h1 := h0; clear h0
    refine wp_region_lit ?_
    refine seq_op s7 rfl rfl (of_decide_eq_true rfl) (ob_move rfl (.tmp rfl)) fun a8 w8 s8 => ?_; clear s7
    refine seq_op s8 rfl rfl (of_decide_eq_true rfl) (ob_move rfl (.tmp rfl)) fun a9 w9 s9 => ?_; clear s8
    refine seq_op s9 rfl rfl (of_decide_eq_true rfl) (ob_toUnsafe rfl Tryd.underlying37 Tryd.underlying69 (by kernel_rfl) (.tmp rfl) (.head _) (Nat.zero_lt_succ _)) fun a10 w10 s10 => ?_; clear s9
    refine seq_op s10 rfl rfl (of_decide_eq_true rfl) (ob_noEscape rfl ne30 (.tmp rfl)) fun a11 w11 s11 => ?_; clear s10
    refine seq_op s11 rfl rfl (of_decide_eq_true rfl) (ob_fromUnsafe rfl Tryd.underlying69 Tryd.underlying37 (by kernel_rfl) (.tmp rfl) (.head _) (by kernel_rfl)) fun a12 w12 s12 => ?_; clear s11
    refine seq_op s12 rfl rfl (of_decide_eq_true rfl) (ob_nilCheck rfl (.tmp rfl)) fun a13 w13 s13 => ?_; clear s12
    refine seq_op s13 rfl rfl (of_decide_eq_true rfl) (ob_fieldAddr (off' := 0) rfl Tryd.underlying40 rfl sz37 (by decide) (.tmp rfl) rfl) fun a14 w14 s14 => ?_; clear s13
    refine seq_opx0 (B' := (fun _ : Unit => [BF b00 40 (ko_strings_Builder_1 b00 w0_1) (⟨true, []⟩ : strings_Builder), RowF w0_1 5 (kint .u8) p1.buf])) s14 rfl rfl (ob_store (A := []) rfl (tkb37 _) (.tmp rfl) (.conv (.tmp rfl) self_bad) rfl (lso_strings_Builder_1_addr (⟨p1.addr, []⟩ : strings_Builder) true) rfl) fun _ a15 w15 s15 => ?_; clear s14
    refine wpList_nil ?_
    obtain rfl := Option.some.inj h1
    exact leaveXD (D := []) w0_1 s15 rfl (.inr rfl) rfl .nil rfl
  · replace h0 := ite_f hc1 h0
    have h2 := h0; clear h0
    refine wp_seq_k fun K2 hK2 => ?_
    refine wp_region_lit ?_
    refine seq_op s7 rfl rfl (of_decide_eq_true rfl) (ob_move rfl (.tmp rfl)) fun a16 w16 s16 => ?_; clear s7
    refine seq_op s16 rfl rfl (of_decide_eq_true rfl) (ob_nilCheck rfl (.tmp rfl)) fun a17 w17 s17 => ?_; clear s16
    refine seq_op s17 rfl rfl (of_decide_eq_true rfl) (ob_fieldAddr (off' := 0) rfl Tryd.underlying40 rfl sz37 (by decide) (.tmp rfl) rfl) fun a18 w18 s18 => ?_; clear s17
    refine seq_op s18 rfl rfl (of_decide_eq_true rfl) ((ob_load rfl (tkb37 _) (.tmp rfl) (.head _) (lgo_strings_Builder_1_addr (⟨p1.addr, []⟩ : strings_Builder))).as V_kbad) fun a19 w19 s19 => ?_; clear s18
    refine seq_op s19 rfl rfl (of_decide_eq_true rfl) (ob_move rfl (.tmp rfl)) fun a20 w20 s20 => ?_; clear s19
    refine seq_op s20 rfl rfl (of_decide_eq_true rfl) (ob_badSelf rfl Tryd.underlying37 (by kernel_rfl) (.tmp rfl) (.tmp rfl)) fun a21 w21 s21 => ?_; clear s20
    refine wpList_nil ?_
    refine then_normal ?_
    refine hK2 _ _ ?_
    have s22 := s21.sub (.cons (t := 19) rfl .nil); clear s21
    refine cond_split s22 (.tmp rfl) (fun hc2 => ?_) (fun hc2 => ?_)
    · replace h2 := ite_t hc2 h2
      have h3 := h2; clear h2
      cases h3
    · replace h2 := ite_f hc2 h2
      have h4 := h2; clear h2
      refine wp_skip ?_
      obtain rfl := Option.some.inj h4
      exact leaveXD (D := []) w0_1 s22 rfl (.inr rfl) rfl .nil rfl

/- 13 (*strings.Builder).WriteByte -/
theorem c_strings_Builder_WriteByte (k : Nat) (p1 : strings_Builder) (p2 : Int) (r : (Unit × strings_Builder)) (h0 : strings_Builder_WriteByte k p1 p2 = some r) (ok : Ok) (w0 : World) (z0 : Value) (z1 : Value) (b00 : Nat) (w0_1 : Value) (l0 : ∀ q, q ∈ [BF b00 40 (ko_strings_Builder_1 b00 w0_1) (⟨p1.addr, []⟩ : strings_Builder), RowF w0_1 5 (kint .u8) p1.buf] → q.holds ok w0) (d0 : ∀ c, c ∈ idsOf [BF b00 40 (ko_strings_Builder_1 b00 w0_1) (⟨p1.addr, []⟩ : strings_Builder), RowF w0_1 5 (kint .u8) p1.buf] → ¬ ok c) (nd : (idsOf [BF b00 40 (ko_strings_Builder_1 b00 w0_1) (⟨p1.addr, []⟩ : strings_Builder), RowF w0_1 5 (kint .u8) p1.buf]).Nodup) (u0 : (ptrB b00 0).holds ok w0 z0) (u1 : ((kint .u8).V p2).holds ok w0 z1) :
    GivesX Tryd.prog 13 [z0, z1] ok w0 [BF b00 40 (ko_strings_Builder_1 b00 w0_1) (⟨p1.addr, []⟩ : strings_Builder), RowF w0_1 5 (kint .u8) p1.buf] (fun g : Value => resFact [(kis .nilIface).V r.1]) (fun g : Value => [BF b00 40 (ko_strings_Builder_1 b00 (g)) (⟨r.2.addr, []⟩ : strings_Builder), RowF (g) 5 (kint .u8) r.2.buf]) := by
  unfold strings_Builder_WriteByte at h0
  refine enterX (N := 17) Tryd.func13 rfl rfl (of_decide_eq_true rfl) (.cons u0 (.cons u1 .nil)) nd l0 d0 fun a1 s1 => ?_
  refine wp_seq_k fun K1 hK1 => ?_
  refine wp_region_lit ?_
  refine seq_op s1 rfl rfl (of_decide_eq_true rfl) (ob_assign rfl opd_nilIface) fun a2 w2 s2 => ?_; clear s1
  refine wpList_nil ?_
  refine then_normal ?_
  refine hK1 _ _ ?_
  have s3 := s2.sub (.cons (t := 0) rfl (.cons (t := 1) rfl .nil)); clear s2
  refine wp_seq_k fun K2 hK2 => ?_
  refine wp_region_lit ?_
  refine seq_op s3 rfl rfl (of_decide_eq_true rfl) (ob_move rfl (.tmp rfl)) fun a4 w4 s4 => ?_; clear s3
  obtain ⟨x1, e_x1, h1⟩ := bind_some h0; clear h0
  refine seq_opx (B' := (fun v1 : Value => [BF b00 40 (ko_strings_Builder_1 b00 v1) (⟨x1.addr, []⟩ : strings_Builder), RowF v1 5 (kint .u8) x1.buf])) s4 rfl rfl (of_decide_eq_true rfl) (ob_callL (args := [_]) (L := [_, _]) rfl .direct hb24 (List.Perm.refl _) (fun a w s fs gs hf hg => by obtain rfl := hf.unnil; obtain rfl := hg.unnil; exact c_strings_Builder_copyCheck k _ _ e_x1 _ _ _ _ _ (ownL s) (disL s) (nodL s) (s.arg (.tmp rfl))) (by exact fun _ => rfl)) fun v1 a5 w5 s5 => ?_; clear s4
  refine wpList_nil ?_
  refine then_normal ?_
  refine hK2 _ _ ?_
  have s6 := s5.sub (.cons (t := 0) rfl (.cons (t := 1) rfl .nil)); clear s5
  refine wp_seq_k fun K3 hK3 => ?_
  refine wp_region_lit ?_
  refine seq_op s6 rfl rfl (of_decide_eq_true rfl) (ob_move rfl (.tmp rfl)) fun a7 w7 s7 => ?_; clear s6
  refine seq_op s7 rfl rfl (of_decide_eq_true rfl) (ob_move rfl (.tmp rfl)) fun a8 w8 s8 => ?_; clear s7
  refine seq_op s8 rfl rfl (of_decide_eq_true rfl) (ob_nilCheck rfl (.tmp rfl)) fun a9 w9 s9 => ?_; clear s8
  refine seq_op s9 rfl rfl (of_decide_eq_true rfl) (ob_fieldAddr (off' := 1) rfl Tryd.underlying40 rfl sz38 (by decide) (.tmp rfl) rfl) fun a10 w10 s10 => ?_; clear s9
  refine seq_op s10 rfl rfl (of_decide_eq_true rfl) (ob_loadRowV rfl (tkr38 _) (.tmp rfl) (.head _) (lgo_strings_Builder_1_buf (⟨x1.addr, []⟩ : strings_Builder))) fun a11 w11 s11 => ?_; clear s10
  refine seq_op s11 rfl rfl (of_decide_eq_true rfl) (ob_move rfl (.tmp rfl)) fun a12 w12 s12 => ?_; clear s11
  refine seq_op s12 rfl rfl (of_decide_eq_true rfl) (ob_mkSlice (k := (kint .u8)) (xs := ([p2] : (List Int))) rfl Tryd.underlying38 zz5 sz5 (Zr.int .u8) (by decide) (by decide) (.cons (.tmp rfl) rfl (LS.arr' (i := 0) (ys := ([p2] : (List Int))) (by simp) (by rfl)) (.nil _))) fun a13 w13 s13 => ?_; clear s12
  obtain ⟨g1, h2⟩ := guard_some h1; clear h1
  refine seq_opx (B' := (fun v2 : Value => [BF b00 40 (ko_strings_Builder_1 b00 v1) (⟨x1.addr, []⟩ : strings_Builder), RowF v2 5 (kint .u8) (x1.buf ++ ([p2] : (List Int)))])) s13 rfl rfl (of_decide_eq_true rfl) (ob_appendL2 (A := [_]) rfl Tryd.underlying38 ap5 (Zr.int .u8) (by decide) (.tmp rfl) (.tmp rfl) rfl g1) fun v2 a14 w14 s14 => ?_; clear s13
  refine seq_op s14 rfl rfl (of_decide_eq_true rfl) (ob_nilCheck rfl (.tmp rfl)) fun a15 w15 s15 => ?_; clear s14
  refine seq_op s15 rfl rfl (of_decide_eq_true rfl) (ob_fieldAddr (off' := 1) rfl Tryd.underlying40 rfl sz38 (by decide) (.tmp rfl) rfl) fun a16 w16 s16 => ?_; clear s15
  refine seq_opx0 (B' := (fun _ : Unit => [BF b00 40 (ko_strings_Builder_1 b00 v2) (⟨x1.addr, []⟩ : strings_Builder), RowF v2 5 (kint .u8) (x1.buf ++ ([p2] : (List Int)))])) s16 rfl rfl (ob_storeRowV (A := []) rfl (tkr38 _) (.tmp rfl) (.tmp rfl) (.tail _ (.head _)) rfl (lsk_strings_Builder_1_to_1_at1 (⟨x1.addr, []⟩ : strings_Builder)) rfl) fun _ a17 w17 s17 => ?_; clear s16
  refine wpList_nil ?_
  refine then_normal ?_
  refine hK3 _ _ ?_
  have s18 := s17.sub .nil; clear s17
  refine wp_seq_k fun K4 hK4 => ?_
  refine wp_region_lit ?_
  refine seq_op s18 rfl rfl (of_decide_eq_true rfl) (ob_assign rfl opd_nilIface) fun a19 w19 s19 => ?_; clear s18
  refine wpList_nil ?_
  refine then_normal ?_
  refine hK4 _ _ ?_
  have s20 := s19.sub (.cons (t := 4) rfl .nil); clear s19
  refine wp_ret ?_
  obtain rfl := Option.some.inj h2
  exact leaveXD (D := []) v2 s20 rfl (.inl rfl) rfl (.cons (.tmp rfl) .nil) rfl

/- 14 (*strings.Builder).String -/
theorem c_strings_Builder_String (k : Nat) (p1 : strings_Builder) (r : (List Int)) (h0 : strings_Builder_String k p1 = some r) (ok : Ok) (w0 : World) (z0 : Value) (b00 : Nat) (w0_1 : Value) (l0 : ∀ q, q ∈ [BF b00 40 (ko_strings_Builder_1 b00 w0_1) (⟨p1.addr, []⟩ : strings_Builder), RowF w0_1 5 (kint .u8) p1.buf] → q.holds ok w0) (d0 : ∀ c, c ∈ idsOf [BF b00 40 (ko_strings_Builder_1 b00 w0_1) (⟨p1.addr, []⟩ : strings_Builder), RowF w0_1 5 (kint .u8) p1.buf] → ¬ ok c) (nd : (idsOf [BF b00 40 (ko_strings_Builder_1 b00 w0_1) (⟨p1.addr, []⟩ : strings_Builder), RowF w0_1 5 (kint .u8) p1.buf]).Nodup) (u0 : (ptrB b00 0).holds ok w0 z0) :
    GivesX Tryd.prog 14 [z0] ok w0 [BF b00 40 (ko_strings_Builder_1 b00 w0_1) (⟨p1.addr, []⟩ : strings_Builder), RowF w0_1 5 (kint .u8) p1.buf] (fun g : Unit => resFact [kstr.V r]) (fun g : Unit => []) := by
  unfold strings_Builder_String at h0
  refine enterX (N := 14) Tryd.func14 rfl rfl (of_decide_eq_true rfl) (.cons u0 .nil) nd l0 d0 fun a1 s1 => ?_
  refine wp_seq_k fun K1 hK1 => ?_
  refine wp_region_lit ?_
  refine seq_op s1 rfl rfl (of_decide_eq_true rfl) (ob_assign rfl (opd_str (by rfl) (by decide))) fun a2 w2 s2 => ?_; clear s1
  refine wpList_nil ?_
  refine then_normal ?_
  refine hK1 _ _ ?_
  have s3 := s2.sub (.cons (t := 0) rfl .nil); clear s2
  refine wp_seq_k fun K2 hK2 => ?_
  obtain ⟨g1, h1⟩ := guard_some h0; clear h0
  refine wp_goes (Fs := [(ptrB b00 0), (ptrB b00 0), (ptrB b00 1), (is w0_1), (ptrR w0_1 0), (ptrB b00 0), (ptrB b00 0), (ptrB b00 1), (is w0_1), ((kint .i64).V (p1.buf.length : Int))]) (bits := [0, 1, 3, 7, 15, 0, 32, 96, 224, 480, 1023, 2047]) (m := 10) (todo := 0) mx s3 ?_; clear s3
  refine goes_last (by kernel_rfl) rfl (opsS_cons (.plain _ (Av.old (t := 0) rfl rfl Av.nil) rfl rfl (ob_move rfl (.tmp rfl))) (opsS_cons (.plain _ (Av.new (j := 0) rfl rfl rfl Av.nil) rfl rfl (ob_nilCheck rfl (.tmp rfl))) (opsS_cons (.plain _ (Av.new (j := 1) rfl rfl rfl Av.nil) rfl rfl (ob_fieldAddr (off' := 1) rfl Tryd.underlying40 rfl sz38 (by decide) (.tmp rfl) rfl)) (opsS_cons (.plain _ (Av.new (j := 2) rfl rfl rfl Av.nil) rfl rfl (ob_loadRowV rfl (tkr38 _) (.tmp rfl) (.head _) (lgo_strings_Builder_1_buf (⟨p1.addr, []⟩ : strings_Builder)))) (opsS_cons (.plain _ (Av.new (j := 3) rfl rfl rfl Av.nil) rfl rfl (ob_sliceData rfl (.tmp rfl) (.tail _ (.head _)) g1)) (opsS_cons (.plain _ (Av.old (t := 0) rfl rfl Av.nil) rfl rfl (ob_move rfl (.tmp rfl))) (opsS_cons (.plain _ (Av.new (j := 5) rfl rfl rfl Av.nil) rfl rfl (ob_nilCheck rfl (.tmp rfl))) (opsS_cons (.plain _ (Av.new (j := 6) rfl rfl rfl Av.nil) rfl rfl (ob_fieldAddr (off' := 1) rfl Tryd.underlying40 rfl sz38 (by decide) (.tmp rfl) rfl)) (opsS_cons (.plain _ (Av.new (j := 7) rfl rfl rfl Av.nil) rfl rfl (ob_loadRowV rfl (tkr38 _) (.tmp rfl) (.head _) (lgo_strings_Builder_1_buf (⟨p1.addr, []⟩ : strings_Builder)))) (opsS_cons (.plain _ (Av.new (j := 8) rfl rfl rfl Av.nil) rfl rfl (ob_lenRow rfl Tryd.underlying38 (.tmp rfl) (.tail _ (.head _)))) opsS_nil)))))))))) (out_new (i := 4) (by decide) rfl rfl (out_new (i := 9) (by decide) rfl rfl out_nil)) fun a4 w4 s4 => ?_
  refine seq_opx (B' := (fun _ : Unit => [BF b00 40 (ko_strings_Builder_1 b00 w0_1) (⟨p1.addr, []⟩ : strings_Builder)])) s4 rfl rfl (of_decide_eq_true rfl) (ob_unsafeString (A := [_]) rfl Tryd.underlying57 co5 (.tmp rfl) (.tmp rfl) rfl g1) fun _ a5 w5 s5 => ?_; clear s4
  refine seq_op s5 rfl rfl (of_decide_eq_true rfl) (ob_assign rfl (.tmp rfl)) fun a6 w6 s6 => ?_; clear s5
  refine wpList_nil ?_
  refine then_normal ?_
  refine hK2 _ _ ?_
  have s7 := s6.sub (.cons (t := 2) rfl .nil); clear s6
  have s8 := St.drop (A := []) s7; clear s7
  refine wp_ret ?_
  obtain rfl := Option.some.inj h1
  exact leaveXD (D := []) () s8 rfl (.inl rfl) rfl (.cons (.tmp rfl) .nil) rfl

/- 6 cabal/code.Write -/
theorem c_code_Write (k : Nat) (p1 : (List Int)) (r : (List Int)) (h0 : code_Write k p1 = some r) (ok : Ok) (w0 : World) (z0 : Value) (u0 : ((karr 32 (kint .u8)).V p1).holds ok w0 z0) :
    Gives Tryd.prog 6 [z0] ok w0 (resFact [kstr.V r]) := by
  unfold code_Write at h0
  refine enter (N := 40) Tryd.func6 rfl rfl (of_decide_eq_true rfl) (.cons u0 .nil) fun a1 s1 => ?_
  refine wp_seq_k fun K1 hK1 => ?_
  refine wp_region_lit ?_
  refine seq_opx (B' := (fun b1 : Nat => [BF b1 23 (karr 32 (kint .u8)) p1])) s1 rfl rfl (of_decide_eq_true rfl) (ob_box rfl (.tmp rfl)) fun b1 a2 w2 s2 => ?_; clear s1
  refine seq_op s2 rfl rfl (of_decide_eq_true rfl) (ob_assign rfl (opd_str (by rfl) (by decide))) fun a3 w3 s3 => ?_; clear s2
  refine wpList_nil ?_
  refine then_normal ?_
  refine hK1 _ _ ?_
  have s4 := s3.sub (.cons (t := 1) rfl .nil); clear s3
  refine wp_seq_k fun K2 hK2 => ?_
  refine wp_region_lit ?_
  refine seq_opx (B' := (fun b2 : Nat => [BF b2 32 (karr 80 (kint .u8)) (List.replicate 80 (0 : Int)), BF b1 23 (karr 32 (kint .u8)) p1])) s4 rfl rfl (of_decide_eq_true rfl) (ob_new (k := (karr 80 (kint .u8))) rfl zz32 (Zr.arr 80 (Zr.int .u8))) fun b2 a5 w5 s5 => ?_; clear s4
  refine wpList_nil ?_
  refine then_normal ?_
  refine hK2 _ _ ?_
  have s6 := s5.sub (.cons (t := 1) rfl (.cons (t := 3) rfl .nil)); clear s5
  refine wp_seq_k fun K3 hK3 => ?_
  refine wp_seq_k fun K4 hK4 => ?_
  refine wp_region_lit ?_
  refine seq_op s6 rfl rfl (of_decide_eq_true rfl) (ob_move rfl (opd_int rfl)) fun a7 w7 s7 => ?_; clear s6
  refine wpList_nil ?_
  refine then_normal ?_
  refine hK4 _ _ ?_
  have s8 := s7.sub (.cons (t := 1) rfl (.cons (t := 3) rfl (.cons (t := 8) rfl .nil))); clear s7
  have hj1 : ∀ (y1 : (List Int)) (a : Act) (w : World), (code_Write.j1 k) y1 = some r → St ⟨40, w0, ok, []⟩ [BF b2 32 (karr 80 (kint .u8)) y1] [(3, (ptrB b2 0))] a w → K3 a w := by
    intro y1 a9 w9 h1 s9
    unfold code_Write.j1 at h1
    refine hK3 _ _ ?_
    refine wp_seq_k fun K5 hK5 => ?_
    refine wp_region_lit ?_
    obtain ⟨x1, e_x1, h2⟩ := bind_some h1; clear h1
    refine seq_op s9 rfl rfl (of_decide_eq_true rfl) ((ob_lendG (L := [_]) (List.Perm.refl _) (.cons (t := 3) rfl (lendPtrB (.head _) (LG.refl _ _)) .nil) (Flat.res2 (Flat.V (KFlat.int _)) (Flat.V (KFlat.int _))) (fun _ => ob_callD (args := [_]) rfl .direct hb12 (fun a w s fs gs hf hg => by obtain rfl := hf.unnil; obtain rfl := hg.unnil; exact c_code_digits_check k _ _ e_x1 _ _ _ (s.arg (.tmp rfl)))))) fun a10 w10 s10 => ?_; clear s9
    refine seq_op s10 rfl rfl (of_decide_eq_true rfl) (ob_move rfl (.tmp rfl)) fun a11 w11 s11 => ?_; clear s10
    refine seq_op s11 rfl rfl (of_decide_eq_true rfl) (ob_extract rfl (.tmp rfl) rfl) fun a12 w12 s12 => ?_; clear s11
    refine seq_op s12 rfl rfl (of_decide_eq_true rfl) (ob_extract rfl (.tmp rfl) rfl) fun a13 w13 s13 => ?_; clear s12
    refine seq_op s13 rfl rfl (of_decide_eq_true rfl) (ob_indexAddr rfl Tryd.underlying32 sz5 (.tmp rfl) (opd_int rfl) (by decide) (by decide) (Nat.zero_add _)) fun a14 w14 s14 => ?_; clear s13
    obtain ⟨x2, e_x2, h3⟩ := bind_some h2; clear h2
    refine seq_opx0 (B' := (fun _ : Unit => [BF b2 32 (karr 80 (kint .u8)) x2])) s14 rfl rfl (ob_store (A := []) rfl tk5 (.tmp rfl) (.tmp rfl) rfl (LS.arrS e_x2) rfl) fun _ a15 w15 s15 => ?_; clear s14
    refine seq_op s15 rfl rfl (of_decide_eq_true rfl) (ob_indexAddr rfl Tryd.underlying32 sz5 (.tmp rfl) (opd_int rfl) (by decide) (by decide) (Nat.zero_add _)) fun a16 w16 s16 => ?_; clear s15
    obtain ⟨x3, e_x3, h4⟩ := bind_some h3; clear h3
    refine seq_opx0 (B' := (fun _ : Unit => [BF b2 32 (karr 80 (kint .u8)) x3])) s16 rfl rfl (ob_store (A := []) rfl tk5 (.tmp rfl) (.tmp rfl) rfl (LS.arrS e_x3) rfl) fun _ a17 w17 s17 => ?_; clear s16
    refine wpList_nil ?_
    refine then_normal ?_
    refine hK5 _ _ ?_
    have s18 := s17.sub (.cons (t := 3) rfl .nil); clear s17
    refine wp_seq_k fun K6 hK6 => ?_
    refine wp_region_lit ?_
    have s19 := St.adopt s18 (G := RowF (nilRow 1) 5 (kint .u8) []) rfl (rowNilN _ _ _ _ _); clear s18
    refine seq_opx (B' := (fun b3 : Nat => [BF b3 40 (ko_strings_Builder_1 b3 (nilRow 1)) (⟨false, []⟩ : strings_Builder), RowF (nilRow 1) 5 (kint .u8) ([] : (List Int)), BF b2 32 (karr 80 (kint .u8)) x3])) s19 rfl rfl (of_decide_eq_true rfl) (ob_newAt (kk := fun b => (ko_strings_Builder_1 b (nilRow 1))) (agg := true) rfl (fun _ => rfl) zz40 (fun _ => (Zr.iso (f := to_strings_Builder_1) (x := (⟨false, []⟩ : strings_Builder)) (Zr.pair (Zr.bad _) (Zr.pair (Zr.kis 1) Zr.nil))))) fun b3 a20 w20 s20 => ?_; clear s19
    refine wpList_nil ?_
    refine then_normal ?_
    refine hK6 _ _ ?_
    have s21 := s20.sub (.cons (t := 3) rfl (.cons (t := 5) rfl .nil)); clear s20
    refine wp_seq_k fun K7 hK7 => ?_
    refine wp_seq_k fun K8 hK8 => ?_
    refine wp_region_lit ?_
    refine seq_op s21 rfl rfl (of_decide_eq_true rfl) (ob_load rfl tk32 (.tmp rfl) (.tail _ (.tail _ (.head _))) (LG.refl _ _)) fun a22 w22 s22 => ?_; clear s21
    refine seq_op s22 rfl rfl (of_decide_eq_true rfl) (ob_move rfl (opd_int rfl)) fun a23 w23 s23 => ?_; clear s22
    refine wpList_nil ?_
    refine then_normal ?_
    refine hK8 _ _ ?_
    have s24 := s23.sub (.cons (t := 5) rfl (.cons (t := 22) rfl (.cons (t := 23) rfl .nil))); clear s23
    have s25 := St.drop (A := [_, _]) s24; clear s24
    have hj2 : ∀ (y2 : Bool) (y3 : (List Int)) (v1 : Value) (a : Act) (w : World), (code_Write.j2 k) y2 y3 = some r → St ⟨40, w0, ok, []⟩ [BF b3 40 (ko_strings_Builder_1 b3 v1) (⟨y2, []⟩ : strings_Builder), RowF v1 5 (kint .u8) y3] [(5, (ptrB b3 0))] a w → K7 a w := by
      intro y2 y3 v1 a26 w26 h5 s26
      unfold code_Write.j2 at h5
      refine hK7 _ _ ?_
      refine wp_seq_k fun K9 hK9 => ?_
      refine wp_region_lit ?_
      obtain ⟨x4, e_x4, h6⟩ := bind_some h5; clear h5
      refine seq_opx (B' := (fun _ : Unit => [])) s26 rfl rfl (of_decide_eq_true rfl) (ob_callL (args := [_]) (L := [_, _]) rfl .direct hb14 (List.Perm.refl _) (fun a w s fs gs hf hg => by obtain rfl := hf.unnil; obtain rfl := hg.unnil; exact c_strings_Builder_String k _ _ e_x4 _ _ _ _ _ (ownL s) (disL s) (nodL s) (s.arg (.tmp rfl))) (by exact fun _ => rfl)) fun _ a27 w27 s27 => ?_; clear s26
      refine seq_op s27 rfl rfl (of_decide_eq_true rfl) (ob_assign rfl (.tmp rfl)) fun a28 w28 s28 => ?_; clear s27
      refine wpList_nil ?_
      refine then_normal ?_
      refine hK9 _ _ ?_
      have s29 := s28.sub (.cons (t := 2) rfl .nil); clear s28
      refine wp_ret ?_
      obtain rfl := Option.some.inj h6
      exact leave s29 (.inl rfl) rfl (.cons (.tmp rfl) .nil)
    refine wp_block ?_
    refine wp_loop_fuel (fun m (q : Int × Bool × (List Int)) => code_Write.l1 k x3 m q.1 q.2.1 q.2.2) r (fun _ => rfl) (fun q a w => ∃ (v2 : Value), St ⟨40, w0, ok, []⟩ [BF b3 40 (ko_strings_Builder_1 b3 v2) (⟨q.2.1, []⟩ : strings_Builder), RowF v2 5 (kint .u8) q.2.2] [(5, (ptrB b3 0)), (22, ((karr 80 (kint .u8)).V x3)), (23, ((kint .i64).V q.1))] a w) ?_ k ((0 : Int), false, ([] : (List Int))) _ _ h4 ⟨(nilRow 1), (s25.sub (.cons rfl (.cons rfl (.cons rfl .nil))))⟩
    rintro n1 ⟨y4, y5, y6⟩ a30 w30 h7 ⟨v2, s30⟩ K10 hK10
    replace h7 : code_Write.l1 k x3 (n1 + 1) y4 y5 y6 = some r := h7; rw [code_Write.l1] at h7
    have h8 := h7; clear h7
    refine wp_seq_k fun K11 hK11 => ?_
    refine wp_region_lit ?_
    refine seq_op s30 rfl rfl (of_decide_eq_true rfl) (ob_lss rfl (.tmp rfl) (opd_int rfl)) fun a31 w31 s31 => ?_; clear s30
    refine wpList_nil ?_
    refine then_normal ?_
    refine hK11 _ _ ?_
    have s32 := s31.sub (.cons (t := 5) rfl (.cons (t := 22) rfl (.cons (t := 23) rfl (.cons (t := 24) rfl .nil)))); clear s31
    refine wp_seq_k fun K12 hK12 => ?_
    refine cond_split s32 (.tmp rfl) (fun hc1 => ?_) (fun hc1 => ?_)
    · replace h8 := ite_t hc1 h8
      have h9 := h8; clear h8
      refine wp_skip ?_
      refine then_normal ?_
      refine hK12 _ _ ?_
      have s33 := s32.sub (.cons (t := 5) rfl (.cons (t := 22) rfl (.cons (t := 23) rfl .nil))); clear s32
      refine wp_seq_k fun K13 hK13 => ?_
      refine wp_block ?_
      refine wp_seq_k fun K14 hK14 => ?_
      refine wp_region_lit ?_
      refine seq_op s33 rfl rfl (of_decide_eq_true rfl) (ob_move rfl (.tmp rfl)) fun a34 w34 s34 => ?_; clear s33
      obtain ⟨x5, e_x5, h10⟩ := bind_some h9; clear h9
      obtain ⟨g1, h11⟩ := guard_some h10; clear h10
      refine seq_op s34 rfl rfl (of_decide_eq_true rfl) (ob_index rfl Tryd.underlying32 tk5 (.tmp rfl) (.tmp rfl) g1 e_x5) fun a35 w35 s35 => ?_; clear s34
      refine seq_op s35 rfl rfl (of_decide_eq_true rfl) (ob_assign rfl (.tmp rfl)) fun a36 w36 s36 => ?_; clear s35
      refine seq_op s36 rfl rfl (of_decide_eq_true rfl) (ob_assign rfl (.tmp rfl)) fun a37 w37 s37 => ?_; clear s36
      refine wpList_nil ?_
      refine then_normal ?_
      refine hK14 _ _ ?_
      have s38 := s37.sub (.cons (t := 5) rfl (.cons (t := 6) rfl (.cons (t := 7) rfl (.cons (t := 22) rfl (.cons (t := 23) rfl .nil))))); clear s37
      refine wp_seq_k fun K15 hK15 => ?_
      refine wp_seq_k fun K16 hK16 => ?_
      refine wp_region_lit ?_
      refine seq_op s38 rfl rfl (of_decide_eq_true rfl) (ob_move rfl (.tmp rfl)) fun a39 w39 s39 => ?_; clear s38
      refine seq_op s39 rfl rfl (of_decide_eq_true rfl) (ob_gtr rfl (.tmp rfl) (opd_int rfl)) fun a40 w40 s40 => ?_; clear s39
      refine seq_op s40 rfl rfl (of_decide_eq_true rfl) (ob_move rfl (.tmp rfl)) fun a41 w41 s41 => ?_; clear s40
      refine seq_opg s41 rfl rfl rfl rfl (of_decide_eq_true rfl) (fun hb => ob_move rfl (.tmp rfl)) fun a42 w42 s42 => ?_; clear s41
      refine seq_opg s42 rfl rfl rfl rfl (of_decide_eq_true rfl) (fun hb => (Ob.uncond (t := 30) hb rfl (ob_rem rfl (.tmp rfl) (opd_int rfl) (by decide)))) fun a43 w43 s43 => ?_; clear s42
      refine seq_opg s43 rfl rfl rfl rfl (of_decide_eq_true rfl) (fun hb => (Ob.uncond (t := 31) hb rfl (ob_eql rfl (.tmp rfl) (opd_int rfl)))) fun a44 w44 s44 => ?_; clear s43
      obtain ⟨x6, e_x6, h12⟩ := bind_some h11; clear h11; replace e_x6 := Option.some.inj e_x6
      refine seq_op s44 rfl rfl (of_decide_eq_true rfl) ((ob_and2 rfl (.tmp rfl) (.tmp rfl) opd_bool).nm e_x6) fun a45 w45 s45 => ?_; clear s44
      refine wpList_nil ?_
      refine then_normal ?_
      refine hK16 _ _ ?_
      have s46 := s45.sub (.cons (t := 5) rfl (.cons (t := 7) rfl (.cons (t := 22) rfl (.cons (t := 23) rfl (.cons (t := 33) rfl .nil))))); clear s45
      have hj3 : ∀ (y7 : Bool) (y8 : (List Int)) (v3 : Value) (a : Act) (w : World), (code_Write.j3 k x5 y4 (code_Write.l1 k x3 n1)) y7 y8 = some r → St ⟨40, w0, ok, []⟩ [BF b3 40 (ko_strings_Builder_1 b3 v3) (⟨y7, []⟩ : strings_Builder), RowF v3 5 (kint .u8) y8] [(5, (ptrB b3 0)), (7, ((kint .u8).V x5)), (22, ((karr 80 (kint .u8)).V x3)), (23, ((kint .i64).V y4))] a w → K15 a w := by
        intro y7 y8 v3 a47 w47 h13 s47
        unfold code_Write.j3 at h13
        refine hK15 _ _ ?_
        refine wp_region_lit ?_
        refine seq_op s47 rfl rfl (of_decide_eq_true rfl) (ob_move rfl (.tmp rfl)) fun a48 w48 s48 => ?_; clear s47
        refine seq_op s48 rfl rfl (of_decide_eq_true rfl) (ob_add rfl (opd_int rfl) (.tmp rfl)) fun a49 w49 s49 => ?_; clear s48
        obtain ⟨x7, e_x7, h14⟩ := bind_some h13; clear h13
        refine seq_opx (B' := (fun v4 : Value => [BF b3 40 (ko_strings_Builder_1 b3 v4) (⟨x7.2.addr, []⟩ : strings_Builder), RowF v4 5 (kint .u8) x7.2.buf])) s49 rfl rfl (of_decide_eq_true rfl) (ob_callL (args := [_, _]) (L := [_, _]) rfl .direct hb13 (List.Perm.refl _) (fun a w s fs gs hf hg => by obtain rfl := hf.unnil; obtain rfl := hg.unnil; exact c_strings_Builder_WriteByte k _ _ _ e_x7 _ _ _ _ _ _ (ownL s) (disL s) (nodL s) (s.arg (.tmp rfl)) (s.arg (.tmp rfl))) (by exact fun _ => rfl)) fun v4 a50 w50 s50 => ?_; clear s49
        refine wpList_nil ?_
        refine in_normal ?_
        refine then_normal ?_
        refine hK13 _ _ ?_
        have s51 := s50.sub (.cons (t := 5) rfl (.cons (t := 22) rfl (.cons (t := 23) rfl .nil))); clear s50
        refine wp_region_lit ?_
        refine seq_op s51 rfl rfl (of_decide_eq_true rfl) (ob_add rfl (.tmp rfl) (opd_int rfl)) fun a52 w52 s52 => ?_; clear s51
        refine seq_op s52 rfl rfl (of_decide_eq_true rfl) (ob_move rfl (.tmp rfl)) fun a53 w53 s53 => ?_; clear s52
        refine wpList_nil ?_
        refine then_normal ?_
        exact hK10 ((iadd .i64 y4 (1 : Int)), x7.2.addr, x7.2.buf) _ _ h14 ⟨v4, (s53.sub (.cons rfl (.cons rfl (.cons rfl .nil))))⟩
      refine cond_split s46 (.tmp rfl) (fun hc2 => ?_) (fun hc2 => ?_)
      · replace h12 := ite_t hc2 h12
        have h15 := h12; clear h12
        refine wp_region_lit ?_
        obtain ⟨x8, e_x8, h16⟩ := bind_some h15; clear h15
        refine seq_opx (B' := (fun v5 : Value => [BF b3 40 (ko_strings_Builder_1 b3 v5) (⟨x8.2.addr, []⟩ : strings_Builder), RowF v5 5 (kint .u8) x8.2.buf])) s46 rfl rfl (of_decide_eq_true rfl) (ob_callL (args := [_, _]) (L := [_, _]) rfl .direct hb13 (List.Perm.refl _) (fun a w s fs gs hf hg => by obtain rfl := hf.unnil; obtain rfl := hg.unnil; exact c_strings_Builder_WriteByte k _ _ _ e_x8 _ _ _ _ _ _ (ownL s) (disL s) (nodL s) (s.arg (.tmp rfl)) (s.arg (opd_int rfl))) (by exact fun _ => rfl)) fun v5 a54 w54 s54 => ?_; clear s46
        refine wpList_nil ?_
        refine then_normal ?_
        exact hj3 x8.2.addr x8.2.buf v5 _ _ h16 (s54.sub (.cons rfl (.cons rfl (.cons rfl (.cons rfl .nil)))))
      · replace h12 := ite_f hc2 h12
        have h17 := h12; clear h12
        refine wp_skip ?_
        refine then_normal ?_
        exact hj3 y5 y6 v2 _ _ h17 (s46.sub (.cons rfl (.cons rfl (.cons rfl (.cons rfl .nil)))))
    · replace h8 := ite_f hc1 h8
      have h18 := h8; clear h8
      refine wp_exit ?_
      refine (then_exit (then_exit (in_here ?_)))
      refine then_normal ?_
      exact hj2 y5 y6 v2 _ _ h18 (s32.sub (.cons rfl .nil))
  refine wp_block ?_
  have s55 := s8.perm (toFront [_] (toFront [] (List.Perm.refl _))); clear s8
  refine wp_loop_fuel (fun m (q : Int × (List Int) × (List Int)) => code_Write.l2 k m q.1 q.2.1 q.2.2) r (fun _ => rfl) (fun q a w => St ⟨40, w0, ok, []⟩ [BF b1 23 (karr 32 (kint .u8)) q.2.1, BF b2 32 (karr 80 (kint .u8)) q.2.2] [(1, (ptrB b1 0)), (3, (ptrB b2 0)), (8, ((kint .i64).V q.1))] a w) ?_ k ((0 : Int), p1, (List.replicate 80 (0 : Int))) _ _ h0 (s55.sub (.cons rfl (.cons rfl (.cons rfl .nil))))
  rintro n2 ⟨y9, y10, y11⟩ a56 w56 h19 s56 K17 hK17
  replace h19 : code_Write.l2 k (n2 + 1) y9 y10 y11 = some r := h19; rw [code_Write.l2] at h19
  have h20 := h19; clear h19
  refine wp_seq_k fun K18 hK18 => ?_
  refine wp_region_lit ?_
  refine seq_op s56 rfl rfl (of_decide_eq_true rfl) (ob_lss rfl (.tmp rfl) (opd_int rfl)) fun a57 w57 s57 => ?_; clear s56
  refine wpList_nil ?_
  refine then_normal ?_
  refine hK18 _ _ ?_
  have s58 := s57.sub (.cons (t := 1) rfl (.cons (t := 3) rfl (.cons (t := 8) rfl (.cons (t := 9) rfl .nil)))); clear s57
  refine wp_seq_k fun K19 hK19 => ?_
  refine cond_split s58 (.tmp rfl) (fun hc3 => ?_) (fun hc3 => ?_)
  · replace h20 := ite_t hc3 h20
    have h21 := h20; clear h20
    refine wp_skip ?_
    refine then_normal ?_
    refine hK19 _ _ ?_
    have s59 := s58.sub (.cons (t := 1) rfl (.cons (t := 3) rfl (.cons (t := 8) rfl .nil))); clear s58
    refine wp_seq_k fun K20 hK20 => ?_
    refine wp_block ?_
    refine wp_seq_k fun K21 hK21 => ?_
    refine wp_region_lit ?_
    refine seq_op s59 rfl rfl (of_decide_eq_true rfl) (ob_move rfl (.tmp rfl)) fun a60 w60 s60 => ?_; clear s59
    refine seq_op s60 rfl rfl (of_decide_eq_true rfl) (ob_assign rfl (.tmp rfl)) fun a61 w61 s61 => ?_; clear s60
    refine wpList_nil ?_
    refine then_normal ?_
    refine hK21 _ _ ?_
    have s62 := s61.sub (.cons (t := 1) rfl (.cons (t := 3) rfl (.cons (t := 4) rfl (.cons (t := 8) rfl .nil)))); clear s61
    refine wp_region_lit ?_
    refine seq_op s62 rfl rfl (of_decide_eq_true rfl) (ob_move rfl (.tmp rfl)) fun a63 w63 s63 => ?_; clear s62
    refine seq_op s63 rfl rfl (of_decide_eq_true rfl) (ob_sub rfl (opd_int rfl) (.tmp rfl)) fun a64 w64 s64 => ?_; clear s63
    obtain ⟨x9, e_x9, h22⟩ := bind_some h21; clear h21
    refine seq_opx (B' := (fun _ : Unit => [BF b1 23 (karr 32 (kint .u8)) x9.2, BF b2 32 (karr 80 (kint .u8)) y11])) s64 rfl rfl (of_decide_eq_true rfl) (ob_callL (args := [_]) (L := [_]) rfl .direct hb11 (List.Perm.refl _) (fun a w s fs gs hf hg => by obtain rfl := hf.unnil; obtain rfl := hg.unnil; exact c_code_by10 k _ _ e_x9 _ _ _ _ (ownL s) (disL s) (nodL s) (s.arg (.tmp rfl))) (by exact fun _ => rfl)) fun _ a65 w65 s65 => ?_; clear s64
    obtain ⟨g2, h23⟩ := guard_some h22; clear h22
    refine seq_op s65 rfl rfl (of_decide_eq_true rfl) (ob_indexAddr rfl Tryd.underlying32 sz5 (.tmp rfl) (.tmp rfl) g2.1 g2.2 (Nat.zero_add _)) fun a66 w66 s66 => ?_; clear s65
    obtain ⟨x10, e_x10, h24⟩ := bind_some h23; clear h23
    refine seq_opx0 (B' := (fun _ : Unit => [BF b1 23 (karr 32 (kint .u8)) x9.2, BF b2 32 (karr 80 (kint .u8)) x10])) s66 rfl rfl (ob_store (A := [_]) rfl tk5 (.tmp rfl) (.tmp rfl) rfl (LS.arrS e_x10) rfl) fun _ a67 w67 s67 => ?_; clear s66
    refine wpList_nil ?_
    refine in_normal ?_
    refine then_normal ?_
    refine hK20 _ _ ?_
    have s68 := s67.sub (.cons (t := 1) rfl (.cons (t := 3) rfl (.cons (t := 8) rfl .nil))); clear s67
    refine wp_region_lit ?_
    refine seq_op s68 rfl rfl (of_decide_eq_true rfl) (ob_add rfl (.tmp rfl) (opd_int rfl)) fun a69 w69 s69 => ?_; clear s68
    refine seq_op s69 rfl rfl (of_decide_eq_true rfl) (ob_move rfl (.tmp rfl)) fun a70 w70 s70 => ?_; clear s69
    refine wpList_nil ?_
    refine then_normal ?_
    exact hK17 ((iadd .i64 y9 (1 : Int)), x9.2, x10) _ _ h24 (s70.sub (.cons rfl (.cons rfl (.cons rfl .nil))))
  · replace h20 := ite_f hc3 h20
    have h25 := h20; clear h20
    refine wp_exit ?_
    refine (then_exit (then_exit (in_here ?_)))
    refine then_normal ?_
    have s71 := St.drop (A := []) s58; clear s58
    exact hj1 y11 _ _ h25 (s71.sub (.cons rfl .nil))

/- 22 cabal/code.read -/
theorem c_code_read (k : Nat) (p1 : (List Int)) (r : ((List Int) × Bool)) (h0 : code_read k p1 = some r) (ok : Ok) (w0 : World) (z0 : Value) (u0 : (kstr.V p1).holds ok w0 z0) :
    Gives Tryd.prog 22 [z0] ok w0 (resFact [(karr 80 (kint .u8)).V r.1, kbool.V r.2]) := by
  unfold code_read at h0
  refine enter (N := 58) Tryd.func22 rfl rfl (of_decide_eq_true rfl) (.cons u0 .nil) fun a1 s1 => ?_
  refine wp_seq_k fun K1 hK1 => ?_
  refine wp_region_lit ?_
  refine seq_opx (B' := (fun b1 : Nat => [BF b1 32 (karr 80 (kint .u8)) (List.replicate 80 (0 : Int))])) s1 rfl rfl (of_decide_eq_true rfl) (ob_new (k := (karr 80 (kint .u8))) rfl zz32 (Zr.arr 80 (Zr.int .u8))) fun b1 a2 w2 s2 => ?_; clear s1
  refine seq_op s2 rfl rfl (of_decide_eq_true rfl) (ob_assign rfl opd_bool) fun a3 w3 s3 => ?_; clear s2
  refine wpList_nil ?_
  refine then_normal ?_
  refine hK1 _ _ ?_
  have s4 := s3.sub (.cons (t := 0) rfl (.cons (t := 2) rfl .nil)); clear s3
  refine wp_seq_k fun K2 hK2 => ?_
  refine wp_region_lit ?_
  refine seq_opx (B' := (fun b2 : Nat => [BF b2 32 (karr 80 (kint .u8)) (List.replicate 80 (0 : Int)), BF b1 32 (karr 80 (kint .u8)) (List.replicate 80 (0 : Int))])) s4 rfl rfl (of_decide_eq_true rfl) (ob_new (k := (karr 80 (kint .u8))) rfl zz32 (Zr.arr 80 (Zr.int .u8))) fun b2 a5 w5 s5 => ?_; clear s4
  refine wpList_nil ?_
  refine then_normal ?_
  refine hK2 _ _ ?_
  have s6 := s5.sub (.cons (t := 0) rfl (.cons (t := 2) rfl (.cons (t := 4) rfl .nil))); clear s5
  refine wp_seq_k fun K3 hK3 => ?_
  refine wp_seq_k fun K4 hK4 => ?_
  refine wp_region_lit ?_
  refine seq_op s6 rfl rfl (of_decide_eq_true rfl) (ob_move rfl (.tmp rfl)) fun a7 w7 s7 => ?_; clear s6
  refine seq_op s7 rfl rfl (of_decide_eq_true rfl) (ob_lenStr rfl Tryd.underlying9 (.tmp rfl)) fun a8 w8 s8 => ?_; clear s7
  refine seq_op s8 rfl rfl (of_decide_eq_true rfl) (ob_neq rfl (.tmp rfl) (opd_int rfl)) fun a9 w9 s9 => ?_; clear s8
  refine wpList_nil ?_
  refine then_normal ?_
  refine hK4 _ _ ?_
  have s10 := s9.sub (.cons (t := 0) rfl (.cons (t := 2) rfl (.cons (t := 4) rfl (.cons (t := 10) rfl .nil)))); clear s9
  refine cond_split s10 (.tmp rfl) (fun hc1 => ?_) (fun hc1 => ?_)
  · replace h0 := ite_t hc1 h0
    have h1 := h0; clear h0
    refine wp_seq_k fun K5 hK5 => ?_
    refine wp_region_lit ?_
    refine seq_op s10 rfl rfl (of_decide_eq_true rfl) (ob_load rfl tk32 (.tmp rfl) (.head _) (LG.refl _ _)) fun a11 w11 s11 => ?_; clear s10
    refine seq_opx0 (B' := (fun _ : Unit => [BF b2 32 (karr 80 (kint .u8)) (List.replicate 80 (0 : Int)), BF b1 32 (karr 80 (kint .u8)) (List.replicate 80 (0 : Int))])) s11 rfl rfl (ob_store (A := [_]) rfl tk32 (.tmp rfl) (.tmp rfl) rfl (LS.refl _ _ _) rfl) fun _ a12 w12 s12 => ?_; clear s11
    refine seq_op s12 rfl rfl (of_decide_eq_true rfl) (ob_assign rfl opd_bool) fun a13 w13 s13 => ?_; clear s12
    refine wpList_nil ?_
    refine then_normal ?_
    refine hK5 _ _ ?_
    have s14 := s13.sub (.cons (t := 2) rfl (.cons (t := 3) rfl .nil)); clear s13
    have s15 := St.drop (A := []) s14; clear s14
    refine wp_ret ?_
    obtain rfl := Option.some.inj h1
    exact leave s15 (.inl rfl) rfl (.cons (.cell rfl tk32 (.head _) (LG.refl _ _)) (.cons (.tmp rfl) .nil))
  · replace h0 := ite_f hc1 h0
    have h2 := h0; clear h0
    refine wp_skip ?_
    refine then_normal ?_
    refine hK3 _ _ ?_
    have s16 := s10.sub (.cons (t := 0) rfl (.cons (t := 2) rfl (.cons (t := 4) rfl .nil))); clear s10
    refine wp_seq_k fun K6 hK6 => ?_
    refine wp_seq_k fun K7 hK7 => ?_
    refine wp_region_lit ?_
    refine seq_op s16 rfl rfl (of_decide_eq_true rfl) (ob_move rfl (.tmp rfl)) fun a17 w17 s17 => ?_; clear s16
    refine seq_op s17 rfl rfl (of_decide_eq_true rfl) (ob_lenStr rfl Tryd.underlying9 (.tmp rfl)) fun a18 w18 s18 => ?_; clear s17
    refine seq_op s18 rfl rfl (of_decide_eq_true rfl) (ob_move rfl (opd_int rfl)) fun a19 w19 s19 => ?_; clear s18
    refine wpList_nil ?_
    refine then_normal ?_
    refine hK7 _ _ ?_
    have s20 := s19.sub (.cons (t := 0) rfl (.cons (t := 2) rfl (.cons (t := 4) rfl (.cons (t := 13) rfl (.cons (t := 14) rfl .nil))))); clear s19
    have hj1 : ∀ (y1 : (List Int)) (a : Act) (w : World), (code_read.j1 k) y1 = some r → St ⟨58, w0, ok, []⟩ [BF b1 32 (karr 80 (kint .u8)) (List.replicate 80 (0 : Int)), BF b2 32 (karr 80 (kint .u8)) y1] [(2, (ptrB b1 0)), (4, (ptrB b2 0))] a w → K6 a w := by
      intro y1 a21 w21 h3 s21
      unfold code_read.j1 at h3
      refine hK6 _ _ ?_
      refine wp_seq_k fun K8 hK8 => ?_
      refine wp_region_lit ?_
      refine seq_op s21 rfl rfl (of_decide_eq_true rfl) (ob_load rfl tk32 (.tmp rfl) (.tail _ (.head _)) (LG.refl _ _)) fun a22 w22 s22 => ?_; clear s21
      refine seq_opx0 (B' := (fun _ : Unit => [BF b1 32 (karr 80 (kint .u8)) y1, BF b2 32 (karr 80 (kint .u8)) y1])) s22 rfl rfl (ob_store (A := []) rfl tk32 (.tmp rfl) (.tmp rfl) rfl (LS.refl _ _ _) rfl) fun _ a23 w23 s23 => ?_; clear s22
      refine seq_op s23 rfl rfl (of_decide_eq_true rfl) (ob_assign rfl opd_bool) fun a24 w24 s24 => ?_; clear s23
      refine wpList_nil ?_
      refine then_normal ?_
      refine hK8 _ _ ?_
      have s25 := s24.sub (.cons (t := 2) rfl (.cons (t := 3) rfl .nil)); clear s24
      have s26 := St.drop (A := [_]) s25; clear s25
      refine wp_ret ?_
      obtain rfl := Option.some.inj h3
      exact leave s26 (.inl rfl) rfl (.cons (.cell rfl tk32 (.head _) (LG.refl _ _)) (.cons (.tmp rfl) .nil))
    refine wp_block ?_
    have s27 := s20.perm (toFront [_] (toFront [] (List.Perm.refl _))); clear s20
    refine wp_loop_fuel (fun m (q : Int × (List Int)) => code_read.l1 k p1 m q.1 q.2) r (fun _ => rfl) (fun q a w => St ⟨58, w0, ok, []⟩ [BF b1 32 (karr 80 (kint .u8)) (List.replicate 80 (0 : Int)), BF b2 32 (karr 80 (kint .u8)) q.2] [(0, (kstr.V p1)), (2, (ptrB b1 0)), (4, (ptrB b2 0)), (13, ((kint .i64).V (p1.length : Int))), (14, ((kint .i64).V q.1))] a w) ?_ k ((0 : Int), (List.replicate 80 (0 : Int))) _ _ h2 (s27.sub (.cons rfl (.cons rfl (.cons rfl (.cons rfl (.cons rfl .nil))))))
    rintro n1 ⟨y2, y3⟩ a28 w28 h4 s28 K9 hK9
    replace h4 : code_read.l1 k p1 (n1 + 1) y2 y3 = some r := h4; rw [code_read.l1] at h4
    have h5 := h4; clear h4
    refine wp_seq_k fun K10 hK10 => ?_
    refine wp_region_lit ?_
    refine seq_op s28 rfl rfl (of_decide_eq_true rfl) (ob_lss rfl (.tmp rfl) (.tmp rfl)) fun a29 w29 s29 => ?_; clear s28
    refine wpList_nil ?_
    refine then_normal ?_
    refine hK10 _ _ ?_
    have s30 := s29.sub (.cons (t := 0) rfl (.cons (t := 2) rfl (.cons (t := 4) rfl (.cons (t := 13) rfl (.cons (t := 14) rfl (.cons (t := 15) rfl .nil)))))); clear s29
    refine wp_seq_k fun K11 hK11 => ?_
    refine cond_split s30 (.tmp rfl) (fun hc2 => ?_) (fun hc2 => ?_)
    · replace h5 := ite_t hc2 h5
      have h6 := h5; clear h5
      refine wp_skip ?_
      refine then_normal ?_
      refine hK11 _ _ ?_
      have s31 := s30.sub (.cons (t := 0) rfl (.cons (t := 2) rfl (.cons (t := 4) rfl (.cons (t := 13) rfl (.cons (t := 14) rfl .nil))))); clear s30
      refine wp_seq_k fun K12 hK12 => ?_
      have hj2 : ∀ (y4 : (List Int)) (a : Act) (w : World), (code_read.j2 k y2 (code_read.l1 k p1 n1)) y4 = some r → St ⟨58, w0, ok, []⟩ [BF b1 32 (karr 80 (kint .u8)) (List.replicate 80 (0 : Int)), BF b2 32 (karr 80 (kint .u8)) y4] [(0, (kstr.V p1)), (2, (ptrB b1 0)), (4, (ptrB b2 0)), (13, ((kint .i64).V (p1.length : Int))), (14, ((kint .i64).V y2)), (47, (kbool.V (!((irem y2 (6 : Int)) == (5 : Int)))))] a w → K12 a w := by
        intro y4 a32 w32 h7 s32
        unfold code_read.j2 at h7
        refine hK12 _ _ ?_
        refine wp_region_lit ?_
        refine seq_op s32 rfl rfl (of_decide_eq_true rfl) (ob_add rfl (.tmp rfl) (opd_int rfl)) fun a33 w33 s33 => ?_; clear s32
        refine seq_op s33 rfl rfl (of_decide_eq_true rfl) (ob_move rfl (.tmp rfl)) fun a34 w34 s34 => ?_; clear s33
        refine wpList_nil ?_
        refine then_normal ?_
        exact hK9 ((iadd .i64 y2 (1 : Int)), y4) _ _ h7 (s34.sub (.cons rfl (.cons rfl (.cons rfl (.cons rfl (.cons rfl .nil))))))
      refine wp_block ?_
      refine wp_seq_k fun K13 hK13 => ?_
      refine wp_region_lit ?_
      refine seq_op s31 rfl rfl (of_decide_eq_true rfl) (ob_move rfl (.tmp rfl)) fun a35 w35 s35 => ?_; clear s31
      refine seq_op s35 rfl rfl (of_decide_eq_true rfl) (ob_assign rfl (.tmp rfl)) fun a36 w36 s36 => ?_; clear s35
      refine wpList_nil ?_
      refine then_normal ?_
      refine hK13 _ _ ?_
      have s37 := s36.sub (.cons (t := 0) rfl (.cons (t := 2) rfl (.cons (t := 4) rfl (.cons (t := 5) rfl (.cons (t := 13) rfl (.cons (t := 14) rfl .nil)))))); clear s36
      refine wp_seq_k fun K14 hK14 => ?_
      refine wp_region_lit ?_
      refine seq_op s37 rfl rfl (of_decide_eq_true rfl) (ob_move rfl (.tmp rfl)) fun a38 w38 s38 => ?_; clear s37
      refine seq_op s38 rfl rfl (of_decide_eq_true rfl) (ob_move rfl (.tmp rfl)) fun a39 w39 s39 => ?_; clear s38
      refine seq_op s39 rfl rfl (of_decide_eq_true rfl) (ob_quo rfl (.tmp rfl) (opd_int rfl) (by decide)) fun a40 w40 s40 => ?_; clear s39
      refine seq_op s40 rfl rfl (of_decide_eq_true rfl) (ob_sub rfl (.tmp rfl) (.tmp rfl)) fun a41 w41 s41 => ?_; clear s40
      refine seq_op s41 rfl rfl (of_decide_eq_true rfl) (ob_move rfl (.tmp rfl)) fun a42 w42 s42 => ?_; clear s41
      refine seq_op s42 rfl rfl (of_decide_eq_true rfl) (ob_rem rfl (.tmp rfl) (opd_int rfl) (by decide)) fun a43 w43 s43 => ?_; clear s42
      refine seq_op s43 rfl rfl (of_decide_eq_true rfl) (ob_eql rfl (.tmp rfl) (opd_int rfl)) fun a44 w44 s44 => ?_; clear s43
      refine seq_op s44 rfl rfl (of_decide_eq_true rfl) (ob_assign rfl (.tmp rfl)) fun a45 w45 s45 => ?_; clear s44
      refine seq_op s45 rfl rfl (of_decide_eq_true rfl) (ob_assign rfl (.tmp rfl)) fun a46 w46 s46 => ?_; clear s45
      refine wpList_nil ?_
      refine then_normal ?_
      refine hK14 _ _ ?_
      have s47 := s46.sub (.cons (t := 0) rfl (.cons (t := 2) rfl (.cons (t := 4) rfl (.cons (t := 5) rfl (.cons (t := 6) rfl (.cons (t := 7) rfl (.cons (t := 13) rfl (.cons (t := 14) rfl .nil)))))))); clear s46
      refine wp_block ?_
      refine wp_seq_k fun K15 hK15 => ?_
      refine wp_seq_k fun K16 hK16 => ?_
      refine wp_region_lit ?_
      refine seq_op s47 rfl rfl (of_decide_eq_true rfl) (ob_move rfl (.tmp rfl)) fun a48 w48 s48 => ?_; clear s47
      refine seq_op s48 rfl rfl (of_decide_eq_true rfl) (ob_move rfl (.tmp rfl)) fun a49 w49 s49 => ?_; clear s48
      refine seq_opg s49 rfl rfl rfl rfl (of_decide_eq_true rfl) (fun hb => ob_move rfl (.tmp rfl)) fun a50 w50 s50 => ?_; clear s49
      refine seq_opg s50 rfl rfl rfl rfl (of_decide_eq_true rfl) (fun hb => ob_move rfl (.tmp rfl)) fun a51 w51 s51 => ?_; clear s50
      obtain ⟨x1, e_x1, h8⟩ := bind_some h6; clear h6
      refine seq_opg s51 rfl rfl rfl rfl (of_decide_eq_true rfl) (fun hb => (Ob.uncond (t := 28) hb rfl ((Ob.uncond (t := 27) hb rfl (ob_indexStr rfl Tryd.underlying9 (.tmp rfl) (.tmp rfl) (ite_t hb e_x1)))))) fun a52 w52 s52 => ?_; clear s51
      refine seq_opg s52 rfl rfl rfl rfl (of_decide_eq_true rfl) (fun hb => (Ob.uncond (t := 29) hb rfl (ob_neq rfl (.tmp rfl) (opd_int rfl)))) fun a53 w53 s53 => ?_; clear s52
      obtain ⟨x2, e_x2, h9⟩ := bind_some h8; clear h8; replace e_x2 := Option.some.inj e_x2
      refine seq_op s53 rfl rfl (of_decide_eq_true rfl) ((ob_and2 rfl (.tmp rfl) (.tmp rfl) opd_bool).nm e_x2) fun a54 w54 s54 => ?_; clear s53
      refine seq_op s54 rfl rfl (of_decide_eq_true rfl) (ob_assign rfl (.tmp rfl)) fun a55 w55 s55 => ?_; clear s54
      refine wpList_nil ?_
      refine then_normal ?_
      refine hK16 _ _ ?_
      have s56 := s55.sub (.cons (t := 0) rfl (.cons (t := 2) rfl (.cons (t := 4) rfl (.cons (t := 5) rfl (.cons (t := 6) rfl (.cons (t := 7) rfl (.cons (t := 13) rfl (.cons (t := 14) rfl (.cons (t := 24) rfl .nil))))))))); clear s55
      have hj3 : ∀ (y5 : Bool) (a : Act) (w : World), (code_read.j3 k y3 y2 p1 (code_read.l1 k p1 n1)) y5 = some r → St ⟨58, w0, ok, []⟩ [BF b1 32 (karr 80 (kint .u8)) (List.replicate 80 (0 : Int)), BF b2 32 (karr 80 (kint .u8)) y3] [(0, (kstr.V p1)), (2, (ptrB b1 0)), (4, (ptrB b2 0)), (5, ((kint .i64).V y2)), (6, ((kint .i64).V (isub .i64 y2 (iquo .i64 y2 (6 : Int))))), (7, (kbool.V ((irem y2 (6 : Int)) == (5 : Int)))), (13, ((kint .i64).V (p1.length : Int))), (14, ((kint .i64).V y2)), (24, (kbool.V y5))] a w → K15 a w := by
        intro y5 a57 w57 h10 s57
        unfold code_read.j3 at h10
        refine hK15 _ _ ?_
        refine cond_split s57 (.tmp rfl) (fun hc3 => ?_) (fun hc3 => ?_)
        · replace h10 := ite_t hc3 h10
          have h11 := h10; clear h10
          refine wp_seq_k fun K17 hK17 => ?_
          refine wp_region_lit ?_
          refine seq_op s57 rfl rfl (of_decide_eq_true rfl) (ob_load rfl tk32 (.tmp rfl) (.tail _ (.head _)) (LG.refl _ _)) fun a58 w58 s58 => ?_; clear s57
          refine seq_opx0 (B' := (fun _ : Unit => [BF b1 32 (karr 80 (kint .u8)) y3, BF b2 32 (karr 80 (kint .u8)) y3])) s58 rfl rfl (ob_store (A := []) rfl tk32 (.tmp rfl) (.tmp rfl) rfl (LS.refl _ _ _) rfl) fun _ a59 w59 s59 => ?_; clear s58
          refine seq_op s59 rfl rfl (of_decide_eq_true rfl) (ob_assign rfl opd_bool) fun a60 w60 s60 => ?_; clear s59
          refine wpList_nil ?_
          refine then_normal ?_
          refine hK17 _ _ ?_
          have s61 := s60.sub (.cons (t := 2) rfl (.cons (t := 3) rfl .nil)); clear s60
          have s62 := St.drop (A := [_]) s61; clear s61
          refine wp_ret ?_
          obtain rfl := Option.some.inj h11
          exact leave s62 (.inl rfl) rfl (.cons (.cell rfl tk32 (.head _) (LG.refl _ _)) (.cons (.tmp rfl) .nil))
        · replace h10 := ite_f hc3 h10
          have h12 := h10; clear h10
          refine wp_seq_k fun K18 hK18 => ?_
          refine wp_region_lit ?_
          refine seq_op s57 rfl rfl (of_decide_eq_true rfl) (ob_move rfl (.tmp rfl)) fun a63 w63 s63 => ?_; clear s57
          refine seq_op s63 rfl rfl (of_decide_eq_true rfl) (ob_not rfl (.tmp rfl)) fun a64 w64 s64 => ?_; clear s63
          refine seq_op s64 rfl rfl (of_decide_eq_true rfl) (ob_assign rfl (.tmp rfl)) fun a65 w65 s65 => ?_; clear s64
          refine wpList_nil ?_
          refine then_normal ?_
          refine hK18 _ _ ?_
          have s66 := s65.sub (.cons (t := 0) rfl (.cons (t := 2) rfl (.cons (t := 4) rfl (.cons (t := 5) rfl (.cons (t := 6) rfl (.cons (t := 13) rfl (.cons (t := 14) rfl (.cons (t := 47) rfl .nil)))))))); clear s65
          refine cond_split s66 (.tmp rfl) (fun hc4 => ?_) (fun hc4 => ?_)
          · replace h12 := ite_t hc4 h12
            have h13 := h12; clear h12
            refine wp_region_lit ?_
            refine seq_op s66 rfl rfl (of_decide_eq_true rfl) (ob_move rfl (.tmp rfl)) fun a67 w67 s67 => ?_; clear s66
            refine seq_op s67 rfl rfl (of_decide_eq_true rfl) (ob_move rfl (.tmp rfl)) fun a68 w68 s68 => ?_; clear s67
            refine seq_op s68 rfl rfl (of_decide_eq_true rfl) (ob_move rfl (.tmp rfl)) fun a69 w69 s69 => ?_; clear s68
            obtain ⟨x3, e_x3, h14⟩ := bind_some h13; clear h13
            refine seq_op s69 rfl rfl (of_decide_eq_true rfl) (ob_indexStr rfl Tryd.underlying9 (.tmp rfl) (.tmp rfl) e_x3) fun a70 w70 s70 => ?_; clear s69
            refine seq_op s70 rfl rfl (of_decide_eq_true rfl) (ob_sub rfl (.tmp rfl) (opd_int rfl)) fun a71 w71 s71 => ?_; clear s70
            obtain ⟨g1, h15⟩ := guard_some h14; clear h14
            refine seq_op s71 rfl rfl (of_decide_eq_true rfl) (ob_indexAddr rfl Tryd.underlying32 sz5 (.tmp rfl) (.tmp rfl) g1.1 g1.2 (Nat.zero_add _)) fun a72 w72 s72 => ?_; clear s71
            obtain ⟨x4, e_x4, h16⟩ := bind_some h15; clear h15
            refine seq_opx0 (B' := (fun _ : Unit => [BF b1 32 (karr 80 (kint .u8)) (List.replicate 80 (0 : Int)), BF b2 32 (karr 80 (kint .u8)) x4])) s72 rfl rfl (ob_store (A := [_]) rfl tk5 (.tmp rfl) (.tmp rfl) rfl (LS.arrS e_x4) rfl) fun _ a73 w73 s73 => ?_; clear s72
            refine wpList_nil ?_
            refine in_normal ?_
            refine in_normal ?_
            refine then_normal ?_
            exact hj2 x4 _ _ h16 (s73.sub (.cons rfl (.cons rfl (.cons rfl (.cons rfl (.cons rfl (.cons rfl .nil)))))))
          · replace h12 := ite_f hc4 h12
            have h17 := h12; clear h12
            refine wp_skip ?_
            refine in_normal ?_
            refine in_normal ?_
            refine then_normal ?_
            exact hj2 y3 _ _ h17 (s66.sub (.cons rfl (.cons rfl (.cons rfl (.cons rfl (.cons rfl (.cons rfl .nil)))))))
      refine cond_split s56 (.tmp rfl) (fun hc5 => ?_) (fun hc5 => ?_)
      · replace h9 := ite_t hc5 h9
        have h18 := h9; clear h9
        refine wp_skip ?_
        refine then_normal ?_
        exact hj3 x2 _ _ h18 (s56.sub (.cons rfl (.cons rfl (.cons rfl (.cons rfl (.cons rfl (.cons rfl (.cons rfl (.cons rfl (.cons rfl .nil))))))))))
      · replace h9 := ite_f hc5 h9
        have h19 := h9; clear h9
        refine wp_region_lit ?_
        refine seq_op s56 rfl rfl (of_decide_eq_true rfl) (ob_move rfl (.tmp rfl)) fun a74 w74 s74 => ?_; clear s56
        refine seq_op s74 rfl rfl (of_decide_eq_true rfl) (ob_not rfl (.tmp rfl)) fun a75 w75 s75 => ?_; clear s74
        refine seq_op s75 rfl rfl (of_decide_eq_true rfl) (ob_move rfl (.tmp rfl)) fun a76 w76 s76 => ?_; clear s75
        refine seq_opg s76 rfl rfl rfl rfl (of_decide_eq_true rfl) (fun hb => ob_move rfl (.tmp rfl)) fun a77 w77 s77 => ?_; clear s76
        refine seq_opg s77 rfl rfl rfl rfl (of_decide_eq_true rfl) (fun hb => ob_move rfl (.tmp rfl)) fun a78 w78 s78 => ?_; clear s77
        obtain ⟨x5, e_x5, h20⟩ := bind_some h19; clear h19
        refine seq_opg s78 rfl rfl rfl rfl (of_decide_eq_true rfl) (fun hb => (Ob.uncond (t := 36) hb rfl ((Ob.uncond (t := 35) hb rfl (ob_indexStr rfl Tryd.underlying9 (.tmp rfl) (.tmp rfl) (ite_t hb e_x5)))))) fun a79 w79 s79 => ?_; clear s78
        refine seq_opg s79 rfl rfl rfl rfl (of_decide_eq_true rfl) (fun hb => (Ob.uncond (t := 37) hb rfl (ob_lss rfl (.tmp rfl) (opd_int rfl)))) fun a80 w80 s80 => ?_; clear s79
        refine seq_opg s80 rfl rfl rfl rfl (of_decide_eq_true rfl) (fun hb => (Ob.uncond (t := 38) hb rfl (ob_move rfl (.tmp rfl)))) fun a81 w81 s81 => ?_; clear s80
        refine seq_opg2 s81 rfl rfl rfl rfl (of_decide_eq_true rfl) (fun hb => ob_move rfl (.tmp rfl)) fun a82 w82 s82 => ?_; clear s81
        refine seq_opg2 s82 rfl rfl rfl rfl (of_decide_eq_true rfl) (fun hb => ob_move rfl (.tmp rfl)) fun a83 w83 s83 => ?_; clear s82
        obtain ⟨x6, e_x6, h21⟩ := bind_some h20; clear h20
        refine seq_opg2 s83 rfl rfl rfl rfl (of_decide_eq_true rfl) (fun hb => (Ob.uncond (t := 41) hb rfl ((Ob.uncond (t := 40) hb rfl (ob_indexStr rfl Tryd.underlying9 (.tmp rfl) (.tmp rfl) (ite_t hb e_x6)))))) fun a84 w84 s84 => ?_; clear s83
        refine seq_opg2 s84 rfl rfl rfl rfl (of_decide_eq_true rfl) (fun hb => (Ob.uncond (t := 42) hb rfl (ob_gtr rfl (.tmp rfl) (opd_int rfl)))) fun a85 w85 s85 => ?_; clear s84
        obtain ⟨x7, e_x7, h22⟩ := bind_some h21; clear h21; replace e_x7 := Option.some.inj e_x7
        refine seq_opg s85 rfl rfl rfl rfl (of_decide_eq_true rfl) (fun hb => (Ob.uncond (t := 39) hb rfl ((ob_or3 hb rfl (.tmp rfl) opd_bool (.tmp rfl)).nm e_x7))) fun a86 w86 s86 => ?_; clear s85
        refine seq_op s86 rfl rfl (of_decide_eq_true rfl) (ob_and2 rfl (.tmp rfl) (.tmp rfl) opd_bool) fun a87 w87 s87 => ?_; clear s86
        refine seq_op s87 rfl rfl (of_decide_eq_true rfl) (ob_assign rfl (.tmp rfl)) fun a88 w88 s88 => ?_; clear s87
        refine wpList_nil ?_
        refine then_normal ?_
        exact hj3 (if (!((irem y2 (6 : Int)) == (5 : Int))) then x7 else false) _ _ h22 (s88.sub (.cons rfl (.cons rfl (.cons rfl (.cons rfl (.cons rfl (.cons rfl (.cons rfl (.cons rfl (.cons rfl .nil))))))))))
    · replace h5 := ite_f hc2 h5
      have h23 := h5; clear h5
      refine wp_exit ?_
      refine (then_exit (then_exit (in_here ?_)))
      refine then_normal ?_
      exact hj1 y3 _ _ h23 (s30.sub (.cons rfl (.cons rfl .nil)))

/- 23 cabal/code.times10 -/
theorem c_code_times10 (k : Nat) (p1 : (List Int)) (p2 : Int) (r : (Bool × (List Int))) (h0 : code_times10 k p1 p2 = some r) (ok : Ok) (w0 : World) (z0 : Value) (z1 : Value) (b00 : Nat) (l0 : ∀ q, q ∈ [BF b00 23 (karr 32 (kint .u8)) p1] → q.holds ok w0) (d0 : ∀ c, c ∈ idsOf [BF b00 23 (karr 32 (kint .u8)) p1] → ¬ ok c) (nd : (idsOf [BF b00 23 (karr 32 (kint .u8)) p1]).Nodup) (u0 : (ptrB b00 0).holds ok w0 z0) (u1 : ((kint .u8).V p2).holds ok w0 z1) :
    GivesX Tryd.prog 23 [z0, z1] ok w0 [BF b00 23 (karr 32 (kint .u8)) p1] (fun g : Unit => resFact [kbool.V r.1]) (fun g : Unit => [BF b00 23 (karr 32 (kint .u8)) r.2]) := by
  unfold code_times10 at h0
  refine enterX (N := 32) Tryd.func23 rfl rfl (of_decide_eq_true rfl) (.cons u0 (.cons u1 .nil)) nd l0 d0 fun a1 s1 => ?_
  refine wp_seq_k fun K1 hK1 => ?_
  refine wp_region_lit ?_
  refine seq_op s1 rfl rfl (of_decide_eq_true rfl) (ob_assign rfl opd_bool) fun a2 w2 s2 => ?_; clear s1
  refine wpList_nil ?_
  refine then_normal ?_
  refine hK1 _ _ ?_
  have s3 := s2.sub (.cons (t := 0) rfl (.cons (t := 1) rfl .nil)); clear s2
  refine wp_seq_k fun K2 hK2 => ?_
  refine wp_region_lit ?_
  refine seq_op s3 rfl rfl (of_decide_eq_true rfl) (ob_move rfl (.tmp rfl)) fun a4 w4 s4 => ?_; clear s3
  refine seq_op s4 rfl rfl (of_decide_eq_true rfl) (ob_conv rfl _ Tryd.underlying5 Tryd.underlying3 (.tmp rfl)) fun a5 w5 s5 => ?_; clear s4
  refine seq_op s5 rfl rfl (of_decide_eq_true rfl) (ob_assign rfl (.tmp rfl)) fun a6 w6 s6 => ?_; clear s5
  refine wpList_nil ?_
  refine then_normal ?_
  refine hK2 _ _ ?_
  have s7 := s6.sub (.cons (t := 0) rfl (.cons (t := 5) rfl .nil)); clear s6
  refine wp_seq_k fun K3 hK3 => ?_
  refine wp_seq_k fun K4 hK4 => ?_
  refine wp_region_lit ?_
  refine seq_op s7 rfl rfl (of_decide_eq_true rfl) (ob_assign rfl (opd_int rfl)) fun a8 w8 s8 => ?_; clear s7
  refine wpList_nil ?_
  refine then_normal ?_
  refine hK4 _ _ ?_
  have s9 := s8.sub (.cons (t := 0) rfl (.cons (t := 5) rfl (.cons (t := 6) rfl .nil))); clear s8
  have hj1 : ∀ (y1 : Int) (y2 : (List Int)) (a : Act) (w : World), (code_times10.j1 k) y1 y2 = some r → St ⟨32, w0, ok, (idsOf [BF b00 23 (karr 32 (kint .u8)) p1])⟩ [BF b00 23 (karr 32 (kint .u8)) y2] [(5, ((kint .i64).V y1))] a w → K3 a w := by
    intro y1 y2 a10 w10 h1 s10
    unfold code_times10.j1 at h1
    refine hK3 _ _ ?_
    refine wp_seq_k fun K5 hK5 => ?_
    refine wp_region_lit ?_
    refine seq_op s10 rfl rfl (of_decide_eq_true rfl) (ob_move rfl (.tmp rfl)) fun a11 w11 s11 => ?_; clear s10
    refine seq_op s11 rfl rfl (of_decide_eq_true rfl) (ob_eql rfl (.tmp rfl) (opd_int rfl)) fun a12 w12 s12 => ?_; clear s11
    refine seq_op s12 rfl rfl (of_decide_eq_true rfl) (ob_assign rfl (.tmp rfl)) fun a13 w13 s13 => ?_; clear s12
    refine wpList_nil ?_
    refine then_normal ?_
    refine hK5 _ _ ?_
    have s14 := s13.sub (.cons (t := 4) rfl .nil); clear s13
    refine wp_ret ?_
    obtain rfl := Option.some.inj h1
    exact leaveXD (D := []) () s14 rfl (.inl rfl) rfl (.cons (.tmp rfl) .nil) rfl
  refine wp_block ?_
  refine wp_loop_fuel (fun m (q : Int × Int × (List Int)) => code_times10.l1 k m q.1 q.2.1 q.2.2) r (fun _ => rfl) (fun q a w => St ⟨32, w0, ok, (idsOf [BF b00 23 (karr 32 (kint .u8)) p1])⟩ [BF b00 23 (karr 32 (kint .u8)) q.2.2] [(0, (ptrB b00 0)), (5, ((kint .i64).V q.1)), (6, ((kint .i64).V q.2.1))] a w) ?_ k ((IntKind.wrap .i64 p2), (31 : Int), p1) _ _ h0 (s9.sub (.cons rfl (.cons rfl (.cons rfl .nil))))
  rintro n1 ⟨y3, y4, y5⟩ a15 w15 h2 s15 K6 hK6
  replace h2 : code_times10.l1 k (n1 + 1) y3 y4 y5 = some r := h2; rw [code_times10.l1] at h2
  have h3 := h2; clear h2
  refine wp_seq_k fun K7 hK7 => ?_
  refine wp_seq_k fun K8 hK8 => ?_
  refine wp_region_lit ?_
  refine seq_op s15 rfl rfl (of_decide_eq_true rfl) (ob_move rfl (.tmp rfl)) fun a16 w16 s16 => ?_; clear s15
  refine seq_op s16 rfl rfl (of_decide_eq_true rfl) (ob_geq rfl (.tmp rfl) (opd_int rfl)) fun a17 w17 s17 => ?_; clear s16
  refine wpList_nil ?_
  refine then_normal ?_
  refine hK8 _ _ ?_
  have s18 := s17.sub (.cons (t := 0) rfl (.cons (t := 5) rfl (.cons (t := 6) rfl (.cons (t := 10) rfl .nil)))); clear s17
  refine cond_split s18 (.tmp rfl) (fun hc1 => ?_) (fun hc1 => ?_)
  · replace h3 := ite_t hc1 h3
    have h4 := h3; clear h3
    refine wp_skip ?_
    refine then_normal ?_
    refine hK7 _ _ ?_
    have s19 := s18.sub (.cons (t := 0) rfl (.cons (t := 5) rfl (.cons (t := 6) rfl .nil))); clear s18
    refine wp_seq_k fun K9 hK9 => ?_
    refine wp_block ?_
    refine wp_seq_k fun K10 hK10 => ?_
    refine wp_region_lit ?_
    refine seq_op s19 rfl rfl (of_decide_eq_true rfl) (ob_move rfl (.tmp rfl)) fun a20 w20 s20 => ?_; clear s19
    refine seq_op s20 rfl rfl (of_decide_eq_true rfl) (ob_move rfl (.tmp rfl)) fun a21 w21 s21 => ?_; clear s20
    refine seq_op s21 rfl rfl (of_decide_eq_true rfl) (ob_move rfl (.tmp rfl)) fun a22 w22 s22 => ?_; clear s21
    refine seq_op s22 rfl rfl (of_decide_eq_true rfl) (ob_nilCheck rfl (.tmp rfl)) fun a23 w23 s23 => ?_; clear s22
    obtain ⟨g1, h5⟩ := guard_some h4; clear h4
    refine seq_op s23 rfl rfl (of_decide_eq_true rfl) (ob_indexAddr rfl Tryd.underlying23 sz5 (.tmp rfl) (.tmp rfl) g1.1 g1.2 (Nat.zero_add _)) fun a24 w24 s24 => ?_; clear s23
    obtain ⟨x1, e_x1, h6⟩ := bind_some h5; clear h5
    refine seq_op s24 rfl rfl (of_decide_eq_true rfl) (ob_load rfl tk5 (.tmp rfl) (.head _) (LG.arrA e_x1)) fun a25 w25 s25 => ?_; clear s24
    refine seq_op s25 rfl rfl (of_decide_eq_true rfl) (ob_conv rfl _ Tryd.underlying5 Tryd.underlying3 (.tmp rfl)) fun a26 w26 s26 => ?_; clear s25
    refine seq_op s26 rfl rfl (of_decide_eq_true rfl) (ob_mul rfl (opd_int rfl) (.tmp rfl)) fun a27 w27 s27 => ?_; clear s26
    refine seq_op s27 rfl rfl (of_decide_eq_true rfl) (ob_add rfl (.tmp rfl) (.tmp rfl)) fun a28 w28 s28 => ?_; clear s27
    refine seq_op s28 rfl rfl (of_decide_eq_true rfl) (ob_assign rfl (.tmp rfl)) fun a29 w29 s29 => ?_; clear s28
    refine wpList_nil ?_
    refine then_normal ?_
    refine hK10 _ _ ?_
    have s30 := s29.sub (.cons (t := 0) rfl (.cons (t := 5) rfl (.cons (t := 6) rfl .nil))); clear s29
    refine wp_seq_k fun K11 hK11 => ?_
    refine wp_region_lit ?_
    refine seq_op s30 rfl rfl (of_decide_eq_true rfl) (ob_move rfl (.tmp rfl)) fun a31 w31 s31 => ?_; clear s30
    refine seq_op s31 rfl rfl (of_decide_eq_true rfl) (ob_move rfl (.tmp rfl)) fun a32 w32 s32 => ?_; clear s31
    refine seq_op s32 rfl rfl (of_decide_eq_true rfl) (ob_move rfl (.tmp rfl)) fun a33 w33 s33 => ?_; clear s32
    obtain ⟨x2, e_x2, h7⟩ := bind_some h6; clear h6; replace e_x2 := Option.some.inj e_x2
    refine seq_op s33 rfl rfl (of_decide_eq_true rfl) ((ob_conv rfl _ Tryd.underlying3 Tryd.underlying5 (.tmp rfl)).nm e_x2) fun a34 w34 s34 => ?_; clear s33
    refine seq_op s34 rfl rfl (of_decide_eq_true rfl) (ob_nilCheck rfl (.tmp rfl)) fun a35 w35 s35 => ?_; clear s34
    obtain ⟨g2, h8⟩ := guard_some h7; clear h7
    refine seq_op s35 rfl rfl (of_decide_eq_true rfl) (ob_indexAddr rfl Tryd.underlying23 sz5 (.tmp rfl) (.tmp rfl) g2.1 g2.2 (Nat.zero_add _)) fun a36 w36 s36 => ?_; clear s35
    obtain ⟨x3, e_x3, h9⟩ := bind_some h8; clear h8
    refine seq_opx0 (B' := (fun _ : Unit => [BF b00 23 (karr 32 (kint .u8)) x3])) s36 rfl rfl (ob_store (A := []) rfl tk5 (.tmp rfl) (.tmp rfl) rfl (LS.arrS e_x3) rfl) fun _ a37 w37 s37 => ?_; clear s36
    refine wpList_nil ?_
    refine then_normal ?_
    refine hK11 _ _ ?_
    have s38 := s37.sub (.cons (t := 0) rfl (.cons (t := 5) rfl (.cons (t := 6) rfl .nil))); clear s37
    refine wp_region_lit ?_
    refine seq_op s38 rfl rfl (of_decide_eq_true rfl) (ob_move rfl (.tmp rfl)) fun a39 w39 s39 => ?_; clear s38
    obtain ⟨x4, e_x4, h10⟩ := bind_some h9; clear h9; replace e_x4 := Option.some.inj e_x4
    refine seq_op s39 rfl rfl (of_decide_eq_true rfl) ((ob_shr rfl (.tmp rfl) (opd_int rfl) (by decide)).nm e_x4) fun a40 w40 s40 => ?_; clear s39
    refine seq_op s40 rfl rfl (of_decide_eq_true rfl) (ob_assign rfl (.tmp rfl)) fun a41 w41 s41 => ?_; clear s40
    refine wpList_nil ?_
    refine in_normal ?_
    refine then_normal ?_
    refine hK9 _ _ ?_
    have s42 := s41.sub (.cons (t := 0) rfl (.cons (t := 5) rfl (.cons (t := 6) rfl .nil))); clear s41
    refine wp_region_lit ?_
    refine seq_op s42 rfl rfl (of_decide_eq_true rfl) (ob_move rfl (.tmp rfl)) fun a43 w43 s43 => ?_; clear s42
    refine seq_op s43 rfl rfl (of_decide_eq_true rfl) (ob_sub rfl (.tmp rfl) (opd_int rfl)) fun a44 w44 s44 => ?_; clear s43
    refine seq_op s44 rfl rfl (of_decide_eq_true rfl) (ob_assign rfl (.tmp rfl)) fun a45 w45 s45 => ?_; clear s44
    refine wpList_nil ?_
    refine then_normal ?_
    exact hK6 (x4, (isub .i64 y4 (1 : Int)), x3) _ _ h10 (s45.sub (.cons rfl (.cons rfl (.cons rfl .nil))))
  · replace h3 := ite_f hc1 h3
    have h11 := h3; clear h3
    refine wp_exit ?_
    refine (then_exit (then_exit (in_here ?_)))
    refine then_normal ?_
    exact hj1 y3 y5 _ _ h11 (s18.sub (.cons rfl .nil))

/- 10 cabal/code.Read -/
theorem c_code_Read (k : Nat) (p1 : (List Int)) (r : ((List Int) × Int)) (h0 : code_Read k p1 = some r) (ok : Ok) (w0 : World) (z0 : Value) (u0 : (kstr.V p1).holds ok w0 z0) :
    Gives Tryd.prog 10 [z0] ok w0 (resFact [(karr 32 (kint .u8)).V r.1, (kint .i64).V r.2]) := by
  unfold code_Read at h0
  refine enter (N := 46) Tryd.func10 rfl rfl (of_decide_eq_true rfl) (.cons u0 .nil) fun a1 s1 => ?_
  refine wp_seq_k fun K1 hK1 => ?_
  refine wp_region_lit ?_
  refine seq_opx (B' := (fun b1 : Nat => [BF b1 23 (karr 32 (kint .u8)) (List.replicate 32 (0 : Int))])) s1 rfl rfl (of_decide_eq_true rfl) (ob_new (k := (karr 32 (kint .u8))) rfl zz23 (Zr.arr 32 (Zr.int .u8))) fun b1 a2 w2 s2 => ?_; clear s1
  refine seq_op s2 rfl rfl (of_decide_eq_true rfl) (ob_assign rfl (opd_int rfl)) fun a3 w3 s3 => ?_; clear s2
  refine wpList_nil ?_
  refine then_normal ?_
  refine hK1 _ _ ?_
  have s4 := s3.sub (.cons (t := 0) rfl (.cons (t := 2) rfl .nil)); clear s3
  refine wp_seq_k fun K2 hK2 => ?_
  refine wp_region_lit ?_
  refine seq_op s4 rfl rfl (of_decide_eq_true rfl) (ob_move rfl (.tmp rfl)) fun a5 w5 s5 => ?_; clear s4
  obtain ⟨x1, e_x1, h1⟩ := bind_some h0; clear h0
  refine seq_op s5 rfl rfl (of_decide_eq_true rfl) (ob_callD (args := [_]) rfl .direct hb22 (fun a w s fs gs hf hg => by obtain rfl := hf.unnil; obtain rfl := hg.unnil; exact c_code_read k _ _ e_x1 _ _ _ (s.arg (.tmp rfl)))) fun a6 w6 s6 => ?_; clear s5
  refine seq_op s6 rfl rfl (of_decide_eq_true rfl) (ob_move rfl (.tmp rfl)) fun a7 w7 s7 => ?_; clear s6
  refine seq_op s7 rfl rfl (of_decide_eq_true rfl) (ob_extract rfl (.tmp rfl) rfl) fun a8 w8 s8 => ?_; clear s7
  refine seq_op s8 rfl rfl (of_decide_eq_true rfl) (ob_extract rfl (.tmp rfl) rfl) fun a9 w9 s9 => ?_; clear s8
  refine seq_opx (B' := (fun b2 : Nat => [BF b2 32 (karr 80 (kint .u8)) (List.replicate 80 (0 : Int)), BF b1 23 (karr 32 (kint .u8)) (List.replicate 32 (0 : Int))])) s9 rfl rfl (of_decide_eq_true rfl) (ob_new (k := (karr 80 (kint .u8))) rfl zz32 (Zr.arr 80 (Zr.int .u8))) fun b2 a10 w10 s10 => ?_; clear s9
  refine seq_opx0 (B' := (fun _ : Unit => [BF b2 32 (karr 80 (kint .u8)) x1.1, BF b1 23 (karr 32 (kint .u8)) (List.replicate 32 (0 : Int))])) s10 rfl rfl (ob_store (A := []) rfl tk32 (.tmp rfl) (.tmp rfl) rfl (LS.refl _ _ _) rfl) fun _ a11 w11 s11 => ?_; clear s10
  refine seq_op s11 rfl rfl (of_decide_eq_true rfl) (ob_assign rfl (.tmp rfl)) fun a12 w12 s12 => ?_; clear s11
  refine wpList_nil ?_
  refine then_normal ?_
  refine hK2 _ _ ?_
  have s13 := s12.sub (.cons (t := 2) rfl (.cons (t := 4) rfl (.cons (t := 5) rfl .nil))); clear s12
  refine wp_seq_k fun K3 hK3 => ?_
  refine wp_seq_k fun K4 hK4 => ?_
  refine wp_region_lit ?_
  refine seq_op s13 rfl rfl (of_decide_eq_true rfl) (ob_move rfl (.tmp rfl)) fun a14 w14 s14 => ?_; clear s13
  refine seq_op s14 rfl rfl (of_decide_eq_true rfl) (ob_not rfl (.tmp rfl)) fun a15 w15 s15 => ?_; clear s14
  refine wpList_nil ?_
  refine then_normal ?_
  refine hK4 _ _ ?_
  have s16 := s15.sub (.cons (t := 2) rfl (.cons (t := 4) rfl (.cons (t := 17) rfl .nil))); clear s15
  refine cond_split s16 (.tmp rfl) (fun hc1 => ?_) (fun hc1 => ?_)
  · replace h1 := ite_t hc1 h1
    have h2 := h1; clear h1
    refine wp_seq_k fun K5 hK5 => ?_
    refine wp_region_lit ?_
    obtain ⟨x2, e_x2, h3⟩ := bind_some h2; clear h2; replace e_x2 := Option.some.inj e_x2
    refine seq_op s16 rfl rfl (of_decide_eq_true rfl) (((ob_mkArr (k := (kint .u8)) rfl Tryd.underlying23 zz23 sz5 (Zr.arr 32 (Zr.int .u8)) (.nil _) : Ob _ _ _ _ _ ((karr 32 (kint .u8)).V ([(0 : Int), (0 : Int), (0 : Int), (0 : Int), (0 : Int), (0 : Int), (0 : Int), (0 : Int), (0 : Int), (0 : Int), (0 : Int), (0 : Int), (0 : Int), (0 : Int), (0 : Int), (0 : Int), (0 : Int), (0 : Int), (0 : Int), (0 : Int), (0 : Int), (0 : Int), (0 : Int), (0 : Int), (0 : Int), (0 : Int), (0 : Int), (0 : Int), (0 : Int), (0 : Int), (0 : Int), (0 : Int)] : (List Int))))).nm e_x2) fun a17 w17 s17 => ?_; clear s16
    refine seq_opx0 (B' := (fun _ : Unit => [BF b2 32 (karr 80 (kint .u8)) x1.1, BF b1 23 (karr 32 (kint .u8)) x2])) s17 rfl rfl (ob_store (A := [_]) rfl tk23 (.tmp rfl) (.tmp rfl) rfl (LS.refl _ _ _) rfl) fun _ a18 w18 s18 => ?_; clear s17
    refine seq_op s18 rfl rfl (of_decide_eq_true rfl) (ob_assign rfl (opd_int rfl)) fun a19 w19 s19 => ?_; clear s18
    refine wpList_nil ?_
    refine then_normal ?_
    refine hK5 _ _ ?_
    have s20 := s19.sub (.cons (t := 2) rfl (.cons (t := 3) rfl .nil)); clear s19
    have s21 := St.drop (A := []) s20; clear s20
    refine wp_ret ?_
    obtain rfl := Option.some.inj h3
    exact leave s21 (.inl rfl) rfl (.cons (.cell rfl tk23 (.head _) (LG.refl _ _)) (.cons (.tmp rfl) .nil))
  · replace h1 := ite_f hc1 h1
    have h4 := h1; clear h1
    refine wp_skip ?_
    refine then_normal ?_
    refine hK3 _ _ ?_
    have s22 := s16.sub (.cons (t := 2) rfl (.cons (t := 4) rfl .nil)); clear s16
    refine wp_seq_k fun K6 hK6 => ?_
    refine wp_seq_k fun K7 hK7 => ?_
    refine wp_region_lit ?_
    obtain ⟨x3, e_x3, h5⟩ := bind_some h4; clear h4
    refine seq_op s22 rfl rfl (of_decide_eq_true rfl) ((ob_lendG (L := [_]) (List.Perm.refl _) (.cons (t := 4) rfl (lendPtrB (.head _) (LG.refl _ _)) .nil) (Flat.res2 (Flat.V (KFlat.int _)) (Flat.V (KFlat.int _))) (fun _ => ob_callD (args := [_]) rfl .direct hb12 (fun a w s fs gs hf hg => by obtain rfl := hf.unnil; obtain rfl := hg.unnil; exact c_code_digits_check k _ _ e_x3 _ _ _ (s.arg (.tmp rfl)))))) fun a23 w23 s23 => ?_; clear s22
    refine seq_op s23 rfl rfl (of_decide_eq_true rfl) (ob_move rfl (.tmp rfl)) fun a24 w24 s24 => ?_; clear s23
    refine seq_op s24 rfl rfl (of_decide_eq_true rfl) (ob_extract rfl (.tmp rfl) rfl) fun a25 w25 s25 => ?_; clear s24
    refine seq_op s25 rfl rfl (of_decide_eq_true rfl) (ob_extract rfl (.tmp rfl) rfl) fun a26 w26 s26 => ?_; clear s25
    refine seq_op s26 rfl rfl (of_decide_eq_true rfl) (ob_assign rfl (.tmp rfl)) fun a27 w27 s27 => ?_; clear s26
    refine seq_op s27 rfl rfl (of_decide_eq_true rfl) (ob_assign rfl (.tmp rfl)) fun a28 w28 s28 => ?_; clear s27
    refine wpList_nil ?_
    refine then_normal ?_
    refine hK7 _ _ ?_
    have s29 := s28.sub (.cons (t := 2) rfl (.cons (t := 4) rfl (.cons (t := 6) rfl (.cons (t := 7) rfl .nil)))); clear s28
    refine wp_seq_k fun K8 hK8 => ?_
    refine wp_region_lit ?_
    refine seq_op s29 rfl rfl (of_decide_eq_true rfl) (ob_indexAddr rfl Tryd.underlying32 sz5 (.tmp rfl) (opd_int rfl) (by decide) (by decide) (Nat.zero_add _)) fun a30 w30 s30 => ?_; clear s29
    obtain ⟨x4, e_x4, h6⟩ := bind_some h5; clear h5
    refine seq_op s30 rfl rfl (of_decide_eq_true rfl) (ob_load rfl tk5 (.tmp rfl) (.head _) (LG.arrA e_x4)) fun a31 w31 s31 => ?_; clear s30
    refine seq_op s31 rfl rfl (of_decide_eq_true rfl) (ob_move rfl (.tmp rfl)) fun a32 w32 s32 => ?_; clear s31
    refine seq_op s32 rfl rfl (of_decide_eq_true rfl) (ob_neq rfl (.tmp rfl) (.tmp rfl)) fun a33 w33 s33 => ?_; clear s32
    refine seq_op s33 rfl rfl (of_decide_eq_true rfl) (ob_move rfl (.tmp rfl)) fun a34 w34 s34 => ?_; clear s33
    refine seq_opg s34 rfl rfl rfl rfl (of_decide_eq_true rfl) (fun hb => ob_indexAddr rfl Tryd.underlying32 sz5 (.tmp rfl) (opd_int rfl) (by decide) (by decide) (Nat.zero_add _)) fun a35 w35 s35 => ?_; clear s34
    obtain ⟨x5, e_x5, h7⟩ := bind_some h6; clear h6
    refine seq_opg s35 rfl rfl rfl rfl (of_decide_eq_true rfl) (fun hb => (Ob.uncond (t := 28) hb rfl (ob_load rfl tk5 (.tmp rfl) (.head _) (LG.arrA (ite_t hb e_x5))))) fun a36 w36 s36 => ?_; clear s35
    refine seq_opg s36 rfl rfl rfl rfl (of_decide_eq_true rfl) (fun hb => ob_move rfl (.tmp rfl)) fun a37 w37 s37 => ?_; clear s36
    refine seq_opg s37 rfl rfl rfl rfl (of_decide_eq_true rfl) (fun hb => (Ob.uncond (t := 30) hb rfl ((Ob.uncond (t := 29) hb rfl (ob_neq rfl (.tmp rfl) (.tmp rfl)))))) fun a38 w38 s38 => ?_; clear s37
    refine seq_op s38 rfl rfl (of_decide_eq_true rfl) (ob_or2 rfl (.tmp rfl) opd_bool (.tmp rfl)) fun a39 w39 s39 => ?_; clear s38
    refine wpList_nil ?_
    refine then_normal ?_
    refine hK8 _ _ ?_
    have s40 := s39.sub (.cons (t := 2) rfl (.cons (t := 4) rfl (.cons (t := 32) rfl .nil))); clear s39
    refine cond_split s40 (.tmp rfl) (fun hc2 => ?_) (fun hc2 => ?_)
    · replace h7 := ite_t hc2 h7
      have h8 := h7; clear h7
      refine wp_seq_k fun K9 hK9 => ?_
      refine wp_region_lit ?_
      obtain ⟨x6, e_x6, h9⟩ := bind_some h8; clear h8; replace e_x6 := Option.some.inj e_x6
      refine seq_op s40 rfl rfl (of_decide_eq_true rfl) (((ob_mkArr (k := (kint .u8)) rfl Tryd.underlying23 zz23 sz5 (Zr.arr 32 (Zr.int .u8)) (.nil _) : Ob _ _ _ _ _ ((karr 32 (kint .u8)).V ([(0 : Int), (0 : Int), (0 : Int), (0 : Int), (0 : Int), (0 : Int), (0 : Int), (0 : Int), (0 : Int), (0 : Int), (0 : Int), (0 : Int), (0 : Int), (0 : Int), (0 : Int), (0 : Int), (0 : Int), (0 : Int), (0 : Int), (0 : Int), (0 : Int), (0 : Int), (0 : Int), (0 : Int), (0 : Int), (0 : Int), (0 : Int), (0 : Int), (0 : Int), (0 : Int), (0 : Int), (0 : Int)] : (List Int))))).nm e_x6) fun a41 w41 s41 => ?_; clear s40
      refine seq_opx0 (B' := (fun _ : Unit => [BF b2 32 (karr 80 (kint .u8)) x1.1, BF b1 23 (karr 32 (kint .u8)) x6])) s41 rfl rfl (ob_store (A := [_]) rfl tk23 (.tmp rfl) (.tmp rfl) rfl (LS.refl _ _ _) rfl) fun _ a42 w42 s42 => ?_; clear s41
      refine seq_op s42 rfl rfl (of_decide_eq_true rfl) (ob_assign rfl (opd_int rfl)) fun a43 w43 s43 => ?_; clear s42
      refine wpList_nil ?_
      refine then_normal ?_
      refine hK9 _ _ ?_
      have s44 := s43.sub (.cons (t := 2) rfl (.cons (t := 3) rfl .nil)); clear s43
      have s45 := St.drop (A := []) s44; clear s44
      refine wp_ret ?_
      obtain rfl := Option.some.inj h9
      exact leave s45 (.inl rfl) rfl (.cons (.cell rfl tk23 (.head _) (LG.refl _ _)) (.cons (.tmp rfl) .nil))
    · replace h7 := ite_f hc2 h7
      have h10 := h7; clear h7
      refine wp_skip ?_
      refine then_normal ?_
      refine hK6 _ _ ?_
      have s46 := s40.sub (.cons (t := 2) rfl (.cons (t := 4) rfl .nil)); clear s40
      refine wp_seq_k fun K10 hK10 => ?_
      refine wp_region_lit ?_
      refine seq_opx (B' := (fun b3 : Nat => [BF b3 23 (karr 32 (kint .u8)) (List.replicate 32 (0 : Int)), BF b2 32 (karr 80 (kint .u8)) x1.1, BF b1 23 (karr 32 (kint .u8)) (List.replicate 32 (0 : Int))])) s46 rfl rfl (of_decide_eq_true rfl) (ob_new (k := (karr 32 (kint .u8))) rfl zz23 (Zr.arr 32 (Zr.int .u8))) fun b3 a47 w47 s47 => ?_; clear s46
      refine wpList_nil ?_
      refine then_normal ?_
      refine hK10 _ _ ?_
      have s48 := s47.sub (.cons (t := 2) rfl (.cons (t := 4) rfl (.cons (t := 8) rfl .nil))); clear s47
      refine wp_seq_k fun K11 hK11 => ?_
      refine wp_seq_k fun K12 hK12 => ?_
      refine wp_region_lit ?_
      refine seq_op s48 rfl rfl (of_decide_eq_true rfl) (ob_sliceArr rfl Tryd.underlying32 sz5 (.tmp rfl) .none (.some (opd_int rfl)) (show (0 : Int) ≤ (0 : Int) ∧ (0 : Int) ≤ (78 : Int) ∧ (78 : Int) ≤ ((80 : Nat) : Int) by decide)) fun a49 w49 s49 => ?_; clear s48
      refine seq_op s49 rfl rfl (of_decide_eq_true rfl) ((ob_lenSl rfl Tryd.underlying38 (.tmp rfl) (by decide)).nm (Y := (78 : Int)) (by rfl)) fun a50 w50 s50 => ?_; clear s49
      refine seq_op s50 rfl rfl (of_decide_eq_true rfl) (ob_move rfl (opd_int rfl)) fun a51 w51 s51 => ?_; clear s50
      refine wpList_nil ?_
      refine then_normal ?_
      refine hK12 _ _ ?_
      have s52 := s51.sub (.cons (t := 2) rfl (.cons (t := 8) rfl (.cons (t := 34) rfl (.cons (t := 35) rfl (.cons (t := 36) rfl .nil))))); clear s51
      have hj1 : ∀ (y1 : (List Int)) (a : Act) (w : World), (code_Read.j1 k) y1 = some r → St ⟨46, w0, ok, []⟩ [BF b1 23 (karr 32 (kint .u8)) (List.replicate 32 (0 : Int)), BF b3 23 (karr 32 (kint .u8)) y1] [(2, (ptrB b1 0)), (8, (ptrB b3 0))] a w → K11 a w := by
        intro y1 a53 w53 h11 s53
        unfold code_Read.j1 at h11
        refine hK11 _ _ ?_
        refine wp_seq_k fun K13 hK13 => ?_
        refine wp_region_lit ?_
        refine seq_op s53 rfl rfl (of_decide_eq_true rfl) (ob_load rfl tk23 (.tmp rfl) (.tail _ (.head _)) (LG.refl _ _)) fun a54 w54 s54 => ?_; clear s53
        refine seq_opx0 (B' := (fun _ : Unit => [BF b1 23 (karr 32 (kint .u8)) y1, BF b3 23 (karr 32 (kint .u8)) y1])) s54 rfl rfl (ob_store (A := []) rfl tk23 (.tmp rfl) (.tmp rfl) rfl (LS.refl _ _ _) rfl) fun _ a55 w55 s55 => ?_; clear s54
        refine seq_op s55 rfl rfl (of_decide_eq_true rfl) (ob_assign rfl (opd_int rfl)) fun a56 w56 s56 => ?_; clear s55
        refine wpList_nil ?_
        refine then_normal ?_
        refine hK13 _ _ ?_
        have s57 := s56.sub (.cons (t := 2) rfl (.cons (t := 3) rfl .nil)); clear s56
        have s58 := St.drop (A := [_]) s57; clear s57
        refine wp_ret ?_
        obtain rfl := Option.some.inj h11
        exact leave s58 (.inl rfl) rfl (.cons (.cell rfl tk23 (.head _) (LG.refl _ _)) (.cons (.tmp rfl) .nil))
      refine wp_block ?_
      have s59 := s52.perm (toFront [_, _] (toFront [] (toFront [] (List.Perm.refl _)))); clear s52
      refine wp_loop_fuel (fun m (q : Int × (List Int)) => code_Read.l1 k x1 m q.1 q.2) r (fun _ => rfl) (fun q a w => St ⟨46, w0, ok, []⟩ [BF b1 23 (karr 32 (kint .u8)) (List.replicate 32 (0 : Int)), BF b3 23 (karr 32 (kint .u8)) q.2, BF b2 32 (karr 80 (kint .u8)) x1.1] [(2, (ptrB b1 0)), (8, (ptrB b3 0)), (34, (is (.slice (some ⟨b2, soff 80 0 (0 : Int).toNat 1, none⟩) ((78 : Int).toNat - (0 : Int).toNat) (80 - (0 : Int).toNat)))), (35, ((kint .i64).V (78 : Int))), (36, ((kint .i64).V q.1))] a w) ?_ k ((0 : Int), (List.replicate 32 (0 : Int))) _ _ h10 (s59.sub (.cons rfl (.cons rfl (.cons rfl (.cons rfl (.cons rfl .nil))))))
      rintro n1 ⟨y2, y3⟩ a60 w60 h12 s60 K14 hK14
      replace h12 : code_Read.l1 k x1 (n1 + 1) y2 y3 = some r := h12; rw [code_Read.l1] at h12
      have h13 := h12; clear h12
      refine wp_seq_k fun K15 hK15 => ?_
      refine wp_region_lit ?_
      refine seq_op s60 rfl rfl (of_decide_eq_true rfl) (ob_lss rfl (.tmp rfl) (.tmp rfl)) fun a61 w61 s61 => ?_; clear s60
      refine wpList_nil ?_
      refine then_normal ?_
      refine hK15 _ _ ?_
      have s62 := s61.sub (.cons (t := 2) rfl (.cons (t := 8) rfl (.cons (t := 34) rfl (.cons (t := 35) rfl (.cons (t := 36) rfl (.cons (t := 37) rfl .nil)))))); clear s61
      refine wp_seq_k fun K16 hK16 => ?_
      refine cond_split s62 (.tmp rfl) (fun hc3 => ?_) (fun hc3 => ?_)
      · replace h13 := ite_t hc3 h13
        have h14 := h13; clear h13
        refine wp_skip ?_
        refine then_normal ?_
        refine hK16 _ _ ?_
        have s63 := s62.sub (.cons (t := 2) rfl (.cons (t := 8) rfl (.cons (t := 34) rfl (.cons (t := 35) rfl (.cons (t := 36) rfl .nil))))); clear s62
        refine wp_seq_k fun K17 hK17 => ?_
        refine wp_block ?_
        refine wp_seq_k fun K18 hK18 => ?_
        refine wp_region_lit ?_
        obtain ⟨g1, h15⟩ := guard_some h14; clear h14
        refine seq_op s63 rfl rfl (of_decide_eq_true rfl) (ob_indexAddrSl rfl Tryd.underlying38 sz5 (.tmp rfl) (.tmp rfl) g1.1 g1.2 (soff_idx0z (show (0 : Int) ≤ (0 : Int) ∧ (0 : Int) ≤ (78 : Int) ∧ (78 : Int) ≤ ((80 : Nat) : Int) by decide) g1)) fun a64 w64 s64 => ?_; clear s63
        obtain ⟨x7, e_x7, h16⟩ := bind_some h15; clear h15
        refine seq_op s64 rfl rfl (of_decide_eq_true rfl) (ob_load rfl tk5 (.tmp rfl) (.tail _ (.tail _ (.head _))) (LG.arrA e_x7)) fun a65 w65 s65 => ?_; clear s64
        refine seq_op s65 rfl rfl (of_decide_eq_true rfl) (ob_assign rfl (.tmp rfl)) fun a66 w66 s66 => ?_; clear s65
        refine wpList_nil ?_
        refine then_normal ?_
        refine hK18 _ _ ?_
        have s67 := s66.sub (.cons (t := 2) rfl (.cons (t := 8) rfl (.cons (t := 10) rfl (.cons (t := 34) rfl (.cons (t := 35) rfl (.cons (t := 36) rfl .nil)))))); clear s66
        refine wp_seq_k fun K19 hK19 => ?_
        refine wp_region_lit ?_
        refine seq_op s67 rfl rfl (of_decide_eq_true rfl) (ob_move rfl (.tmp rfl)) fun a68 w68 s68 => ?_; clear s67
        obtain ⟨x8, e_x8, h17⟩ := bind_some h16; clear h16
        refine seq_opx (B' := (fun _ : Unit => [BF b3 23 (karr 32 (kint .u8)) x8.2, BF b1 23 (karr 32 (kint .u8)) (List.replicate 32 (0 : Int)), BF b2 32 (karr 80 (kint .u8)) x1.1])) s68 rfl rfl (of_decide_eq_true rfl) (ob_callL (args := [_, _]) (L := [_]) rfl .direct hb23 (toFront [_] (List.Perm.refl _)) (fun a w s fs gs hf hg => by obtain rfl := hf.unnil; obtain rfl := hg.unnil; exact c_code_times10 k _ _ _ e_x8 _ _ _ _ _ (ownL s) (disL s) (nodL s) (s.arg (.tmp rfl)) (s.arg (.tmp rfl))) (by exact fun _ => rfl)) fun _ a69 w69 s69 => ?_; clear s68
        refine seq_op s69 rfl rfl (of_decide_eq_true rfl) (ob_not rfl (.tmp rfl)) fun a70 w70 s70 => ?_; clear s69
        refine wpList_nil ?_
        refine then_normal ?_
        refine hK19 _ _ ?_
        have s71 := s70.sub (.cons (t := 2) rfl (.cons (t := 8) rfl (.cons (t := 34) rfl (.cons (t := 35) rfl (.cons (t := 36) rfl (.cons (t := 42) rfl .nil)))))); clear s70
        refine cond_split s71 (.tmp rfl) (fun hc4 => ?_) (fun hc4 => ?_)
        · replace h17 := ite_t hc4 h17
          have h18 := h17; clear h17
          refine wp_seq_k fun K20 hK20 => ?_
          refine wp_region_lit ?_
          obtain ⟨x9, e_x9, h19⟩ := bind_some h18; clear h18; replace e_x9 := Option.some.inj e_x9
          refine seq_op s71 rfl rfl (of_decide_eq_true rfl) (((ob_mkArr (k := (kint .u8)) rfl Tryd.underlying23 zz23 sz5 (Zr.arr 32 (Zr.int .u8)) (.nil _) : Ob _ _ _ _ _ ((karr 32 (kint .u8)).V ([(0 : Int), (0 : Int), (0 : Int), (0 : Int), (0 : Int), (0 : Int), (0 : Int), (0 : Int), (0 : Int), (0 : Int), (0 : Int), (0 : Int), (0 : Int), (0 : Int), (0 : Int), (0 : Int), (0 : Int), (0 : Int), (0 : Int), (0 : Int), (0 : Int), (0 : Int), (0 : Int), (0 : Int), (0 : Int), (0 : Int), (0 : Int), (0 : Int), (0 : Int), (0 : Int), (0 : Int), (0 : Int)] : (List Int))))).nm e_x9) fun a72 w72 s72 => ?_; clear s71
          refine seq_opx0 (B' := (fun _ : Unit => [BF b3 23 (karr 32 (kint .u8)) x8.2, BF b1 23 (karr 32 (kint .u8)) x9, BF b2 32 (karr 80 (kint .u8)) x1.1])) s72 rfl rfl (ob_store (A := [_]) rfl tk23 (.tmp rfl) (.tmp rfl) rfl (LS.refl _ _ _) rfl) fun _ a73 w73 s73 => ?_; clear s72
          refine seq_op s73 rfl rfl (of_decide_eq_true rfl) (ob_assign rfl (opd_int rfl)) fun a74 w74 s74 => ?_; clear s73
          refine wpList_nil ?_
          refine then_normal ?_
          refine hK20 _ _ ?_
          have s75 := s74.sub (.cons (t := 2) rfl (.cons (t := 3) rfl .nil)); clear s74
          have s76 := St.drop (A := []) s75; clear s75
          have s77 := St.drop (A := [_]) s76; clear s76
          refine wp_ret ?_
          obtain rfl := Option.some.inj h19
          exact leave s77 (.inl rfl) rfl (.cons (.cell rfl tk23 (.head _) (LG.refl _ _)) (.cons (.tmp rfl) .nil))
        · replace h17 := ite_f hc4 h17
          have h20 := h17; clear h17
          refine wp_skip ?_
          refine in_normal ?_
          refine then_normal ?_
          refine hK17 _ _ ?_
          have s78 := s71.sub (.cons (t := 2) rfl (.cons (t := 8) rfl (.cons (t := 34) rfl (.cons (t := 35) rfl (.cons (t := 36) rfl .nil))))); clear s71
          refine wp_region_lit ?_
          refine seq_op s78 rfl rfl (of_decide_eq_true rfl) (ob_add rfl (.tmp rfl) (opd_int rfl)) fun a79 w79 s79 => ?_; clear s78
          refine seq_op s79 rfl rfl (of_decide_eq_true rfl) (ob_move rfl (.tmp rfl)) fun a80 w80 s80 => ?_; clear s79
          refine wpList_nil ?_
          refine then_normal ?_
          have s81 := s80.perm (toFront [_] (toFront [] (toFront [] (List.Perm.refl _)))); clear s80
          exact hK14 ((iadd .i64 y2 (1 : Int)), x8.2) _ _ h20 (s81.sub (.cons rfl (.cons rfl (.cons rfl (.cons rfl (.cons rfl .nil))))))
      · replace h13 := ite_f hc3 h13
        have h21 := h13; clear h13
        refine wp_exit ?_
        refine (then_exit (then_exit (in_here ?_)))
        refine then_normal ?_
        have s82 := St.drop (A := [_, _]) s62; clear s62
        exact hj1 y3 _ _ h21 (s82.sub (.cons rfl (.cons rfl .nil)))

/- 5 cabal/caballaw27.alive -/
theorem c_caballaw27_alive (k : Nat) (r : Bool) (h0 : caballaw27_alive k = some r) (ok : Ok) (w0 : World) :
    Gives Tryd.prog 5 [] ok w0 (resFact [kbool.V r]) := by
  unfold caballaw27_alive at h0
  refine enter (N := 29) Tryd.func5 rfl rfl (of_decide_eq_true rfl) .nil fun a1 s1 => ?_
  refine wp_seq_k fun K1 hK1 => ?_
  refine wp_region_lit ?_
  refine seq_op s1 rfl rfl (of_decide_eq_true rfl) (ob_assign rfl opd_bool) fun a2 w2 s2 => ?_; clear s1
  refine wpList_nil ?_
  refine then_normal ?_
  refine hK1 _ _ ?_
  have s3 := s2.sub .nil; clear s2
  refine wp_seq_k fun K2 hK2 => ?_
  refine wp_region_lit ?_
  obtain ⟨x1, e_x1, h1⟩ := bind_some h0; clear h0; replace e_x1 := Option.some.inj e_x1
  refine seq_op s3 rfl rfl (of_decide_eq_true rfl) (((ob_mkArr (k := (kint .u8)) rfl Tryd.underlying23 zz23 sz5 (Zr.arr 32 (Zr.int .u8)) (.nil _) : Ob _ _ _ _ _ ((karr 32 (kint .u8)).V ([(0 : Int), (0 : Int), (0 : Int), (0 : Int), (0 : Int), (0 : Int), (0 : Int), (0 : Int), (0 : Int), (0 : Int), (0 : Int), (0 : Int), (0 : Int), (0 : Int), (0 : Int), (0 : Int), (0 : Int), (0 : Int), (0 : Int), (0 : Int), (0 : Int), (0 : Int), (0 : Int), (0 : Int), (0 : Int), (0 : Int), (0 : Int), (0 : Int), (0 : Int), (0 : Int), (0 : Int), (0 : Int)] : (List Int))))).nm e_x1) fun a4 w4 s4 => ?_; clear s3
  obtain ⟨x2, e_x2, h2⟩ := bind_some h1; clear h1
  refine seq_op s4 rfl rfl (of_decide_eq_true rfl) (ob_callD (args := [_]) rfl .direct hb6 (fun a w s fs gs hf hg => by obtain rfl := hf.unnil; obtain rfl := hg.unnil; exact c_code_Write k _ _ e_x2 _ _ _ (s.arg (.tmp rfl)))) fun a5 w5 s5 => ?_; clear s4
  refine seq_op s5 rfl rfl (of_decide_eq_true rfl) (ob_assign rfl (.tmp rfl)) fun a6 w6 s6 => ?_; clear s5
  refine wpList_nil ?_
  refine then_normal ?_
  refine hK2 _ _ ?_
  have s7 := s6.sub (.cons (t := 1) rfl .nil); clear s6
  refine wp_seq_k fun K3 hK3 => ?_
  refine wp_region_lit ?_
  obtain ⟨x3, e_x3, h3⟩ := bind_some h2; clear h2; replace e_x3 := Option.some.inj e_x3
  refine seq_op s7 rfl rfl (of_decide_eq_true rfl) (((ob_mkArr (k := (kint .u8)) rfl Tryd.underlying23 zz23 sz5 (Zr.arr 32 (Zr.int .u8)) (.cons (opd_int rfl) rfl (LS.arr' (i := 0) (ys := ([(1 : Int), (0 : Int), (0 : Int), (0 : Int), (0 : Int), (0 : Int), (0 : Int), (0 : Int), (0 : Int), (0 : Int), (0 : Int), (0 : Int), (0 : Int), (0 : Int), (0 : Int), (0 : Int), (0 : Int), (0 : Int), (0 : Int), (0 : Int), (0 : Int), (0 : Int), (0 : Int), (0 : Int), (0 : Int), (0 : Int), (0 : Int), (0 : Int), (0 : Int), (0 : Int), (0 : Int), (0 : Int)] : (List Int))) (by simp) (by rfl)) (.cons (opd_int rfl) rfl (LS.arr' (i := 1) (ys := ([(1 : Int), (2 : Int), (0 : Int), (0 : Int), (0 : Int), (0 : Int), (0 : Int), (0 : Int), (0 : Int), (0 : Int), (0 : Int), (0 : Int), (0 : Int), (0 : Int), (0 : Int), (0 : Int), (0 : Int), (0 : Int), (0 : Int), (0 : Int), (0 : Int), (0 : Int), (0 : Int), (0 : Int), (0 : Int), (0 : Int), (0 : Int), (0 : Int), (0 : Int), (0 : Int), (0 : Int), (0 : Int)] : (List Int))) (by simp) (by rfl)) (.cons (opd_int rfl) rfl (LS.arr' (i := 2) (ys := ([(1 : Int), (2 : Int), (3 : Int), (0 : Int), (0 : Int), (0 : Int), (0 : Int), (0 : Int), (0 : Int), (0 : Int), (0 : Int), (0 : Int), (0 : Int), (0 : Int), (0 : Int), (0 : Int), (0 : Int), (0 : Int), (0 : Int), (0 : Int), (0 : Int), (0 : Int), (0 : Int), (0 : Int), (0 : Int), (0 : Int), (0 : Int), (0 : Int), (0 : Int), (0 : Int), (0 : Int), (0 : Int)] : (List Int))) (by simp) (by rfl)) (.nil _)))) : Ob _ _ _ _ _ ((karr 32 (kint .u8)).V ([(1 : Int), (2 : Int), (3 : Int), (0 : Int), (0 : Int), (0 : Int), (0 : Int), (0 : Int), (0 : Int), (0 : Int), (0 : Int), (0 : Int), (0 : Int), (0 : Int), (0 : Int), (0 : Int), (0 : Int), (0 : Int), (0 : Int), (0 : Int), (0 : Int), (0 : Int), (0 : Int), (0 : Int), (0 : Int), (0 : Int), (0 : Int), (0 : Int), (0 : Int), (0 : Int), (0 : Int), (0 : Int)] : (List Int))))).nm e_x3) fun a8 w8 s8 => ?_; clear s7
  obtain ⟨x4, e_x4, h4⟩ := bind_some h3; clear h3
  refine seq_op s8 rfl rfl (of_decide_eq_true rfl) (ob_callD (args := [_]) rfl .direct hb6 (fun a w s fs gs hf hg => by obtain rfl := hf.unnil; obtain rfl := hg.unnil; exact c_code_Write k _ _ e_x4 _ _ _ (s.arg (.tmp rfl)))) fun a9 w9 s9 => ?_; clear s8
  obtain ⟨x5, e_x5, h5⟩ := bind_some h4; clear h4
  refine seq_op s9 rfl rfl (of_decide_eq_true rfl) (ob_callD (args := [_]) rfl .direct hb10 (fun a w s fs gs hf hg => by obtain rfl := hf.unnil; obtain rfl := hg.unnil; exact c_code_Read k _ _ e_x5 _ _ _ (s.arg (.tmp rfl)))) fun a10 w10 s10 => ?_; clear s9
  refine seq_op s10 rfl rfl (of_decide_eq_true rfl) (ob_move rfl (.tmp rfl)) fun a11 w11 s11 => ?_; clear s10
  refine seq_op s11 rfl rfl (of_decide_eq_true rfl) (ob_extract rfl (.tmp rfl) rfl) fun a12 w12 s12 => ?_; clear s11
  refine seq_op s12 rfl rfl (of_decide_eq_true rfl) (ob_extract rfl (.tmp rfl) rfl) fun a13 w13 s13 => ?_; clear s12
  refine seq_opx (B' := (fun b1 : Nat => [BF b1 23 (karr 32 (kint .u8)) (List.replicate 32 (0 : Int))])) s13 rfl rfl (of_decide_eq_true rfl) (ob_new (k := (karr 32 (kint .u8))) rfl zz23 (Zr.arr 32 (Zr.int .u8))) fun b1 a14 w14 s14 => ?_; clear s13
  refine seq_opx0 (B' := (fun _ : Unit => [BF b1 23 (karr 32 (kint .u8)) x5.1])) s14 rfl rfl (ob_store (A := []) rfl tk23 (.tmp rfl) (.tmp rfl) rfl (LS.refl _ _ _) rfl) fun _ a15 w15 s15 => ?_; clear s14
  refine seq_op s15 rfl rfl (of_decide_eq_true rfl) (ob_assign rfl (.tmp rfl)) fun a16 w16 s16 => ?_; clear s15
  refine wpList_nil ?_
  refine then_normal ?_
  refine hK3 _ _ ?_
  have s17 := s16.sub (.cons (t := 1) rfl (.cons (t := 2) rfl (.cons (t := 3) rfl .nil))); clear s16
  refine wp_seq_k fun K4 hK4 => ?_
  refine wp_region_lit ?_
  refine seq_op s17 rfl rfl (of_decide_eq_true rfl) (ob_move rfl (.tmp rfl)) fun a18 w18 s18 => ?_; clear s17
  refine seq_op s18 rfl rfl (of_decide_eq_true rfl) (ob_lenStr rfl Tryd.underlying9 (.tmp rfl)) fun a19 w19 s19 => ?_; clear s18
  refine seq_op s19 rfl rfl (of_decide_eq_true rfl) (ob_eql rfl (.tmp rfl) (opd_int rfl)) fun a20 w20 s20 => ?_; clear s19
  refine seq_op s20 rfl rfl (of_decide_eq_true rfl) (ob_move rfl (.tmp rfl)) fun a21 w21 s21 => ?_; clear s20
  refine seq_opg s21 rfl rfl rfl rfl (of_decide_eq_true rfl) (fun hb => ob_move rfl (.tmp rfl)) fun a22 w22 s22 => ?_; clear s21
  obtain ⟨x6, e_x6, h6⟩ := bind_some h5; clear h5
  refine seq_opg s22 rfl rfl rfl rfl (of_decide_eq_true rfl) (fun hb => (Ob.uncond (t := 16) hb rfl (ob_cutStr rfl Tryd.underlying9 (.tmp rfl) (.some (opd_int rfl)) .none (ite_t hb e_x6)))) fun a23 w23 s23 => ?_; clear s22
  refine seq_opg s23 rfl rfl rfl rfl (of_decide_eq_true rfl) (fun hb => (Ob.uncond (t := 17) hb rfl (ob_seql rfl (.tmp rfl) (opd_str (by rfl) (by decide))))) fun a24 w24 s24 => ?_; clear s23
  obtain ⟨x7, e_x7, h7⟩ := bind_some h6; clear h6; replace e_x7 := Option.some.inj e_x7
  refine seq_op s24 rfl rfl (of_decide_eq_true rfl) ((ob_and2 rfl (.tmp rfl) (.tmp rfl) opd_bool).nm e_x7) fun a25 w25 s25 => ?_; clear s24
  refine seq_op s25 rfl rfl (of_decide_eq_true rfl) (ob_move rfl (.tmp rfl)) fun a26 w26 s26 => ?_; clear s25
  refine seq_opg s26 rfl rfl rfl rfl (of_decide_eq_true rfl) (fun hb => ob_load rfl tk23 (.tmp rfl) (.head _) (LG.refl _ _)) fun a27 w27 s27 => ?_; clear s26
  obtain ⟨x8, e_x8, h8⟩ := bind_some h7; clear h7; replace e_x8 := Option.some.inj e_x8
  refine seq_opg s27 rfl rfl rfl rfl (of_decide_eq_true rfl) (fun hb => ((ob_mkArr (k := (kint .u8)) rfl Tryd.underlying23 zz23 sz5 (Zr.arr 32 (Zr.int .u8)) (.cons (opd_int rfl) rfl (LS.arr' (i := 0) (ys := ([(1 : Int), (0 : Int), (0 : Int), (0 : Int), (0 : Int), (0 : Int), (0 : Int), (0 : Int), (0 : Int), (0 : Int), (0 : Int), (0 : Int), (0 : Int), (0 : Int), (0 : Int), (0 : Int), (0 : Int), (0 : Int), (0 : Int), (0 : Int), (0 : Int), (0 : Int), (0 : Int), (0 : Int), (0 : Int), (0 : Int), (0 : Int), (0 : Int), (0 : Int), (0 : Int), (0 : Int), (0 : Int)] : (List Int))) (by simp) (by rfl)) (.cons (opd_int rfl) rfl (LS.arr' (i := 1) (ys := ([(1 : Int), (2 : Int), (0 : Int), (0 : Int), (0 : Int), (0 : Int), (0 : Int), (0 : Int), (0 : Int), (0 : Int), (0 : Int), (0 : Int), (0 : Int), (0 : Int), (0 : Int), (0 : Int), (0 : Int), (0 : Int), (0 : Int), (0 : Int), (0 : Int), (0 : Int), (0 : Int), (0 : Int), (0 : Int), (0 : Int), (0 : Int), (0 : Int), (0 : Int), (0 : Int), (0 : Int), (0 : Int)] : (List Int))) (by simp) (by rfl)) (.cons (opd_int rfl) rfl (LS.arr' (i := 2) (ys := ([(1 : Int), (2 : Int), (3 : Int), (0 : Int), (0 : Int), (0 : Int), (0 : Int), (0 : Int), (0 : Int), (0 : Int), (0 : Int), (0 : Int), (0 : Int), (0 : Int), (0 : Int), (0 : Int), (0 : Int), (0 : Int), (0 : Int), (0 : Int), (0 : Int), (0 : Int), (0 : Int), (0 : Int), (0 : Int), (0 : Int), (0 : Int), (0 : Int), (0 : Int), (0 : Int), (0 : Int), (0 : Int)] : (List Int))) (by simp) (by rfl)) (.nil _)))) : Ob _ _ _ _ _ ((karr 32 (kint .u8)).V ([(1 : Int), (2 : Int), (3 : Int), (0 : Int), (0 : Int), (0 : Int), (0 : Int), (0 : Int), (0 : Int), (0 : Int), (0 : Int), (0 : Int), (0 : Int), (0 : Int), (0 : Int), (0 : Int), (0 : Int), (0 : Int), (0 : Int), (0 : Int), (0 : Int), (0 : Int), (0 : Int), (0 : Int), (0 : Int), (0 : Int), (0 : Int), (0 : Int), (0 : Int), (0 : Int), (0 : Int), (0 : Int)] : (List Int))))).nm e_x8) fun a28 w28 s28 => ?_; clear s27
  refine seq_opg s28 rfl rfl rfl rfl (of_decide_eq_true rfl) (fun hb => (Ob.uncond (t := 22) hb rfl ((Ob.uncond (t := 21) hb rfl (ob_eqAgg rfl rfl (by kernel_rfl) eq23 (by decide) (.tmp rfl) (.tmp rfl)))))) fun a29 w29 s29 => ?_; clear s28
  refine seq_op s29 rfl rfl (of_decide_eq_true rfl) (ob_and2 rfl (.tmp rfl) (.tmp rfl) opd_bool) fun a30 w30 s30 => ?_; clear s29
  refine seq_op s30 rfl rfl (of_decide_eq_true rfl) (ob_move rfl (.tmp rfl)) fun a31 w31 s31 => ?_; clear s30
  refine seq_opg s31 rfl rfl rfl rfl (of_decide_eq_true rfl) (fun hb => ob_move rfl (.tmp rfl)) fun a32 w32 s32 => ?_; clear s31
  refine seq_opg s32 rfl rfl rfl rfl (of_decide_eq_true rfl) (fun hb => (Ob.uncond (t := 26) hb rfl (ob_eql rfl (.tmp rfl) (opd_int rfl)))) fun a33 w33 s33 => ?_; clear s32
  obtain ⟨x9, e_x9, h9⟩ := bind_some h8; clear h8; replace e_x9 := Option.some.inj e_x9
  refine seq_op s33 rfl rfl (of_decide_eq_true rfl) ((ob_and2 rfl (.tmp rfl) (.tmp rfl) opd_bool).nm e_x9) fun a34 w34 s34 => ?_; clear s33
  refine seq_op s34 rfl rfl (of_decide_eq_true rfl) (ob_assign rfl (.tmp rfl)) fun a35 w35 s35 => ?_; clear s34
  refine wpList_nil ?_
  refine then_normal ?_
  refine hK4 _ _ ?_
  have s36 := s35.sub (.cons (t := 0) rfl .nil); clear s35
  have s37 := St.drop (A := []) s36; clear s36
  refine wp_ret ?_
  obtain rfl := Option.some.inj h9
  exact leave s37 (.inl rfl) rfl (.cons (.tmp rfl) .nil)

/- 15 cabal/cabalref27.Decimal -/
theorem c_cabalref27_Decimal (k : Nat) (p1 : (List Int)) (r : (List Int)) (h0 : cabalref27_Decimal k p1 = some r) (ok : Ok) (w0 : World) (z0 : Value) (u0 : ((karr 32 (kint .u8)).V p1).holds ok w0 z0) :
    GivesX Tryd.prog 15 [z0] ok w0 [] (fun g : Value => resFact [is g]) (fun g : Value => [RowF (g) 3 (kint .i64) r]) := by
  unfold cabalref27_Decimal at h0
  refine enterX (N := 36) Tryd.func15 rfl rfl (of_decide_eq_true rfl) (.cons u0 .nil) List.nodup_nil (fun _ h => by cases h) (fun _ h => by cases h) fun a1 s1 => ?_
  refine wp_seq_k fun K1 hK1 => ?_
  refine wp_region_lit ?_
  refine seq_opx (B' := (fun b1 : Nat => [BF b1 23 (karr 32 (kint .u8)) p1])) s1 rfl rfl (of_decide_eq_true rfl) (ob_box rfl (.tmp rfl)) fun b1 a2 w2 s2 => ?_; clear s1
  refine seq_op s2 rfl rfl (of_decide_eq_true rfl) (ob_assign rfl opd_is) fun a3 w3 s3 => ?_; clear s2
  have s4 := St.adopt s3 (G := RowF (nilRow 2) 3 (kint .i64) []) rfl (rowNilN _ _ _ _ _); clear s3
  refine wpList_nil ?_
  refine then_normal ?_
  refine hK1 _ _ ?_
  have s5 := s4.sub (.cons (t := 1) rfl .nil); clear s4
  have s6 := St.drop (A := []) s5; clear s5
  refine wp_seq_k fun K2 hK2 => ?_
  refine wp_region_lit ?_
  obtain ⟨g1, h1⟩ := guard_some h0; clear h0
  refine seq_opx (B' := (fun v1 : Value => [RowF v1 3 (kint .i64) (List.replicate (78 : Int).toNat (0 : Int)), BF b1 23 (karr 32 (kint .u8)) p1])) s6 rfl rfl (of_decide_eq_true rfl) (ob_makeRow (T8 := 0) rfl Tryd.underlying45 ap3 (Zr.int .i64) (by decide) (opd_int rfl) g1) fun v1 a7 w7 s7 => ?_; clear s6
  refine seq_op s7 rfl rfl (of_decide_eq_true rfl) (ob_assign rfl (.tmp rfl)) fun a8 w8 s8 => ?_; clear s7
  refine wpList_nil ?_
  refine then_normal ?_
  refine hK2 _ _ ?_
  have s9 := s8.sub (.cons (t := 1) rfl (.cons (t := 3) rfl .nil)); clear s8
  refine wp_seq_k fun K3 hK3 => ?_
  refine wp_seq_k fun K4 hK4 => ?_
  refine wp_region_lit ?_
  refine seq_op s9 rfl rfl (of_decide_eq_true rfl) (ob_assign rfl (opd_int rfl)) fun a10 w10 s10 => ?_; clear s9
  refine wpList_nil ?_
  refine then_normal ?_
  refine hK4 _ _ ?_
  have s11 := s10.sub (.cons (t := 1) rfl (.cons (t := 3) rfl (.cons (t := 4) rfl .nil))); clear s10
  have hj1 : ∀ (y1 : (List Int)) (a : Act) (w : World), (cabalref27_Decimal.j1 k) y1 = some r → St ⟨36, w0, ok, (idsOf [])⟩ [RowF v1 3 (kint .i64) y1] [(3, (is v1))] a w → K3 a w := by
    intro y1 a12 w12 h2 s12
    unfold cabalref27_Decimal.j1 at h2
    refine hK3 _ _ ?_
    refine wp_seq_k fun K5 hK5 => ?_
    refine wp_region_lit ?_
    refine seq_op s12 rfl rfl (of_decide_eq_true rfl) (ob_move rfl (.tmp rfl)) fun a13 w13 s13 => ?_; clear s12
    refine seq_op s13 rfl rfl (of_decide_eq_true rfl) (ob_assign rfl (.tmp rfl)) fun a14 w14 s14 => ?_; clear s13
    refine wpList_nil ?_
    refine then_normal ?_
    refine hK5 _ _ ?_
    have s15 := s14.sub (.cons (t := 2) rfl .nil); clear s14
    refine wp_ret ?_
    obtain rfl := Option.some.inj h2
    exact leaveXD (D := []) v1 s15 rfl (.inl rfl) rfl (.cons (.tmp rfl) .nil) rfl
  refine wp_block ?_
  have s16 := s11.perm (toFront [_] (toFront [] (List.Perm.refl _))); clear s11
  refine wp_loop_fuel (fun m (q : Int × (List Int)) => cabalref27_Decimal.l1 k p1 m q.1 q.2) r (fun _ => rfl) (fun q a w => St ⟨36, w0, ok, (idsOf [])⟩ [BF b1 23 (karr 32 (kint .u8)) p1, RowF v1 3 (kint .i64) q.2] [(1, (ptrB b1 0)), (3, (is v1)), (4, ((kint .i64).V q.1))] a w) ?_ k ((0 : Int), (List.replicate (78 : Int).toNat (0 : Int))) _ _ h1 (s16.sub (.cons rfl (.cons rfl (.cons rfl .nil))))
  rintro n1 ⟨y2, y3⟩ a17 w17 h3 s17 K6 hK6
  replace h3 : cabalref27_Decimal.l1 k p1 (n1 + 1) y2 y3 = some r := h3; rw [cabalref27_Decimal.l1] at h3
  have h4 := h3; clear h3
  refine wp_seq_k fun K7 hK7 => ?_
  refine wp_seq_k fun K8 hK8 => ?_
  refine wp_region_lit ?_
  refine seq_op s17 rfl rfl (of_decide_eq_true rfl) (ob_move rfl (.tmp rfl)) fun a18 w18 s18 => ?_; clear s17
  refine seq_op s18 rfl rfl (of_decide_eq_true rfl) (ob_lss rfl (.tmp rfl) (opd_int rfl)) fun a19 w19 s19 => ?_; clear s18
  refine wpList_nil ?_
  refine then_normal ?_
  refine hK8 _ _ ?_
  have s20 := s19.sub (.cons (t := 1) rfl (.cons (t := 3) rfl (.cons (t := 4) rfl (.cons (t := 10) rfl .nil)))); clear s19
  refine cond_split s20 (.tmp rfl) (fun hc1 => ?_) (fun hc1 => ?_)
  · replace h4 := ite_t hc1 h4
    have h5 := h4; clear h4
    refine wp_skip ?_
    refine then_normal ?_
    refine hK7 _ _ ?_
    have s21 := s20.sub (.cons (t := 1) rfl (.cons (t := 3) rfl (.cons (t := 4) rfl .nil))); clear s20
    refine wp_seq_k fun K9 hK9 => ?_
    have hj2 : ∀ (y4 : (List Int)) (a : Act) (w : World), (cabalref27_Decimal.j2 k y2 (cabalref27_Decimal.l1 k p1 n1)) y4 = some r → St ⟨36, w0, ok, (idsOf [])⟩ [BF b1 23 (karr 32 (kint .u8)) p1, RowF v1 3 (kint .i64) y4] [(1, (ptrB b1 0)), (3, (is v1)), (4, ((kint .i64).V y2))] a w → K9 a w := by
      intro y4 a22 w22 h6 s22
      unfold cabalref27_Decimal.j2 at h6
      refine hK9 _ _ ?_
      refine wp_region_lit ?_
      refine seq_op s22 rfl rfl (of_decide_eq_true rfl) (ob_move rfl (.tmp rfl)) fun a23 w23 s23 => ?_; clear s22
      refine seq_op s23 rfl rfl (of_decide_eq_true rfl) (ob_add rfl (.tmp rfl) (opd_int rfl)) fun a24 w24 s24 => ?_; clear s23
      refine seq_op s24 rfl rfl (of_decide_eq_true rfl) (ob_assign rfl (.tmp rfl)) fun a25 w25 s25 => ?_; clear s24
      refine wpList_nil ?_
      refine then_normal ?_
      exact hK6 ((iadd .i64 y2 (1 : Int)), y4) _ _ h6 (s25.sub (.cons rfl (.cons rfl (.cons rfl .nil))))
    refine wp_block ?_
    refine wp_seq_k fun K10 hK10 => ?_
    refine wp_region_lit ?_
    refine seq_op s21 rfl rfl (of_decide_eq_true rfl) (ob_move rfl (.tmp rfl)) fun a26 w26 s26 => ?_; clear s21
    obtain ⟨g2, h7⟩ := guard_some h5; clear h5
    refine seq_op s26 rfl rfl (of_decide_eq_true rfl) (ob_indexAddr rfl Tryd.underlying23 sz5 (.tmp rfl) (.tmp rfl) g2.1 g2.2 (Nat.zero_add _)) fun a27 w27 s27 => ?_; clear s26
    obtain ⟨x1, e_x1, h8⟩ := bind_some h7; clear h7
    refine seq_op s27 rfl rfl (of_decide_eq_true rfl) (ob_load rfl tk5 (.tmp rfl) (.head _) (LG.arrA e_x1)) fun a28 w28 s28 => ?_; clear s27
    refine seq_op s28 rfl rfl (of_decide_eq_true rfl) (ob_conv rfl _ Tryd.underlying5 Tryd.underlying3 (.tmp rfl)) fun a29 w29 s29 => ?_; clear s28
    refine seq_op s29 rfl rfl (of_decide_eq_true rfl) (ob_assign rfl (.tmp rfl)) fun a30 w30 s30 => ?_; clear s29
    refine wpList_nil ?_
    refine then_normal ?_
    refine hK10 _ _ ?_
    have s31 := s30.sub (.cons (t := 1) rfl (.cons (t := 3) rfl (.cons (t := 4) rfl (.cons (t := 5) rfl .nil)))); clear s30
    refine wp_seq_k fun K11 hK11 => ?_
    refine wp_region_lit ?_
    refine seq_op s31 rfl rfl (of_decide_eq_true rfl) (ob_assign rfl (opd_int rfl)) fun a32 w32 s32 => ?_; clear s31
    refine wpList_nil ?_
    refine then_normal ?_
    refine hK11 _ _ ?_
    have s33 := s32.sub (.cons (t := 1) rfl (.cons (t := 3) rfl (.cons (t := 4) rfl (.cons (t := 5) rfl (.cons (t := 6) rfl .nil))))); clear s32
    refine wp_block ?_
    refine wp_loop_fuel (fun m (q : Int × Int × (List Int)) => cabalref27_Decimal.l2 k y2 (cabalref27_Decimal.l1 k p1 n1) m q.1 q.2.1 q.2.2) r (fun _ => rfl) (fun q a w => St ⟨36, w0, ok, (idsOf [])⟩ [BF b1 23 (karr 32 (kint .u8)) p1, RowF v1 3 (kint .i64) q.2.2] [(1, (ptrB b1 0)), (3, (is v1)), (4, ((kint .i64).V y2)), (5, ((kint .i64).V q.1)), (6, ((kint .i64).V q.2.1))] a w) ?_ k ((IntKind.wrap .i64 x1), (77 : Int), y3) _ _ h8 (s33.sub (.cons rfl (.cons rfl (.cons rfl (.cons rfl (.cons rfl .nil))))))
    rintro n2 ⟨y5, y6, y7⟩ a34 w34 h9 s34 K12 hK12
    replace h9 : cabalref27_Decimal.l2 k y2 (cabalref27_Decimal.l1 k p1 n1) (n2 + 1) y5 y6 y7 = some r := h9; rw [cabalref27_Decimal.l2] at h9
    have h10 := h9; clear h9
    refine wp_seq_k fun K13 hK13 => ?_
    refine wp_seq_k fun K14 hK14 => ?_
    refine wp_region_lit ?_
    refine seq_op s34 rfl rfl (of_decide_eq_true rfl) (ob_move rfl (.tmp rfl)) fun a35 w35 s35 => ?_; clear s34
    refine seq_op s35 rfl rfl (of_decide_eq_true rfl) (ob_geq rfl (.tmp rfl) (opd_int rfl)) fun a36 w36 s36 => ?_; clear s35
    refine wpList_nil ?_
    refine then_normal ?_
    refine hK14 _ _ ?_
    have s37 := s36.sub (.cons (t := 1) rfl (.cons (t := 3) rfl (.cons (t := 4) rfl (.cons (t := 5) rfl (.cons (t := 6) rfl (.cons (t := 18) rfl .nil)))))); clear s36
    refine cond_split s37 (.tmp rfl) (fun hc2 => ?_) (fun hc2 => ?_)
    · replace h10 := ite_t hc2 h10
      have h11 := h10; clear h10
      refine wp_skip ?_
      refine then_normal ?_
      refine hK13 _ _ ?_
      have s38 := s37.sub (.cons (t := 1) rfl (.cons (t := 3) rfl (.cons (t := 4) rfl (.cons (t := 5) rfl (.cons (t := 6) rfl .nil))))); clear s37
      refine wp_seq_k fun K15 hK15 => ?_
      refine wp_block ?_
      refine wp_seq_k fun K16 hK16 => ?_
      refine wp_region_lit ?_
      refine seq_op s38 rfl rfl (of_decide_eq_true rfl) (ob_move rfl (.tmp rfl)) fun a39 w39 s39 => ?_; clear s38
      refine seq_op s39 rfl rfl (of_decide_eq_true rfl) (ob_move rfl (.tmp rfl)) fun a40 w40 s40 => ?_; clear s39
      obtain ⟨g3, h12⟩ := guard_some h11; clear h11
      refine seq_op s40 rfl rfl (of_decide_eq_true rfl) (ob_rowAt rfl Tryd.underlying45 sz3 (.tmp rfl) (.tail _ (.head _)) (.tmp rfl) g3) fun a41 w41 s41 => ?_; clear s40
      obtain ⟨x2, e_x2, h13⟩ := bind_some h12; clear h12
      refine seq_op s41 rfl rfl (of_decide_eq_true rfl) (ob_rowLoad rfl tk3 (.tmp rfl) (.tail _ (.head _)) (LG.arrA e_x2)) fun a42 w42 s42 => ?_; clear s41
      refine seq_op s42 rfl rfl (of_decide_eq_true rfl) (ob_mul rfl (.tmp rfl) (opd_int rfl)) fun a43 w43 s43 => ?_; clear s42
      refine seq_op s43 rfl rfl (of_decide_eq_true rfl) (ob_move rfl (.tmp rfl)) fun a44 w44 s44 => ?_; clear s43
      refine seq_op s44 rfl rfl (of_decide_eq_true rfl) (ob_add rfl (.tmp rfl) (.tmp rfl)) fun a45 w45 s45 => ?_; clear s44
      refine seq_op s45 rfl rfl (of_decide_eq_true rfl) (ob_assign rfl (.tmp rfl)) fun a46 w46 s46 => ?_; clear s45
      refine wpList_nil ?_
      refine then_normal ?_
      refine hK16 _ _ ?_
      have s47 := s46.sub (.cons (t := 1) rfl (.cons (t := 3) rfl (.cons (t := 4) rfl (.cons (t := 6) rfl (.cons (t := 7) rfl .nil))))); clear s46
      refine wp_seq_k fun K17 hK17 => ?_
      refine wp_region_lit ?_
      refine seq_op s47 rfl rfl (of_decide_eq_true rfl) (ob_move rfl (.tmp rfl)) fun a48 w48 s48 => ?_; clear s47
      refine seq_op s48 rfl rfl (of_decide_eq_true rfl) (ob_move rfl (.tmp rfl)) fun a49 w49 s49 => ?_; clear s48
      refine seq_op s49 rfl rfl (of_decide_eq_true rfl) (ob_move rfl (.tmp rfl)) fun a50 w50 s50 => ?_; clear s49
      refine seq_op s50 rfl rfl (of_decide_eq_true rfl) (ob_rem rfl (.tmp rfl) (opd_int rfl) (by decide)) fun a51 w51 s51 => ?_; clear s50
      obtain ⟨g4, h14⟩ := guard_some h13; clear h13
      refine seq_op s51 rfl rfl (of_decide_eq_true rfl) (ob_rowAt rfl Tryd.underlying45 sz3 (.tmp rfl) (.tail _ (.head _)) (.tmp rfl) g4) fun a52 w52 s52 => ?_; clear s51
      obtain ⟨x3, e_x3, h15⟩ := bind_some h14; clear h14
      refine seq_opx0 (B' := (fun _ : Unit => [BF b1 23 (karr 32 (kint .u8)) p1, RowF v1 3 (kint .i64) x3])) s52 rfl rfl (ob_rowStore (A := [_]) rfl tk3 (.tmp rfl) (.tmp rfl) rfl (LS.arrS e_x3) rfl) fun _ a53 w53 s53 => ?_; clear s52
      refine wpList_nil ?_
      refine then_normal ?_
      refine hK17 _ _ ?_
      have s54 := s53.sub (.cons (t := 1) rfl (.cons (t := 3) rfl (.cons (t := 4) rfl (.cons (t := 6) rfl (.cons (t := 7) rfl .nil))))); clear s53
      refine wp_region_lit ?_
      refine seq_op s54 rfl rfl (of_decide_eq_true rfl) (ob_move rfl (.tmp rfl)) fun a55 w55 s55 => ?_; clear s54
      refine seq_op s55 rfl rfl (of_decide_eq_true rfl) (ob_quo rfl (.tmp rfl) (opd_int rfl) (by decide)) fun a56 w56 s56 => ?_; clear s55
      refine seq_op s56 rfl rfl (of_decide_eq_true rfl) (ob_assign rfl (.tmp rfl)) fun a57 w57 s57 => ?_; clear s56
      refine wpList_nil ?_
      refine in_normal ?_
      refine then_normal ?_
      refine hK15 _ _ ?_
      have s58 := s57.sub (.cons (t := 1) rfl (.cons (t := 3) rfl (.cons (t := 4) rfl (.cons (t := 5) rfl (.cons (t := 6) rfl .nil))))); clear s57
      refine wp_region_lit ?_
      refine seq_op s58 rfl rfl (of_decide_eq_true rfl) (ob_move rfl (.tmp rfl)) fun a59 w59 s59 => ?_; clear s58
      refine seq_op s59 rfl rfl (of_decide_eq_true rfl) (ob_sub rfl (.tmp rfl) (opd_int rfl)) fun a60 w60 s60 => ?_; clear s59
      refine seq_op s60 rfl rfl (of_decide_eq_true rfl) (ob_assign rfl (.tmp rfl)) fun a61 w61 s61 => ?_; clear s60
      refine wpList_nil ?_
      refine then_normal ?_
      exact hK12 ((iquo .i64 (iadd .i64 (imul .i64 x2 (256 : Int)) y5) (10 : Int)), (isub .i64 y6 (1 : Int)), x3) _ _ h15 (s61.sub (.cons rfl (.cons rfl (.cons rfl (.cons rfl (.cons rfl .nil))))))
    · replace h10 := ite_f hc2 h10
      have h16 := h10; clear h10
      refine wp_exit ?_
      refine (then_exit (then_exit (in_here ?_)))
      refine in_normal ?_
      refine then_normal ?_
      exact hj2 y7 _ _ h16 (s37.sub (.cons rfl (.cons rfl (.cons rfl .nil))))
  · replace h4 := ite_f hc1 h4
    have h17 := h4; clear h4
    refine wp_exit ?_
    refine (then_exit (then_exit (in_here ?_)))
    refine then_normal ?_
    have s62 := St.drop (A := []) s20; clear s20
    exact hj1 y3 _ _ h17 (s62.sub (.cons rfl .nil))

/- 16 cabal/cabalref27.Check -/
theorem c_cabalref27_Check (k : Nat) (p1 : (List Int)) (r : Int) (h0 : cabalref27_Check k p1 = some r) (ok : Ok) (w0 : World) (z0 : Value) (u0 : ((ksl (kint .i64)).V p1).holds ok w0 z0) :
    Gives Tryd.prog 16 [z0] ok w0 (resFact [(kint .i64).V r]) := by
  unfold cabalref27_Check at h0
  refine enter (N := 21) Tryd.func16 rfl rfl (of_decide_eq_true rfl) (.cons u0 .nil) fun a1 s1 => ?_
  refine wp_seq_k fun K1 hK1 => ?_
  refine wp_region_lit ?_
  refine seq_op s1 rfl rfl (of_decide_eq_true rfl) (ob_assign rfl (opd_int rfl)) fun a2 w2 s2 => ?_; clear s1
  refine wpList_nil ?_
  refine then_normal ?_
  refine hK1 _ _ ?_
  have s3 := s2.sub (.cons (t := 0) rfl .nil); clear s2
  refine wp_seq_k fun K2 hK2 => ?_
  refine wp_region_lit ?_
  refine seq_op s3 rfl rfl (of_decide_eq_true rfl) (ob_assign rfl (opd_int rfl)) fun a4 w4 s4 => ?_; clear s3
  refine wpList_nil ?_
  refine then_normal ?_
  refine hK2 _ _ ?_
  have s5 := s4.sub (.cons (t := 0) rfl (.cons (t := 3) rfl .nil)); clear s4
  refine wp_seq_k fun K3 hK3 => ?_
  refine wp_seq_k fun K4 hK4 => ?_
  refine wp_region_lit ?_
  refine seq_op s5 rfl rfl (of_decide_eq_true rfl) (ob_assign rfl (opd_int rfl)) fun a6 w6 s6 => ?_; clear s5
  refine wpList_nil ?_
  refine then_normal ?_
  refine hK4 _ _ ?_
  have s7 := s6.sub (.cons (t := 0) rfl (.cons (t := 3) rfl (.cons (t := 4) rfl .nil))); clear s6
  have hj1 : ∀ (y1 : Int) (a : Act) (w : World), (cabalref27_Check.j1 k) y1 = some r → St ⟨21, w0, ok, []⟩ [] [(3, ((kint .i64).V y1))] a w → K3 a w := by
    intro y1 a8 w8 h1 s8
    unfold cabalref27_Check.j1 at h1
    refine hK3 _ _ ?_
    refine wp_seq_k fun K5 hK5 => ?_
    refine wp_region_lit ?_
    refine seq_op s8 rfl rfl (of_decide_eq_true rfl) (ob_move rfl (.tmp rfl)) fun a9 w9 s9 => ?_; clear s8
    refine seq_op s9 rfl rfl (of_decide_eq_true rfl) (ob_mul rfl (.tmp rfl) (opd_int rfl)) fun a10 w10 s10 => ?_; clear s9
    refine seq_op s10 rfl rfl (of_decide_eq_true rfl) (ob_rem rfl (.tmp rfl) (opd_int rfl) (by decide)) fun a11 w11 s11 => ?_; clear s10
    refine seq_op s11 rfl rfl (of_decide_eq_true rfl) (ob_sub rfl (opd_int rfl) (.tmp rfl)) fun a12 w12 s12 => ?_; clear s11
    refine seq_op s12 rfl rfl (of_decide_eq_true rfl) (ob_assign rfl (.tmp rfl)) fun a13 w13 s13 => ?_; clear s12
    refine wpList_nil ?_
    refine then_normal ?_
    refine hK5 _ _ ?_
    have s14 := s13.sub (.cons (t := 2) rfl .nil); clear s13
    refine wp_ret ?_
    obtain rfl := Option.some.inj h1
    exact leave s14 (.inl rfl) rfl (.cons (.tmp rfl) .nil)
  refine wp_block ?_
  refine wp_loop_fuel (fun m (q : Int × Int) => cabalref27_Check.l1 k p1 m q.1 q.2) r (fun _ => rfl) (fun q a w => St ⟨21, w0, ok, []⟩ [] [(0, ((ksl (kint .i64)).V p1)), (3, ((kint .i64).V q.1)), (4, ((kint .i64).V q.2))] a w) ?_ k ((0 : Int), (0 : Int)) _ _ h0 (s7.sub (.cons rfl (.cons rfl (.cons rfl .nil))))
  rintro n1 ⟨y2, y3⟩ a15 w15 h2 s15 K6 hK6
  replace h2 : cabalref27_Check.l1 k p1 (n1 + 1) y2 y3 = some r := h2; rw [cabalref27_Check.l1] at h2
  have h3 := h2; clear h2
  refine wp_seq_k fun K7 hK7 => ?_
  refine wp_seq_k fun K8 hK8 => ?_
  refine wp_region_lit ?_
  refine seq_op s15 rfl rfl (of_decide_eq_true rfl) (ob_move rfl (.tmp rfl)) fun a16 w16 s16 => ?_; clear s15
  refine seq_op s16 rfl rfl (of_decide_eq_true rfl) (ob_lss rfl (.tmp rfl) (opd_int rfl)) fun a17 w17 s17 => ?_; clear s16
  refine wpList_nil ?_
  refine then_normal ?_
  refine hK8 _ _ ?_
  have s18 := s17.sub (.cons (t := 0) rfl (.cons (t := 3) rfl (.cons (t := 4) rfl (.cons (t := 6) rfl .nil)))); clear s17
  refine cond_split s18 (.tmp rfl) (fun hc1 => ?_) (fun hc1 => ?_)
  · replace h3 := ite_t hc1 h3
    have h4 := h3; clear h3
    refine wp_skip ?_
    refine then_normal ?_
    refine hK7 _ _ ?_
    have s19 := s18.sub (.cons (t := 0) rfl (.cons (t := 3) rfl (.cons (t := 4) rfl .nil))); clear s18
    refine wp_seq_k fun K9 hK9 => ?_
    refine wp_block ?_
    refine wp_region_lit ?_
    refine seq_op s19 rfl rfl (of_decide_eq_true rfl) (ob_move rfl (.tmp rfl)) fun a20 w20 s20 => ?_; clear s19
    refine seq_op s20 rfl rfl (of_decide_eq_true rfl) (ob_mul rfl (.tmp rfl) (opd_int rfl)) fun a21 w21 s21 => ?_; clear s20
    refine seq_op s21 rfl rfl (of_decide_eq_true rfl) (ob_move rfl (.tmp rfl)) fun a22 w22 s22 => ?_; clear s21
    refine seq_op s22 rfl rfl (of_decide_eq_true rfl) (ob_move rfl (.tmp rfl)) fun a23 w23 s23 => ?_; clear s22
    obtain ⟨x1, e_x1, h5⟩ := bind_some h4; clear h4
    refine seq_op s23 rfl rfl (of_decide_eq_true rfl) (ob_indexAddrs rfl Tryd.underlying45 sz3 (.tmp rfl) (.tmp rfl) e_x1) fun a24 w24 s24 => ?_; clear s23
    refine seq_op s24 rfl rfl (of_decide_eq_true rfl) (ob_loadr rfl tk3 (.tmp rfl)) fun a25 w25 s25 => ?_; clear s24
    refine seq_op s25 rfl rfl (of_decide_eq_true rfl) (ob_add rfl (.tmp rfl) (.tmp rfl)) fun a26 w26 s26 => ?_; clear s25
    refine seq_op s26 rfl rfl (of_decide_eq_true rfl) (ob_rem rfl (.tmp rfl) (opd_int rfl) (by decide)) fun a27 w27 s27 => ?_; clear s26
    refine seq_op s27 rfl rfl (of_decide_eq_true rfl) (ob_assign rfl (.tmp rfl)) fun a28 w28 s28 => ?_; clear s27
    refine wpList_nil ?_
    refine in_normal ?_
    refine then_normal ?_
    refine hK9 _ _ ?_
    have s29 := s28.sub (.cons (t := 0) rfl (.cons (t := 3) rfl (.cons (t := 4) rfl .nil))); clear s28
    refine wp_region_lit ?_
    refine seq_op s29 rfl rfl (of_decide_eq_true rfl) (ob_move rfl (.tmp rfl)) fun a30 w30 s30 => ?_; clear s29
    refine seq_op s30 rfl rfl (of_decide_eq_true rfl) (ob_add rfl (.tmp rfl) (opd_int rfl)) fun a31 w31 s31 => ?_; clear s30
    refine seq_op s31 rfl rfl (of_decide_eq_true rfl) (ob_assign rfl (.tmp rfl)) fun a32 w32 s32 => ?_; clear s31
    refine wpList_nil ?_
    refine then_normal ?_
    exact hK6 ((irem (iadd .i64 (imul .i64 y2 (10 : Int)) x1) (97 : Int)), (iadd .i64 y3 (1 : Int))) _ _ h5 (s32.sub (.cons rfl (.cons rfl (.cons rfl .nil))))
  · replace h3 := ite_f hc1 h3
    have h6 := h3; clear h3
    refine wp_exit ?_
    refine (then_exit (then_exit (in_here ?_)))
    refine then_normal ?_
    exact hj1 y2 _ _ h6 (s18.sub (.cons rfl .nil))

/- 17 cabal/cabalref27.Grouped -/
theorem c_cabalref27_Grouped (k : Nat) (p1 : (List Int)) (r : (List Int)) (h0 : cabalref27_Grouped k p1 = some r) (ok : Ok) (w0 : World) (z0 : Value) (u0 : ((ksl (kint .i64)).V p1).holds ok w0 z0) :
    Gives Tryd.prog 17 [z0] ok w0 (resFact [kstr.V r]) := by
  unfold cabalref27_Grouped at h0
  refine enter (N := 29) Tryd.func17 rfl rfl (of_decide_eq_true rfl) (.cons u0 .nil) fun a1 s1 => ?_
  refine wp_seq_k fun K1 hK1 => ?_
  refine wp_region_lit ?_
  refine seq_op s1 rfl rfl (of_decide_eq_true rfl) (ob_assign rfl (opd_str (by rfl) (by decide))) fun a2 w2 s2 => ?_; clear s1
  refine wpList_nil ?_
  refine then_normal ?_
  refine hK1 _ _ ?_
  have s3 := s2.sub (.cons (t := 0) rfl .nil); clear s2
  refine wp_seq_k fun K2 hK2 => ?_
  refine wp_region_lit ?_
  refine seq_op s3 rfl rfl (of_decide_eq_true rfl) (ob_assign rfl (opd_str (by rfl) (by decide))) fun a4 w4 s4 => ?_; clear s3
  refine wpList_nil ?_
  refine then_normal ?_
  refine hK2 _ _ ?_
  have s5 := s4.sub (.cons (t := 0) rfl (.cons (t := 3) rfl .nil)); clear s4
  refine wp_seq_k fun K3 hK3 => ?_
  refine wp_seq_k fun K4 hK4 => ?_
  refine wp_region_lit ?_
  refine seq_op s5 rfl rfl (of_decide_eq_true rfl) (ob_assign rfl (opd_int rfl)) fun a6 w6 s6 => ?_; clear s5
  refine wpList_nil ?_
  refine then_normal ?_
  refine hK4 _ _ ?_
  have s7 := s6.sub (.cons (t := 0) rfl (.cons (t := 3) rfl (.cons (t := 4) rfl .nil))); clear s6
  have hj1 : ∀ (y1 : (List Int)) (a : Act) (w : World), (cabalref27_Grouped.j1 k) y1 = some r → St ⟨29, w0, ok, []⟩ [] [(3, (kstr.V y1))] a w → K3 a w := by
    intro y1 a8 w8 h1 s8
    unfold cabalref27_Grouped.j1 at h1
    refine hK3 _ _ ?_
    refine wp_seq_k fun K5 hK5 => ?_
    refine wp_region_lit ?_
    refine seq_op s8 rfl rfl (of_decide_eq_true rfl) (ob_move rfl (.tmp rfl)) fun a9 w9 s9 => ?_; clear s8
    refine seq_op s9 rfl rfl (of_decide_eq_true rfl) (ob_assign rfl (.tmp rfl)) fun a10 w10 s10 => ?_; clear s9
    refine wpList_nil ?_
    refine then_normal ?_
    refine hK5 _ _ ?_
    have s11 := s10.sub (.cons (t := 2) rfl .nil); clear s10
    refine wp_ret ?_
    obtain rfl := Option.some.inj h1
    exact leave s11 (.inl rfl) rfl (.cons (.tmp rfl) .nil)
  refine wp_block ?_
  refine wp_loop_fuel (fun m (q : (List Int) × Int) => cabalref27_Grouped.l1 k p1 m q.1 q.2) r (fun _ => rfl) (fun q a w => St ⟨29, w0, ok, []⟩ [] [(0, ((ksl (kint .i64)).V p1)), (3, (kstr.V q.1)), (4, ((kint .i64).V q.2))] a w) ?_ k (([] : List Int), (0 : Int)) _ _ h0 (s7.sub (.cons rfl (.cons rfl (.cons rfl .nil))))
  rintro n1 ⟨y2, y3⟩ a12 w12 h2 s12 K6 hK6
  replace h2 : cabalref27_Grouped.l1 k p1 (n1 + 1) y2 y3 = some r := h2; rw [cabalref27_Grouped.l1] at h2
  have h3 := h2; clear h2
  refine wp_seq_k fun K7 hK7 => ?_
  refine wp_seq_k fun K8 hK8 => ?_
  refine wp_region_lit ?_
  refine seq_op s12 rfl rfl (of_decide_eq_true rfl) (ob_move rfl (.tmp rfl)) fun a13 w13 s13 => ?_; clear s12
  refine seq_op s13 rfl rfl (of_decide_eq_true rfl) (ob_lss rfl (.tmp rfl) (opd_int rfl)) fun a14 w14 s14 => ?_; clear s13
  refine wpList_nil ?_
  refine then_normal ?_
  refine hK8 _ _ ?_
  have s15 := s14.sub (.cons (t := 0) rfl (.cons (t := 3) rfl (.cons (t := 4) rfl (.cons (t := 6) rfl .nil)))); clear s14
  refine cond_split s15 (.tmp rfl) (fun hc1 => ?_) (fun hc1 => ?_)
  · replace h3 := ite_t hc1 h3
    have h4 := h3; clear h3
    refine wp_skip ?_
    refine then_normal ?_
    refine hK7 _ _ ?_
    have s16 := s15.sub (.cons (t := 0) rfl (.cons (t := 3) rfl (.cons (t := 4) rfl .nil))); clear s15
    refine wp_seq_k fun K9 hK9 => ?_
    refine wp_block ?_
    refine wp_seq_k fun K10 hK10 => ?_
    refine wp_seq_k fun K11 hK11 => ?_
    refine wp_region_lit ?_
    refine seq_op s16 rfl rfl (of_decide_eq_true rfl) (ob_move rfl (.tmp rfl)) fun a17 w17 s17 => ?_; clear s16
    refine seq_op s17 rfl rfl (of_decide_eq_true rfl) (ob_gtr rfl (.tmp rfl) (opd_int rfl)) fun a18 w18 s18 => ?_; clear s17
    refine seq_op s18 rfl rfl (of_decide_eq_true rfl) (ob_move rfl (.tmp rfl)) fun a19 w19 s19 => ?_; clear s18
    refine seq_opg s19 rfl rfl rfl rfl (of_decide_eq_true rfl) (fun hb => ob_move rfl (.tmp rfl)) fun a20 w20 s20 => ?_; clear s19
    refine seq_opg s20 rfl rfl rfl rfl (of_decide_eq_true rfl) (fun hb => (Ob.uncond (t := 12) hb rfl (ob_rem rfl (.tmp rfl) (opd_int rfl) (by decide)))) fun a21 w21 s21 => ?_; clear s20
    refine seq_opg s21 rfl rfl rfl rfl (of_decide_eq_true rfl) (fun hb => (Ob.uncond (t := 13) hb rfl (ob_eql rfl (.tmp rfl) (opd_int rfl)))) fun a22 w22 s22 => ?_; clear s21
    obtain ⟨x1, e_x1, h5⟩ := bind_some h4; clear h4; replace e_x1 := Option.some.inj e_x1
    refine seq_op s22 rfl rfl (of_decide_eq_true rfl) ((ob_and2 rfl (.tmp rfl) (.tmp rfl) opd_bool).nm e_x1) fun a23 w23 s23 => ?_; clear s22
    refine wpList_nil ?_
    refine then_normal ?_
    refine hK11 _ _ ?_
    have s24 := s23.sub (.cons (t := 0) rfl (.cons (t := 3) rfl (.cons (t := 4) rfl (.cons (t := 15) rfl .nil)))); clear s23
    have hj2 : ∀ (y4 : (List Int)) (a : Act) (w : World), (cabalref27_Grouped.j2 k p1 y3 (cabalref27_Grouped.l1 k p1 n1)) y4 = some r → St ⟨29, w0, ok, []⟩ [] [(0, ((ksl (kint .i64)).V p1)), (3, (kstr.V y4)), (4, ((kint .i64).V y3))] a w → K10 a w := by
      intro y4 a25 w25 h6 s25
      unfold cabalref27_Grouped.j2 at h6
      refine hK10 _ _ ?_
      refine wp_region_lit ?_
      refine seq_op s25 rfl rfl (of_decide_eq_true rfl) (ob_move rfl (.tmp rfl)) fun a26 w26 s26 => ?_; clear s25
      refine seq_op s26 rfl rfl (of_decide_eq_true rfl) (ob_move rfl (.tmp rfl)) fun a27 w27 s27 => ?_; clear s26
      refine seq_op s27 rfl rfl (of_decide_eq_true rfl) (ob_move rfl (.tmp rfl)) fun a28 w28 s28 => ?_; clear s27
      obtain ⟨x2, e_x2, h7⟩ := bind_some h6; clear h6
      refine seq_op s28 rfl rfl (of_decide_eq_true rfl) (ob_indexAddrs rfl Tryd.underlying45 sz3 (.tmp rfl) (.tmp rfl) e_x2) fun a29 w29 s29 => ?_; clear s28
      refine seq_op s29 rfl rfl (of_decide_eq_true rfl) (ob_loadr rfl tk3 (.tmp rfl)) fun a30 w30 s30 => ?_; clear s29
      refine seq_op s30 rfl rfl (of_decide_eq_true rfl) (ob_add rfl (opd_int rfl) (.tmp rfl)) fun a31 w31 s31 => ?_; clear s30
      refine seq_op s31 rfl rfl (of_decide_eq_true rfl) (ob_conv rfl _ Tryd.underlying3 Tryd.underlying5 (.tmp rfl)) fun a32 w32 s32 => ?_; clear s31
      refine seq_op s32 rfl rfl (of_decide_eq_true rfl) (ob_mkSlice (k := (kint .u8)) (xs := ([(IntKind.wrap .u8 (iadd .i64 (48 : Int) x2))] : (List Int))) rfl Tryd.underlying38 zz5 sz5 (Zr.int .u8) (by decide) (by decide) (.cons (.tmp rfl) rfl (LS.arr' (i := 0) (ys := ([(IntKind.wrap .u8 (iadd .i64 (48 : Int) x2))] : (List Int))) (by simp) (by rfl)) (.nil _))) fun a33 w33 s33 => ?_; clear s32
      refine seq_op s33 rfl rfl (of_decide_eq_true rfl) (ob_bytesToStr rfl Tryd.underlying38 Tryd.underlying9 Tryd.underlying5 (.tmp rfl)) fun a34 w34 s34 => ?_; clear s33
      obtain ⟨g1, h8⟩ := guard_some h7; clear h7
      refine seq_op s34 rfl rfl (of_decide_eq_true rfl) (ob_cat rfl (.tmp rfl) (.tmp rfl) g1) fun a35 w35 s35 => ?_; clear s34
      refine seq_op s35 rfl rfl (of_decide_eq_true rfl) (ob_assign rfl (.tmp rfl)) fun a36 w36 s36 => ?_; clear s35
      refine wpList_nil ?_
      refine in_normal ?_
      refine then_normal ?_
      refine hK9 _ _ ?_
      have s37 := s36.sub (.cons (t := 0) rfl (.cons (t := 3) rfl (.cons (t := 4) rfl .nil))); clear s36
      refine wp_region_lit ?_
      refine seq_op s37 rfl rfl (of_decide_eq_true rfl) (ob_move rfl (.tmp rfl)) fun a38 w38 s38 => ?_; clear s37
      refine seq_op s38 rfl rfl (of_decide_eq_true rfl) (ob_add rfl (.tmp rfl) (opd_int rfl)) fun a39 w39 s39 => ?_; clear s38
      refine seq_op s39 rfl rfl (of_decide_eq_true rfl) (ob_assign rfl (.tmp rfl)) fun a40 w40 s40 => ?_; clear s39
      refine wpList_nil ?_
      refine then_normal ?_
      exact hK6 ((y4 ++ ([(IntKind.wrap .u8 (iadd .i64 (48 : Int) x2))] : (List Int))), (iadd .i64 y3 (1 : Int))) _ _ h8 (s40.sub (.cons rfl (.cons rfl (.cons rfl .nil))))
    refine cond_split s24 (.tmp rfl) (fun hc2 => ?_) (fun hc2 => ?_)
    · replace h5 := ite_t hc2 h5
      have h9 := h5; clear h5
      refine wp_region_lit ?_
      refine seq_op s24 rfl rfl (of_decide_eq_true rfl) (ob_move rfl (.tmp rfl)) fun a41 w41 s41 => ?_; clear s24
      obtain ⟨g2, h10⟩ := guard_some h9; clear h9
      refine seq_op s41 rfl rfl (of_decide_eq_true rfl) (ob_cat rfl (.tmp rfl) (opd_str (by rfl) (by decide)) g2) fun a42 w42 s42 => ?_; clear s41
      refine seq_op s42 rfl rfl (of_decide_eq_true rfl) (ob_assign rfl (.tmp rfl)) fun a43 w43 s43 => ?_; clear s42
      refine wpList_nil ?_
      refine then_normal ?_
      exact hj2 (y2 ++ ([32] : List Int)) _ _ h10 (s43.sub (.cons rfl (.cons rfl (.cons rfl .nil))))
    · replace h5 := ite_f hc2 h5
      have h11 := h5; clear h5
      refine wp_skip ?_
      refine then_normal ?_
      exact hj2 y2 _ _ h11 (s24.sub (.cons rfl (.cons rfl (.cons rfl .nil))))
  · replace h3 := ite_f hc1 h3
    have h12 := h3; clear h3
    refine wp_exit ?_
    refine (then_exit (then_exit (in_here ?_)))
    refine then_normal ?_
    exact hj1 y2 _ _ h12 (s15.sub (.cons rfl .nil))

/- 7 cabal/cabalref27.Write -/
theorem c_cabalref27_Write (k : Nat) (p1 : (List Int)) (r : (List Int)) (h0 : cabalref27_Write k p1 = some r) (ok : Ok) (w0 : World) (z0 : Value) (u0 : ((karr 32 (kint .u8)).V p1).holds ok w0 z0) :
    Gives Tryd.prog 7 [z0] ok w0 (resFact [kstr.V r]) := by
  unfold cabalref27_Write at h0
  refine enter (N := 18) Tryd.func7 rfl rfl (of_decide_eq_true rfl) (.cons u0 .nil) fun a1 s1 => ?_
  refine wp_seq_k fun K1 hK1 => ?_
  refine wp_region_lit ?_
  refine seq_opx (B' := (fun b1 : Nat => [BF b1 23 (karr 32 (kint .u8)) p1])) s1 rfl rfl (of_decide_eq_true rfl) (ob_box rfl (.tmp rfl)) fun b1 a2 w2 s2 => ?_; clear s1
  refine seq_op s2 rfl rfl (of_decide_eq_true rfl) (ob_assign rfl (opd_str (by rfl) (by decide))) fun a3 w3 s3 => ?_; clear s2
  refine wpList_nil ?_
  refine then_normal ?_
  refine hK1 _ _ ?_
  have s4 := s3.sub (.cons (t := 1) rfl .nil); clear s3
  refine wp_seq_k fun K2 hK2 => ?_
  refine wp_region_lit ?_
  refine seq_op s4 rfl rfl (of_decide_eq_true rfl) (ob_load rfl tk23 (.tmp rfl) (.head _) (LG.refl _ _)) fun a5 w5 s5 => ?_; clear s4
  obtain ⟨x1, e_x1, h1⟩ := bind_some h0; clear h0
  refine seq_opx (B' := (fun v1 : Value => [RowF v1 3 (kint .i64) x1, BF b1 23 (karr 32 (kint .u8)) p1])) s5 rfl rfl (of_decide_eq_true rfl) (ob_callL (args := [_]) (L := []) rfl .direct hb15 (List.Perm.refl _) (fun a w s fs gs hf hg => by obtain rfl := hf.unnil; obtain rfl := hg.unnil; exact c_cabalref27_Decimal k _ _ e_x1 _ _ _ (s.arg (.tmp rfl))) (by exact fun _ => rfl)) fun v1 a6 w6 s6 => ?_; clear s5
  refine seq_op s6 rfl rfl (of_decide_eq_true rfl) (ob_assign rfl (.tmp rfl)) fun a7 w7 s7 => ?_; clear s6
  refine wpList_nil ?_
  refine then_normal ?_
  refine hK2 _ _ ?_
  have s8 := s7.sub (.cons (t := 3) rfl .nil); clear s7
  have s9 := St.drop (A := [_]) s8; clear s8
  refine wp_seq_k fun K3 hK3 => ?_
  refine wp_region_lit ?_
  refine seq_op s9 rfl rfl (of_decide_eq_true rfl) (ob_move rfl (.tmp rfl)) fun a10 w10 s10 => ?_; clear s9
  obtain ⟨x2, e_x2, h2⟩ := bind_some h1; clear h1
  refine seq_op s10 rfl rfl (of_decide_eq_true rfl) ((ob_lendG (L := [_]) (List.Perm.refl _) (.cons (t := 7) rfl (lendRow (.head _)) .nil) (Flat.res1 (Flat.V (KFlat.int _))) (fun _ => ob_callD (args := [_]) rfl .direct hb16 (fun a w s fs gs hf hg => by obtain rfl := hf.unnil; obtain rfl := hg.unnil; exact c_cabalref27_Check k _ _ e_x2 _ _ _ (s.arg (.tmp rfl)))))) fun a11 w11 s11 => ?_; clear s10
  refine seq_op s11 rfl rfl (of_decide_eq_true rfl) (ob_assign rfl (.tmp rfl)) fun a12 w12 s12 => ?_; clear s11
  refine wpList_nil ?_
  refine then_normal ?_
  refine hK3 _ _ ?_
  have s13 := s12.sub (.cons (t := 3) rfl (.cons (t := 4) rfl .nil)); clear s12
  refine wp_seq_k fun K4 hK4 => ?_
  refine wp_region_lit ?_
  refine seq_op s13 rfl rfl (of_decide_eq_true rfl) (ob_move rfl (.tmp rfl)) fun a14 w14 s14 => ?_; clear s13
  refine seq_op s14 rfl rfl (of_decide_eq_true rfl) (ob_move rfl (.tmp rfl)) fun a15 w15 s15 => ?_; clear s14
  refine seq_op s15 rfl rfl (of_decide_eq_true rfl) (ob_quo rfl (.tmp rfl) (opd_int rfl) (by decide)) fun a16 w16 s16 => ?_; clear s15
  refine seq_op s16 rfl rfl (of_decide_eq_true rfl) (ob_move rfl (.tmp rfl)) fun a17 w17 s17 => ?_; clear s16
  refine seq_op s17 rfl rfl (of_decide_eq_true rfl) (ob_rem rfl (.tmp rfl) (opd_int rfl) (by decide)) fun a18 w18 s18 => ?_; clear s17
  refine seq_op s18 rfl rfl (of_decide_eq_true rfl) (ob_mkSlice (k := (kint .i64)) (xs := ([(iquo .i64 x2 (10 : Int)), (irem x2 (10 : Int))] : (List Int))) rfl Tryd.underlying45 zz3 sz3 (Zr.int .i64) (by decide) (by decide) (.cons (.tmp rfl) rfl (LS.arr' (i := 0) (ys := ([(iquo .i64 x2 (10 : Int)), (0 : Int)] : (List Int))) (by simp) (by rfl)) (.cons (.tmp rfl) rfl (LS.arr' (i := 1) (ys := ([(iquo .i64 x2 (10 : Int)), (irem x2 (10 : Int))] : (List Int))) (by simp) (by rfl)) (.nil _)))) fun a19 w19 s19 => ?_; clear s18
  obtain ⟨g1, h3⟩ := guard_some h2; clear h2
  refine seq_opx (B' := (fun v2 : Value => [RowF v2 3 (kint .i64) (x1 ++ ([(iquo .i64 x2 (10 : Int)), (irem x2 (10 : Int))] : (List Int)))])) s19 rfl rfl (of_decide_eq_true rfl) (ob_appendL2 (A := []) rfl Tryd.underlying45 ap3 (Zr.int .i64) (by decide) (.tmp rfl) (.tmp rfl) rfl g1) fun v2 a20 w20 s20 => ?_; clear s19
  refine seq_op s20 rfl rfl (of_decide_eq_true rfl) (ob_assign rfl (.tmp rfl)) fun a21 w21 s21 => ?_; clear s20
  refine wpList_nil ?_
  refine then_normal ?_
  refine hK4 _ _ ?_
  have s22 := s21.sub (.cons (t := 3) rfl .nil); clear s21
  refine wp_seq_k fun K5 hK5 => ?_
  refine wp_region_lit ?_
  refine seq_op s22 rfl rfl (of_decide_eq_true rfl) (ob_move rfl (.tmp rfl)) fun a23 w23 s23 => ?_; clear s22
  obtain ⟨x3, e_x3, h4⟩ := bind_some h3; clear h3
  refine seq_op s23 rfl rfl (of_decide_eq_true rfl) ((ob_lendG (L := [_]) (List.Perm.refl _) (.cons (t := 16) rfl (lendRow (.head _)) .nil) (Flat.res1 (Flat.V KFlat.str)) (fun _ => ob_callD (args := [_]) rfl .direct hb17 (fun a w s fs gs hf hg => by obtain rfl := hf.unnil; obtain rfl := hg.unnil; exact c_cabalref27_Grouped k _ _ e_x3 _ _ _ (s.arg (.tmp rfl)))))) fun a24 w24 s24 => ?_; clear s23
  refine seq_op s24 rfl rfl (of_decide_eq_true rfl) (ob_assign rfl (.tmp rfl)) fun a25 w25 s25 => ?_; clear s24
  refine wpList_nil ?_
  refine then_normal ?_
  refine hK5 _ _ ?_
  have s26 := s25.sub (.cons (t := 2) rfl .nil); clear s25
  have s27 := St.drop (A := []) s26; clear s26
  refine wp_ret ?_
  obtain rfl := Option.some.inj h4
  exact leave s27 (.inl rfl) rfl (.cons (.tmp rfl) .nil)

/- 18 bytes.Compare -/
theorem c_bytes_Compare (k : Nat) (p1 : (List Int)) (p2 : (List Int)) (r : Int) (h0 : bytes_Compare k p1 p2 = some r) (ok : Ok) (w0 : World) (z0 : Value) (z1 : Value) (u0 : ((ksl (kint .u8)).V p1).holds ok w0 z0) (u1 : ((ksl (kint .u8)).V p2).holds ok w0 z1) :
    Gives Tryd.prog 18 [z0, z1] ok w0 (resFact [(kint .i64).V r]) := by
  unfold bytes_Compare at h0
  refine enter (N := 8) Tryd.func18 rfl rfl (of_decide_eq_true rfl) (.cons u0 (.cons u1 .nil)) fun a1 s1 => ?_
  refine wp_seq_k fun K1 hK1 => ?_
  refine wp_region_lit ?_
  refine seq_op s1 rfl rfl (of_decide_eq_true rfl) (ob_assign rfl (opd_int rfl)) fun a2 w2 s2 => ?_; clear s1
  refine wpList_nil ?_
  refine then_normal ?_
  refine hK1 _ _ ?_
  have s3 := s2.sub (.cons (t := 0) rfl (.cons (t := 1) rfl .nil)); clear s2
  refine wp_seq_k fun K2 hK2 => ?_
  refine wp_region_lit ?_
  refine seq_op s3 rfl rfl (of_decide_eq_true rfl) (ob_move rfl (.tmp rfl)) fun a4 w4 s4 => ?_; clear s3
  refine seq_op s4 rfl rfl (of_decide_eq_true rfl) (ob_move rfl (.tmp rfl)) fun a5 w5 s5 => ?_; clear s4
  refine seq_op s5 rfl rfl (of_decide_eq_true rfl) (ob_compare rfl xc25 (.tmp rfl) (.tmp rfl)) fun a6 w6 s6 => ?_; clear s5
  refine seq_op s6 rfl rfl (of_decide_eq_true rfl) (ob_assign rfl (.tmp rfl)) fun a7 w7 s7 => ?_; clear s6
  refine wpList_nil ?_
  refine then_normal ?_
  refine hK2 _ _ ?_
  have s8 := s7.sub (.cons (t := 4) rfl .nil); clear s7
  refine wp_ret ?_
  obtain rfl := Option.some.inj h0
  exact leave s8 (.inl rfl) rfl (.cons (.tmp rfl) .nil)

/- 31 (*cabal/digest.Hash).begin -/
theorem c_digest_Hash_begin (k : Nat) (p1 : digest_Hash) (r : digest_Hash) (h0 : digest_Hash_begin k p1 = some r) (ok : Ok) (w0 : World) (gl1 : (ptrTo (karr 8 (kint .u32)) G_digest_first).holds ok w0 (.pointer (some ⟨1, 0, none⟩))) (z0 : Value) (b00 : Nat) (l0 : ∀ q, q ∈ [BF b00 64 k_digest_Hash p1] → q.holds ok w0) (d0 : ∀ c, c ∈ idsOf [BF b00 64 k_digest_Hash p1] → ¬ ok c) (nd : (idsOf [BF b00 64 k_digest_Hash p1]).Nodup) (u0 : (ptrB b00 0).holds ok w0 z0) :
    GivesX Tryd.prog 31 [z0] ok w0 [BF b00 64 k_digest_Hash p1] (fun g : Unit => resFact []) (fun g : Unit => [BF b00 64 k_digest_Hash r]) := by
  unfold digest_Hash_begin at h0
  refine enterX (N := 14) Tryd.func31 rfl rfl (of_decide_eq_true rfl) (.cons u0 .nil) nd l0 d0 fun a1 s1 => ?_
  have s2 := s1.keepKnown 100001 gl1 (okInX (L := [BF b00 64 k_digest_Hash p1]) d0); clear s1
  refine wp_seq_k fun K1 hK1 => ?_
  refine wp_region_lit ?_
  refine seq_op s2 rfl rfl (of_decide_eq_true rfl) (ob_move rfl (.tmp rfl)) fun a3 w3 s3 => ?_; clear s2
  refine seq_op s3 rfl rfl (of_decide_eq_true rfl) (ob_nilCheck rfl (.tmp rfl)) fun a4 w4 s4 => ?_; clear s3
  refine seq_op s4 rfl rfl (of_decide_eq_true rfl) (ob_fieldAddr (off' := 0) rfl Tryd.underlying64 rfl sz4 (by decide) (.tmp rfl) rfl) fun a5 w5 s5 => ?_; clear s4
  refine seq_op s5 rfl rfl (of_decide_eq_true rfl) (ob_load rfl tk4 (.tmp rfl) (.head _) (lg_digest_Hash_begun p1)) fun a6 w6 s6 => ?_; clear s5
  refine seq_op s6 rfl rfl (of_decide_eq_true rfl) (ob_not rfl (.tmp rfl)) fun a7 w7 s7 => ?_; clear s6
  refine wpList_nil ?_
  refine then_normal ?_
  refine hK1 _ _ ?_
  have s8 := s7.sub (.cons (t := 0) rfl (.cons (t := 6) rfl (.cons (t := 100001) rfl .nil))); clear s7
  refine cond_split s8 (.tmp rfl) (fun hc1 => ?_) (fun hc1 => ?_)
  · replace h0 := ite_t hc1 h0
    have h1 := h0; clear h0
    refine wp_region_lit ?_
    refine seq_op s8 rfl rfl (of_decide_eq_true rfl) (ob_move rfl (.tmp rfl)) fun a9 w9 s9 => ?_; clear s8
    refine seq_op s9 rfl rfl (of_decide_eq_true rfl) (ob_move rfl (.tmp rfl)) fun a10 w10 s10 => ?_; clear s9
    refine seq_op s10 rfl rfl (of_decide_eq_true rfl) (ob_loadr rfl tk60 (.kept (t := 100001) (fun _ => rfl) rfl)) fun a11 w11 s11 => ?_; clear s10
    refine seq_op s11 rfl rfl (of_decide_eq_true rfl) (ob_nilCheck rfl (.tmp rfl)) fun a12 w12 s12 => ?_; clear s11
    refine seq_op s12 rfl rfl (of_decide_eq_true rfl) (ob_fieldAddr (off' := 0) rfl Tryd.underlying64 rfl sz4 (by decide) (.tmp rfl) rfl) fun a13 w13 s13 => ?_; clear s12
    refine seq_opx0 (B' := (fun _ : Unit => [BF b00 64 k_digest_Hash ({ p1 with begun := true })])) s13 rfl rfl (ob_store (A := []) rfl tk4 (.tmp rfl) opd_bool rfl (ls_digest_Hash_begun p1 true) rfl) fun _ a14 w14 s14 => ?_; clear s13
    refine seq_op s14 rfl rfl (of_decide_eq_true rfl) (ob_nilCheck rfl (.tmp rfl)) fun a15 w15 s15 => ?_; clear s14
    refine seq_op s15 rfl rfl (of_decide_eq_true rfl) (ob_fieldAddr (off' := 1) rfl Tryd.underlying64 rfl sz60 (by decide) (.tmp rfl) rfl) fun a16 w16 s16 => ?_; clear s15
    refine seq_opx0 (B' := (fun _ : Unit => [BF b00 64 k_digest_Hash ({ { p1 with begun := true } with state := G_digest_first })])) s16 rfl rfl (ob_store (A := []) rfl tk60 (.tmp rfl) (.tmp rfl) rfl (ls_digest_Hash_state ({ p1 with begun := true }) G_digest_first) rfl) fun _ a17 w17 s17 => ?_; clear s16
    refine wpList_nil ?_
    obtain rfl := Option.some.inj h1
    exact leaveXD (D := []) () s17 rfl (.inr rfl) rfl .nil rfl
  · replace h0 := ite_f hc1 h0
    have h2 := h0; clear h0
    refine wp_skip ?_
    obtain rfl := Option.some.inj h2
    exact leaveXD (D := []) () s8 rfl (.inr rfl) rfl .nil rfl

/- 38 math/bits.RotateLeft32 -/
theorem c_math_bits_RotateLeft32 (k : Nat) (p1 : Int) (p2 : Int) (r : Int) (h0 : math_bits_RotateLeft32 k p1 p2 = some r) (ok : Ok) (w0 : World) (z0 : Value) (z1 : Value) (u0 : ((kint .u32).V p1).holds ok w0 z0) (u1 : ((kint .i64).V p2).holds ok w0 z1) :
    Gives Tryd.prog 38 [z0, z1] ok w0 (resFact [(kint .u32).V r]) := by
  unfold math_bits_RotateLeft32 at h0
  refine enter (N := 17) Tryd.func38 rfl rfl (of_decide_eq_true rfl) (.cons u0 (.cons u1 .nil)) fun a1 s1 => ?_
  refine wp_seq_k fun K1 hK1 => ?_
  refine wp_region_lit ?_
  refine seq_op s1 rfl rfl (of_decide_eq_true rfl) (ob_assign rfl (opd_int rfl)) fun a2 w2 s2 => ?_; clear s1
  refine wpList_nil ?_
  refine then_normal ?_
  refine hK1 _ _ ?_
  have s3 := s2.sub (.cons (t := 0) rfl (.cons (t := 1) rfl .nil)); clear s2
  refine wp_seq_k fun K2 hK2 => ?_
  refine wp_region_lit ?_
  refine seq_op s3 rfl rfl (of_decide_eq_true rfl) (ob_move rfl (.tmp rfl)) fun a4 w4 s4 => ?_; clear s3
  refine seq_op s4 rfl rfl (of_decide_eq_true rfl) (ob_conv rfl _ Tryd.underlying3 Tryd.underlying55 (.tmp rfl)) fun a5 w5 s5 => ?_; clear s4
  refine seq_op s5 rfl rfl (of_decide_eq_true rfl) (ob_and rfl (.tmp rfl) (opd_int rfl)) fun a6 w6 s6 => ?_; clear s5
  refine seq_op s6 rfl rfl (of_decide_eq_true rfl) (ob_assign rfl (.tmp rfl)) fun a7 w7 s7 => ?_; clear s6
  refine wpList_nil ?_
  refine then_normal ?_
  refine hK2 _ _ ?_
  have s8 := s7.sub (.cons (t := 0) rfl (.cons (t := 5) rfl .nil)); clear s7
  refine wp_seq_k fun K3 hK3 => ?_
  refine wp_region_lit ?_
  refine seq_op s8 rfl rfl (of_decide_eq_true rfl) (ob_move rfl (.tmp rfl)) fun a9 w9 s9 => ?_; clear s8
  refine seq_op s9 rfl rfl (of_decide_eq_true rfl) (ob_move rfl (.tmp rfl)) fun a10 w10 s10 => ?_; clear s9
  obtain ⟨g1, h1⟩ := guard_some h0; clear h0
  refine seq_op s10 rfl rfl (of_decide_eq_true rfl) (ob_shl rfl (.tmp rfl) (.tmp rfl) g1) fun a11 w11 s11 => ?_; clear s10
  refine seq_op s11 rfl rfl (of_decide_eq_true rfl) (ob_move rfl (.tmp rfl)) fun a12 w12 s12 => ?_; clear s11
  refine seq_op s12 rfl rfl (of_decide_eq_true rfl) (ob_move rfl (.tmp rfl)) fun a13 w13 s13 => ?_; clear s12
  refine seq_op s13 rfl rfl (of_decide_eq_true rfl) (ob_sub rfl (opd_int rfl) (.tmp rfl)) fun a14 w14 s14 => ?_; clear s13
  obtain ⟨g2, h2⟩ := guard_some h1; clear h1
  obtain ⟨x1, e_x1, h3⟩ := bind_some h2; clear h2; replace e_x1 := Option.some.inj e_x1
  refine seq_op s14 rfl rfl (of_decide_eq_true rfl) ((ob_shr rfl (.tmp rfl) (.tmp rfl) g2).nm e_x1) fun a15 w15 s15 => ?_; clear s14
  obtain ⟨x2, e_x2, h4⟩ := bind_some h3; clear h3; replace e_x2 := Option.some.inj e_x2
  refine seq_op s15 rfl rfl (of_decide_eq_true rfl) ((ob_or rfl (.tmp rfl) (.tmp rfl)).nm e_x2) fun a16 w16 s16 => ?_; clear s15
  refine seq_op s16 rfl rfl (of_decide_eq_true rfl) (ob_assign rfl (.tmp rfl)) fun a17 w17 s17 => ?_; clear s16
  refine wpList_nil ?_
  refine then_normal ?_
  refine hK3 _ _ ?_
  have s18 := s17.sub (.cons (t := 4) rfl .nil); clear s17
  refine wp_ret ?_
  obtain rfl := Option.some.inj h4
  exact leave s18 (.inl rfl) rfl (.cons (.tmp rfl) .nil)

/- 36 cabal/digest.turn -/
theorem c_digest_turn (k : Nat) (p1 : Int) (p2 : Int) (p3 : Int) (p4 : Int) (r : Int) (h0 : digest_turn k p1 p2 p3 p4 = some r) (ok : Ok) (w0 : World) (z0 : Value) (z1 : Value) (z2 : Value) (z3 : Value) (u0 : ((kint .u32).V p1).holds ok w0 z0) (u1 : ((kint .i64).V p2).holds ok w0 z1) (u2 : ((kint .i64).V p3).holds ok w0 z2) (u3 : ((kint .i64).V p4).holds ok w0 z3) :
    Gives Tryd.prog 36 [z0, z1, z2, z3] ok w0 (resFact [(kint .u32).V r]) := by
  unfold digest_turn at h0
  refine enter (N := 22) Tryd.func36 rfl rfl (of_decide_eq_true rfl) (.cons u0 (.cons u1 (.cons u2 (.cons u3 .nil)))) fun a1 s1 => ?_
  refine wp_seq_k fun K1 hK1 => ?_
  refine wp_region_lit ?_
  refine seq_op s1 rfl rfl (of_decide_eq_true rfl) (ob_assign rfl (opd_int rfl)) fun a2 w2 s2 => ?_; clear s1
  refine wpList_nil ?_
  refine then_normal ?_
  refine hK1 _ _ ?_
  have s3 := s2.sub (.cons (t := 0) rfl (.cons (t := 1) rfl (.cons (t := 2) rfl (.cons (t := 3) rfl .nil)))); clear s2
  refine wp_seq_k fun K2 hK2 => ?_
  obtain ⟨x1, e_x1, h1⟩ := bind_some h0; clear h0
  obtain ⟨x2, e_x2, h2⟩ := bind_some h1; clear h1
  obtain ⟨g1, h3⟩ := guard_some h2; clear h2
  refine wp_goes (Fs := [((kint .u32).V p1), ((kint .i64).V p2), ((kint .i64).V (isub .i64 0 p2)), ((kint .u32).V x1), ((kint .u32).V p1), ((kint .i64).V p3), ((kint .i64).V (isub .i64 0 p3)), ((kint .u32).V x2), ((kint .u32).V (ixor .u32 x1 x2)), ((kint .u32).V p1), ((kint .i64).V p4), ((kint .u32).V (ishr .u32 p1 p4))]) (bits := [0, 0, 2, 7, 0, 0, 32, 127, 255, 0, 0, 1536, 4095, 8191]) (m := 12) (todo := 0) mx s3 ?_; clear s3
  refine goes_last (by kernel_rfl) rfl (opsS_cons (.plain _ (Av.old (t := 0) rfl rfl Av.nil) rfl rfl (ob_move rfl (.tmp rfl))) (opsS_cons (.plain _ (Av.old (t := 1) rfl rfl Av.nil) rfl rfl (ob_move rfl (.tmp rfl))) (opsS_cons (.plain _ (Av.new (j := 1) rfl rfl rfl Av.nil) rfl rfl (ob_neg rfl (.tmp rfl))) (opsS_cons (.plain _ (Av.new (j := 0) rfl rfl rfl (Av.new (j := 2) rfl rfl rfl Av.nil)) rfl rfl (ob_callD (args := [_, _]) rfl .direct hb38 (fun a w s fs gs hf hg => by obtain rfl := hf.unnil; obtain rfl := hg.unnil; exact c_math_bits_RotateLeft32 k _ _ _ e_x1 _ _ _ _ (s.arg (.tmp rfl)) (s.arg (.tmp rfl))))) (opsS_cons (.plain _ (Av.old (t := 0) rfl rfl Av.nil) rfl rfl (ob_move rfl (.tmp rfl))) (opsS_cons (.plain _ (Av.old (t := 2) rfl rfl Av.nil) rfl rfl (ob_move rfl (.tmp rfl))) (opsS_cons (.plain _ (Av.new (j := 5) rfl rfl rfl Av.nil) rfl rfl (ob_neg rfl (.tmp rfl))) (opsS_cons (.plain _ (Av.new (j := 4) rfl rfl rfl (Av.new (j := 6) rfl rfl rfl Av.nil)) rfl rfl (ob_callD (args := [_, _]) rfl .direct hb38 (fun a w s fs gs hf hg => by obtain rfl := hf.unnil; obtain rfl := hg.unnil; exact c_math_bits_RotateLeft32 k _ _ _ e_x2 _ _ _ _ (s.arg (.tmp rfl)) (s.arg (.tmp rfl))))) (opsS_cons (.plain _ (Av.new (j := 3) rfl rfl rfl (Av.new (j := 7) rfl rfl rfl Av.nil)) rfl rfl (ob_xor rfl (.tmp rfl) (.tmp rfl))) (opsS_cons (.plain _ (Av.old (t := 0) rfl rfl Av.nil) rfl rfl (ob_move rfl (.tmp rfl))) (opsS_cons (.plain _ (Av.old (t := 3) rfl rfl Av.nil) rfl rfl (ob_move rfl (.tmp rfl))) (opsS_cons (.plain _ (Av.new (j := 9) rfl rfl rfl (Av.new (j := 10) rfl rfl rfl Av.nil)) rfl rfl (ob_shr rfl (.tmp rfl) (.tmp rfl) g1)) opsS_nil)))))))))))) (out_new (i := 8) (by decide) rfl rfl (out_new (i := 11) (by decide) rfl rfl out_nil)) fun a4 w4 s4 => ?_
  refine seq_op s4 rfl rfl (of_decide_eq_true rfl) (ob_xor rfl (.tmp rfl) (.tmp rfl)) fun a5 w5 s5 => ?_; clear s4
  refine seq_op s5 rfl rfl (of_decide_eq_true rfl) (ob_assign rfl (.tmp rfl)) fun a6 w6 s6 => ?_; clear s5
  refine wpList_nil ?_
  refine then_normal ?_
  refine hK2 _ _ ?_
  have s7 := s6.sub (.cons (t := 8) rfl .nil); clear s6
  refine wp_ret ?_
  obtain rfl := Option.some.inj h3
  exact leave s7 (.inl rfl) rfl (.cons (.tmp rfl) .nil)

/- 37 cabal/digest.spin -/
theorem c_digest_spin (k : Nat) (p1 : Int) (p2 : Int) (p3 : Int) (p4 : Int) (r : Int) (h0 : digest_spin k p1 p2 p3 p4 = some r) (ok : Ok) (w0 : World) (z0 : Value) (z1 : Value) (z2 : Value) (z3 : Value) (u0 : ((kint .u32).V p1).holds ok w0 z0) (u1 : ((kint .i64).V p2).holds ok w0 z1) (u2 : ((kint .i64).V p3).holds ok w0 z2) (u3 : ((kint .i64).V p4).holds ok w0 z3) :
    Gives Tryd.prog 37 [z0, z1, z2, z3] ok w0 (resFact [(kint .u32).V r]) := by
  unfold digest_spin at h0
  refine enter (N := 23) Tryd.func37 rfl rfl (of_decide_eq_true rfl) (.cons u0 (.cons u1 (.cons u2 (.cons u3 .nil)))) fun a1 s1 => ?_
  refine wp_seq_k fun K1 hK1 => ?_
  refine wp_region_lit ?_
  refine seq_op s1 rfl rfl (of_decide_eq_true rfl) (ob_assign rfl (opd_int rfl)) fun a2 w2 s2 => ?_; clear s1
  refine wpList_nil ?_
  refine then_normal ?_
  refine hK1 _ _ ?_
  have s3 := s2.sub (.cons (t := 0) rfl (.cons (t := 1) rfl (.cons (t := 2) rfl (.cons (t := 3) rfl .nil)))); clear s2
  refine wp_seq_k fun K2 hK2 => ?_
  refine wp_region_lit ?_
  refine seq_op s3 rfl rfl (of_decide_eq_true rfl) (ob_move rfl (.tmp rfl)) fun a4 w4 s4 => ?_; clear s3
  refine seq_op s4 rfl rfl (of_decide_eq_true rfl) (ob_move rfl (.tmp rfl)) fun a5 w5 s5 => ?_; clear s4
  refine seq_op s5 rfl rfl (of_decide_eq_true rfl) (ob_neg rfl (.tmp rfl)) fun a6 w6 s6 => ?_; clear s5
  obtain ⟨x1, e_x1, h1⟩ := bind_some h0; clear h0
  refine seq_op s6 rfl rfl (of_decide_eq_true rfl) (ob_callD (args := [_, _]) rfl .direct hb38 (fun a w s fs gs hf hg => by obtain rfl := hf.unnil; obtain rfl := hg.unnil; exact c_math_bits_RotateLeft32 k _ _ _ e_x1 _ _ _ _ (s.arg (.tmp rfl)) (s.arg (.tmp rfl)))) fun a7 w7 s7 => ?_; clear s6
  refine seq_op s7 rfl rfl (of_decide_eq_true rfl) (ob_move rfl (.tmp rfl)) fun a8 w8 s8 => ?_; clear s7
  refine seq_op s8 rfl rfl (of_decide_eq_true rfl) (ob_move rfl (.tmp rfl)) fun a9 w9 s9 => ?_; clear s8
  refine seq_op s9 rfl rfl (of_decide_eq_true rfl) (ob_neg rfl (.tmp rfl)) fun a10 w10 s10 => ?_; clear s9
  obtain ⟨x2, e_x2, h2⟩ := bind_some h1; clear h1
  refine seq_op s10 rfl rfl (of_decide_eq_true rfl) (ob_callD (args := [_, _]) rfl .direct hb38 (fun a w s fs gs hf hg => by obtain rfl := hf.unnil; obtain rfl := hg.unnil; exact c_math_bits_RotateLeft32 k _ _ _ e_x2 _ _ _ _ (s.arg (.tmp rfl)) (s.arg (.tmp rfl)))) fun a11 w11 s11 => ?_; clear s10
  refine seq_op s11 rfl rfl (of_decide_eq_true rfl) (ob_xor rfl (.tmp rfl) (.tmp rfl)) fun a12 w12 s12 => ?_; clear s11
  refine seq_op s12 rfl rfl (of_decide_eq_true rfl) (ob_move rfl (.tmp rfl)) fun a13 w13 s13 => ?_; clear s12
  refine seq_op s13 rfl rfl (of_decide_eq_true rfl) (ob_move rfl (.tmp rfl)) fun a14 w14 s14 => ?_; clear s13
  refine seq_op s14 rfl rfl (of_decide_eq_true rfl) (ob_neg rfl (.tmp rfl)) fun a15 w15 s15 => ?_; clear s14
  obtain ⟨x3, e_x3, h3⟩ := bind_some h2; clear h2
  refine seq_op s15 rfl rfl (of_decide_eq_true rfl) (ob_callD (args := [_, _]) rfl .direct hb38 (fun a w s fs gs hf hg => by obtain rfl := hf.unnil; obtain rfl := hg.unnil; exact c_math_bits_RotateLeft32 k _ _ _ e_x3 _ _ _ _ (s.arg (.tmp rfl)) (s.arg (.tmp rfl)))) fun a16 w16 s16 => ?_; clear s15
  refine seq_op s16 rfl rfl (of_decide_eq_true rfl) (ob_xor rfl (.tmp rfl) (.tmp rfl)) fun a17 w17 s17 => ?_; clear s16
  refine seq_op s17 rfl rfl (of_decide_eq_true rfl) (ob_assign rfl (.tmp rfl)) fun a18 w18 s18 => ?_; clear s17
  refine wpList_nil ?_
  refine then_normal ?_
  refine hK2 _ _ ?_
  have s19 := s18.sub (.cons (t := 8) rfl .nil); clear s18
  refine wp_ret ?_
  obtain rfl := Option.some.inj h3
  exact leave s19 (.inl rfl) rfl (.cons (.tmp rfl) .nil)

/- 35 (*cabal/digest.Hash).take -/
theorem c_digest_Hash_take (k : Nat) (p1 : digest_Hash) (r : digest_Hash) (h0 : digest_Hash_take k p1 = some r) (ok : Ok) (w0 : World) (gl2 : (ptrTo (karr 64 (kint .u32)) G_digest_rounds).holds ok w0 (.pointer (some ⟨2, 0, none⟩))) (z0 : Value) (b00 : Nat) (l0 : ∀ q, q ∈ [BF b00 64 k_digest_Hash p1] → q.holds ok w0) (d0 : ∀ c, c ∈ idsOf [BF b00 64 k_digest_Hash p1] → ¬ ok c) (nd : (idsOf [BF b00 64 k_digest_Hash p1]).Nodup) (u0 : (ptrB b00 0).holds ok w0 z0) :
    GivesX Tryd.prog 35 [z0] ok w0 [BF b00 64 k_digest_Hash p1] (fun g : Unit => resFact []) (fun g : Unit => [BF b00 64 k_digest_Hash r]) := by
  unfold digest_Hash_take at h0
  refine enterX (N := 164) Tryd.func35 rfl rfl (of_decide_eq_true rfl) (.cons u0 .nil) nd l0 d0 fun a1 s1 => ?_
  have s2 := s1.keepKnown 100002 gl2 (okInX (L := [BF b00 64 k_digest_Hash p1]) d0); clear s1
  refine wp_seq_k fun K1 hK1 => ?_
  refine wp_region_lit ?_
  refine seq_opx (B' := (fun b1 : Nat => [BF b1 74 (karr 64 (kint .u32)) (List.replicate 64 (0 : Int)), BF b00 64 k_digest_Hash p1])) s2 rfl rfl (of_decide_eq_true rfl) (ob_new (k := (karr 64 (kint .u32))) rfl zz74 (Zr.arr 64 (Zr.int .u32))) fun b1 a3 w3 s3 => ?_; clear s2
  refine wpList_nil ?_
  refine then_normal ?_
  refine hK1 _ _ ?_
  have s4 := s3.sub (.cons (t := 0) rfl (.cons (t := 2) rfl (.cons (t := 100002) rfl .nil))); clear s3
  refine wp_seq_k fun K2 hK2 => ?_
  refine wp_seq_k fun K3 hK3 => ?_
  refine wp_region_lit ?_
  refine seq_op s4 rfl rfl (of_decide_eq_true rfl) (ob_move rfl (opd_int rfl)) fun a5 w5 s5 => ?_; clear s4
  refine wpList_nil ?_
  refine then_normal ?_
  refine hK3 _ _ ?_
  have s6 := s5.sub (.cons (t := 0) rfl (.cons (t := 2) rfl (.cons (t := 13) rfl (.cons (t := 100002) rfl .nil)))); clear s5
  have hj1 : ∀ (y1 : (List Int)) (a : Act) (w : World), (digest_Hash_take.j1 k p1) y1 = some r → St ⟨164, w0, ok, (idsOf [BF b00 64 k_digest_Hash p1])⟩ [BF b00 64 k_digest_Hash p1, BF b1 74 (karr 64 (kint .u32)) y1] [(0, (ptrB b00 0)), (2, (ptrB b1 0)), (100002, (known (.pointer (some ⟨2, 0, none⟩)) (ptrTo (karr 64 (kint .u32)) G_digest_rounds)))] a w → K2 a w := by
    intro y1 a7 w7 h1 s7
    unfold digest_Hash_take.j1 at h1
    refine hK2 _ _ ?_
    refine wp_seq_k fun K4 hK4 => ?_
    refine wp_seq_k fun K5 hK5 => ?_
    refine wp_region_lit ?_
    refine seq_op s7 rfl rfl (of_decide_eq_true rfl) (ob_assign rfl (opd_int rfl)) fun a8 w8 s8 => ?_; clear s7
    refine wpList_nil ?_
    refine then_normal ?_
    refine hK5 _ _ ?_
    have s9 := s8.sub (.cons (t := 0) rfl (.cons (t := 2) rfl (.cons (t := 6) rfl (.cons (t := 100002) rfl .nil)))); clear s8
    have hj2 : ∀ (y2 : (List Int)) (a : Act) (w : World), (digest_Hash_take.j2 k p1) y2 = some r → St ⟨164, w0, ok, (idsOf [BF b00 64 k_digest_Hash p1])⟩ [BF b00 64 k_digest_Hash p1, BF b1 74 (karr 64 (kint .u32)) y2] [(0, (ptrB b00 0)), (2, (ptrB b1 0)), (100002, (known (.pointer (some ⟨2, 0, none⟩)) (ptrTo (karr 64 (kint .u32)) G_digest_rounds)))] a w → K4 a w := by
      intro y2 a10 w10 h2 s10
      unfold digest_Hash_take.j2 at h2
      refine hK4 _ _ ?_
      refine wp_seq_k fun K6 hK6 => ?_
      refine wp_region_lit ?_
      refine seq_op s10 rfl rfl (of_decide_eq_true rfl) (ob_move rfl (.tmp rfl)) fun a11 w11 s11 => ?_; clear s10
      refine seq_op s11 rfl rfl (of_decide_eq_true rfl) (ob_nilCheck rfl (.tmp rfl)) fun a12 w12 s12 => ?_; clear s11
      refine seq_op s12 rfl rfl (of_decide_eq_true rfl) (ob_fieldAddr (off' := 1) rfl Tryd.underlying64 rfl sz60 (by decide) (.tmp rfl) rfl) fun a13 w13 s13 => ?_; clear s12
      refine seq_op s13 rfl rfl (of_decide_eq_true rfl) (ob_load rfl tk60 (.tmp rfl) (.head _) (lg_digest_Hash_state p1)) fun a14 w14 s14 => ?_; clear s13
      refine seq_opx (B' := (fun b2 : Nat => [BF b2 60 (karr 8 (kint .u32)) (List.replicate 8 (0 : Int)), BF b00 64 k_digest_Hash p1, BF b1 74 (karr 64 (kint .u32)) y2])) s14 rfl rfl (of_decide_eq_true rfl) (ob_new (k := (karr 8 (kint .u32))) rfl zz60 (Zr.arr 8 (Zr.int .u32))) fun b2 a15 w15 s15 => ?_; clear s14
      refine seq_opx0 (B' := (fun _ : Unit => [BF b2 60 (karr 8 (kint .u32)) p1.state, BF b00 64 k_digest_Hash p1, BF b1 74 (karr 64 (kint .u32)) y2])) s15 rfl rfl (ob_store (A := []) rfl tk60 (.tmp rfl) (.tmp rfl) rfl (LS.refl _ _ _) rfl) fun _ a16 w16 s16 => ?_; clear s15
      refine wpList_nil ?_
      refine then_normal ?_
      refine hK6 _ _ ?_
      have s17 := s16.sub (.cons (t := 0) rfl (.cons (t := 2) rfl (.cons (t := 7) rfl (.cons (t := 100002) rfl .nil)))); clear s16
      refine wp_seq_k fun K7 hK7 => ?_
      refine wp_seq_k fun K8 hK8 => ?_
      refine wp_region_lit ?_
      refine seq_op s17 rfl rfl (of_decide_eq_true rfl) (ob_loadr rfl tk74 (.kept (t := 100002) (fun _ => rfl) rfl)) fun a18 w18 s18 => ?_; clear s17
      refine seq_op s18 rfl rfl (of_decide_eq_true rfl) (ob_move rfl (opd_int rfl)) fun a19 w19 s19 => ?_; clear s18
      refine wpList_nil ?_
      refine then_normal ?_
      refine hK8 _ _ ?_
      have s20 := s19.sub (.cons (t := 0) rfl (.cons (t := 2) rfl (.cons (t := 7) rfl (.cons (t := 72) rfl (.cons (t := 73) rfl (.cons (t := 100002) rfl .nil)))))); clear s19
      have hj3 : ∀ (y3 : (List Int)) (a : Act) (w : World), (digest_Hash_take.j3 k p1) y3 = some r → St ⟨164, w0, ok, (idsOf [BF b00 64 k_digest_Hash p1])⟩ [BF b00 64 k_digest_Hash p1, BF b2 60 (karr 8 (kint .u32)) y3] [(0, (ptrB b00 0)), (7, (ptrB b2 0)), (100002, (known (.pointer (some ⟨2, 0, none⟩)) (ptrTo (karr 64 (kint .u32)) G_digest_rounds)))] a w → K7 a w := by
        intro y3 a21 w21 h3 s21
        unfold digest_Hash_take.j3 at h3
        refine hK7 _ _ ?_
        refine wp_seq_k fun K9 hK9 => ?_
        refine wp_seq_k fun K10 hK10 => ?_
        refine wp_region_lit ?_
        refine seq_op s21 rfl rfl (of_decide_eq_true rfl) (ob_move rfl (opd_int rfl)) fun a22 w22 s22 => ?_; clear s21
        refine wpList_nil ?_
        refine then_normal ?_
        refine hK10 _ _ ?_
        have s23 := s22.sub (.cons (t := 0) rfl (.cons (t := 7) rfl (.cons (t := 144) rfl (.cons (t := 100002) rfl .nil)))); clear s22
        have hj4 : ∀ (y4 : digest_Hash) (a : Act) (w : World), (digest_Hash_take.j4 k) y4 = some r → St ⟨164, w0, ok, (idsOf [BF b00 64 k_digest_Hash p1])⟩ [BF b00 64 k_digest_Hash y4] [(0, (ptrB b00 0)), (100002, (known (.pointer (some ⟨2, 0, none⟩)) (ptrTo (karr 64 (kint .u32)) G_digest_rounds)))] a w → K9 a w := by
          intro y4 a24 w24 h4 s24
          unfold digest_Hash_take.j4 at h4
          refine hK9 _ _ ?_
          refine wp_region_lit ?_
          refine seq_op s24 rfl rfl (of_decide_eq_true rfl) (ob_move rfl (.tmp rfl)) fun a25 w25 s25 => ?_; clear s24
          refine seq_op s25 rfl rfl (of_decide_eq_true rfl) (ob_nilCheck rfl (.tmp rfl)) fun a26 w26 s26 => ?_; clear s25
          refine seq_op s26 rfl rfl (of_decide_eq_true rfl) (ob_fieldAddr (off' := 73) rfl Tryd.underlying64 rfl sz3 (by decide) (.tmp rfl) rfl) fun a27 w27 s27 => ?_; clear s26
          refine seq_opx0 (B' := (fun _ : Unit => [BF b00 64 k_digest_Hash ({ y4 with many := (0 : Int) })])) s27 rfl rfl (ob_store (A := []) rfl tk3 (.tmp rfl) (opd_int rfl) rfl (ls_digest_Hash_many y4 (0 : Int)) rfl) fun _ a28 w28 s28 => ?_; clear s27
          refine wpList_nil ?_
          obtain rfl := Option.some.inj h4
          exact leaveXD (D := []) () s28 rfl (.inr rfl) rfl .nil rfl
        refine wp_block ?_
        refine wp_loop_fuel (fun m (q : Int × digest_Hash) => digest_Hash_take.l1 k y3 m q.1 q.2) r (fun _ => rfl) (fun q a w => St ⟨164, w0, ok, (idsOf [BF b00 64 k_digest_Hash p1])⟩ [BF b00 64 k_digest_Hash q.2, BF b2 60 (karr 8 (kint .u32)) y3] [(0, (ptrB b00 0)), (7, (ptrB b2 0)), (144, ((kint .i64).V q.1)), (100002, (known (.pointer (some ⟨2, 0, none⟩)) (ptrTo (karr 64 (kint .u32)) G_digest_rounds)))] a w) ?_ k ((0 : Int), p1) _ _ h3 (s23.sub (.cons rfl (.cons rfl (.cons rfl (.cons rfl .nil)))))
        rintro n1 ⟨y5, y6⟩ a29 w29 h5 s29 K11 hK11
        replace h5 : digest_Hash_take.l1 k y3 (n1 + 1) y5 y6 = some r := h5; rw [digest_Hash_take.l1] at h5
        have h6 := h5; clear h5
        refine wp_seq_k fun K12 hK12 => ?_
        refine wp_region_lit ?_
        refine seq_op s29 rfl rfl (of_decide_eq_true rfl) (ob_lss rfl (.tmp rfl) (opd_int rfl)) fun a30 w30 s30 => ?_; clear s29
        refine wpList_nil ?_
        refine then_normal ?_
        refine hK12 _ _ ?_
        have s31 := s30.sub (.cons (t := 0) rfl (.cons (t := 7) rfl (.cons (t := 144) rfl (.cons (t := 145) rfl (.cons (t := 100002) rfl .nil))))); clear s30
        refine wp_seq_k fun K13 hK13 => ?_
        refine cond_split s31 (.tmp rfl) (fun hc1 => ?_) (fun hc1 => ?_)
        · replace h6 := ite_t hc1 h6
          have h7 := h6; clear h6
          refine wp_skip ?_
          refine then_normal ?_
          refine hK13 _ _ ?_
          have s32 := s31.sub (.cons (t := 0) rfl (.cons (t := 7) rfl (.cons (t := 144) rfl (.cons (t := 100002) rfl .nil)))); clear s31
          refine wp_seq_k fun K14 hK14 => ?_
          refine wp_block ?_
          refine wp_seq_k fun K15 hK15 => ?_
          refine wp_region_lit ?_
          refine seq_op s32 rfl rfl (of_decide_eq_true rfl) (ob_move rfl (.tmp rfl)) fun a33 w33 s33 => ?_; clear s32
          refine seq_op s33 rfl rfl (of_decide_eq_true rfl) (ob_assign rfl (.tmp rfl)) fun a34 w34 s34 => ?_; clear s33
          refine wpList_nil ?_
          refine then_normal ?_
          refine hK15 _ _ ?_
          have s35 := s34.sub (.cons (t := 0) rfl (.cons (t := 7) rfl (.cons (t := 12) rfl (.cons (t := 144) rfl (.cons (t := 100002) rfl .nil))))); clear s34
          obtain ⟨g1, h8⟩ := guard_some h7; clear h7
          obtain ⟨x1, e_x1, h9⟩ := bind_some h8; clear h8
          obtain ⟨g2, h10⟩ := guard_some h9; clear h9
          obtain ⟨x2, e_x2, h11⟩ := bind_some h10; clear h10
          refine wp_goes (Fs := [(ptrB b00 0), ((kint .i64).V y5), (ptrB b00 0), (ptrB b00 1), (ptrB b00 (1 + y5.toNat * 1)), ((kint .u32).V x1), ((kint .i64).V y5), (ptrB b2 (y5.toNat * 1)), ((kint .u32).V x2), ((kint .u32).V (iadd .u32 x1 x2)), (ptrB b00 0), (ptrB b00 1)]) (bits := [0, 0, 1, 5, 15, 31, 0, 64, 192, 511, 1, 1025, 4095, 8191]) (m := 12) (todo := 0) mx s35 ?_; clear s35
          refine goes_last (by kernel_rfl) rfl (opsS_cons (.plain _ (Av.old (t := 0) rfl rfl (Av.old (t := 100002) rfl rfl Av.nil)) rfl rfl (ob_move rfl (.tmp rfl))) (opsS_cons (.plain _ (Av.old (t := 12) rfl rfl (Av.old (t := 100002) rfl rfl Av.nil)) rfl rfl (ob_move rfl (.tmp rfl))) (opsS_cons (.plain _ (Av.new (j := 0) rfl rfl rfl (Av.old (t := 100002) rfl rfl Av.nil)) rfl rfl (ob_nilCheck rfl (.tmp rfl))) (opsS_cons (.plain _ (Av.new (j := 2) rfl rfl rfl (Av.old (t := 100002) rfl rfl Av.nil)) rfl rfl (ob_fieldAddr (off' := 1) rfl Tryd.underlying64 rfl sz60 (by decide) (.tmp rfl) rfl)) (opsS_cons (.plain _ (Av.new (j := 1) rfl rfl rfl (Av.new (j := 3) rfl rfl rfl (Av.old (t := 100002) rfl rfl Av.nil))) rfl rfl (ob_indexAddr rfl Tryd.underlying60 sz59 (.tmp rfl) (.tmp rfl) g1.1 g1.2 rfl)) (opsS_cons (.plain _ (Av.new (j := 4) rfl rfl rfl (Av.old (t := 100002) rfl rfl Av.nil)) rfl rfl (ob_load rfl tk59 (.tmp rfl) (.head _) (LG.trans (lg_digest_Hash_state y6) (LG.arrA e_x1) (by decide)))) (opsS_cons (.plain _ (Av.old (t := 12) rfl rfl (Av.old (t := 100002) rfl rfl Av.nil)) rfl rfl (ob_move rfl (.tmp rfl))) (opsS_cons (.plain _ (Av.old (t := 7) rfl rfl (Av.new (j := 6) rfl rfl rfl (Av.old (t := 100002) rfl rfl Av.nil))) rfl rfl (ob_indexAddr rfl Tryd.underlying60 sz59 (.tmp rfl) (.tmp rfl) g2.1 g2.2 (Nat.zero_add _))) (opsS_cons (.plain _ (Av.new (j := 7) rfl rfl rfl (Av.old (t := 100002) rfl rfl Av.nil)) rfl rfl (ob_load rfl tk59 (.tmp rfl) (.tail _ (.head _)) (LG.arrA e_x2))) (opsS_cons (.plain _ (Av.new (j := 5) rfl rfl rfl (Av.new (j := 8) rfl rfl rfl (Av.old (t := 100002) rfl rfl Av.nil))) rfl rfl (ob_add rfl (.tmp rfl) (.tmp rfl))) (opsS_cons (.plain _ (Av.new (j := 0) rfl rfl rfl (Av.old (t := 100002) rfl rfl Av.nil)) rfl rfl (ob_nilCheck rfl (.tmp rfl))) (opsS_cons (.plain _ (Av.new (j := 10) rfl rfl rfl (Av.old (t := 100002) rfl rfl Av.nil)) rfl rfl (ob_fieldAddr (off' := 1) rfl Tryd.underlying64 rfl sz60 (by decide) (.tmp rfl) rfl)) opsS_nil)))))))))))) (out_old (t := 0) rfl rfl (out_old (t := 7) rfl rfl (out_old (t := 144) rfl rfl (out_new (i := 1) (by decide) rfl rfl (out_new (i := 9) (by decide) rfl rfl (out_new (i := 11) (by decide) rfl rfl (out_old (t := 100002) rfl rfl out_nil))))))) fun a36 w36 s36 => ?_
          obtain ⟨g3, h12⟩ := guard_some h11; clear h11
          refine seq_op s36 rfl rfl (of_decide_eq_true rfl) (ob_indexAddr rfl Tryd.underlying60 sz59 (.tmp rfl) (.tmp rfl) g3.1 g3.2 rfl) fun a37 w37 s37 => ?_; clear s36
          obtain ⟨x3, e_x3, h13⟩ := bind_some h12; clear h12
          refine seq_opx0 (B' := (fun _ : Unit => [BF b00 64 k_digest_Hash ({ y6 with state := x3 }), BF b2 60 (karr 8 (kint .u32)) y3])) s37 rfl rfl (ob_store (A := []) rfl tk59 (.tmp rfl) (.tmp rfl) rfl (LS.trans (lg_digest_Hash_state y6) (LS.arrS e_x3) (ls_digest_Hash_state y6 x3)) rfl) fun _ a38 w38 s38 => ?_; clear s37
          refine wpList_nil ?_
          refine in_normal ?_
          refine then_normal ?_
          refine hK14 _ _ ?_
          have s39 := s38.sub (.cons (t := 0) rfl (.cons (t := 7) rfl (.cons (t := 144) rfl (.cons (t := 100002) rfl .nil)))); clear s38
          refine wp_region_lit ?_
          refine seq_op s39 rfl rfl (of_decide_eq_true rfl) (ob_add rfl (.tmp rfl) (opd_int rfl)) fun a40 w40 s40 => ?_; clear s39
          refine seq_op s40 rfl rfl (of_decide_eq_true rfl) (ob_move rfl (.tmp rfl)) fun a41 w41 s41 => ?_; clear s40
          refine wpList_nil ?_
          refine then_normal ?_
          exact hK11 ((iadd .i64 y5 (1 : Int)), { y6 with state := x3 }) _ _ h13 (s41.sub (.cons rfl (.cons rfl (.cons rfl (.cons rfl .nil)))))
        · replace h6 := ite_f hc1 h6
          have h14 := h6; clear h6
          refine wp_exit ?_
          refine (then_exit (then_exit (in_here ?_)))
          refine then_normal ?_
          have s42 := St.drop (A := [_]) s31; clear s31
          exact hj4 y6 _ _ h14 (s42.sub (.cons rfl (.cons rfl .nil)))
      refine wp_block ?_
      have s43 := s20.perm (toFront [_] (toFront [_] (toFront [] (List.Perm.refl _)))); clear s20
      refine wp_loop_fuel (fun m (q : Int × (List Int)) => digest_Hash_take.l2 k y2 p1 m q.1 q.2) r (fun _ => rfl) (fun q a w => St ⟨164, w0, ok, (idsOf [BF b00 64 k_digest_Hash p1])⟩ [BF b00 64 k_digest_Hash p1, BF b1 74 (karr 64 (kint .u32)) y2, BF b2 60 (karr 8 (kint .u32)) q.2] [(0, (ptrB b00 0)), (2, (ptrB b1 0)), (7, (ptrB b2 0)), (72, ((karr 64 (kint .u32)).V G_digest_rounds)), (73, ((kint .i64).V q.1)), (100002, (known (.pointer (some ⟨2, 0, none⟩)) (ptrTo (karr 64 (kint .u32)) G_digest_rounds)))] a w) ?_ k ((0 : Int), p1.state) _ _ h2 (s43.sub (.cons rfl (.cons rfl (.cons rfl (.cons rfl (.cons rfl (.cons rfl .nil)))))))
      rintro n2 ⟨y7, y8⟩ a44 w44 h15 s44 K16 hK16
      replace h15 : digest_Hash_take.l2 k y2 p1 (n2 + 1) y7 y8 = some r := h15; rw [digest_Hash_take.l2] at h15
      have h16 := h15; clear h15
      refine wp_seq_k fun K17 hK17 => ?_
      refine wp_region_lit ?_
      refine seq_op s44 rfl rfl (of_decide_eq_true rfl) (ob_lss rfl (.tmp rfl) (opd_int rfl)) fun a45 w45 s45 => ?_; clear s44
      refine wpList_nil ?_
      refine then_normal ?_
      refine hK17 _ _ ?_
      have s46 := s45.sub (.cons (t := 0) rfl (.cons (t := 2) rfl (.cons (t := 7) rfl (.cons (t := 72) rfl (.cons (t := 73) rfl (.cons (t := 74) rfl (.cons (t := 100002) rfl .nil))))))); clear s45
      refine wp_seq_k fun K18 hK18 => ?_
      refine cond_split s46 (.tmp rfl) (fun hc2 => ?_) (fun hc2 => ?_)
      · replace h16 := ite_t hc2 h16
        have h17 := h16; clear h16
        refine wp_skip ?_
        refine then_normal ?_
        refine hK18 _ _ ?_
        have s47 := s46.sub (.cons (t := 0) rfl (.cons (t := 2) rfl (.cons (t := 7) rfl (.cons (t := 72) rfl (.cons (t := 73) rfl (.cons (t := 100002) rfl .nil)))))); clear s46
        refine wp_seq_k fun K19 hK19 => ?_
        refine wp_block ?_
        refine wp_seq_k fun K20 hK20 => ?_
        refine wp_region_lit ?_
        refine seq_op s47 rfl rfl (of_decide_eq_true rfl) (ob_move rfl (.tmp rfl)) fun a48 w48 s48 => ?_; clear s47
        obtain ⟨x4, e_x4, h18⟩ := bind_some h17; clear h17
        obtain ⟨g4, h19⟩ := guard_some h18; clear h18
        refine seq_op s48 rfl rfl (of_decide_eq_true rfl) (ob_index rfl Tryd.underlying74 tk59 (.tmp rfl) (.tmp rfl) g4 e_x4) fun a49 w49 s49 => ?_; clear s48
        refine seq_op s49 rfl rfl (of_decide_eq_true rfl) (ob_assign rfl (.tmp rfl)) fun a50 w50 s50 => ?_; clear s49
        refine seq_op s50 rfl rfl (of_decide_eq_true rfl) (ob_assign rfl (.tmp rfl)) fun a51 w51 s51 => ?_; clear s50
        refine wpList_nil ?_
        refine then_normal ?_
        refine hK20 _ _ ?_
        have s52 := s51.sub (.cons (t := 0) rfl (.cons (t := 2) rfl (.cons (t := 7) rfl (.cons (t := 8) rfl (.cons (t := 9) rfl (.cons (t := 72) rfl (.cons (t := 73) rfl (.cons (t := 100002) rfl .nil)))))))); clear s51
        refine wp_seq_k fun K21 hK21 => ?_
        obtain ⟨x5, e_x5, h20⟩ := bind_some h19; clear h19
        obtain ⟨x6, e_x6, h21⟩ := bind_some h20; clear h20
        obtain ⟨x7, e_x7, h22⟩ := bind_some h21; clear h21
        obtain ⟨x8, e_x8, h23⟩ := bind_some h22; clear h22
        obtain ⟨x9, e_x9, h24⟩ := bind_some h23; clear h23
        obtain ⟨x10, e_x10, h25⟩ := bind_some h24; clear h24
        obtain ⟨x11, e_x11, h26⟩ := bind_some h25; clear h25
        obtain ⟨x12, e_x12, h27⟩ := bind_some h26; clear h26; replace e_x12 := Option.some.inj e_x12
        obtain ⟨g5, h28⟩ := guard_some h27; clear h27
        obtain ⟨x13, e_x13, h29⟩ := bind_some h28; clear h28
        refine wp_goes (Fs := [(ptrB b2 ((7 : Int).toNat * 1)), ((kint .u32).V x5), (ptrB b2 ((4 : Int).toNat * 1)), ((kint .u32).V x6), ((kint .u32).V x7), ((kint .u32).V (iadd .u32 x5 x7)), (ptrB b2 ((4 : Int).toNat * 1)), ((kint .u32).V x8), (ptrB b2 ((5 : Int).toNat * 1)), ((kint .u32).V x9), ((kint .u32).V (iand .u32 x8 x9)), (ptrB b2 ((4 : Int).toNat * 1)), ((kint .u32).V x10), ((kint .u32).V (inot .u32 x10)), (ptrB b2 ((6 : Int).toNat * 1)), ((kint .u32).V x11), ((kint .u32).V (iand .u32 (inot .u32 x10) x11)), ((kint .u32).V (ixor .u32 (iand .u32 x8 x9) (iand .u32 (inot .u32 x10) x11))), ((kint .u32).V x12), ((kint .u32).V x4), ((kint .u32).V (iadd .u32 x12 x4)), ((kint .i64).V y7), (ptrB b1 (y7.toNat * 1)), ((kint .u32).V x13)]) (bits := [0, 1, 0, 4, 12, 31, 0, 64, 0, 256, 960, 0, 2048, 6144, 0, 16384, 63488, 131008, 262143, 0, 1048575, 0, 2097152, 6291456, 16777215, 33554431]) (m := 24) (todo := 0) mx s52 ?_; clear s52
        refine goes_last (by kernel_rfl) rfl (opsS_cons (.plain _ (Av.old (t := 7) rfl rfl (Av.old (t := 100002) rfl rfl Av.nil)) rfl rfl (ob_indexAddr rfl Tryd.underlying60 sz59 (.tmp rfl) (opd_int rfl) (by decide) (by decide) (Nat.zero_add _))) (opsS_cons (.plain _ (Av.new (j := 0) rfl rfl rfl (Av.old (t := 100002) rfl rfl Av.nil)) rfl rfl (ob_load rfl tk59 (.tmp rfl) (.tail _ (.tail _ (.head _))) (LG.arrA e_x5))) (opsS_cons (.plain _ (Av.old (t := 7) rfl rfl (Av.old (t := 100002) rfl rfl Av.nil)) rfl rfl (ob_indexAddr rfl Tryd.underlying60 sz59 (.tmp rfl) (opd_int rfl) (by decide) (by decide) (Nat.zero_add _))) (opsS_cons (.plain _ (Av.new (j := 2) rfl rfl rfl (Av.old (t := 100002) rfl rfl Av.nil)) rfl rfl (ob_load rfl tk59 (.tmp rfl) (.tail _ (.tail _ (.head _))) (LG.arrA e_x6))) (opsS_cons (.plain _ (Av.new (j := 3) rfl rfl rfl (Av.old (t := 100002) rfl rfl Av.nil)) rfl rfl (ob_callD (args := [_, _, _, _]) rfl .direct hb37 (fun a w s fs gs hf hg => by obtain rfl := hf.unnil; obtain rfl := hg.unnil; exact c_digest_spin k _ _ _ _ _ e_x7 _ _ _ _ _ _ (s.arg (.tmp rfl)) (s.arg (opd_int rfl)) (s.arg (opd_int rfl)) (s.arg (opd_int rfl))))) (opsS_cons (.plain _ (Av.new (j := 1) rfl rfl rfl (Av.new (j := 4) rfl rfl rfl (Av.old (t := 100002) rfl rfl Av.nil))) rfl rfl (ob_add rfl (.tmp rfl) (.tmp rfl))) (opsS_cons (.plain _ (Av.old (t := 7) rfl rfl (Av.old (t := 100002) rfl rfl Av.nil)) rfl rfl (ob_indexAddr rfl Tryd.underlying60 sz59 (.tmp rfl) (opd_int rfl) (by decide) (by decide) (Nat.zero_add _))) (opsS_cons (.plain _ (Av.new (j := 6) rfl rfl rfl (Av.old (t := 100002) rfl rfl Av.nil)) rfl rfl (ob_load rfl tk59 (.tmp rfl) (.tail _ (.tail _ (.head _))) (LG.arrA e_x8))) (opsS_cons (.plain _ (Av.old (t := 7) rfl rfl (Av.old (t := 100002) rfl rfl Av.nil)) rfl rfl (ob_indexAddr rfl Tryd.underlying60 sz59 (.tmp rfl) (opd_int rfl) (by decide) (by decide) (Nat.zero_add _))) (opsS_cons (.plain _ (Av.new (j := 8) rfl rfl rfl (Av.old (t := 100002) rfl rfl Av.nil)) rfl rfl (ob_load rfl tk59 (.tmp rfl) (.tail _ (.tail _ (.head _))) (LG.arrA e_x9))) (opsS_cons (.plain _ (Av.new (j := 7) rfl rfl rfl (Av.new (j := 9) rfl rfl rfl (Av.old (t := 100002) rfl rfl Av.nil))) rfl rfl (ob_and rfl (.tmp rfl) (.tmp rfl))) (opsS_cons (.plain _ (Av.old (t := 7) rfl rfl (Av.old (t := 100002) rfl rfl Av.nil)) rfl rfl (ob_indexAddr rfl Tryd.underlying60 sz59 (.tmp rfl) (opd_int rfl) (by decide) (by decide) (Nat.zero_add _))) (opsS_cons (.plain _ (Av.new (j := 11) rfl rfl rfl (Av.old (t := 100002) rfl rfl Av.nil)) rfl rfl (ob_load rfl tk59 (.tmp rfl) (.tail _ (.tail _ (.head _))) (LG.arrA e_x10))) (opsS_cons (.plain _ (Av.new (j := 12) rfl rfl rfl (Av.old (t := 100002) rfl rfl Av.nil)) rfl rfl (ob_xor1 rfl (.tmp rfl))) (opsS_cons (.plain _ (Av.old (t := 7) rfl rfl (Av.old (t := 100002) rfl rfl Av.nil)) rfl rfl (ob_indexAddr rfl Tryd.underlying60 sz59 (.tmp rfl) (opd_int rfl) (by decide) (by decide) (Nat.zero_add _))) (opsS_cons (.plain _ (Av.new (j := 14) rfl rfl rfl (Av.old (t := 100002) rfl rfl Av.nil)) rfl rfl (ob_load rfl tk59 (.tmp rfl) (.tail _ (.tail _ (.head _))) (LG.arrA e_x11))) (opsS_cons (.plain _ (Av.new (j := 13) rfl rfl rfl (Av.new (j := 15) rfl rfl rfl (Av.old (t := 100002) rfl rfl Av.nil))) rfl rfl (ob_and rfl (.tmp rfl) (.tmp rfl))) (opsS_cons (.plain _ (Av.new (j := 10) rfl rfl rfl (Av.new (j := 16) rfl rfl rfl (Av.old (t := 100002) rfl rfl Av.nil))) rfl rfl (ob_xor rfl (.tmp rfl) (.tmp rfl))) (opsS_cons (.plain _ (Av.new (j := 5) rfl rfl rfl (Av.new (j := 17) rfl rfl rfl (Av.old (t := 100002) rfl rfl Av.nil))) rfl rfl ((ob_add rfl (.tmp rfl) (.tmp rfl)).nm e_x12)) (opsS_cons (.plain _ (Av.old (t := 9) rfl rfl (Av.old (t := 100002) rfl rfl Av.nil)) rfl rfl (ob_move rfl (.tmp rfl))) (opsS_cons (.plain _ (Av.new (j := 18) rfl rfl rfl (Av.new (j := 19) rfl rfl rfl (Av.old (t := 100002) rfl rfl Av.nil))) rfl rfl (ob_add rfl (.tmp rfl) (.tmp rfl))) (opsS_cons (.plain _ (Av.old (t := 8) rfl rfl (Av.old (t := 100002) rfl rfl Av.nil)) rfl rfl (ob_move rfl (.tmp rfl))) (opsS_cons (.plain _ (Av.old (t := 2) rfl rfl (Av.new (j := 21) rfl rfl rfl (Av.old (t := 100002) rfl rfl Av.nil))) rfl rfl (ob_indexAddr rfl Tryd.underlying74 sz59 (.tmp rfl) (.tmp rfl) g5.1 g5.2 (Nat.zero_add _))) (opsS_cons (.plain _ (Av.new (j := 22) rfl rfl rfl (Av.old (t := 100002) rfl rfl Av.nil)) rfl rfl (ob_load rfl tk59 (.tmp rfl) (.tail _ (.head _)) (LG.arrA e_x13))) opsS_nil)))))))))))))))))))))))) (out_old (t := 0) rfl rfl (out_old (t := 2) rfl rfl (out_old (t := 7) rfl rfl (out_old (t := 72) rfl rfl (out_old (t := 73) rfl rfl (out_new (i := 20) (by decide) rfl rfl (out_new (i := 23) (by decide) rfl rfl (out_old (t := 100002) rfl rfl out_nil)))))))) fun a53 w53 s53 => ?_
        refine seq_op s53 rfl rfl (of_decide_eq_true rfl) (ob_add rfl (.tmp rfl) (.tmp rfl)) fun a54 w54 s54 => ?_; clear s53
        refine seq_op s54 rfl rfl (of_decide_eq_true rfl) (ob_assign rfl (.tmp rfl)) fun a55 w55 s55 => ?_; clear s54
        refine wpList_nil ?_
        refine then_normal ?_
        refine hK21 _ _ ?_
        have s56 := s55.sub (.cons (t := 0) rfl (.cons (t := 2) rfl (.cons (t := 7) rfl (.cons (t := 10) rfl (.cons (t := 72) rfl (.cons (t := 73) rfl (.cons (t := 100002) rfl .nil))))))); clear s55
        refine wp_seq_k fun K22 hK22 => ?_
        obtain ⟨x14, e_x14, h30⟩ := bind_some h29; clear h29
        obtain ⟨x15, e_x15, h31⟩ := bind_some h30; clear h30
        obtain ⟨x16, e_x16, h32⟩ := bind_some h31; clear h31
        obtain ⟨x17, e_x17, h33⟩ := bind_some h32; clear h32
        obtain ⟨x18, e_x18, h34⟩ := bind_some h33; clear h33
        obtain ⟨x19, e_x19, h35⟩ := bind_some h34; clear h34
        obtain ⟨x20, e_x20, h36⟩ := bind_some h35; clear h35
        obtain ⟨x21, e_x21, h37⟩ := bind_some h36; clear h36
        obtain ⟨x22, e_x22, h38⟩ := bind_some h37; clear h37; replace e_x22 := Option.some.inj e_x22
        refine wp_goes (Fs := [(ptrB b2 ((0 : Int).toNat * 1)), ((kint .u32).V x14), ((kint .u32).V x15), (ptrB b2 ((0 : Int).toNat * 1)), ((kint .u32).V x16), (ptrB b2 ((1 : Int).toNat * 1)), ((kint .u32).V x17), ((kint .u32).V (iand .u32 x16 x17)), (ptrB b2 ((0 : Int).toNat * 1)), ((kint .u32).V x18), (ptrB b2 ((2 : Int).toNat * 1)), ((kint .u32).V x19), ((kint .u32).V (iand .u32 x18 x19)), ((kint .u32).V (ixor .u32 (iand .u32 x16 x17) (iand .u32 x18 x19))), (ptrB b2 ((1 : Int).toNat * 1)), ((kint .u32).V x20), (ptrB b2 ((2 : Int).toNat * 1)), ((kint .u32).V x21), ((kint .u32).V (iand .u32 x20 x21)), ((kint .u32).V x22)]) (bits := [0, 1, 3, 0, 8, 0, 32, 120, 0, 256, 0, 1024, 3840, 8184, 0, 16384, 0, 65536, 245760, 524280, 1048575, 2097151]) (m := 20) (todo := 0) mx s56 ?_; clear s56
        refine goes_last (by kernel_rfl) rfl (opsS_cons (.plain _ (Av.old (t := 7) rfl rfl (Av.old (t := 100002) rfl rfl Av.nil)) rfl rfl (ob_indexAddr rfl Tryd.underlying60 sz59 (.tmp rfl) (opd_int rfl) (by decide) (by decide) (Nat.zero_add _))) (opsS_cons (.plain _ (Av.new (j := 0) rfl rfl rfl (Av.old (t := 100002) rfl rfl Av.nil)) rfl rfl (ob_load rfl tk59 (.tmp rfl) (.tail _ (.tail _ (.head _))) (LG.arrA e_x14))) (opsS_cons (.plain _ (Av.new (j := 1) rfl rfl rfl (Av.old (t := 100002) rfl rfl Av.nil)) rfl rfl (ob_callD (args := [_, _, _, _]) rfl .direct hb37 (fun a w s fs gs hf hg => by obtain rfl := hf.unnil; obtain rfl := hg.unnil; exact c_digest_spin k _ _ _ _ _ e_x15 _ _ _ _ _ _ (s.arg (.tmp rfl)) (s.arg (opd_int rfl)) (s.arg (opd_int rfl)) (s.arg (opd_int rfl))))) (opsS_cons (.plain _ (Av.old (t := 7) rfl rfl (Av.old (t := 100002) rfl rfl Av.nil)) rfl rfl (ob_indexAddr rfl Tryd.underlying60 sz59 (.tmp rfl) (opd_int rfl) (by decide) (by decide) (Nat.zero_add _))) (opsS_cons (.plain _ (Av.new (j := 3) rfl rfl rfl (Av.old (t := 100002) rfl rfl Av.nil)) rfl rfl (ob_load rfl tk59 (.tmp rfl) (.tail _ (.tail _ (.head _))) (LG.arrA e_x16))) (opsS_cons (.plain _ (Av.old (t := 7) rfl rfl (Av.old (t := 100002) rfl rfl Av.nil)) rfl rfl (ob_indexAddr rfl Tryd.underlying60 sz59 (.tmp rfl) (opd_int rfl) (by decide) (by decide) (Nat.zero_add _))) (opsS_cons (.plain _ (Av.new (j := 5) rfl rfl rfl (Av.old (t := 100002) rfl rfl Av.nil)) rfl rfl (ob_load rfl tk59 (.tmp rfl) (.tail _ (.tail _ (.head _))) (LG.arrA e_x17))) (opsS_cons (.plain _ (Av.new (j := 4) rfl rfl rfl (Av.new (j := 6) rfl rfl rfl (Av.old (t := 100002) rfl rfl Av.nil))) rfl rfl (ob_and rfl (.tmp rfl) (.tmp rfl))) (opsS_cons (.plain _ (Av.old (t := 7) rfl rfl (Av.old (t := 100002) rfl rfl Av.nil)) rfl rfl (ob_indexAddr rfl Tryd.underlying60 sz59 (.tmp rfl) (opd_int rfl) (by decide) (by decide) (Nat.zero_add _))) (opsS_cons (.plain _ (Av.new (j := 8) rfl rfl rfl (Av.old (t := 100002) rfl rfl Av.nil)) rfl rfl (ob_load rfl tk59 (.tmp rfl) (.tail _ (.tail _ (.head _))) (LG.arrA e_x18))) (opsS_cons (.plain _ (Av.old (t := 7) rfl rfl (Av.old (t := 100002) rfl rfl Av.nil)) rfl rfl (ob_indexAddr rfl Tryd.underlying60 sz59 (.tmp rfl) (opd_int rfl) (by decide) (by decide) (Nat.zero_add _))) (opsS_cons (.plain _ (Av.new (j := 10) rfl rfl rfl (Av.old (t := 100002) rfl rfl Av.nil)) rfl rfl (ob_load rfl tk59 (.tmp rfl) (.tail _ (.tail _ (.head _))) (LG.arrA e_x19))) (opsS_cons (.plain _ (Av.new (j := 9) rfl rfl rfl (Av.new (j := 11) rfl rfl rfl (Av.old (t := 100002) rfl rfl Av.nil))) rfl rfl (ob_and rfl (.tmp rfl) (.tmp rfl))) (opsS_cons (.plain _ (Av.new (j := 7) rfl rfl rfl (Av.new (j := 12) rfl rfl rfl (Av.old (t := 100002) rfl rfl Av.nil))) rfl rfl (ob_xor rfl (.tmp rfl) (.tmp rfl))) (opsS_cons (.plain _ (Av.old (t := 7) rfl rfl (Av.old (t := 100002) rfl rfl Av.nil)) rfl rfl (ob_indexAddr rfl Tryd.underlying60 sz59 (.tmp rfl) (opd_int rfl) (by decide) (by decide) (Nat.zero_add _))) (opsS_cons (.plain _ (Av.new (j := 14) rfl rfl rfl (Av.old (t := 100002) rfl rfl Av.nil)) rfl rfl (ob_load rfl tk59 (.tmp rfl) (.tail _ (.tail _ (.head _))) (LG.arrA e_x20))) (opsS_cons (.plain _ (Av.old (t := 7) rfl rfl (Av.old (t := 100002) rfl rfl Av.nil)) rfl rfl (ob_indexAddr rfl Tryd.underlying60 sz59 (.tmp rfl) (opd_int rfl) (by decide) (by decide) (Nat.zero_add _))) (opsS_cons (.plain _ (Av.new (j := 16) rfl rfl rfl (Av.old (t := 100002) rfl rfl Av.nil)) rfl rfl (ob_load rfl tk59 (.tmp rfl) (.tail _ (.tail _ (.head _))) (LG.arrA e_x21))) (opsS_cons (.plain _ (Av.new (j := 15) rfl rfl rfl (Av.new (j := 17) rfl rfl rfl (Av.old (t := 100002) rfl rfl Av.nil))) rfl rfl (ob_and rfl (.tmp rfl) (.tmp rfl))) (opsS_cons (.plain _ (Av.new (j := 13) rfl rfl rfl (Av.new (j := 18) rfl rfl rfl (Av.old (t := 100002) rfl rfl Av.nil))) rfl rfl ((ob_xor rfl (.tmp rfl) (.tmp rfl)).nm e_x22)) opsS_nil)))))))))))))))))))) (out_old (t := 0) rfl rfl (out_old (t := 2) rfl rfl (out_old (t := 7) rfl rfl (out_old (t := 10) rfl rfl (out_old (t := 72) rfl rfl (out_old (t := 73) rfl rfl (out_new (i := 2) (by decide) rfl rfl (out_new (i := 19) (by decide) rfl rfl (out_old (t := 100002) rfl rfl out_nil))))))))) fun a57 w57 s57 => ?_
        refine seq_op s57 rfl rfl (of_decide_eq_true rfl) (ob_add rfl (.tmp rfl) (.tmp rfl)) fun a58 w58 s58 => ?_; clear s57
        refine seq_op s58 rfl rfl (of_decide_eq_true rfl) (ob_assign rfl (.tmp rfl)) fun a59 w59 s59 => ?_; clear s58
        refine wpList_nil ?_
        refine then_normal ?_
        refine hK22 _ _ ?_
        have s60 := s59.sub (.cons (t := 0) rfl (.cons (t := 2) rfl (.cons (t := 7) rfl (.cons (t := 10) rfl (.cons (t := 11) rfl (.cons (t := 72) rfl (.cons (t := 73) rfl (.cons (t := 100002) rfl .nil)))))))); clear s59
        refine wp_region_lit ?_
        refine seq_op s60 rfl rfl (of_decide_eq_true rfl) (ob_move rfl (.tmp rfl)) fun a61 w61 s61 => ?_; clear s60
        refine seq_op s61 rfl rfl (of_decide_eq_true rfl) (ob_move rfl (.tmp rfl)) fun a62 w62 s62 => ?_; clear s61
        refine seq_op s62 rfl rfl (of_decide_eq_true rfl) (ob_add rfl (.tmp rfl) (.tmp rfl)) fun a63 w63 s63 => ?_; clear s62
        refine seq_op s63 rfl rfl (of_decide_eq_true rfl) (ob_indexAddr rfl Tryd.underlying60 sz59 (.tmp rfl) (opd_int rfl) (by decide) (by decide) (Nat.zero_add _)) fun a64 w64 s64 => ?_; clear s63
        obtain ⟨x23, e_x23, h39⟩ := bind_some h38; clear h38
        refine seq_op s64 rfl rfl (of_decide_eq_true rfl) (ob_load rfl tk59 (.tmp rfl) (.tail _ (.tail _ (.head _))) (LG.arrA e_x23)) fun a65 w65 s65 => ?_; clear s64
        refine seq_op s65 rfl rfl (of_decide_eq_true rfl) (ob_indexAddr rfl Tryd.underlying60 sz59 (.tmp rfl) (opd_int rfl) (by decide) (by decide) (Nat.zero_add _)) fun a66 w66 s66 => ?_; clear s65
        obtain ⟨x24, e_x24, h40⟩ := bind_some h39; clear h39
        refine seq_op s66 rfl rfl (of_decide_eq_true rfl) (ob_load rfl tk59 (.tmp rfl) (.tail _ (.tail _ (.head _))) (LG.arrA e_x24)) fun a67 w67 s67 => ?_; clear s66
        refine seq_op s67 rfl rfl (of_decide_eq_true rfl) (ob_indexAddr rfl Tryd.underlying60 sz59 (.tmp rfl) (opd_int rfl) (by decide) (by decide) (Nat.zero_add _)) fun a68 w68 s68 => ?_; clear s67
        obtain ⟨x25, e_x25, h41⟩ := bind_some h40; clear h40
        refine seq_op s68 rfl rfl (of_decide_eq_true rfl) (ob_load rfl tk59 (.tmp rfl) (.tail _ (.tail _ (.head _))) (LG.arrA e_x25)) fun a69 w69 s69 => ?_; clear s68
        refine seq_op s69 rfl rfl (of_decide_eq_true rfl) (ob_indexAddr rfl Tryd.underlying60 sz59 (.tmp rfl) (opd_int rfl) (by decide) (by decide) (Nat.zero_add _)) fun a70 w70 s70 => ?_; clear s69
        obtain ⟨x26, e_x26, h42⟩ := bind_some h41; clear h41
        refine seq_op s70 rfl rfl (of_decide_eq_true rfl) (ob_load rfl tk59 (.tmp rfl) (.tail _ (.tail _ (.head _))) (LG.arrA e_x26)) fun a71 w71 s71 => ?_; clear s70
        refine seq_op s71 rfl rfl (of_decide_eq_true rfl) (ob_move rfl (.tmp rfl)) fun a72 w72 s72 => ?_; clear s71
        refine seq_op s72 rfl rfl (of_decide_eq_true rfl) (ob_add rfl (.tmp rfl) (.tmp rfl)) fun a73 w73 s73 => ?_; clear s72
        refine seq_op s73 rfl rfl (of_decide_eq_true rfl) (ob_indexAddr rfl Tryd.underlying60 sz59 (.tmp rfl) (opd_int rfl) (by decide) (by decide) (Nat.zero_add _)) fun a74 w74 s74 => ?_; clear s73
        obtain ⟨x27, e_x27, h43⟩ := bind_some h42; clear h42
        refine seq_op s74 rfl rfl (of_decide_eq_true rfl) (ob_load rfl tk59 (.tmp rfl) (.tail _ (.tail _ (.head _))) (LG.arrA e_x27)) fun a75 w75 s75 => ?_; clear s74
        refine seq_op s75 rfl rfl (of_decide_eq_true rfl) (ob_indexAddr rfl Tryd.underlying60 sz59 (.tmp rfl) (opd_int rfl) (by decide) (by decide) (Nat.zero_add _)) fun a76 w76 s76 => ?_; clear s75
        obtain ⟨x28, e_x28, h44⟩ := bind_some h43; clear h43
        refine seq_op s76 rfl rfl (of_decide_eq_true rfl) (ob_load rfl tk59 (.tmp rfl) (.tail _ (.tail _ (.head _))) (LG.arrA e_x28)) fun a77 w77 s77 => ?_; clear s76
        refine seq_op s77 rfl rfl (of_decide_eq_true rfl) (ob_indexAddr rfl Tryd.underlying60 sz59 (.tmp rfl) (opd_int rfl) (by decide) (by decide) (Nat.zero_add _)) fun a78 w78 s78 => ?_; clear s77
        obtain ⟨x29, e_x29, h45⟩ := bind_some h44; clear h44
        refine seq_op s78 rfl rfl (of_decide_eq_true rfl) (ob_load rfl tk59 (.tmp rfl) (.tail _ (.tail _ (.head _))) (LG.arrA e_x29)) fun a79 w79 s79 => ?_; clear s78
        obtain ⟨x30, e_x30, h46⟩ := bind_some h45; clear h45; replace e_x30 := Option.some.inj e_x30
        refine seq_op s79 rfl rfl (of_decide_eq_true rfl) (((ob_mkArr (k := (kint .u32)) rfl Tryd.underlying60 zz60 sz59 (Zr.arr 8 (Zr.int .u32)) (.cons (.tmp rfl) rfl (LS.arr' (i := 0) (ys := ([(iadd .u32 (iadd .u32 (iadd .u32 x12 x4) x13) (iadd .u32 x15 x22)), (0 : Int), (0 : Int), (0 : Int), (0 : Int), (0 : Int), (0 : Int), (0 : Int)] : (List Int))) (by simp) (by rfl)) (.cons (.tmp rfl) rfl (LS.arr' (i := 1) (ys := ([(iadd .u32 (iadd .u32 (iadd .u32 x12 x4) x13) (iadd .u32 x15 x22)), x23, (0 : Int), (0 : Int), (0 : Int), (0 : Int), (0 : Int), (0 : Int)] : (List Int))) (by simp) (by rfl)) (.cons (.tmp rfl) rfl (LS.arr' (i := 2) (ys := ([(iadd .u32 (iadd .u32 (iadd .u32 x12 x4) x13) (iadd .u32 x15 x22)), x23, x24, (0 : Int), (0 : Int), (0 : Int), (0 : Int), (0 : Int)] : (List Int))) (by simp) (by rfl)) (.cons (.tmp rfl) rfl (LS.arr' (i := 3) (ys := ([(iadd .u32 (iadd .u32 (iadd .u32 x12 x4) x13) (iadd .u32 x15 x22)), x23, x24, x25, (0 : Int), (0 : Int), (0 : Int), (0 : Int)] : (List Int))) (by simp) (by rfl)) (.cons (.tmp rfl) rfl (LS.arr' (i := 4) (ys := ([(iadd .u32 (iadd .u32 (iadd .u32 x12 x4) x13) (iadd .u32 x15 x22)), x23, x24, x25, (iadd .u32 x26 (iadd .u32 (iadd .u32 x12 x4) x13)), (0 : Int), (0 : Int), (0 : Int)] : (List Int))) (by simp) (by rfl)) (.cons (.tmp rfl) rfl (LS.arr' (i := 5) (ys := ([(iadd .u32 (iadd .u32 (iadd .u32 x12 x4) x13) (iadd .u32 x15 x22)), x23, x24, x25, (iadd .u32 x26 (iadd .u32 (iadd .u32 x12 x4) x13)), x27, (0 : Int), (0 : Int)] : (List Int))) (by simp) (by rfl)) (.cons (.tmp rfl) rfl (LS.arr' (i := 6) (ys := ([(iadd .u32 (iadd .u32 (iadd .u32 x12 x4) x13) (iadd .u32 x15 x22)), x23, x24, x25, (iadd .u32 x26 (iadd .u32 (iadd .u32 x12 x4) x13)), x27, x28, (0 : Int)] : (List Int))) (by simp) (by rfl)) (.cons (.tmp rfl) rfl (LS.arr' (i := 7) (ys := ([(iadd .u32 (iadd .u32 (iadd .u32 x12 x4) x13) (iadd .u32 x15 x22)), x23, x24, x25, (iadd .u32 x26 (iadd .u32 (iadd .u32 x12 x4) x13)), x27, x28, x29] : (List Int))) (by simp) (by rfl)) (.nil _))))))))) : Ob _ _ _ _ _ ((karr 8 (kint .u32)).V ([(iadd .u32 (iadd .u32 (iadd .u32 x12 x4) x13) (iadd .u32 x15 x22)), x23, x24, x25, (iadd .u32 x26 (iadd .u32 (iadd .u32 x12 x4) x13)), x27, x28, x29] : (List Int))))).nm e_x30) fun a80 w80 s80 => ?_; clear s79
        refine seq_opx0 (B' := (fun _ : Unit => [BF b00 64 k_digest_Hash p1, BF b1 74 (karr 64 (kint .u32)) y2, BF b2 60 (karr 8 (kint .u32)) x30])) s80 rfl rfl (ob_store (A := [_, _]) rfl tk60 (.tmp rfl) (.tmp rfl) rfl (LS.refl _ _ _) rfl) fun _ a81 w81 s81 => ?_; clear s80
        refine wpList_nil ?_
        refine in_normal ?_
        refine then_normal ?_
        refine hK19 _ _ ?_
        have s82 := s81.sub (.cons (t := 0) rfl (.cons (t := 2) rfl (.cons (t := 7) rfl (.cons (t := 72) rfl (.cons (t := 73) rfl (.cons (t := 100002) rfl .nil)))))); clear s81
        refine wp_region_lit ?_
        refine seq_op s82 rfl rfl (of_decide_eq_true rfl) (ob_add rfl (.tmp rfl) (opd_int rfl)) fun a83 w83 s83 => ?_; clear s82
        refine seq_op s83 rfl rfl (of_decide_eq_true rfl) (ob_move rfl (.tmp rfl)) fun a84 w84 s84 => ?_; clear s83
        refine wpList_nil ?_
        refine then_normal ?_
        exact hK16 ((iadd .i64 y7 (1 : Int)), x30) _ _ h46 (s84.sub (.cons rfl (.cons rfl (.cons rfl (.cons rfl (.cons rfl (.cons rfl .nil)))))))
      · replace h16 := ite_f hc2 h16
        have h47 := h16; clear h16
        refine wp_exit ?_
        refine (then_exit (then_exit (in_here ?_)))
        refine then_normal ?_
        have s85 := St.drop (A := [_]) s46; clear s46
        exact hj3 y8 _ _ h47 (s85.sub (.cons rfl (.cons rfl (.cons rfl .nil))))
    refine wp_block ?_
    refine wp_loop_fuel (fun m (q : Int × (List Int)) => digest_Hash_take.l3 k p1 m q.1 q.2) r (fun _ => rfl) (fun q a w => St ⟨164, w0, ok, (idsOf [BF b00 64 k_digest_Hash p1])⟩ [BF b00 64 k_digest_Hash p1, BF b1 74 (karr 64 (kint .u32)) q.2] [(0, (ptrB b00 0)), (2, (ptrB b1 0)), (6, ((kint .i64).V q.1)), (100002, (known (.pointer (some ⟨2, 0, none⟩)) (ptrTo (karr 64 (kint .u32)) G_digest_rounds)))] a w) ?_ k ((16 : Int), y1) _ _ h1 (s9.sub (.cons rfl (.cons rfl (.cons rfl (.cons rfl .nil)))))
    rintro n3 ⟨y9, y10⟩ a86 w86 h48 s86 K23 hK23
    replace h48 : digest_Hash_take.l3 k p1 (n3 + 1) y9 y10 = some r := h48; rw [digest_Hash_take.l3] at h48
    have h49 := h48; clear h48
    refine wp_seq_k fun K24 hK24 => ?_
    refine wp_seq_k fun K25 hK25 => ?_
    refine wp_region_lit ?_
    refine seq_op s86 rfl rfl (of_decide_eq_true rfl) (ob_move rfl (.tmp rfl)) fun a87 w87 s87 => ?_; clear s86
    refine seq_op s87 rfl rfl (of_decide_eq_true rfl) (ob_lss rfl (.tmp rfl) (opd_int rfl)) fun a88 w88 s88 => ?_; clear s87
    refine wpList_nil ?_
    refine then_normal ?_
    refine hK25 _ _ ?_
    have s89 := s88.sub (.cons (t := 0) rfl (.cons (t := 2) rfl (.cons (t := 6) rfl (.cons (t := 42) rfl (.cons (t := 100002) rfl .nil))))); clear s88
    refine cond_split s89 (.tmp rfl) (fun hc3 => ?_) (fun hc3 => ?_)
    · replace h49 := ite_t hc3 h49
      have h50 := h49; clear h49
      refine wp_skip ?_
      refine then_normal ?_
      refine hK24 _ _ ?_
      have s90 := s89.sub (.cons (t := 0) rfl (.cons (t := 2) rfl (.cons (t := 6) rfl (.cons (t := 100002) rfl .nil)))); clear s89
      refine wp_seq_k fun K26 hK26 => ?_
      refine wp_block ?_
      obtain ⟨g6, h51⟩ := guard_some h50; clear h50
      obtain ⟨x31, e_x31, h52⟩ := bind_some h51; clear h51
      obtain ⟨x32, e_x32, h53⟩ := bind_some h52; clear h52
      obtain ⟨g7, h54⟩ := guard_some h53; clear h53
      obtain ⟨x33, e_x33, h55⟩ := bind_some h54; clear h54
      obtain ⟨g8, h56⟩ := guard_some h55; clear h55
      obtain ⟨x34, e_x34, h57⟩ := bind_some h56; clear h56
      obtain ⟨x35, e_x35, h58⟩ := bind_some h57; clear h57
      obtain ⟨g9, h59⟩ := guard_some h58; clear h58
      obtain ⟨x36, e_x36, h60⟩ := bind_some h59; clear h59
      refine wp_goes (Fs := [((kint .i64).V y9), ((kint .i64).V y9), ((kint .i64).V (isub .i64 y9 (2 : Int))), (ptrB b1 ((isub .i64 y9 (2 : Int)).toNat * 1)), ((kint .u32).V x31), ((kint .u32).V x32), ((kint .i64).V y9), ((kint .i64).V (isub .i64 y9 (7 : Int))), (ptrB b1 ((isub .i64 y9 (7 : Int)).toNat * 1)), ((kint .u32).V x33), ((kint .u32).V (iadd .u32 x32 x33)), ((kint .i64).V y9), ((kint .i64).V (isub .i64 y9 (15 : Int))), (ptrB b1 ((isub .i64 y9 (15 : Int)).toNat * 1)), ((kint .u32).V x34), ((kint .u32).V x35), ((kint .u32).V (iadd .u32 (iadd .u32 x32 x33) x35)), ((kint .i64).V y9), ((kint .i64).V (isub .i64 y9 (16 : Int))), (ptrB b1 ((isub .i64 y9 (16 : Int)).toNat * 1)), ((kint .u32).V x36), ((kint .u32).V (iadd .u32 (iadd .u32 (iadd .u32 x32 x33) x35) x36))]) (bits := [0, 0, 2, 6, 14, 30, 0, 64, 192, 448, 1022, 0, 2048, 6144, 14336, 30782, 65534, 0, 131072, 393216, 917504, 2097150, 4194303, 8388607]) (m := 22) (todo := 0) mx s90 ?_; clear s90
      refine goes_last (by kernel_rfl) rfl (opsS_cons (.plain _ (Av.old (t := 6) rfl rfl (Av.old (t := 100002) rfl rfl Av.nil)) rfl rfl (ob_move rfl (.tmp rfl))) (opsS_cons (.plain _ (Av.old (t := 6) rfl rfl (Av.old (t := 100002) rfl rfl Av.nil)) rfl rfl (ob_move rfl (.tmp rfl))) (opsS_cons (.plain _ (Av.new (j := 1) rfl rfl rfl (Av.old (t := 100002) rfl rfl Av.nil)) rfl rfl (ob_sub rfl (.tmp rfl) (opd_int rfl))) (opsS_cons (.plain _ (Av.old (t := 2) rfl rfl (Av.new (j := 2) rfl rfl rfl (Av.old (t := 100002) rfl rfl Av.nil))) rfl rfl (ob_indexAddr rfl Tryd.underlying74 sz59 (.tmp rfl) (.tmp rfl) g6.1 g6.2 (Nat.zero_add _))) (opsS_cons (.plain _ (Av.new (j := 3) rfl rfl rfl (Av.old (t := 100002) rfl rfl Av.nil)) rfl rfl (ob_load rfl tk59 (.tmp rfl) (.tail _ (.head _)) (LG.arrA e_x31))) (opsS_cons (.plain _ (Av.new (j := 4) rfl rfl rfl (Av.old (t := 100002) rfl rfl Av.nil)) rfl rfl (ob_callD (args := [_, _, _, _]) rfl .direct hb36 (fun a w s fs gs hf hg => by obtain rfl := hf.unnil; obtain rfl := hg.unnil; exact c_digest_turn k _ _ _ _ _ e_x32 _ _ _ _ _ _ (s.arg (.tmp rfl)) (s.arg (opd_int rfl)) (s.arg (opd_int rfl)) (s.arg (opd_int rfl))))) (opsS_cons (.plain _ (Av.old (t := 6) rfl rfl (Av.old (t := 100002) rfl rfl Av.nil)) rfl rfl (ob_move rfl (.tmp rfl))) (opsS_cons (.plain _ (Av.new (j := 6) rfl rfl rfl (Av.old (t := 100002) rfl rfl Av.nil)) rfl rfl (ob_sub rfl (.tmp rfl) (opd_int rfl))) (opsS_cons (.plain _ (Av.old (t := 2) rfl rfl (Av.new (j := 7) rfl rfl rfl (Av.old (t := 100002) rfl rfl Av.nil))) rfl rfl (ob_indexAddr rfl Tryd.underlying74 sz59 (.tmp rfl) (.tmp rfl) g7.1 g7.2 (Nat.zero_add _))) (opsS_cons (.plain _ (Av.new (j := 8) rfl rfl rfl (Av.old (t := 100002) rfl rfl Av.nil)) rfl rfl (ob_load rfl tk59 (.tmp rfl) (.tail _ (.head _)) (LG.arrA e_x33))) (opsS_cons (.plain _ (Av.new (j := 5) rfl rfl rfl (Av.new (j := 9) rfl rfl rfl (Av.old (t := 100002) rfl rfl Av.nil))) rfl rfl (ob_add rfl (.tmp rfl) (.tmp rfl))) (opsS_cons (.plain _ (Av.old (t := 6) rfl rfl (Av.old (t := 100002) rfl rfl Av.nil)) rfl rfl (ob_move rfl (.tmp rfl))) (opsS_cons (.plain _ (Av.new (j := 11) rfl rfl rfl (Av.old (t := 100002) rfl rfl Av.nil)) rfl rfl (ob_sub rfl (.tmp rfl) (opd_int rfl))) (opsS_cons (.plain _ (Av.old (t := 2) rfl rfl (Av.new (j := 12) rfl rfl rfl (Av.old (t := 100002) rfl rfl Av.nil))) rfl rfl (ob_indexAddr rfl Tryd.underlying74 sz59 (.tmp rfl) (.tmp rfl) g8.1 g8.2 (Nat.zero_add _))) (opsS_cons (.plain _ (Av.new (j := 13) rfl rfl rfl (Av.old (t := 100002) rfl rfl Av.nil)) rfl rfl (ob_load rfl tk59 (.tmp rfl) (.tail _ (.head _)) (LG.arrA e_x34))) (opsS_cons (.plain _ (Av.new (j := 14) rfl rfl rfl (Av.old (t := 100002) rfl rfl Av.nil)) rfl rfl (ob_callD (args := [_, _, _, _]) rfl .direct hb36 (fun a w s fs gs hf hg => by obtain rfl := hf.unnil; obtain rfl := hg.unnil; exact c_digest_turn k _ _ _ _ _ e_x35 _ _ _ _ _ _ (s.arg (.tmp rfl)) (s.arg (opd_int rfl)) (s.arg (opd_int rfl)) (s.arg (opd_int rfl))))) (opsS_cons (.plain _ (Av.new (j := 10) rfl rfl rfl (Av.new (j := 15) rfl rfl rfl (Av.old (t := 100002) rfl rfl Av.nil))) rfl rfl (ob_add rfl (.tmp rfl) (.tmp rfl))) (opsS_cons (.plain _ (Av.old (t := 6) rfl rfl (Av.old (t := 100002) rfl rfl Av.nil)) rfl rfl (ob_move rfl (.tmp rfl))) (opsS_cons (.plain _ (Av.new (j := 17) rfl rfl rfl (Av.old (t := 100002) rfl rfl Av.nil)) rfl rfl (ob_sub rfl (.tmp rfl) (opd_int rfl))) (opsS_cons (.plain _ (Av.old (t := 2) rfl rfl (Av.new (j := 18) rfl rfl rfl (Av.old (t := 100002) rfl rfl Av.nil))) rfl rfl (ob_indexAddr rfl Tryd.underlying74 sz59 (.tmp rfl) (.tmp rfl) g9.1 g9.2 (Nat.zero_add _))) (opsS_cons (.plain _ (Av.new (j := 19) rfl rfl rfl (Av.old (t := 100002) rfl rfl Av.nil)) rfl rfl (ob_load rfl tk59 (.tmp rfl) (.tail _ (.head _)) (LG.arrA e_x36))) (opsS_cons (.plain _ (Av.new (j := 16) rfl rfl rfl (Av.new (j := 20) rfl rfl rfl (Av.old (t := 100002) rfl rfl Av.nil))) rfl rfl (ob_add rfl (.tmp rfl) (.tmp rfl))) opsS_nil)))))))))))))))))))))) (out_old (t := 0) rfl rfl (out_old (t := 2) rfl rfl (out_old (t := 6) rfl rfl (out_new (i := 0) (by decide) rfl rfl (out_new (i := 21) (by decide) rfl rfl (out_old (t := 100002) rfl rfl out_nil)))))) fun a91 w91 s91 => ?_
      obtain ⟨g10, h61⟩ := guard_some h60; clear h60
      refine seq_op s91 rfl rfl (of_decide_eq_true rfl) (ob_indexAddr rfl Tryd.underlying74 sz59 (.tmp rfl) (.tmp rfl) g10.1 g10.2 (Nat.zero_add _)) fun a92 w92 s92 => ?_; clear s91
      obtain ⟨x37, e_x37, h62⟩ := bind_some h61; clear h61
      refine seq_opx0 (B' := (fun _ : Unit => [BF b00 64 k_digest_Hash p1, BF b1 74 (karr 64 (kint .u32)) x37])) s92 rfl rfl (ob_store (A := [_]) rfl tk59 (.tmp rfl) (.tmp rfl) rfl (LS.arrS e_x37) rfl) fun _ a93 w93 s93 => ?_; clear s92
      refine wpList_nil ?_
      refine in_normal ?_
      refine then_normal ?_
      refine hK26 _ _ ?_
      have s94 := s93.sub (.cons (t := 0) rfl (.cons (t := 2) rfl (.cons (t := 6) rfl (.cons (t := 100002) rfl .nil)))); clear s93
      refine wp_region_lit ?_
      refine seq_op s94 rfl rfl (of_decide_eq_true rfl) (ob_move rfl (.tmp rfl)) fun a95 w95 s95 => ?_; clear s94
      refine seq_op s95 rfl rfl (of_decide_eq_true rfl) (ob_add rfl (.tmp rfl) (opd_int rfl)) fun a96 w96 s96 => ?_; clear s95
      refine seq_op s96 rfl rfl (of_decide_eq_true rfl) (ob_assign rfl (.tmp rfl)) fun a97 w97 s97 => ?_; clear s96
      refine wpList_nil ?_
      refine then_normal ?_
      exact hK23 ((iadd .i64 y9 (1 : Int)), x37) _ _ h62 (s97.sub (.cons rfl (.cons rfl (.cons rfl (.cons rfl .nil)))))
    · replace h49 := ite_f hc3 h49
      have h63 := h49; clear h49
      refine wp_exit ?_
      refine (then_exit (then_exit (in_here ?_)))
      refine then_normal ?_
      exact hj2 y10 _ _ h63 (s89.sub (.cons rfl (.cons rfl (.cons rfl .nil))))
  refine wp_block ?_
  have s98 := s6.perm (toFront [_] (toFront [] (List.Perm.refl _))); clear s6
  refine wp_loop_fuel (fun m (q : Int × (List Int)) => digest_Hash_take.l4 k p1 m q.1 q.2) r (fun _ => rfl) (fun q a w => St ⟨164, w0, ok, (idsOf [BF b00 64 k_digest_Hash p1])⟩ [BF b00 64 k_digest_Hash p1, BF b1 74 (karr 64 (kint .u32)) q.2] [(0, (ptrB b00 0)), (2, (ptrB b1 0)), (13, ((kint .i64).V q.1)), (100002, (known (.pointer (some ⟨2, 0, none⟩)) (ptrTo (karr 64 (kint .u32)) G_digest_rounds)))] a w) ?_ k ((0 : Int), (List.replicate 64 (0 : Int))) _ _ h0 (s98.sub (.cons rfl (.cons rfl (.cons rfl (.cons rfl .nil)))))
  rintro n4 ⟨y11, y12⟩ a99 w99 h64 s99 K27 hK27
  replace h64 : digest_Hash_take.l4 k p1 (n4 + 1) y11 y12 = some r := h64; rw [digest_Hash_take.l4] at h64
  have h65 := h64; clear h64
  refine wp_seq_k fun K28 hK28 => ?_
  refine wp_region_lit ?_
  refine seq_op s99 rfl rfl (of_decide_eq_true rfl) (ob_lss rfl (.tmp rfl) (opd_int rfl)) fun a100 w100 s100 => ?_; clear s99
  refine wpList_nil ?_
  refine then_normal ?_
  refine hK28 _ _ ?_
  have s101 := s100.sub (.cons (t := 0) rfl (.cons (t := 2) rfl (.cons (t := 13) rfl (.cons (t := 14) rfl (.cons (t := 100002) rfl .nil))))); clear s100
  refine wp_seq_k fun K29 hK29 => ?_
  refine cond_split s101 (.tmp rfl) (fun hc4 => ?_) (fun hc4 => ?_)
  · replace h65 := ite_t hc4 h65
    have h66 := h65; clear h65
    refine wp_skip ?_
    refine then_normal ?_
    refine hK29 _ _ ?_
    have s102 := s101.sub (.cons (t := 0) rfl (.cons (t := 2) rfl (.cons (t := 13) rfl (.cons (t := 100002) rfl .nil)))); clear s101
    refine wp_seq_k fun K30 hK30 => ?_
    have hj5 : ∀ (y13 : (List Int)) (a : Act) (w : World), (digest_Hash_take.j5 k y11 (digest_Hash_take.l4 k p1 n4)) y13 = some r → St ⟨164, w0, ok, (idsOf [BF b00 64 k_digest_Hash p1])⟩ [BF b00 64 k_digest_Hash p1, BF b1 74 (karr 64 (kint .u32)) y13] [(0, (ptrB b00 0)), (2, (ptrB b1 0)), (13, ((kint .i64).V y11)), (100002, (known (.pointer (some ⟨2, 0, none⟩)) (ptrTo (karr 64 (kint .u32)) G_digest_rounds)))] a w → K30 a w := by
      intro y13 a103 w103 h67 s103
      unfold digest_Hash_take.j5 at h67
      refine hK30 _ _ ?_
      refine wp_region_lit ?_
      refine seq_op s103 rfl rfl (of_decide_eq_true rfl) (ob_add rfl (.tmp rfl) (opd_int rfl)) fun a104 w104 s104 => ?_; clear s103
      refine seq_op s104 rfl rfl (of_decide_eq_true rfl) (ob_move rfl (.tmp rfl)) fun a105 w105 s105 => ?_; clear s104
      refine wpList_nil ?_
      refine then_normal ?_
      exact hK27 ((iadd .i64 y11 (1 : Int)), y13) _ _ h67 (s105.sub (.cons rfl (.cons rfl (.cons rfl (.cons rfl .nil)))))
    refine wp_block ?_
    refine wp_seq_k fun K31 hK31 => ?_
    refine wp_region_lit ?_
    refine seq_op s102 rfl rfl (of_decide_eq_true rfl) (ob_move rfl (.tmp rfl)) fun a106 w106 s106 => ?_; clear s102
    refine seq_op s106 rfl rfl (of_decide_eq_true rfl) (ob_assign rfl (.tmp rfl)) fun a107 w107 s107 => ?_; clear s106
    refine wpList_nil ?_
    refine then_normal ?_
    refine hK31 _ _ ?_
    have s108 := s107.sub (.cons (t := 0) rfl (.cons (t := 2) rfl (.cons (t := 3) rfl (.cons (t := 13) rfl (.cons (t := 100002) rfl .nil))))); clear s107
    refine wp_seq_k fun K32 hK32 => ?_
    refine wp_region_lit ?_
    refine seq_op s108 rfl rfl (of_decide_eq_true rfl) (ob_move rfl (.tmp rfl)) fun a109 w109 s109 => ?_; clear s108
    refine seq_op s109 rfl rfl (of_decide_eq_true rfl) (ob_nilCheck rfl (.tmp rfl)) fun a110 w110 s110 => ?_; clear s109
    refine seq_op s110 rfl rfl (of_decide_eq_true rfl) (ob_fieldAddr (off' := 9) rfl Tryd.underlying64 rfl sz61 (by decide) (.tmp rfl) rfl) fun a111 w111 s111 => ?_; clear s110
    refine seq_op s111 rfl rfl (of_decide_eq_true rfl) (ob_move rfl (.tmp rfl)) fun a112 w112 s112 => ?_; clear s111
    refine seq_op s112 rfl rfl (of_decide_eq_true rfl) (ob_mul rfl (opd_int rfl) (.tmp rfl)) fun a113 w113 s113 => ?_; clear s112
    refine seq_op s113 rfl rfl (of_decide_eq_true rfl) (ob_move rfl (.tmp rfl)) fun a114 w114 s114 => ?_; clear s113
    refine seq_op s114 rfl rfl (of_decide_eq_true rfl) (ob_mul rfl (opd_int rfl) (.tmp rfl)) fun a115 w115 s115 => ?_; clear s114
    refine seq_op s115 rfl rfl (of_decide_eq_true rfl) (ob_add rfl (.tmp rfl) (opd_int rfl)) fun a116 w116 s116 => ?_; clear s115
    obtain ⟨g11, h68⟩ := guard_some h66; clear h66
    refine seq_op s116 rfl rfl (of_decide_eq_true rfl) (ob_sliceArr rfl Tryd.underlying61 sz5 (.tmp rfl) (.some (.tmp rfl)) (.some (.tmp rfl)) g11) fun a117 w117 s117 => ?_; clear s116
    obtain ⟨x38, e_x38, h69⟩ := bind_some h68; clear h68; replace e_x38 := Option.some.inj e_x38
    refine seq_op s117 rfl rfl (of_decide_eq_true rfl) ((ob_lenSl rfl Tryd.underlying38 (.tmp rfl) (sl_len g11 (by decide))).nm e_x38) fun a118 w118 s118 => ?_; clear s117
    refine seq_op s118 rfl rfl (of_decide_eq_true rfl) (ob_move rfl (opd_int rfl)) fun a119 w119 s119 => ?_; clear s118
    refine wpList_nil ?_
    refine then_normal ?_
    refine hK32 _ _ ?_
    have s120 := s119.sub (.cons (t := 0) rfl (.cons (t := 2) rfl (.cons (t := 3) rfl (.cons (t := 13) rfl (.cons (t := 24) rfl (.cons (t := 25) rfl (.cons (t := 26) rfl (.cons (t := 100002) rfl .nil)))))))); clear s119
    refine wp_block ?_
    refine wp_loop_fuel (fun m (q : Int × (List Int)) => digest_Hash_take.l5 k x38 y11 p1 (digest_Hash_take.l4 k p1 n4) m q.1 q.2) r (fun _ => rfl) (fun q a w => St ⟨164, w0, ok, (idsOf [BF b00 64 k_digest_Hash p1])⟩ [BF b00 64 k_digest_Hash p1, BF b1 74 (karr 64 (kint .u32)) q.2] [(0, (ptrB b00 0)), (2, (ptrB b1 0)), (3, ((kint .i64).V y11)), (13, ((kint .i64).V y11)), (24, (is (.slice (some ⟨b00, soff 64 9 (imul .i64 (4 : Int) y11).toNat 1, none⟩) ((iadd .i64 (imul .i64 (4 : Int) y11) (4 : Int)).toNat - (imul .i64 (4 : Int) y11).toNat) (64 - (imul .i64 (4 : Int) y11).toNat)))), (25, ((kint .i64).V x38)), (26, ((kint .i64).V q.1)), (100002, (known (.pointer (some ⟨2, 0, none⟩)) (ptrTo (karr 64 (kint .u32)) G_digest_rounds)))] a w) ?_ k ((0 : Int), y12) _ _ h69 (s120.sub (.cons rfl (.cons rfl (.cons rfl (.cons rfl (.cons rfl (.cons rfl (.cons rfl (.cons rfl .nil)))))))))
    rintro n5 ⟨y14, y15⟩ a121 w121 h70 s121 K33 hK33
    replace h70 : digest_Hash_take.l5 k x38 y11 p1 (digest_Hash_take.l4 k p1 n4) (n5 + 1) y14 y15 = some r := h70; rw [digest_Hash_take.l5] at h70
    have h71 := h70; clear h70
    refine wp_seq_k fun K34 hK34 => ?_
    refine wp_region_lit ?_
    refine seq_op s121 rfl rfl (of_decide_eq_true rfl) (ob_lss rfl (.tmp rfl) (.tmp rfl)) fun a122 w122 s122 => ?_; clear s121
    refine wpList_nil ?_
    refine then_normal ?_
    refine hK34 _ _ ?_
    have s123 := s122.sub (.cons (t := 0) rfl (.cons (t := 2) rfl (.cons (t := 3) rfl (.cons (t := 13) rfl (.cons (t := 24) rfl (.cons (t := 25) rfl (.cons (t := 26) rfl (.cons (t := 27) rfl (.cons (t := 100002) rfl .nil))))))))); clear s122
    refine wp_seq_k fun K35 hK35 => ?_
    refine cond_split s123 (.tmp rfl) (fun hc5 => ?_) (fun hc5 => ?_)
    · replace h71 := ite_t hc5 h71
      have h72 := h71; clear h71
      refine wp_skip ?_
      refine then_normal ?_
      refine hK35 _ _ ?_
      have s124 := s123.sub (.cons (t := 0) rfl (.cons (t := 2) rfl (.cons (t := 3) rfl (.cons (t := 13) rfl (.cons (t := 24) rfl (.cons (t := 25) rfl (.cons (t := 26) rfl (.cons (t := 100002) rfl .nil)))))))); clear s123
      refine wp_seq_k fun K36 hK36 => ?_
      refine wp_block ?_
      refine wp_seq_k fun K37 hK37 => ?_
      refine wp_region_lit ?_
      obtain ⟨g12, h73⟩ := guard_some h72; clear h72
      refine seq_op s124 rfl rfl (of_decide_eq_true rfl) (ob_indexAddrSl rfl Tryd.underlying38 sz5 (.tmp rfl) (.tmp rfl) g12.1 g12.2 (soff_idx g11 g12)) fun a125 w125 s125 => ?_; clear s124
      obtain ⟨x39, e_x39, h74⟩ := bind_some h73; clear h73
      refine seq_op s125 rfl rfl (of_decide_eq_true rfl) (ob_load rfl tk5 (.tmp rfl) (.head _) (LG.trans (lg_digest_Hash_rest p1) (LG.arrA e_x39) (by decide))) fun a126 w126 s126 => ?_; clear s125
      refine seq_op s126 rfl rfl (of_decide_eq_true rfl) (ob_assign rfl (.tmp rfl)) fun a127 w127 s127 => ?_; clear s126
      refine wpList_nil ?_
      refine then_normal ?_
      refine hK37 _ _ ?_
      have s128 := s127.sub (.cons (t := 0) rfl (.cons (t := 2) rfl (.cons (t := 3) rfl (.cons (t := 5) rfl (.cons (t := 13) rfl (.cons (t := 24) rfl (.cons (t := 25) rfl (.cons (t := 26) rfl (.cons (t := 100002) rfl .nil))))))))); clear s127
      refine wp_region_lit ?_
      refine seq_op s128 rfl rfl (of_decide_eq_true rfl) (ob_move rfl (.tmp rfl)) fun a129 w129 s129 => ?_; clear s128
      refine seq_op s129 rfl rfl (of_decide_eq_true rfl) (ob_move rfl (.tmp rfl)) fun a130 w130 s130 => ?_; clear s129
      obtain ⟨g13, h75⟩ := guard_some h74; clear h74
      refine seq_op s130 rfl rfl (of_decide_eq_true rfl) (ob_indexAddr rfl Tryd.underlying74 sz59 (.tmp rfl) (.tmp rfl) g13.1 g13.2 (Nat.zero_add _)) fun a131 w131 s131 => ?_; clear s130
      obtain ⟨x40, e_x40, h76⟩ := bind_some h75; clear h75
      refine seq_op s131 rfl rfl (of_decide_eq_true rfl) (ob_load rfl tk59 (.tmp rfl) (.tail _ (.head _)) (LG.arrA e_x40)) fun a132 w132 s132 => ?_; clear s131
      refine seq_op s132 rfl rfl (of_decide_eq_true rfl) (ob_shl rfl (.tmp rfl) (opd_int rfl) (by decide)) fun a133 w133 s133 => ?_; clear s132
      refine seq_op s133 rfl rfl (of_decide_eq_true rfl) (ob_move rfl (.tmp rfl)) fun a134 w134 s134 => ?_; clear s133
      refine seq_op s134 rfl rfl (of_decide_eq_true rfl) (ob_conv rfl _ Tryd.underlying5 Tryd.underlying59 (.tmp rfl)) fun a135 w135 s135 => ?_; clear s134
      refine seq_op s135 rfl rfl (of_decide_eq_true rfl) (ob_or rfl (.tmp rfl) (.tmp rfl)) fun a136 w136 s136 => ?_; clear s135
      obtain ⟨g14, h77⟩ := guard_some h76; clear h76
      refine seq_op s136 rfl rfl (of_decide_eq_true rfl) (ob_indexAddr rfl Tryd.underlying74 sz59 (.tmp rfl) (.tmp rfl) g14.1 g14.2 (Nat.zero_add _)) fun a137 w137 s137 => ?_; clear s136
      obtain ⟨x41, e_x41, h78⟩ := bind_some h77; clear h77
      refine seq_opx0 (B' := (fun _ : Unit => [BF b00 64 k_digest_Hash p1, BF b1 74 (karr 64 (kint .u32)) x41])) s137 rfl rfl (ob_store (A := [_]) rfl tk59 (.tmp rfl) (.tmp rfl) rfl (LS.arrS e_x41) rfl) fun _ a138 w138 s138 => ?_; clear s137
      refine wpList_nil ?_
      refine in_normal ?_
      refine then_normal ?_
      refine hK36 _ _ ?_
      have s139 := s138.sub (.cons (t := 0) rfl (.cons (t := 2) rfl (.cons (t := 3) rfl (.cons (t := 13) rfl (.cons (t := 24) rfl (.cons (t := 25) rfl (.cons (t := 26) rfl (.cons (t := 100002) rfl .nil)))))))); clear s138
      refine wp_region_lit ?_
      refine seq_op s139 rfl rfl (of_decide_eq_true rfl) (ob_add rfl (.tmp rfl) (opd_int rfl)) fun a140 w140 s140 => ?_; clear s139
      refine seq_op s140 rfl rfl (of_decide_eq_true rfl) (ob_move rfl (.tmp rfl)) fun a141 w141 s141 => ?_; clear s140
      refine wpList_nil ?_
      refine then_normal ?_
      exact hK33 ((iadd .i64 y14 (1 : Int)), x41) _ _ h78 (s141.sub (.cons rfl (.cons rfl (.cons rfl (.cons rfl (.cons rfl (.cons rfl (.cons rfl (.cons rfl .nil)))))))))
    · replace h71 := ite_f hc5 h71
      have h79 := h71; clear h71
      refine wp_exit ?_
      refine (then_exit (then_exit (in_here ?_)))
      refine in_normal ?_
      refine then_normal ?_
      exact hj5 y15 _ _ h79 (s123.sub (.cons rfl (.cons rfl (.cons rfl (.cons rfl .nil)))))
  · replace h65 := ite_f hc4 h65
    have h80 := h65; clear h65
    refine wp_exit ?_
    refine (then_exit (then_exit (in_here ?_)))
    refine then_normal ?_
    exact hj1 y12 _ _ h80 (s101.sub (.cons rfl (.cons rfl (.cons rfl .nil))))

/- 32 (*cabal/digest.Hash).put -/
theorem c_digest_Hash_put (k : Nat) (p1 : digest_Hash) (p2 : Int) (r : digest_Hash) (h0 : digest_Hash_put k p1 p2 = some r) (ok : Ok) (w0 : World) (gl2 : (ptrTo (karr 64 (kint .u32)) G_digest_rounds).holds ok w0 (.pointer (some ⟨2, 0, none⟩))) (z0 : Value) (z1 : Value) (b00 : Nat) (l0 : ∀ q, q ∈ [BF b00 64 k_digest_Hash p1] → q.holds ok w0) (d0 : ∀ c, c ∈ idsOf [BF b00 64 k_digest_Hash p1] → ¬ ok c) (nd : (idsOf [BF b00 64 k_digest_Hash p1]).Nodup) (u0 : (ptrB b00 0).holds ok w0 z0) (u1 : ((kint .u8).V p2).holds ok w0 z1) :
    GivesX Tryd.prog 32 [z0, z1] ok w0 [BF b00 64 k_digest_Hash p1] (fun g : Unit => resFact []) (fun g : Unit => [BF b00 64 k_digest_Hash r]) := by
  unfold digest_Hash_put at h0
  refine enterX (N := 27) Tryd.func32 rfl rfl (of_decide_eq_true rfl) (.cons u0 (.cons u1 .nil)) nd l0 d0 fun a1 s1 => ?_
  have s2 := s1.keepKnown 100002 gl2 (okInX (L := [BF b00 64 k_digest_Hash p1]) d0); clear s1
  refine wp_seq_k fun K1 hK1 => ?_
  refine wp_goes (Fs := [(ptrB b00 0), (ptrB b00 0), (ptrB b00 0), (ptrB b00 73), ((kint .i64).V p1.many), ((kint .u8).V p2), (ptrB b00 0), (ptrB b00 9)]) (bits := [0, 0, 2, 6, 14, 0, 1, 65, 255, 511]) (m := 8) (todo := 0) mx s2 ?_; clear s2
  refine goes_last (by kernel_rfl) rfl (opsS_cons (.plain _ (Av.old (t := 0) rfl rfl (Av.old (t := 100002) rfl rfl Av.nil)) rfl rfl (ob_move rfl (.tmp rfl))) (opsS_cons (.plain _ (Av.old (t := 0) rfl rfl (Av.old (t := 100002) rfl rfl Av.nil)) rfl rfl (ob_move rfl (.tmp rfl))) (opsS_cons (.plain _ (Av.new (j := 1) rfl rfl rfl (Av.old (t := 100002) rfl rfl Av.nil)) rfl rfl (ob_nilCheck rfl (.tmp rfl))) (opsS_cons (.plain _ (Av.new (j := 2) rfl rfl rfl (Av.old (t := 100002) rfl rfl Av.nil)) rfl rfl (ob_fieldAddr (off' := 73) rfl Tryd.underlying64 rfl sz3 (by decide) (.tmp rfl) rfl)) (opsS_cons (.plain _ (Av.new (j := 3) rfl rfl rfl (Av.old (t := 100002) rfl rfl Av.nil)) rfl rfl (ob_load rfl tk3 (.tmp rfl) (.head _) (lg_digest_Hash_many p1))) (opsS_cons (.plain _ (Av.old (t := 1) rfl rfl (Av.old (t := 100002) rfl rfl Av.nil)) rfl rfl (ob_move rfl (.tmp rfl))) (opsS_cons (.plain _ (Av.new (j := 0) rfl rfl rfl (Av.old (t := 100002) rfl rfl Av.nil)) rfl rfl (ob_nilCheck rfl (.tmp rfl))) (opsS_cons (.plain _ (Av.new (j := 6) rfl rfl rfl (Av.old (t := 100002) rfl rfl Av.nil)) rfl rfl (ob_fieldAddr (off' := 9) rfl Tryd.underlying64 rfl sz61 (by decide) (.tmp rfl) rfl)) opsS_nil)))))))) (out_old (t := 0) rfl rfl (out_new (i := 4) (by decide) rfl rfl (out_new (i := 5) (by decide) rfl rfl (out_new (i := 7) (by decide) rfl rfl (out_old (t := 100002) rfl rfl out_nil))))) fun a3 w3 s3 => ?_
  obtain ⟨g1, h1⟩ := guard_some h0; clear h0
  refine seq_op s3 rfl rfl (of_decide_eq_true rfl) (ob_indexAddr rfl Tryd.underlying61 sz5 (.tmp rfl) (.tmp rfl) g1.1 g1.2 rfl) fun a4 w4 s4 => ?_; clear s3
  obtain ⟨x1, e_x1, h2⟩ := bind_some h1; clear h1
  refine seq_opx0 (B' := (fun _ : Unit => [BF b00 64 k_digest_Hash ({ p1 with rest := x1 })])) s4 rfl rfl (ob_store (A := []) rfl tk5 (.tmp rfl) (.tmp rfl) rfl (LS.trans (lg_digest_Hash_rest p1) (LS.arrS e_x1) (ls_digest_Hash_rest p1 x1)) rfl) fun _ a5 w5 s5 => ?_; clear s4
  refine wpList_nil ?_
  refine then_normal ?_
  refine hK1 _ _ ?_
  have s6 := s5.sub (.cons (t := 0) rfl (.cons (t := 100002) rfl .nil)); clear s5
  refine wp_seq_k fun K2 hK2 => ?_
  refine wp_region_lit ?_
  refine seq_op s6 rfl rfl (of_decide_eq_true rfl) (ob_move rfl (.tmp rfl)) fun a7 w7 s7 => ?_; clear s6
  refine seq_op s7 rfl rfl (of_decide_eq_true rfl) (ob_nilCheck rfl (.tmp rfl)) fun a8 w8 s8 => ?_; clear s7
  refine seq_op s8 rfl rfl (of_decide_eq_true rfl) (ob_fieldAddr (off' := 73) rfl Tryd.underlying64 rfl sz3 (by decide) (.tmp rfl) rfl) fun a9 w9 s9 => ?_; clear s8
  refine seq_op s9 rfl rfl (of_decide_eq_true rfl) (ob_load rfl tk3 (.tmp rfl) (.head _) (lg_digest_Hash_many ({ p1 with rest := x1 }))) fun a10 w10 s10 => ?_; clear s9
  refine seq_op s10 rfl rfl (of_decide_eq_true rfl) (ob_add rfl (.tmp rfl) (opd_int rfl)) fun a11 w11 s11 => ?_; clear s10
  refine seq_op s11 rfl rfl (of_decide_eq_true rfl) (ob_nilCheck rfl (.tmp rfl)) fun a12 w12 s12 => ?_; clear s11
  refine seq_op s12 rfl rfl (of_decide_eq_true rfl) (ob_fieldAddr (off' := 73) rfl Tryd.underlying64 rfl sz3 (by decide) (.tmp rfl) rfl) fun a13 w13 s13 => ?_; clear s12
  obtain ⟨x2, e_x2, h3⟩ := bind_some h2; clear h2; replace e_x2 := Option.some.inj e_x2
  refine seq_opx0 (B' := (fun _ : Unit => [BF b00 64 k_digest_Hash x2])) s13 rfl rfl (ob_store (A := []) rfl tk3 (.tmp rfl) (.tmp rfl) rfl (LS.to (ls_digest_Hash_many ({ p1 with rest := x1 }) (iadd .i64 (({ p1 with rest := x1 }).many) (1 : Int))) e_x2) rfl) fun _ a14 w14 s14 => ?_; clear s13
  refine wpList_nil ?_
  refine then_normal ?_
  refine hK2 _ _ ?_
  have s15 := s14.sub (.cons (t := 0) rfl (.cons (t := 100002) rfl .nil)); clear s14
  refine wp_seq_k fun K3 hK3 => ?_
  refine wp_region_lit ?_
  refine seq_op s15 rfl rfl (of_decide_eq_true rfl) (ob_move rfl (.tmp rfl)) fun a16 w16 s16 => ?_; clear s15
  refine seq_op s16 rfl rfl (of_decide_eq_true rfl) (ob_nilCheck rfl (.tmp rfl)) fun a17 w17 s17 => ?_; clear s16
  refine seq_op s17 rfl rfl (of_decide_eq_true rfl) (ob_fieldAddr (off' := 73) rfl Tryd.underlying64 rfl sz3 (by decide) (.tmp rfl) rfl) fun a18 w18 s18 => ?_; clear s17
  refine seq_op s18 rfl rfl (of_decide_eq_true rfl) (ob_load rfl tk3 (.tmp rfl) (.head _) (lg_digest_Hash_many x2)) fun a19 w19 s19 => ?_; clear s18
  refine seq_op s19 rfl rfl (of_decide_eq_true rfl) (ob_eql rfl (.tmp rfl) (opd_int rfl)) fun a20 w20 s20 => ?_; clear s19
  refine wpList_nil ?_
  refine then_normal ?_
  refine hK3 _ _ ?_
  have s21 := s20.sub (.cons (t := 0) rfl (.cons (t := 24) rfl (.cons (t := 100002) rfl .nil))); clear s20
  refine cond_split s21 (.tmp rfl) (fun hc1 => ?_) (fun hc1 => ?_)
  · replace h3 := ite_t hc1 h3
    have h4 := h3; clear h3
    refine wp_region_lit ?_
    refine seq_op s21 rfl rfl (of_decide_eq_true rfl) (ob_move rfl (.tmp rfl)) fun a22 w22 s22 => ?_; clear s21
    obtain ⟨x3, e_x3, h5⟩ := bind_some h4; clear h4
    refine seq_opx (B' := (fun _ : Unit => [BF b00 64 k_digest_Hash x3])) s22 rfl rfl (of_decide_eq_true rfl) (ob_callL (args := [_]) (L := [_]) rfl .direct hb35 (List.Perm.refl _) (fun a w s fs gs hf hg => by obtain rfl := hf.unnil; obtain rfl := hg.unnil; exact c_digest_Hash_take k _ _ e_x3 _ _ (s.env _ _ (show get _ 100002 = _ from rfl)) _ _ (ownL s) (disL s) (nodL s) (s.arg (.tmp rfl))) (by exact fun _ => rfl)) fun _ a23 w23 s23 => ?_; clear s22
    refine wpList_nil ?_
    obtain rfl := Option.some.inj h5
    exact leaveXD (D := []) () s23 rfl (.inr rfl) rfl .nil rfl
  · replace h3 := ite_f hc1 h3
    have h6 := h3; clear h3
    refine wp_skip ?_
    obtain rfl := Option.some.inj h6
    exact leaveXD (D := []) () s21 rfl (.inr rfl) rfl .nil rfl

end Go.Proofs.YtankoeffbdnffaaDoor
