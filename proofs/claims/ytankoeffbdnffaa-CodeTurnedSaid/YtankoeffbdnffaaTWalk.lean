/- Each function's code comes to what its plain function answers. No condition. -/
import Derived.Test.YtankoeffbdnffaaTFacts
namespace Go.Proofs.Ytankoeffbdnffaa
open Go Go.RowKit Go.Proofs.Kit Go.Proofs.Pure
set_option linter.unusedVariables false
set_option linter.unusedSimpArgs false
set_option maxRecDepth 100000
set_option maxHeartbeats 2000000

/- 14 cabal/code.by10 -/
theorem c_code_by10 (k : Nat) (p1 : (List Int)) (r : (Int × (List Int))) (h0 : code_by10 k p1 = some r) (ok : Ok) (w0 : World) (z0 : Value) (b00 : Nat) (l0 : ∀ q, q ∈ [BF b00 24 (karr 32 (kint .u8)) p1] → q.holds ok w0) (d0 : ∀ c, c ∈ idsOf [BF b00 24 (karr 32 (kint .u8)) p1] → ¬ ok c) (nd : (idsOf [BF b00 24 (karr 32 (kint .u8)) p1]).Nodup) (u0 : (ptrB b00 0).holds ok w0 z0) :
    GivesX Try.prog 14 [z0] ok w0 [BF b00 24 (karr 32 (kint .u8)) p1] (fun g : Unit => resFact [(kint .u8).V r.1]) (fun g : Unit => [BF b00 24 (karr 32 (kint .u8)) r.2]) := by
  unfold code_by10 at h0
  refine enterX (N := 29) Try.func14 rfl rfl (of_decide_eq_true rfl) (.cons u0 .nil) nd l0 d0 fun a1 s1 => ?_
  refine wp_seq_k fun K1 hK1 => ?_
  refine wp_region_lit ?_
  refine seq_op s1 rfl rfl (of_decide_eq_true rfl) (ob_assign rfl (opd_int rfl)) fun a2 w2 s2 => ?_; clear s1
  refine wpList_nil ?_
  refine then_normal ?_
  refine hK1 _ _ ?_
  have s3 := s2.sub (.cons (t := 0) rfl .nil); clear s2
  refine wp_seq_k fun K2 hK2 => ?_
  refine wp_region_lit ?_
  refine seq_op s3 rfl rfl (of_decide_eq_true rfl) (ob_assign rfl (opd_int rfl)) fun a4 w4 s4 => ?_; clear s3
  refine wpList_nil ?_
  refine then_normal ?_
  refine hK2 _ _ ?_
  have s5 := s4.sub (.cons (t := 0) rfl (.cons (t := 3) rfl .nil)); clear s4
  refine wp_seq_k fun K3 hK3 => ?_
  refine wp_seq_k fun K4 hK4 => ?_
  refine wp_region_lit ?_
  refine seq_op s5 rfl rfl (of_decide_eq_true rfl) (ob_move rfl (opd_int rfl)) fun a6 w6 s6 => ?_; clear s5
  refine wpList_nil ?_
  refine then_normal ?_
  refine hK4 _ _ ?_
  have s7 := s6.sub (.cons (t := 0) rfl (.cons (t := 3) rfl (.cons (t := 5) rfl .nil))); clear s6
  have hj1 : ∀ (y1 : Int) (y2 : (List Int)) (a : Act) (w : World), (code_by10.j1 k) y1 y2 = some r → St ⟨29, w0, ok, (idsOf [BF b00 24 (karr 32 (kint .u8)) p1])⟩ [BF b00 24 (karr 32 (kint .u8)) y2] [(3, ((kint .i64).V y1))] a w → K3 a w := by
    intro y1 y2 a8 w8 h1 s8
    unfold code_by10.j1 at h1
    refine hK3 _ _ ?_
    refine wp_seq_k fun K5 hK5 => ?_
    refine wp_region_lit ?_
    refine seq_op s8 rfl rfl (of_decide_eq_true rfl) (ob_move rfl (.tmp rfl)) fun a9 w9 s9 => ?_; clear s8
    refine seq_op s9 rfl rfl (of_decide_eq_true rfl) (ob_conv rfl _ Try.underlying3 Try.underlying5 (.tmp rfl)) fun a10 w10 s10 => ?_; clear s9
    refine seq_op s10 rfl rfl (of_decide_eq_true rfl) (ob_assign rfl (.tmp rfl)) fun a11 w11 s11 => ?_; clear s10
    refine wpList_nil ?_
    refine then_normal ?_
    refine hK5 _ _ ?_
    have s12 := s11.sub (.cons (t := 2) rfl .nil); clear s11
    refine wp_ret ?_
    obtain rfl := Option.some.inj h1
    exact leaveXD (D := []) () s12 rfl (.inl rfl) rfl (.cons (.tmp rfl) .nil) rfl
  refine wp_block ?_
  refine wp_loop_fuel (fun m (q : Int × Int × (List Int)) => code_by10.l1 k m q.1 q.2.1 q.2.2) r (fun _ => rfl) (fun q a w => St ⟨29, w0, ok, (idsOf [BF b00 24 (karr 32 (kint .u8)) p1])⟩ [BF b00 24 (karr 32 (kint .u8)) q.2.2] [(0, (ptrB b00 0)), (3, ((kint .i64).V q.1)), (5, ((kint .i64).V q.2.1))] a w) ?_ k ((0 : Int), (0 : Int), p1) _ _ h0 (s7.sub (.cons rfl (.cons rfl (.cons rfl .nil))))
  rintro n1 ⟨y3, y4, y5⟩ a13 w13 h2 s13 K6 hK6
  replace h2 : code_by10.l1 k (n1 + 1) y3 y4 y5 = some r := h2; rw [code_by10.l1] at h2
  have h3 := h2; clear h2
  refine wp_seq_k fun K7 hK7 => ?_
  refine wp_region_lit ?_
  refine seq_op s13 rfl rfl (of_decide_eq_true rfl) (ob_lss rfl (.tmp rfl) (opd_int rfl)) fun a14 w14 s14 => ?_; clear s13
  refine wpList_nil ?_
  refine then_normal ?_
  refine hK7 _ _ ?_
  have s15 := s14.sub (.cons (t := 0) rfl (.cons (t := 3) rfl (.cons (t := 5) rfl (.cons (t := 6) rfl .nil)))); clear s14
  refine wp_seq_k fun K8 hK8 => ?_
  refine cond_split s15 (.tmp rfl) (fun hc1 => ?_) (fun hc1 => ?_)
  · replace h3 := ite_t hc1 h3
    have h4 := h3; clear h3
    refine wp_skip ?_
    refine then_normal ?_
    refine hK8 _ _ ?_
    have s16 := s15.sub (.cons (t := 0) rfl (.cons (t := 3) rfl (.cons (t := 5) rfl .nil))); clear s15
    refine wp_seq_k fun K9 hK9 => ?_
    refine wp_block ?_
    refine wp_seq_k fun K10 hK10 => ?_
    refine wp_region_lit ?_
    refine seq_op s16 rfl rfl (of_decide_eq_true rfl) (ob_move rfl (.tmp rfl)) fun a17 w17 s17 => ?_; clear s16
    refine seq_op s17 rfl rfl (of_decide_eq_true rfl) (ob_assign rfl (.tmp rfl)) fun a18 w18 s18 => ?_; clear s17
    refine wpList_nil ?_
    refine then_normal ?_
    refine hK10 _ _ ?_
    have s19 := s18.sub (.cons (t := 0) rfl (.cons (t := 3) rfl (.cons (t := 4) rfl (.cons (t := 5) rfl .nil)))); clear s18
    refine wp_seq_k fun K11 hK11 => ?_
    refine wp_region_lit ?_
    refine seq_op s19 rfl rfl (of_decide_eq_true rfl) (ob_move rfl (.tmp rfl)) fun a20 w20 s20 => ?_; clear s19
    refine seq_op s20 rfl rfl (of_decide_eq_true rfl) (ob_shl rfl (.tmp rfl) (opd_int rfl) (by decide)) fun a21 w21 s21 => ?_; clear s20
    refine seq_op s21 rfl rfl (of_decide_eq_true rfl) (ob_move rfl (.tmp rfl)) fun a22 w22 s22 => ?_; clear s21
    refine seq_op s22 rfl rfl (of_decide_eq_true rfl) (ob_move rfl (.tmp rfl)) fun a23 w23 s23 => ?_; clear s22
    refine seq_op s23 rfl rfl (of_decide_eq_true rfl) (ob_nilCheck rfl (.tmp rfl)) fun a24 w24 s24 => ?_; clear s23
    obtain ⟨g1, h5⟩ := guard_some h4; clear h4
    refine seq_op s24 rfl rfl (of_decide_eq_true rfl) (ob_indexAddr rfl Try.underlying24 sz5 (.tmp rfl) (.tmp rfl) g1.1 g1.2 (Nat.zero_add _)) fun a25 w25 s25 => ?_; clear s24
    obtain ⟨x1, e_x1, h6⟩ := bind_some h5; clear h5
    refine seq_op s25 rfl rfl (of_decide_eq_true rfl) (ob_load rfl tk5 (.tmp rfl) (.head _) (LG.arrA e_x1)) fun a26 w26 s26 => ?_; clear s25
    refine seq_op s26 rfl rfl (of_decide_eq_true rfl) (ob_conv rfl _ Try.underlying5 Try.underlying3 (.tmp rfl)) fun a27 w27 s27 => ?_; clear s26
    refine seq_op s27 rfl rfl (of_decide_eq_true rfl) (ob_or rfl (.tmp rfl) (.tmp rfl)) fun a28 w28 s28 => ?_; clear s27
    refine seq_op s28 rfl rfl (of_decide_eq_true rfl) (ob_assign rfl (.tmp rfl)) fun a29 w29 s29 => ?_; clear s28
    refine wpList_nil ?_
    refine then_normal ?_
    refine hK11 _ _ ?_
    have s30 := s29.sub (.cons (t := 0) rfl (.cons (t := 3) rfl (.cons (t := 4) rfl (.cons (t := 5) rfl .nil)))); clear s29
    refine wp_seq_k fun K12 hK12 => ?_
    refine wp_region_lit ?_
    refine seq_op s30 rfl rfl (of_decide_eq_true rfl) (ob_move rfl (.tmp rfl)) fun a31 w31 s31 => ?_; clear s30
    refine seq_op s31 rfl rfl (of_decide_eq_true rfl) (ob_move rfl (.tmp rfl)) fun a32 w32 s32 => ?_; clear s31
    refine seq_op s32 rfl rfl (of_decide_eq_true rfl) (ob_move rfl (.tmp rfl)) fun a33 w33 s33 => ?_; clear s32
    obtain ⟨x2, e_x2, h7⟩ := bind_some h6; clear h6; replace e_x2 := Option.some.inj e_x2
    refine seq_op s33 rfl rfl (of_decide_eq_true rfl) ((ob_quo rfl (.tmp rfl) (opd_int rfl) (by decide)).nm e_x2) fun a34 w34 s34 => ?_; clear s33
    refine seq_op s34 rfl rfl (of_decide_eq_true rfl) (ob_conv rfl _ Try.underlying3 Try.underlying5 (.tmp rfl)) fun a35 w35 s35 => ?_; clear s34
    refine seq_op s35 rfl rfl (of_decide_eq_true rfl) (ob_nilCheck rfl (.tmp rfl)) fun a36 w36 s36 => ?_; clear s35
    obtain ⟨g2, h8⟩ := guard_some h7; clear h7
    refine seq_op s36 rfl rfl (of_decide_eq_true rfl) (ob_indexAddr rfl Try.underlying24 sz5 (.tmp rfl) (.tmp rfl) g2.1 g2.2 (Nat.zero_add _)) fun a37 w37 s37 => ?_; clear s36
    obtain ⟨x3, e_x3, h9⟩ := bind_some h8; clear h8
    refine seq_opx0 (B' := (fun _ : Unit => [BF b00 24 (karr 32 (kint .u8)) x3])) s37 rfl rfl (ob_store (A := []) rfl tk5 (.tmp rfl) (.tmp rfl) rfl (LS.arrS e_x3) rfl) fun _ a38 w38 s38 => ?_; clear s37
    refine wpList_nil ?_
    refine then_normal ?_
    refine hK12 _ _ ?_
    have s39 := s38.sub (.cons (t := 0) rfl (.cons (t := 3) rfl (.cons (t := 5) rfl .nil))); clear s38
    refine wp_region_lit ?_
    refine seq_op s39 rfl rfl (of_decide_eq_true rfl) (ob_move rfl (.tmp rfl)) fun a40 w40 s40 => ?_; clear s39
    obtain ⟨x4, e_x4, h10⟩ := bind_some h9; clear h9; replace e_x4 := Option.some.inj e_x4
    refine seq_op s40 rfl rfl (of_decide_eq_true rfl) ((ob_rem rfl (.tmp rfl) (opd_int rfl) (by decide)).nm e_x4) fun a41 w41 s41 => ?_; clear s40
    refine seq_op s41 rfl rfl (of_decide_eq_true rfl) (ob_assign rfl (.tmp rfl)) fun a42 w42 s42 => ?_; clear s41
    refine wpList_nil ?_
    refine in_normal ?_
    refine then_normal ?_
    refine hK9 _ _ ?_
    have s43 := s42.sub (.cons (t := 0) rfl (.cons (t := 3) rfl (.cons (t := 5) rfl .nil))); clear s42
    refine wp_region_lit ?_
    refine seq_op s43 rfl rfl (of_decide_eq_true rfl) (ob_add rfl (.tmp rfl) (opd_int rfl)) fun a44 w44 s44 => ?_; clear s43
    refine seq_op s44 rfl rfl (of_decide_eq_true rfl) (ob_move rfl (.tmp rfl)) fun a45 w45 s45 => ?_; clear s44
    refine wpList_nil ?_
    refine then_normal ?_
    exact hK6 (x4, (iadd .i64 y4 (1 : Int)), x3) _ _ h10 (s45.sub (.cons rfl (.cons rfl (.cons rfl .nil))))
  · replace h3 := ite_f hc1 h3
    have h11 := h3; clear h3
    refine wp_exit ?_
    refine (then_exit (then_exit (in_here ?_)))
    refine then_normal ?_
    exact hj1 y3 y5 _ _ h11 (s15.sub (.cons rfl .nil))

/- 11 (*cabal/code.digits).check -/
theorem c_code_digits_check (k : Nat) (p1 : (List Int)) (r : (Int × Int)) (h0 : code_digits_check k p1 = some r) (ok : Ok) (w0 : World) (z0 : Value) (u0 : (ptrTo (karr 80 (kint .u8)) p1).holds ok w0 z0) :
    Gives Try.prog 11 [z0] ok w0 (resFact [(kint .u8).V r.1, (kint .u8).V r.2]) := by
  unfold code_digits_check at h0
  refine enter (N := 32) Try.func11 rfl rfl (of_decide_eq_true rfl) (.cons u0 .nil) fun a1 s1 => ?_
  refine wp_seq_k fun K1 hK1 => ?_
  refine wp_region_lit ?_
  refine seq_op s1 rfl rfl (of_decide_eq_true rfl) (ob_assign rfl (opd_int rfl)) fun a2 w2 s2 => ?_; clear s1
  refine seq_op s2 rfl rfl (of_decide_eq_true rfl) (ob_assign rfl (opd_int rfl)) fun a3 w3 s3 => ?_; clear s2
  refine wpList_nil ?_
  refine then_normal ?_
  refine hK1 _ _ ?_
  have s4 := s3.sub (.cons (t := 0) rfl .nil); clear s3
  refine wp_seq_k fun K2 hK2 => ?_
  refine wp_region_lit ?_
  refine seq_op s4 rfl rfl (of_decide_eq_true rfl) (ob_assign rfl (opd_int rfl)) fun a5 w5 s5 => ?_; clear s4
  refine wpList_nil ?_
  refine then_normal ?_
  refine hK2 _ _ ?_
  have s6 := s5.sub (.cons (t := 0) rfl (.cons (t := 4) rfl .nil)); clear s5
  refine wp_seq_k fun K3 hK3 => ?_
  refine wp_seq_k fun K4 hK4 => ?_
  refine wp_region_lit ?_
  refine seq_op s6 rfl rfl (of_decide_eq_true rfl) (ob_move rfl (.tmp rfl)) fun a7 w7 s7 => ?_; clear s6
  refine seq_op s7 rfl rfl (of_decide_eq_true rfl) (ob_nilCheckr rfl (.tmp rfl)) fun a8 w8 s8 => ?_; clear s7
  obtain ⟨x1, e_x1, h1⟩ := bind_some h0; clear h0
  refine seq_op s8 rfl rfl (of_decide_eq_true rfl) (ob_sliceArrr rfl Try.underlying36 sz5 (.tmp rfl) (by decide) .none (.some (opd_int rfl)) e_x1) fun a9 w9 s9 => ?_; clear s8
  refine seq_op s9 rfl rfl (of_decide_eq_true rfl) (ob_lens rfl Try.underlying33 (.tmp rfl)) fun a10 w10 s10 => ?_; clear s9
  refine seq_op s10 rfl rfl (of_decide_eq_true rfl) (ob_move rfl (opd_int rfl)) fun a11 w11 s11 => ?_; clear s10
  refine wpList_nil ?_
  refine then_normal ?_
  refine hK4 _ _ ?_
  have s12 := s11.sub (.cons (t := 4) rfl (.cons (t := 9) rfl (.cons (t := 10) rfl (.cons (t := 11) rfl .nil)))); clear s11
  have hj1 : ∀ (y1 : Int) (a : Act) (w : World), (code_digits_check.j1 k) y1 = some r → St ⟨32, w0, ok, []⟩ [] [(4, ((kint .i64).V y1))] a w → K3 a w := by
    intro y1 a13 w13 h2 s13
    unfold code_digits_check.j1 at h2
    refine hK3 _ _ ?_
    refine wp_seq_k fun K5 hK5 => ?_
    refine wp_region_lit ?_
    refine seq_op s13 rfl rfl (of_decide_eq_true rfl) (ob_move rfl (.tmp rfl)) fun a14 w14 s14 => ?_; clear s13
    refine seq_op s14 rfl rfl (of_decide_eq_true rfl) (ob_mul rfl (opd_int rfl) (.tmp rfl)) fun a15 w15 s15 => ?_; clear s14
    refine seq_op s15 rfl rfl (of_decide_eq_true rfl) (ob_rem rfl (.tmp rfl) (opd_int rfl) (by decide)) fun a16 w16 s16 => ?_; clear s15
    refine seq_op s16 rfl rfl (of_decide_eq_true rfl) (ob_sub rfl (opd_int rfl) (.tmp rfl)) fun a17 w17 s17 => ?_; clear s16
    refine seq_op s17 rfl rfl (of_decide_eq_true rfl) (ob_assign rfl (.tmp rfl)) fun a18 w18 s18 => ?_; clear s17
    refine wpList_nil ?_
    refine then_normal ?_
    refine hK5 _ _ ?_
    have s19 := s18.sub (.cons (t := 4) rfl .nil); clear s18
    refine wp_seq_k fun K6 hK6 => ?_
    refine wp_region_lit ?_
    refine seq_op s19 rfl rfl (of_decide_eq_true rfl) (ob_move rfl (.tmp rfl)) fun a20 w20 s20 => ?_; clear s19
    obtain ⟨x2, e_x2, h3⟩ := bind_some h2; clear h2; replace e_x2 := Option.some.inj e_x2
    refine seq_op s20 rfl rfl (of_decide_eq_true rfl) ((ob_quo rfl (.tmp rfl) (opd_int rfl) (by decide)).nm e_x2) fun a21 w21 s21 => ?_; clear s20
    refine seq_op s21 rfl rfl (of_decide_eq_true rfl) (ob_conv rfl _ Try.underlying3 Try.underlying5 (.tmp rfl)) fun a22 w22 s22 => ?_; clear s21
    refine seq_op s22 rfl rfl (of_decide_eq_true rfl) (ob_move rfl (.tmp rfl)) fun a23 w23 s23 => ?_; clear s22
    obtain ⟨x3, e_x3, h4⟩ := bind_some h3; clear h3; replace e_x3 := Option.some.inj e_x3
    refine seq_op s23 rfl rfl (of_decide_eq_true rfl) ((ob_rem rfl (.tmp rfl) (opd_int rfl) (by decide)).nm e_x3) fun a24 w24 s24 => ?_; clear s23
    refine seq_op s24 rfl rfl (of_decide_eq_true rfl) (ob_conv rfl _ Try.underlying3 Try.underlying5 (.tmp rfl)) fun a25 w25 s25 => ?_; clear s24
    refine seq_op s25 rfl rfl (of_decide_eq_true rfl) (ob_assign rfl (.tmp rfl)) fun a26 w26 s26 => ?_; clear s25
    refine seq_op s26 rfl rfl (of_decide_eq_true rfl) (ob_assign rfl (.tmp rfl)) fun a27 w27 s27 => ?_; clear s26
    refine wpList_nil ?_
    refine then_normal ?_
    refine hK6 _ _ ?_
    have s28 := s27.sub (.cons (t := 2) rfl (.cons (t := 3) rfl .nil)); clear s27
    refine wp_ret ?_
    obtain rfl := Option.some.inj h4
    exact leave s28 (.inl rfl) rfl (.cons (.tmp rfl) (.cons (.tmp rfl) .nil))
  refine wp_block ?_
  refine wp_loop_fuel (fun m (q : Int × Int) => code_digits_check.l1 k x1 m q.1 q.2) r (fun _ => rfl) (fun q a w => St ⟨32, w0, ok, []⟩ [] [(4, ((kint .i64).V q.1)), (9, ((ksl (kint .u8)).V x1)), (10, ((kint .i64).V (x1.length : Int))), (11, ((kint .i64).V q.2))] a w) ?_ k ((0 : Int), (0 : Int)) _ _ h1 (s12.sub (.cons rfl (.cons rfl (.cons rfl (.cons rfl .nil)))))
  rintro n1 ⟨y2, y3⟩ a29 w29 h5 s29 K7 hK7
  replace h5 : code_digits_check.l1 k x1 (n1 + 1) y2 y3 = some r := h5; rw [code_digits_check.l1] at h5
  have h6 := h5; clear h5
  refine wp_seq_k fun K8 hK8 => ?_
  refine wp_region_lit ?_
  refine seq_op s29 rfl rfl (of_decide_eq_true rfl) (ob_lss rfl (.tmp rfl) (.tmp rfl)) fun a30 w30 s30 => ?_; clear s29
  refine wpList_nil ?_
  refine then_normal ?_
  refine hK8 _ _ ?_
  have s31 := s30.sub (.cons (t := 4) rfl (.cons (t := 9) rfl (.cons (t := 10) rfl (.cons (t := 11) rfl (.cons (t := 12) rfl .nil))))); clear s30
  refine wp_seq_k fun K9 hK9 => ?_
  refine cond_split s31 (.tmp rfl) (fun hc1 => ?_) (fun hc1 => ?_)
  · replace h6 := ite_t hc1 h6
    have h7 := h6; clear h6
    refine wp_skip ?_
    refine then_normal ?_
    refine hK9 _ _ ?_
    have s32 := s31.sub (.cons (t := 4) rfl (.cons (t := 9) rfl (.cons (t := 10) rfl (.cons (t := 11) rfl .nil)))); clear s31
    refine wp_seq_k fun K10 hK10 => ?_
    refine wp_block ?_
    refine wp_seq_k fun K11 hK11 => ?_
    refine wp_region_lit ?_
    obtain ⟨x4, e_x4, h8⟩ := bind_some h7; clear h7
    refine seq_op s32 rfl rfl (of_decide_eq_true rfl) (ob_indexAddrs rfl Try.underlying33 sz5 (.tmp rfl) (.tmp rfl) e_x4) fun a33 w33 s33 => ?_; clear s32
    refine seq_op s33 rfl rfl (of_decide_eq_true rfl) (ob_loadr rfl tk5 (.tmp rfl)) fun a34 w34 s34 => ?_; clear s33
    refine seq_op s34 rfl rfl (of_decide_eq_true rfl) (ob_assign rfl (.tmp rfl)) fun a35 w35 s35 => ?_; clear s34
    refine wpList_nil ?_
    refine then_normal ?_
    refine hK11 _ _ ?_
    have s36 := s35.sub (.cons (t := 4) rfl (.cons (t := 6) rfl (.cons (t := 9) rfl (.cons (t := 10) rfl (.cons (t := 11) rfl .nil))))); clear s35
    refine wp_region_lit ?_
    refine seq_op s36 rfl rfl (of_decide_eq_true rfl) (ob_move rfl (.tmp rfl)) fun a37 w37 s37 => ?_; clear s36
    refine seq_op s37 rfl rfl (of_decide_eq_true rfl) (ob_mul rfl (opd_int rfl) (.tmp rfl)) fun a38 w38 s38 => ?_; clear s37
    refine seq_op s38 rfl rfl (of_decide_eq_true rfl) (ob_move rfl (.tmp rfl)) fun a39 w39 s39 => ?_; clear s38
    refine seq_op s39 rfl rfl (of_decide_eq_true rfl) (ob_conv rfl _ Try.underlying5 Try.underlying3 (.tmp rfl)) fun a40 w40 s40 => ?_; clear s39
    refine seq_op s40 rfl rfl (of_decide_eq_true rfl) (ob_add rfl (.tmp rfl) (.tmp rfl)) fun a41 w41 s41 => ?_; clear s40
    obtain ⟨x5, e_x5, h9⟩ := bind_some h8; clear h8; replace e_x5 := Option.some.inj e_x5
    refine seq_op s41 rfl rfl (of_decide_eq_true rfl) ((ob_rem rfl (.tmp rfl) (opd_int rfl) (by decide)).nm e_x5) fun a42 w42 s42 => ?_; clear s41
    refine seq_op s42 rfl rfl (of_decide_eq_true rfl) (ob_assign rfl (.tmp rfl)) fun a43 w43 s43 => ?_; clear s42
    refine wpList_nil ?_
    refine in_normal ?_
    refine then_normal ?_
    refine hK10 _ _ ?_
    have s44 := s43.sub (.cons (t := 4) rfl (.cons (t := 9) rfl (.cons (t := 10) rfl (.cons (t := 11) rfl .nil)))); clear s43
    refine wp_region_lit ?_
    refine seq_op s44 rfl rfl (of_decide_eq_true rfl) (ob_add rfl (.tmp rfl) (opd_int rfl)) fun a45 w45 s45 => ?_; clear s44
    refine seq_op s45 rfl rfl (of_decide_eq_true rfl) (ob_move rfl (.tmp rfl)) fun a46 w46 s46 => ?_; clear s45
    refine wpList_nil ?_
    refine then_normal ?_
    exact hK7 (x5, (iadd .i64 y3 (1 : Int))) _ _ h9 (s46.sub (.cons rfl (.cons rfl (.cons rfl (.cons rfl .nil)))))
  · replace h6 := ite_f hc1 h6
    have h10 := h6; clear h6
    refine wp_exit ?_
    refine (then_exit (then_exit (in_here ?_)))
    refine then_normal ?_
    exact hj1 y2 _ _ h10 (s31.sub (.cons rfl .nil))

/- 17 (*strings.Builder).copyCheck -/
theorem c_strings_Builder_copyCheck (k : Nat) (p1 : strings_Builder) (r : strings_Builder) (h0 : strings_Builder_copyCheck k p1 = some r) (ok : Ok) (w0 : World) (z0 : Value) (b00 : Nat) (w0_1 : Value) (l0 : ∀ q, q ∈ [BF b00 48 (ko_strings_Builder_1 b00 w0_1) (⟨p1.addr, []⟩ : strings_Builder), RowF w0_1 5 (kint .u8) p1.buf] → q.holds ok w0) (d0 : ∀ c, c ∈ idsOf [BF b00 48 (ko_strings_Builder_1 b00 w0_1) (⟨p1.addr, []⟩ : strings_Builder), RowF w0_1 5 (kint .u8) p1.buf] → ¬ ok c) (nd : (idsOf [BF b00 48 (ko_strings_Builder_1 b00 w0_1) (⟨p1.addr, []⟩ : strings_Builder), RowF w0_1 5 (kint .u8) p1.buf]).Nodup) (u0 : (ptrB b00 0).holds ok w0 z0) :
    GivesX Try.prog 17 [z0] ok w0 [BF b00 48 (ko_strings_Builder_1 b00 w0_1) (⟨p1.addr, []⟩ : strings_Builder), RowF w0_1 5 (kint .u8) p1.buf] (fun g : Value => resFact []) (fun g : Value => [BF b00 48 (ko_strings_Builder_1 b00 (g)) (⟨r.addr, []⟩ : strings_Builder), RowF (g) 5 (kint .u8) r.buf]) := by
  unfold strings_Builder_copyCheck at h0
  refine enterX (N := 20) Try.func17 rfl rfl (of_decide_eq_true rfl) (.cons u0 .nil) nd l0 d0 fun a1 s1 => ?_
  refine wp_seq_k fun K1 hK1 => ?_
  refine wp_region_lit ?_
  refine seq_op s1 rfl rfl (of_decide_eq_true rfl) (ob_move rfl (.tmp rfl)) fun a2 w2 s2 => ?_; clear s1
  refine seq_op s2 rfl rfl (of_decide_eq_true rfl) (ob_nilCheck rfl (.tmp rfl)) fun a3 w3 s3 => ?_; clear s2
  refine seq_op s3 rfl rfl (of_decide_eq_true rfl) (ob_fieldAddr (off' := 0) rfl Try.underlying48 rfl sz46 (by decide) (.tmp rfl) rfl) fun a4 w4 s4 => ?_; clear s3
  refine seq_op s4 rfl rfl (of_decide_eq_true rfl) ((ob_load rfl (tkb46 _) (.tmp rfl) (.head _) (lgo_strings_Builder_1_addr (⟨p1.addr, []⟩ : strings_Builder))).as V_kbad) fun a5 w5 s5 => ?_; clear s4
  refine seq_op s5 rfl rfl (of_decide_eq_true rfl) (ob_badNil rfl pt46 (.tmp rfl) opd_is) fun a6 w6 s6 => ?_; clear s5
  refine wpList_nil ?_
  refine then_normal ?_
  refine hK1 _ _ ?_
  have s7 := s6.sub (.cons (t := 0) rfl (.cons (t := 6) rfl .nil)); clear s6
  refine cond_split s7 (.tmp rfl) (fun hc1 => ?_) (fun hc1 => ?_)
  · replace h0 := ite_t hc1 h0
    have h1 := h0; clear h0
    refine wp_region_lit ?_
    refine seq_op s7 rfl rfl (of_decide_eq_true rfl) (ob_move rfl (.tmp rfl)) fun a8 w8 s8 => ?_; clear s7
    refine seq_op s8 rfl rfl (of_decide_eq_true rfl) (ob_move rfl (.tmp rfl)) fun a9 w9 s9 => ?_; clear s8
    refine seq_op s9 rfl rfl (of_decide_eq_true rfl) (ob_toUnsafe rfl Try.underlying46 Try.underlying56 (by kernel_rfl) (.tmp rfl) (.head _) (Nat.zero_lt_succ _)) fun a10 w10 s10 => ?_; clear s9
    refine seq_op s10 rfl rfl (of_decide_eq_true rfl) (ob_noEscape rfl ne18 (.tmp rfl)) fun a11 w11 s11 => ?_; clear s10
    refine seq_op s11 rfl rfl (of_decide_eq_true rfl) (ob_fromUnsafe rfl Try.underlying56 Try.underlying46 (by kernel_rfl) (.tmp rfl) (.head _) (by kernel_rfl)) fun a12 w12 s12 => ?_; clear s11
    refine seq_op s12 rfl rfl (of_decide_eq_true rfl) (ob_nilCheck rfl (.tmp rfl)) fun a13 w13 s13 => ?_; clear s12
    refine seq_op s13 rfl rfl (of_decide_eq_true rfl) (ob_fieldAddr (off' := 0) rfl Try.underlying48 rfl sz46 (by decide) (.tmp rfl) rfl) fun a14 w14 s14 => ?_; clear s13
    refine seq_opx0 (B' := (fun _ : Unit => [BF b00 48 (ko_strings_Builder_1 b00 w0_1) (⟨true, []⟩ : strings_Builder), RowF w0_1 5 (kint .u8) p1.buf])) s14 rfl rfl (ob_store (A := []) rfl (tkb46 _) (.tmp rfl) (.conv (.tmp rfl) self_bad) rfl (lso_strings_Builder_1_addr (⟨p1.addr, []⟩ : strings_Builder) true) rfl) fun _ a15 w15 s15 => ?_; clear s14
    refine wpList_nil ?_
    obtain rfl := Option.some.inj h1
    exact leaveXD (D := []) w0_1 s15 rfl (.inr rfl) rfl .nil rfl
  · replace h0 := ite_f hc1 h0
    have h2 := h0; clear h0
    refine wp_seq_k fun K2 hK2 => ?_
    refine wp_region_lit ?_
    refine seq_op s7 rfl rfl (of_decide_eq_true rfl) (ob_move rfl (.tmp rfl)) fun a16 w16 s16 => ?_; clear s7
    refine seq_op s16 rfl rfl (of_decide_eq_true rfl) (ob_nilCheck rfl (.tmp rfl)) fun a17 w17 s17 => ?_; clear s16
    refine seq_op s17 rfl rfl (of_decide_eq_true rfl) (ob_fieldAddr (off' := 0) rfl Try.underlying48 rfl sz46 (by decide) (.tmp rfl) rfl) fun a18 w18 s18 => ?_; clear s17
    refine seq_op s18 rfl rfl (of_decide_eq_true rfl) ((ob_load rfl (tkb46 _) (.tmp rfl) (.head _) (lgo_strings_Builder_1_addr (⟨p1.addr, []⟩ : strings_Builder))).as V_kbad) fun a19 w19 s19 => ?_; clear s18
    refine seq_op s19 rfl rfl (of_decide_eq_true rfl) (ob_move rfl (.tmp rfl)) fun a20 w20 s20 => ?_; clear s19
    refine seq_op s20 rfl rfl (of_decide_eq_true rfl) (ob_badSelf rfl Try.underlying46 (by kernel_rfl) (.tmp rfl) (.tmp rfl)) fun a21 w21 s21 => ?_; clear s20
    refine wpList_nil ?_
    refine then_normal ?_
    refine hK2 _ _ ?_
    have s22 := s21.sub (.cons (t := 19) rfl .nil); clear s21
    refine cond_split s22 (.tmp rfl) (fun hc2 => ?_) (fun hc2 => ?_)
    · replace h2 := ite_t hc2 h2
      have h3 := h2; clear h2
      cases h3
    · replace h2 := ite_f hc2 h2
      have h4 := h2; clear h2
      refine wp_skip ?_
      obtain rfl := Option.some.inj h4
      exact leaveXD (D := []) w0_1 s22 rfl (.inr rfl) rfl .nil rfl

/- 15 (*strings.Builder).WriteByte -/
theorem c_strings_Builder_WriteByte (k : Nat) (p1 : strings_Builder) (p2 : Int) (r : (Unit × strings_Builder)) (h0 : strings_Builder_WriteByte k p1 p2 = some r) (ok : Ok) (w0 : World) (z0 : Value) (z1 : Value) (b00 : Nat) (w0_1 : Value) (l0 : ∀ q, q ∈ [BF b00 48 (ko_strings_Builder_1 b00 w0_1) (⟨p1.addr, []⟩ : strings_Builder), RowF w0_1 5 (kint .u8) p1.buf] → q.holds ok w0) (d0 : ∀ c, c ∈ idsOf [BF b00 48 (ko_strings_Builder_1 b00 w0_1) (⟨p1.addr, []⟩ : strings_Builder), RowF w0_1 5 (kint .u8) p1.buf] → ¬ ok c) (nd : (idsOf [BF b00 48 (ko_strings_Builder_1 b00 w0_1) (⟨p1.addr, []⟩ : strings_Builder), RowF w0_1 5 (kint .u8) p1.buf]).Nodup) (u0 : (ptrB b00 0).holds ok w0 z0) (u1 : ((kint .u8).V p2).holds ok w0 z1) :
    GivesX Try.prog 15 [z0, z1] ok w0 [BF b00 48 (ko_strings_Builder_1 b00 w0_1) (⟨p1.addr, []⟩ : strings_Builder), RowF w0_1 5 (kint .u8) p1.buf] (fun g : Value => resFact [(kis .nilIface).V r.1]) (fun g : Value => [BF b00 48 (ko_strings_Builder_1 b00 (g)) (⟨r.2.addr, []⟩ : strings_Builder), RowF (g) 5 (kint .u8) r.2.buf]) := by
  unfold strings_Builder_WriteByte at h0
  refine enterX (N := 17) Try.func15 rfl rfl (of_decide_eq_true rfl) (.cons u0 (.cons u1 .nil)) nd l0 d0 fun a1 s1 => ?_
  refine wp_seq_k fun K1 hK1 => ?_
  refine wp_region_lit ?_
  refine seq_op s1 rfl rfl (of_decide_eq_true rfl) (ob_assign rfl opd_nilIface) fun a2 w2 s2 => ?_; clear s1
  refine wpList_nil ?_
  refine then_normal ?_
  refine hK1 _ _ ?_
  have s3 := s2.sub (.cons (t := 0) rfl (.cons (t := 1) rfl .nil)); clear s2
  refine wp_seq_k fun K2 hK2 => ?_
  refine wp_region_lit ?_
  refine seq_op s3 rfl rfl (of_decide_eq_true rfl) (ob_move rfl (.tmp rfl)) fun a4 w4 s4 => ?_; clear s3
  obtain ⟨x1, e_x1, h1⟩ := bind_some h0; clear h0
  refine seq_opx (B' := (fun v1 : Value => [BF b00 48 (ko_strings_Builder_1 b00 v1) (⟨x1.addr, []⟩ : strings_Builder), RowF v1 5 (kint .u8) x1.buf])) s4 rfl rfl (of_decide_eq_true rfl) (ob_callL (args := [_]) (L := [_, _]) rfl .direct hb17 (List.Perm.refl _) (fun a w s fs gs hf hg => by obtain rfl := hf.unnil; obtain rfl := hg.unnil; exact c_strings_Builder_copyCheck k _ _ e_x1 _ _ _ _ _ (ownL s) (disL s) (nodL s) (s.arg (.tmp rfl))) (by exact fun _ => rfl)) fun v1 a5 w5 s5 => ?_; clear s4
  refine wpList_nil ?_
  refine then_normal ?_
  refine hK2 _ _ ?_
  have s6 := s5.sub (.cons (t := 0) rfl (.cons (t := 1) rfl .nil)); clear s5
  refine wp_seq_k fun K3 hK3 => ?_
  refine wp_region_lit ?_
  refine seq_op s6 rfl rfl (of_decide_eq_true rfl) (ob_move rfl (.tmp rfl)) fun a7 w7 s7 => ?_; clear s6
  refine seq_op s7 rfl rfl (of_decide_eq_true rfl) (ob_move rfl (.tmp rfl)) fun a8 w8 s8 => ?_; clear s7
  refine seq_op s8 rfl rfl (of_decide_eq_true rfl) (ob_nilCheck rfl (.tmp rfl)) fun a9 w9 s9 => ?_; clear s8
  refine seq_op s9 rfl rfl (of_decide_eq_true rfl) (ob_fieldAddr (off' := 1) rfl Try.underlying48 rfl sz33 (by decide) (.tmp rfl) rfl) fun a10 w10 s10 => ?_; clear s9
  refine seq_op s10 rfl rfl (of_decide_eq_true rfl) (ob_loadRowV rfl (tkr33 _) (.tmp rfl) (.head _) (lgo_strings_Builder_1_buf (⟨x1.addr, []⟩ : strings_Builder))) fun a11 w11 s11 => ?_; clear s10
  refine seq_op s11 rfl rfl (of_decide_eq_true rfl) (ob_move rfl (.tmp rfl)) fun a12 w12 s12 => ?_; clear s11
  refine seq_op s12 rfl rfl (of_decide_eq_true rfl) (ob_mkSlice (k := (kint .u8)) (xs := ([p2] : (List Int))) rfl Try.underlying33 zz5 sz5 (Zr.int .u8) (by decide) (by decide) (.cons (.tmp rfl) rfl (LS.arr' (i := 0) (ys := ([p2] : (List Int))) (by simp) (by rfl)) (.nil _))) fun a13 w13 s13 => ?_; clear s12
  obtain ⟨g1, h2⟩ := guard_some h1; clear h1
  refine seq_opx (B' := (fun v2 : Value => [BF b00 48 (ko_strings_Builder_1 b00 v1) (⟨x1.addr, []⟩ : strings_Builder), RowF v2 5 (kint .u8) (x1.buf ++ ([p2] : (List Int)))])) s13 rfl rfl (of_decide_eq_true rfl) (ob_appendL2 (A := [_]) rfl Try.underlying33 ap5 (Zr.int .u8) (by decide) (.tmp rfl) (.tmp rfl) rfl g1) fun v2 a14 w14 s14 => ?_; clear s13
  refine seq_op s14 rfl rfl (of_decide_eq_true rfl) (ob_nilCheck rfl (.tmp rfl)) fun a15 w15 s15 => ?_; clear s14
  refine seq_op s15 rfl rfl (of_decide_eq_true rfl) (ob_fieldAddr (off' := 1) rfl Try.underlying48 rfl sz33 (by decide) (.tmp rfl) rfl) fun a16 w16 s16 => ?_; clear s15
  refine seq_opx0 (B' := (fun _ : Unit => [BF b00 48 (ko_strings_Builder_1 b00 v2) (⟨x1.addr, []⟩ : strings_Builder), RowF v2 5 (kint .u8) (x1.buf ++ ([p2] : (List Int)))])) s16 rfl rfl (ob_storeRowV (A := []) rfl (tkr33 _) (.tmp rfl) (.tmp rfl) (.tail _ (.head _)) rfl (lsk_strings_Builder_1_to_1_at1 (⟨x1.addr, []⟩ : strings_Builder)) rfl) fun _ a17 w17 s17 => ?_; clear s16
  refine wpList_nil ?_
  refine then_normal ?_
  refine hK3 _ _ ?_
  have s18 := s17.sub .nil; clear s17
  refine wp_seq_k fun K4 hK4 => ?_
  refine wp_region_lit ?_
  refine seq_op s18 rfl rfl (of_decide_eq_true rfl) (ob_assign rfl opd_nilIface) fun a19 w19 s19 => ?_; clear s18
  refine wpList_nil ?_
  refine then_normal ?_
  refine hK4 _ _ ?_
  have s20 := s19.sub (.cons (t := 4) rfl .nil); clear s19
  refine wp_ret ?_
  obtain rfl := Option.some.inj h2
  exact leaveXD (D := []) v2 s20 rfl (.inl rfl) rfl (.cons (.tmp rfl) .nil) rfl

/- 16 (*strings.Builder).String -/
theorem c_strings_Builder_String (k : Nat) (p1 : strings_Builder) (r : (List Int)) (h0 : strings_Builder_String k p1 = some r) (ok : Ok) (w0 : World) (z0 : Value) (b00 : Nat) (w0_1 : Value) (l0 : ∀ q, q ∈ [BF b00 48 (ko_strings_Builder_1 b00 w0_1) (⟨p1.addr, []⟩ : strings_Builder), RowF w0_1 5 (kint .u8) p1.buf] → q.holds ok w0) (d0 : ∀ c, c ∈ idsOf [BF b00 48 (ko_strings_Builder_1 b00 w0_1) (⟨p1.addr, []⟩ : strings_Builder), RowF w0_1 5 (kint .u8) p1.buf] → ¬ ok c) (nd : (idsOf [BF b00 48 (ko_strings_Builder_1 b00 w0_1) (⟨p1.addr, []⟩ : strings_Builder), RowF w0_1 5 (kint .u8) p1.buf]).Nodup) (u0 : (ptrB b00 0).holds ok w0 z0) :
    GivesX Try.prog 16 [z0] ok w0 [BF b00 48 (ko_strings_Builder_1 b00 w0_1) (⟨p1.addr, []⟩ : strings_Builder), RowF w0_1 5 (kint .u8) p1.buf] (fun g : Unit => resFact [kstr.V r]) (fun g : Unit => []) := by
  unfold strings_Builder_String at h0
  refine enterX (N := 14) Try.func16 rfl rfl (of_decide_eq_true rfl) (.cons u0 .nil) nd l0 d0 fun a1 s1 => ?_
  refine wp_seq_k fun K1 hK1 => ?_
  refine wp_region_lit ?_
  refine seq_op s1 rfl rfl (of_decide_eq_true rfl) (ob_assign rfl (opd_str (by rfl) (by decide))) fun a2 w2 s2 => ?_; clear s1
  refine wpList_nil ?_
  refine then_normal ?_
  refine hK1 _ _ ?_
  have s3 := s2.sub (.cons (t := 0) rfl .nil); clear s2
  refine wp_seq_k fun K2 hK2 => ?_
  obtain ⟨g1, h1⟩ := guard_some h0; clear h0
  refine wp_goes (Fs := [(ptrB b00 0), (ptrB b00 0), (ptrB b00 1), (is w0_1), (ptrR w0_1 0), (ptrB b00 0), (ptrB b00 0), (ptrB b00 1), (is w0_1), ((kint .i64).V (p1.buf.length : Int))]) (bits := [0, 1, 3, 7, 15, 0, 32, 96, 224, 480, 1023, 2047]) (m := 10) (todo := 0) mx s3 ?_; clear s3
  refine goes_last (by kernel_rfl) rfl (opsS_cons (.plain _ (Av.old (t := 0) rfl rfl Av.nil) rfl rfl (ob_move rfl (.tmp rfl))) (opsS_cons (.plain _ (Av.new (j := 0) rfl rfl rfl Av.nil) rfl rfl (ob_nilCheck rfl (.tmp rfl))) (opsS_cons (.plain _ (Av.new (j := 1) rfl rfl rfl Av.nil) rfl rfl (ob_fieldAddr (off' := 1) rfl Try.underlying48 rfl sz33 (by decide) (.tmp rfl) rfl)) (opsS_cons (.plain _ (Av.new (j := 2) rfl rfl rfl Av.nil) rfl rfl (ob_loadRowV rfl (tkr33 _) (.tmp rfl) (.head _) (lgo_strings_Builder_1_buf (⟨p1.addr, []⟩ : strings_Builder)))) (opsS_cons (.plain _ (Av.new (j := 3) rfl rfl rfl Av.nil) rfl rfl (ob_sliceData rfl (.tmp rfl) (.tail _ (.head _)) g1)) (opsS_cons (.plain _ (Av.old (t := 0) rfl rfl Av.nil) rfl rfl (ob_move rfl (.tmp rfl))) (opsS_cons (.plain _ (Av.new (j := 5) rfl rfl rfl Av.nil) rfl rfl (ob_nilCheck rfl (.tmp rfl))) (opsS_cons (.plain _ (Av.new (j := 6) rfl rfl rfl Av.nil) rfl rfl (ob_fieldAddr (off' := 1) rfl Try.underlying48 rfl sz33 (by decide) (.tmp rfl) rfl)) (opsS_cons (.plain _ (Av.new (j := 7) rfl rfl rfl Av.nil) rfl rfl (ob_loadRowV rfl (tkr33 _) (.tmp rfl) (.head _) (lgo_strings_Builder_1_buf (⟨p1.addr, []⟩ : strings_Builder)))) (opsS_cons (.plain _ (Av.new (j := 8) rfl rfl rfl Av.nil) rfl rfl (ob_lenRow rfl Try.underlying33 (.tmp rfl) (.tail _ (.head _)))) opsS_nil)))))))))) (out_new (i := 4) (by decide) rfl rfl (out_new (i := 9) (by decide) rfl rfl out_nil)) fun a4 w4 s4 => ?_
  refine seq_opx (B' := (fun _ : Unit => [BF b00 48 (ko_strings_Builder_1 b00 w0_1) (⟨p1.addr, []⟩ : strings_Builder)])) s4 rfl rfl (of_decide_eq_true rfl) (ob_unsafeString (A := [_]) rfl Try.underlying55 co5 (.tmp rfl) (.tmp rfl) rfl g1) fun _ a5 w5 s5 => ?_; clear s4
  refine seq_op s5 rfl rfl (of_decide_eq_true rfl) (ob_assign rfl (.tmp rfl)) fun a6 w6 s6 => ?_; clear s5
  refine wpList_nil ?_
  refine then_normal ?_
  refine hK2 _ _ ?_
  have s7 := s6.sub (.cons (t := 2) rfl .nil); clear s6
  have s8 := St.drop (A := []) s7; clear s7
  refine wp_ret ?_
  obtain rfl := Option.some.inj h1
  exact leaveXD (D := []) () s8 rfl (.inl rfl) rfl (.cons (.tmp rfl) .nil) rfl

/- 9 cabal/code.Write -/
theorem c_code_Write (k : Nat) (p1 : (List Int)) (r : (List Int)) (h0 : code_Write k p1 = some r) (ok : Ok) (w0 : World) (z0 : Value) (u0 : ((karr 32 (kint .u8)).V p1).holds ok w0 z0) :
    Gives Try.prog 9 [z0] ok w0 (resFact [kstr.V r]) := by
  unfold code_Write at h0
  refine enter (N := 40) Try.func9 rfl rfl (of_decide_eq_true rfl) (.cons u0 .nil) fun a1 s1 => ?_
  refine wp_seq_k fun K1 hK1 => ?_
  refine wp_region_lit ?_
  refine seq_opx (B' := (fun b1 : Nat => [BF b1 24 (karr 32 (kint .u8)) p1])) s1 rfl rfl (of_decide_eq_true rfl) (ob_box rfl (.tmp rfl)) fun b1 a2 w2 s2 => ?_; clear s1
  refine seq_op s2 rfl rfl (of_decide_eq_true rfl) (ob_assign rfl (opd_str (by rfl) (by decide))) fun a3 w3 s3 => ?_; clear s2
  refine wpList_nil ?_
  refine then_normal ?_
  refine hK1 _ _ ?_
  have s4 := s3.sub (.cons (t := 1) rfl .nil); clear s3
  refine wp_seq_k fun K2 hK2 => ?_
  refine wp_region_lit ?_
  refine seq_opx (B' := (fun b2 : Nat => [BF b2 36 (karr 80 (kint .u8)) (List.replicate 80 (0 : Int)), BF b1 24 (karr 32 (kint .u8)) p1])) s4 rfl rfl (of_decide_eq_true rfl) (ob_new (k := (karr 80 (kint .u8))) rfl zz36 (Zr.arr 80 (Zr.int .u8))) fun b2 a5 w5 s5 => ?_; clear s4
  refine wpList_nil ?_
  refine then_normal ?_
  refine hK2 _ _ ?_
  have s6 := s5.sub (.cons (t := 1) rfl (.cons (t := 3) rfl .nil)); clear s5
  refine wp_seq_k fun K3 hK3 => ?_
  refine wp_seq_k fun K4 hK4 => ?_
  refine wp_region_lit ?_
  refine seq_op s6 rfl rfl (of_decide_eq_true rfl) (ob_move rfl (opd_int rfl)) fun a7 w7 s7 => ?_; clear s6
  refine wpList_nil ?_
  refine then_normal ?_
  refine hK4 _ _ ?_
  have s8 := s7.sub (.cons (t := 1) rfl (.cons (t := 3) rfl (.cons (t := 8) rfl .nil))); clear s7
  have hj1 : ∀ (y1 : (List Int)) (a : Act) (w : World), (code_Write.j1 k) y1 = some r → St ⟨40, w0, ok, []⟩ [BF b2 36 (karr 80 (kint .u8)) y1] [(3, (ptrB b2 0))] a w → K3 a w := by
    intro y1 a9 w9 h1 s9
    unfold code_Write.j1 at h1
    refine hK3 _ _ ?_
    refine wp_seq_k fun K5 hK5 => ?_
    refine wp_region_lit ?_
    obtain ⟨x1, e_x1, h2⟩ := bind_some h1; clear h1
    refine seq_op s9 rfl rfl (of_decide_eq_true rfl) ((ob_lendG (L := [_]) (List.Perm.refl _) (.cons (t := 3) rfl (lendPtrB (.head _) (LG.refl _ _)) .nil) (Flat.res2 (Flat.V (KFlat.int _)) (Flat.V (KFlat.int _))) (fun _ => ob_callD (args := [_]) rfl .direct hb11 (fun a w s fs gs hf hg => by obtain rfl := hf.unnil; obtain rfl := hg.unnil; exact c_code_digits_check k _ _ e_x1 _ _ _ (s.arg (.tmp rfl)))))) fun a10 w10 s10 => ?_; clear s9
    refine seq_op s10 rfl rfl (of_decide_eq_true rfl) (ob_move rfl (.tmp rfl)) fun a11 w11 s11 => ?_; clear s10
    refine seq_op s11 rfl rfl (of_decide_eq_true rfl) (ob_extract rfl (.tmp rfl) rfl) fun a12 w12 s12 => ?_; clear s11
    refine seq_op s12 rfl rfl (of_decide_eq_true rfl) (ob_extract rfl (.tmp rfl) rfl) fun a13 w13 s13 => ?_; clear s12
    refine seq_op s13 rfl rfl (of_decide_eq_true rfl) (ob_indexAddr rfl Try.underlying36 sz5 (.tmp rfl) (opd_int rfl) (by decide) (by decide) (Nat.zero_add _)) fun a14 w14 s14 => ?_; clear s13
    obtain ⟨x2, e_x2, h3⟩ := bind_some h2; clear h2
    refine seq_opx0 (B' := (fun _ : Unit => [BF b2 36 (karr 80 (kint .u8)) x2])) s14 rfl rfl (ob_store (A := []) rfl tk5 (.tmp rfl) (.tmp rfl) rfl (LS.arrS e_x2) rfl) fun _ a15 w15 s15 => ?_; clear s14
    refine seq_op s15 rfl rfl (of_decide_eq_true rfl) (ob_indexAddr rfl Try.underlying36 sz5 (.tmp rfl) (opd_int rfl) (by decide) (by decide) (Nat.zero_add _)) fun a16 w16 s16 => ?_; clear s15
    obtain ⟨x3, e_x3, h4⟩ := bind_some h3; clear h3
    refine seq_opx0 (B' := (fun _ : Unit => [BF b2 36 (karr 80 (kint .u8)) x3])) s16 rfl rfl (ob_store (A := []) rfl tk5 (.tmp rfl) (.tmp rfl) rfl (LS.arrS e_x3) rfl) fun _ a17 w17 s17 => ?_; clear s16
    refine wpList_nil ?_
    refine then_normal ?_
    refine hK5 _ _ ?_
    have s18 := s17.sub (.cons (t := 3) rfl .nil); clear s17
    refine wp_seq_k fun K6 hK6 => ?_
    refine wp_region_lit ?_
    have s19 := St.adopt s18 (G := RowF (nilRow 1) 5 (kint .u8) []) rfl (rowNilN _ _ _ _ _); clear s18
    refine seq_opx (B' := (fun b3 : Nat => [BF b3 48 (ko_strings_Builder_1 b3 (nilRow 1)) (⟨false, []⟩ : strings_Builder), RowF (nilRow 1) 5 (kint .u8) ([] : (List Int)), BF b2 36 (karr 80 (kint .u8)) x3])) s19 rfl rfl (of_decide_eq_true rfl) (ob_newAt (kk := fun b => (ko_strings_Builder_1 b (nilRow 1))) (agg := true) rfl (fun _ => rfl) zz48 (fun _ => (Zr.iso (f := to_strings_Builder_1) (x := (⟨false, []⟩ : strings_Builder)) (Zr.pair (Zr.bad _) (Zr.pair (Zr.kis 1) Zr.nil))))) fun b3 a20 w20 s20 => ?_; clear s19
    refine wpList_nil ?_
    refine then_normal ?_
    refine hK6 _ _ ?_
    have s21 := s20.sub (.cons (t := 3) rfl (.cons (t := 5) rfl .nil)); clear s20
    refine wp_seq_k fun K7 hK7 => ?_
    refine wp_seq_k fun K8 hK8 => ?_
    refine wp_region_lit ?_
    refine seq_op s21 rfl rfl (of_decide_eq_true rfl) (ob_load rfl tk36 (.tmp rfl) (.tail _ (.tail _ (.head _))) (LG.refl _ _)) fun a22 w22 s22 => ?_; clear s21
    refine seq_op s22 rfl rfl (of_decide_eq_true rfl) (ob_move rfl (opd_int rfl)) fun a23 w23 s23 => ?_; clear s22
    refine wpList_nil ?_
    refine then_normal ?_
    refine hK8 _ _ ?_
    have s24 := s23.sub (.cons (t := 5) rfl (.cons (t := 22) rfl (.cons (t := 23) rfl .nil))); clear s23
    have s25 := St.drop (A := [_, _]) s24; clear s24
    have hj2 : ∀ (y2 : Bool) (y3 : (List Int)) (v1 : Value) (a : Act) (w : World), (code_Write.j2 k) y2 y3 = some r → St ⟨40, w0, ok, []⟩ [BF b3 48 (ko_strings_Builder_1 b3 v1) (⟨y2, []⟩ : strings_Builder), RowF v1 5 (kint .u8) y3] [(5, (ptrB b3 0))] a w → K7 a w := by
      intro y2 y3 v1 a26 w26 h5 s26
      unfold code_Write.j2 at h5
      refine hK7 _ _ ?_
      refine wp_seq_k fun K9 hK9 => ?_
      refine wp_region_lit ?_
      obtain ⟨x4, e_x4, h6⟩ := bind_some h5; clear h5
      refine seq_opx (B' := (fun _ : Unit => [])) s26 rfl rfl (of_decide_eq_true rfl) (ob_callL (args := [_]) (L := [_, _]) rfl .direct hb16 (List.Perm.refl _) (fun a w s fs gs hf hg => by obtain rfl := hf.unnil; obtain rfl := hg.unnil; exact c_strings_Builder_String k _ _ e_x4 _ _ _ _ _ (ownL s) (disL s) (nodL s) (s.arg (.tmp rfl))) (by exact fun _ => rfl)) fun _ a27 w27 s27 => ?_; clear s26
      refine seq_op s27 rfl rfl (of_decide_eq_true rfl) (ob_assign rfl (.tmp rfl)) fun a28 w28 s28 => ?_; clear s27
      refine wpList_nil ?_
      refine then_normal ?_
      refine hK9 _ _ ?_
      have s29 := s28.sub (.cons (t := 2) rfl .nil); clear s28
      refine wp_ret ?_
      obtain rfl := Option.some.inj h6
      exact leave s29 (.inl rfl) rfl (.cons (.tmp rfl) .nil)
    refine wp_block ?_
    refine wp_loop_fuel (fun m (q : Int × Bool × (List Int)) => code_Write.l1 k x3 m q.1 q.2.1 q.2.2) r (fun _ => rfl) (fun q a w => ∃ (v2 : Value), St ⟨40, w0, ok, []⟩ [BF b3 48 (ko_strings_Builder_1 b3 v2) (⟨q.2.1, []⟩ : strings_Builder), RowF v2 5 (kint .u8) q.2.2] [(5, (ptrB b3 0)), (22, ((karr 80 (kint .u8)).V x3)), (23, ((kint .i64).V q.1))] a w) ?_ k ((0 : Int), false, ([] : (List Int))) _ _ h4 ⟨(nilRow 1), (s25.sub (.cons rfl (.cons rfl (.cons rfl .nil))))⟩
    rintro n1 ⟨y4, y5, y6⟩ a30 w30 h7 ⟨v2, s30⟩ K10 hK10
    replace h7 : code_Write.l1 k x3 (n1 + 1) y4 y5 y6 = some r := h7; rw [code_Write.l1] at h7
    have h8 := h7; clear h7
    refine wp_seq_k fun K11 hK11 => ?_
    refine wp_region_lit ?_
    refine seq_op s30 rfl rfl (of_decide_eq_true rfl) (ob_lss rfl (.tmp rfl) (opd_int rfl)) fun a31 w31 s31 => ?_; clear s30
    refine wpList_nil ?_
    refine then_normal ?_
    refine hK11 _ _ ?_
    have s32 := s31.sub (.cons (t := 5) rfl (.cons (t := 22) rfl (.cons (t := 23) rfl (.cons (t := 24) rfl .nil)))); clear s31
    refine wp_seq_k fun K12 hK12 => ?_
    refine cond_split s32 (.tmp rfl) (fun hc1 => ?_) (fun hc1 => ?_)
    · replace h8 := ite_t hc1 h8
      have h9 := h8; clear h8
      refine wp_skip ?_
      refine then_normal ?_
      refine hK12 _ _ ?_
      have s33 := s32.sub (.cons (t := 5) rfl (.cons (t := 22) rfl (.cons (t := 23) rfl .nil))); clear s32
      refine wp_seq_k fun K13 hK13 => ?_
      refine wp_block ?_
      refine wp_seq_k fun K14 hK14 => ?_
      refine wp_region_lit ?_
      refine seq_op s33 rfl rfl (of_decide_eq_true rfl) (ob_move rfl (.tmp rfl)) fun a34 w34 s34 => ?_; clear s33
      obtain ⟨x5, e_x5, h10⟩ := bind_some h9; clear h9
      obtain ⟨g1, h11⟩ := guard_some h10; clear h10
      refine seq_op s34 rfl rfl (of_decide_eq_true rfl) (ob_index rfl Try.underlying36 tk5 (.tmp rfl) (.tmp rfl) g1 e_x5) fun a35 w35 s35 => ?_; clear s34
      refine seq_op s35 rfl rfl (of_decide_eq_true rfl) (ob_assign rfl (.tmp rfl)) fun a36 w36 s36 => ?_; clear s35
      refine seq_op s36 rfl rfl (of_decide_eq_true rfl) (ob_assign rfl (.tmp rfl)) fun a37 w37 s37 => ?_; clear s36
      refine wpList_nil ?_
      refine then_normal ?_
      refine hK14 _ _ ?_
      have s38 := s37.sub (.cons (t := 5) rfl (.cons (t := 6) rfl (.cons (t := 7) rfl (.cons (t := 22) rfl (.cons (t := 23) rfl .nil))))); clear s37
      refine wp_seq_k fun K15 hK15 => ?_
      refine wp_seq_k fun K16 hK16 => ?_
      refine wp_region_lit ?_
      refine seq_op s38 rfl rfl (of_decide_eq_true rfl) (ob_move rfl (.tmp rfl)) fun a39 w39 s39 => ?_; clear s38
      refine seq_op s39 rfl rfl (of_decide_eq_true rfl) (ob_gtr rfl (.tmp rfl) (opd_int rfl)) fun a40 w40 s40 => ?_; clear s39
      refine seq_op s40 rfl rfl (of_decide_eq_true rfl) (ob_move rfl (.tmp rfl)) fun a41 w41 s41 => ?_; clear s40
      refine seq_opg s41 rfl rfl rfl rfl (of_decide_eq_true rfl) (fun hb => ob_move rfl (.tmp rfl)) fun a42 w42 s42 => ?_; clear s41
      refine seq_opg s42 rfl rfl rfl rfl (of_decide_eq_true rfl) (fun hb => (Ob.uncond (t := 30) hb rfl (ob_rem rfl (.tmp rfl) (opd_int rfl) (by decide)))) fun a43 w43 s43 => ?_; clear s42
      refine seq_opg s43 rfl rfl rfl rfl (of_decide_eq_true rfl) (fun hb => (Ob.uncond (t := 31) hb rfl (ob_eql rfl (.tmp rfl) (opd_int rfl)))) fun a44 w44 s44 => ?_; clear s43
      obtain ⟨x6, e_x6, h12⟩ := bind_some h11; clear h11; replace e_x6 := Option.some.inj e_x6
      refine seq_op s44 rfl rfl (of_decide_eq_true rfl) ((ob_and2 rfl (.tmp rfl) (.tmp rfl) opd_bool).nm e_x6) fun a45 w45 s45 => ?_; clear s44
      refine wpList_nil ?_
      refine then_normal ?_
      refine hK16 _ _ ?_
      have s46 := s45.sub (.cons (t := 5) rfl (.cons (t := 7) rfl (.cons (t := 22) rfl (.cons (t := 23) rfl (.cons (t := 33) rfl .nil))))); clear s45
      have hj3 : ∀ (y7 : Bool) (y8 : (List Int)) (v3 : Value) (a : Act) (w : World), (code_Write.j3 k x5 y4 (code_Write.l1 k x3 n1)) y7 y8 = some r → St ⟨40, w0, ok, []⟩ [BF b3 48 (ko_strings_Builder_1 b3 v3) (⟨y7, []⟩ : strings_Builder), RowF v3 5 (kint .u8) y8] [(5, (ptrB b3 0)), (7, ((kint .u8).V x5)), (22, ((karr 80 (kint .u8)).V x3)), (23, ((kint .i64).V y4))] a w → K15 a w := by
        intro y7 y8 v3 a47 w47 h13 s47
        unfold code_Write.j3 at h13
        refine hK15 _ _ ?_
        refine wp_region_lit ?_
        refine seq_op s47 rfl rfl (of_decide_eq_true rfl) (ob_move rfl (.tmp rfl)) fun a48 w48 s48 => ?_; clear s47
        refine seq_op s48 rfl rfl (of_decide_eq_true rfl) (ob_add rfl (opd_int rfl) (.tmp rfl)) fun a49 w49 s49 => ?_; clear s48
        obtain ⟨x7, e_x7, h14⟩ := bind_some h13; clear h13
        refine seq_opx (B' := (fun v4 : Value => [BF b3 48 (ko_strings_Builder_1 b3 v4) (⟨x7.2.addr, []⟩ : strings_Builder), RowF v4 5 (kint .u8) x7.2.buf])) s49 rfl rfl (of_decide_eq_true rfl) (ob_callL (args := [_, _]) (L := [_, _]) rfl .direct hb15 (List.Perm.refl _) (fun a w s fs gs hf hg => by obtain rfl := hf.unnil; obtain rfl := hg.unnil; exact c_strings_Builder_WriteByte k _ _ _ e_x7 _ _ _ _ _ _ (ownL s) (disL s) (nodL s) (s.arg (.tmp rfl)) (s.arg (.tmp rfl))) (by exact fun _ => rfl)) fun v4 a50 w50 s50 => ?_; clear s49
        refine wpList_nil ?_
        refine in_normal ?_
        refine then_normal ?_
        refine hK13 _ _ ?_
        have s51 := s50.sub (.cons (t := 5) rfl (.cons (t := 22) rfl (.cons (t := 23) rfl .nil))); clear s50
        refine wp_region_lit ?_
        refine seq_op s51 rfl rfl (of_decide_eq_true rfl) (ob_add rfl (.tmp rfl) (opd_int rfl)) fun a52 w52 s52 => ?_; clear s51
        refine seq_op s52 rfl rfl (of_decide_eq_true rfl) (ob_move rfl (.tmp rfl)) fun a53 w53 s53 => ?_; clear s52
        refine wpList_nil ?_
        refine then_normal ?_
        exact hK10 ((iadd .i64 y4 (1 : Int)), x7.2.addr, x7.2.buf) _ _ h14 ⟨v4, (s53.sub (.cons rfl (.cons rfl (.cons rfl .nil))))⟩
      refine cond_split s46 (.tmp rfl) (fun hc2 => ?_) (fun hc2 => ?_)
      · replace h12 := ite_t hc2 h12
        have h15 := h12; clear h12
        refine wp_region_lit ?_
        obtain ⟨x8, e_x8, h16⟩ := bind_some h15; clear h15
        refine seq_opx (B' := (fun v5 : Value => [BF b3 48 (ko_strings_Builder_1 b3 v5) (⟨x8.2.addr, []⟩ : strings_Builder), RowF v5 5 (kint .u8) x8.2.buf])) s46 rfl rfl (of_decide_eq_true rfl) (ob_callL (args := [_, _]) (L := [_, _]) rfl .direct hb15 (List.Perm.refl _) (fun a w s fs gs hf hg => by obtain rfl := hf.unnil; obtain rfl := hg.unnil; exact c_strings_Builder_WriteByte k _ _ _ e_x8 _ _ _ _ _ _ (ownL s) (disL s) (nodL s) (s.arg (.tmp rfl)) (s.arg (opd_int rfl))) (by exact fun _ => rfl)) fun v5 a54 w54 s54 => ?_; clear s46
        refine wpList_nil ?_
        refine then_normal ?_
        exact hj3 x8.2.addr x8.2.buf v5 _ _ h16 (s54.sub (.cons rfl (.cons rfl (.cons rfl (.cons rfl .nil)))))
      · replace h12 := ite_f hc2 h12
        have h17 := h12; clear h12
        refine wp_skip ?_
        refine then_normal ?_
        exact hj3 y5 y6 v2 _ _ h17 (s46.sub (.cons rfl (.cons rfl (.cons rfl (.cons rfl .nil)))))
    · replace h8 := ite_f hc1 h8
      have h18 := h8; clear h8
      refine wp_exit ?_
      refine (then_exit (then_exit (in_here ?_)))
      refine then_normal ?_
      exact hj2 y5 y6 v2 _ _ h18 (s32.sub (.cons rfl .nil))
  refine wp_block ?_
  have s55 := s8.perm (toFront [_] (toFront [] (List.Perm.refl _))); clear s8
  refine wp_loop_fuel (fun m (q : Int × (List Int) × (List Int)) => code_Write.l2 k m q.1 q.2.1 q.2.2) r (fun _ => rfl) (fun q a w => St ⟨40, w0, ok, []⟩ [BF b1 24 (karr 32 (kint .u8)) q.2.1, BF b2 36 (karr 80 (kint .u8)) q.2.2] [(1, (ptrB b1 0)), (3, (ptrB b2 0)), (8, ((kint .i64).V q.1))] a w) ?_ k ((0 : Int), p1, (List.replicate 80 (0 : Int))) _ _ h0 (s55.sub (.cons rfl (.cons rfl (.cons rfl .nil))))
  rintro n2 ⟨y9, y10, y11⟩ a56 w56 h19 s56 K17 hK17
  replace h19 : code_Write.l2 k (n2 + 1) y9 y10 y11 = some r := h19; rw [code_Write.l2] at h19
  have h20 := h19; clear h19
  refine wp_seq_k fun K18 hK18 => ?_
  refine wp_region_lit ?_
  refine seq_op s56 rfl rfl (of_decide_eq_true rfl) (ob_lss rfl (.tmp rfl) (opd_int rfl)) fun a57 w57 s57 => ?_; clear s56
  refine wpList_nil ?_
  refine then_normal ?_
  refine hK18 _ _ ?_
  have s58 := s57.sub (.cons (t := 1) rfl (.cons (t := 3) rfl (.cons (t := 8) rfl (.cons (t := 9) rfl .nil)))); clear s57
  refine wp_seq_k fun K19 hK19 => ?_
  refine cond_split s58 (.tmp rfl) (fun hc3 => ?_) (fun hc3 => ?_)
  · replace h20 := ite_t hc3 h20
    have h21 := h20; clear h20
    refine wp_skip ?_
    refine then_normal ?_
    refine hK19 _ _ ?_
    have s59 := s58.sub (.cons (t := 1) rfl (.cons (t := 3) rfl (.cons (t := 8) rfl .nil))); clear s58
    refine wp_seq_k fun K20 hK20 => ?_
    refine wp_block ?_
    refine wp_seq_k fun K21 hK21 => ?_
    refine wp_region_lit ?_
    refine seq_op s59 rfl rfl (of_decide_eq_true rfl) (ob_move rfl (.tmp rfl)) fun a60 w60 s60 => ?_; clear s59
    refine seq_op s60 rfl rfl (of_decide_eq_true rfl) (ob_assign rfl (.tmp rfl)) fun a61 w61 s61 => ?_; clear s60
    refine wpList_nil ?_
    refine then_normal ?_
    refine hK21 _ _ ?_
    have s62 := s61.sub (.cons (t := 1) rfl (.cons (t := 3) rfl (.cons (t := 4) rfl (.cons (t := 8) rfl .nil)))); clear s61
    refine wp_region_lit ?_
    refine seq_op s62 rfl rfl (of_decide_eq_true rfl) (ob_move rfl (.tmp rfl)) fun a63 w63 s63 => ?_; clear s62
    refine seq_op s63 rfl rfl (of_decide_eq_true rfl) (ob_sub rfl (opd_int rfl) (.tmp rfl)) fun a64 w64 s64 => ?_; clear s63
    obtain ⟨x9, e_x9, h22⟩ := bind_some h21; clear h21
    refine seq_opx (B' := (fun _ : Unit => [BF b1 24 (karr 32 (kint .u8)) x9.2, BF b2 36 (karr 80 (kint .u8)) y11])) s64 rfl rfl (of_decide_eq_true rfl) (ob_callL (args := [_]) (L := [_]) rfl .direct hb14 (List.Perm.refl _) (fun a w s fs gs hf hg => by obtain rfl := hf.unnil; obtain rfl := hg.unnil; exact c_code_by10 k _ _ e_x9 _ _ _ _ (ownL s) (disL s) (nodL s) (s.arg (.tmp rfl))) (by exact fun _ => rfl)) fun _ a65 w65 s65 => ?_; clear s64
    obtain ⟨g2, h23⟩ := guard_some h22; clear h22
    refine seq_op s65 rfl rfl (of_decide_eq_true rfl) (ob_indexAddr rfl Try.underlying36 sz5 (.tmp rfl) (.tmp rfl) g2.1 g2.2 (Nat.zero_add _)) fun a66 w66 s66 => ?_; clear s65
    obtain ⟨x10, e_x10, h24⟩ := bind_some h23; clear h23
    refine seq_opx0 (B' := (fun _ : Unit => [BF b1 24 (karr 32 (kint .u8)) x9.2, BF b2 36 (karr 80 (kint .u8)) x10])) s66 rfl rfl (ob_store (A := [_]) rfl tk5 (.tmp rfl) (.tmp rfl) rfl (LS.arrS e_x10) rfl) fun _ a67 w67 s67 => ?_; clear s66
    refine wpList_nil ?_
    refine in_normal ?_
    refine then_normal ?_
    refine hK20 _ _ ?_
    have s68 := s67.sub (.cons (t := 1) rfl (.cons (t := 3) rfl (.cons (t := 8) rfl .nil))); clear s67
    refine wp_region_lit ?_
    refine seq_op s68 rfl rfl (of_decide_eq_true rfl) (ob_add rfl (.tmp rfl) (opd_int rfl)) fun a69 w69 s69 => ?_; clear s68
    refine seq_op s69 rfl rfl (of_decide_eq_true rfl) (ob_move rfl (.tmp rfl)) fun a70 w70 s70 => ?_; clear s69
    refine wpList_nil ?_
    refine then_normal ?_
    exact hK17 ((iadd .i64 y9 (1 : Int)), x9.2, x10) _ _ h24 (s70.sub (.cons rfl (.cons rfl (.cons rfl .nil))))
  · replace h20 := ite_f hc3 h20
    have h25 := h20; clear h20
    refine wp_exit ?_
    refine (then_exit (then_exit (in_here ?_)))
    refine then_normal ?_
    have s71 := St.drop (A := []) s58; clear s58
    exact hj1 y11 _ _ h25 (s71.sub (.cons rfl .nil))

/- 10 cabal/code.read -/
theorem c_code_read (k : Nat) (p1 : (List Int)) (r : ((List Int) × Bool)) (h0 : code_read k p1 = some r) (ok : Ok) (w0 : World) (z0 : Value) (u0 : (kstr.V p1).holds ok w0 z0) :
    Gives Try.prog 10 [z0] ok w0 (resFact [(karr 80 (kint .u8)).V r.1, kbool.V r.2]) := by
  unfold code_read at h0
  refine enter (N := 58) Try.func10 rfl rfl (of_decide_eq_true rfl) (.cons u0 .nil) fun a1 s1 => ?_
  refine wp_seq_k fun K1 hK1 => ?_
  refine wp_region_lit ?_
  refine seq_opx (B' := (fun b1 : Nat => [BF b1 36 (karr 80 (kint .u8)) (List.replicate 80 (0 : Int))])) s1 rfl rfl (of_decide_eq_true rfl) (ob_new (k := (karr 80 (kint .u8))) rfl zz36 (Zr.arr 80 (Zr.int .u8))) fun b1 a2 w2 s2 => ?_; clear s1
  refine seq_op s2 rfl rfl (of_decide_eq_true rfl) (ob_assign rfl opd_bool) fun a3 w3 s3 => ?_; clear s2
  refine wpList_nil ?_
  refine then_normal ?_
  refine hK1 _ _ ?_
  have s4 := s3.sub (.cons (t := 0) rfl (.cons (t := 2) rfl .nil)); clear s3
  refine wp_seq_k fun K2 hK2 => ?_
  refine wp_region_lit ?_
  refine seq_opx (B' := (fun b2 : Nat => [BF b2 36 (karr 80 (kint .u8)) (List.replicate 80 (0 : Int)), BF b1 36 (karr 80 (kint .u8)) (List.replicate 80 (0 : Int))])) s4 rfl rfl (of_decide_eq_true rfl) (ob_new (k := (karr 80 (kint .u8))) rfl zz36 (Zr.arr 80 (Zr.int .u8))) fun b2 a5 w5 s5 => ?_; clear s4
  refine wpList_nil ?_
  refine then_normal ?_
  refine hK2 _ _ ?_
  have s6 := s5.sub (.cons (t := 0) rfl (.cons (t := 2) rfl (.cons (t := 4) rfl .nil))); clear s5
  refine wp_seq_k fun K3 hK3 => ?_
  refine wp_seq_k fun K4 hK4 => ?_
  refine wp_region_lit ?_
  refine seq_op s6 rfl rfl (of_decide_eq_true rfl) (ob_move rfl (.tmp rfl)) fun a7 w7 s7 => ?_; clear s6
  refine seq_op s7 rfl rfl (of_decide_eq_true rfl) (ob_lenStr rfl Try.underlying9 (.tmp rfl)) fun a8 w8 s8 => ?_; clear s7
  refine seq_op s8 rfl rfl (of_decide_eq_true rfl) (ob_neq rfl (.tmp rfl) (opd_int rfl)) fun a9 w9 s9 => ?_; clear s8
  refine wpList_nil ?_
  refine then_normal ?_
  refine hK4 _ _ ?_
  have s10 := s9.sub (.cons (t := 0) rfl (.cons (t := 2) rfl (.cons (t := 4) rfl (.cons (t := 10) rfl .nil)))); clear s9
  refine cond_split s10 (.tmp rfl) (fun hc1 => ?_) (fun hc1 => ?_)
  · replace h0 := ite_t hc1 h0
    have h1 := h0; clear h0
    refine wp_seq_k fun K5 hK5 => ?_
    refine wp_region_lit ?_
    refine seq_op s10 rfl rfl (of_decide_eq_true rfl) (ob_load rfl tk36 (.tmp rfl) (.head _) (LG.refl _ _)) fun a11 w11 s11 => ?_; clear s10
    refine seq_opx0 (B' := (fun _ : Unit => [BF b2 36 (karr 80 (kint .u8)) (List.replicate 80 (0 : Int)), BF b1 36 (karr 80 (kint .u8)) (List.replicate 80 (0 : Int))])) s11 rfl rfl (ob_store (A := [_]) rfl tk36 (.tmp rfl) (.tmp rfl) rfl (LS.refl _ _ _) rfl) fun _ a12 w12 s12 => ?_; clear s11
    refine seq_op s12 rfl rfl (of_decide_eq_true rfl) (ob_assign rfl opd_bool) fun a13 w13 s13 => ?_; clear s12
    refine wpList_nil ?_
    refine then_normal ?_
    refine hK5 _ _ ?_
    have s14 := s13.sub (.cons (t := 2) rfl (.cons (t := 3) rfl .nil)); clear s13
    have s15 := St.drop (A := []) s14; clear s14
    refine wp_ret ?_
    obtain rfl := Option.some.inj h1
    exact leave s15 (.inl rfl) rfl (.cons (.cell rfl tk36 (.head _) (LG.refl _ _)) (.cons (.tmp rfl) .nil))
  · replace h0 := ite_f hc1 h0
    have h2 := h0; clear h0
    refine wp_skip ?_
    refine then_normal ?_
    refine hK3 _ _ ?_
    have s16 := s10.sub (.cons (t := 0) rfl (.cons (t := 2) rfl (.cons (t := 4) rfl .nil))); clear s10
    refine wp_seq_k fun K6 hK6 => ?_
    refine wp_seq_k fun K7 hK7 => ?_
    refine wp_region_lit ?_
    refine seq_op s16 rfl rfl (of_decide_eq_true rfl) (ob_move rfl (.tmp rfl)) fun a17 w17 s17 => ?_; clear s16
    refine seq_op s17 rfl rfl (of_decide_eq_true rfl) (ob_lenStr rfl Try.underlying9 (.tmp rfl)) fun a18 w18 s18 => ?_; clear s17
    refine seq_op s18 rfl rfl (of_decide_eq_true rfl) (ob_move rfl (opd_int rfl)) fun a19 w19 s19 => ?_; clear s18
    refine wpList_nil ?_
    refine then_normal ?_
    refine hK7 _ _ ?_
    have s20 := s19.sub (.cons (t := 0) rfl (.cons (t := 2) rfl (.cons (t := 4) rfl (.cons (t := 13) rfl (.cons (t := 14) rfl .nil))))); clear s19
    have hj1 : ∀ (y1 : (List Int)) (a : Act) (w : World), (code_read.j1 k) y1 = some r → St ⟨58, w0, ok, []⟩ [BF b1 36 (karr 80 (kint .u8)) (List.replicate 80 (0 : Int)), BF b2 36 (karr 80 (kint .u8)) y1] [(2, (ptrB b1 0)), (4, (ptrB b2 0))] a w → K6 a w := by
      intro y1 a21 w21 h3 s21
      unfold code_read.j1 at h3
      refine hK6 _ _ ?_
      refine wp_seq_k fun K8 hK8 => ?_
      refine wp_region_lit ?_
      refine seq_op s21 rfl rfl (of_decide_eq_true rfl) (ob_load rfl tk36 (.tmp rfl) (.tail _ (.head _)) (LG.refl _ _)) fun a22 w22 s22 => ?_; clear s21
      refine seq_opx0 (B' := (fun _ : Unit => [BF b1 36 (karr 80 (kint .u8)) y1, BF b2 36 (karr 80 (kint .u8)) y1])) s22 rfl rfl (ob_store (A := []) rfl tk36 (.tmp rfl) (.tmp rfl) rfl (LS.refl _ _ _) rfl) fun _ a23 w23 s23 => ?_; clear s22
      refine seq_op s23 rfl rfl (of_decide_eq_true rfl) (ob_assign rfl opd_bool) fun a24 w24 s24 => ?_; clear s23
      refine wpList_nil ?_
      refine then_normal ?_
      refine hK8 _ _ ?_
      have s25 := s24.sub (.cons (t := 2) rfl (.cons (t := 3) rfl .nil)); clear s24
      have s26 := St.drop (A := [_]) s25; clear s25
      refine wp_ret ?_
      obtain rfl := Option.some.inj h3
      exact leave s26 (.inl rfl) rfl (.cons (.cell rfl tk36 (.head _) (LG.refl _ _)) (.cons (.tmp rfl) .nil))
    refine wp_block ?_
    have s27 := s20.perm (toFront [_] (toFront [] (List.Perm.refl _))); clear s20
    refine wp_loop_fuel (fun m (q : Int × (List Int)) => code_read.l1 k p1 m q.1 q.2) r (fun _ => rfl) (fun q a w => St ⟨58, w0, ok, []⟩ [BF b1 36 (karr 80 (kint .u8)) (List.replicate 80 (0 : Int)), BF b2 36 (karr 80 (kint .u8)) q.2] [(0, (kstr.V p1)), (2, (ptrB b1 0)), (4, (ptrB b2 0)), (13, ((kint .i64).V (p1.length : Int))), (14, ((kint .i64).V q.1))] a w) ?_ k ((0 : Int), (List.replicate 80 (0 : Int))) _ _ h2 (s27.sub (.cons rfl (.cons rfl (.cons rfl (.cons rfl (.cons rfl .nil))))))
    rintro n1 ⟨y2, y3⟩ a28 w28 h4 s28 K9 hK9
    replace h4 : code_read.l1 k p1 (n1 + 1) y2 y3 = some r := h4; rw [code_read.l1] at h4
    have h5 := h4; clear h4
    refine wp_seq_k fun K10 hK10 => ?_
    refine wp_region_lit ?_
    refine seq_op s28 rfl rfl (of_decide_eq_true rfl) (ob_lss rfl (.tmp rfl) (.tmp rfl)) fun a29 w29 s29 => ?_; clear s28
    refine wpList_nil ?_
    refine then_normal ?_
    refine hK10 _ _ ?_
    have s30 := s29.sub (.cons (t := 0) rfl (.cons (t := 2) rfl (.cons (t := 4) rfl (.cons (t := 13) rfl (.cons (t := 14) rfl (.cons (t := 15) rfl .nil)))))); clear s29
    refine wp_seq_k fun K11 hK11 => ?_
    refine cond_split s30 (.tmp rfl) (fun hc2 => ?_) (fun hc2 => ?_)
    · replace h5 := ite_t hc2 h5
      have h6 := h5; clear h5
      refine wp_skip ?_
      refine then_normal ?_
      refine hK11 _ _ ?_
      have s31 := s30.sub (.cons (t := 0) rfl (.cons (t := 2) rfl (.cons (t := 4) rfl (.cons (t := 13) rfl (.cons (t := 14) rfl .nil))))); clear s30
      refine wp_seq_k fun K12 hK12 => ?_
      have hj2 : ∀ (y4 : (List Int)) (a : Act) (w : World), (code_read.j2 k y2 (code_read.l1 k p1 n1)) y4 = some r → St ⟨58, w0, ok, []⟩ [BF b1 36 (karr 80 (kint .u8)) (List.replicate 80 (0 : Int)), BF b2 36 (karr 80 (kint .u8)) y4] [(0, (kstr.V p1)), (2, (ptrB b1 0)), (4, (ptrB b2 0)), (13, ((kint .i64).V (p1.length : Int))), (14, ((kint .i64).V y2)), (47, (kbool.V (!((irem y2 (6 : Int)) == (5 : Int)))))] a w → K12 a w := by
        intro y4 a32 w32 h7 s32
        unfold code_read.j2 at h7
        refine hK12 _ _ ?_
        refine wp_region_lit ?_
        refine seq_op s32 rfl rfl (of_decide_eq_true rfl) (ob_add rfl (.tmp rfl) (opd_int rfl)) fun a33 w33 s33 => ?_; clear s32
        refine seq_op s33 rfl rfl (of_decide_eq_true rfl) (ob_move rfl (.tmp rfl)) fun a34 w34 s34 => ?_; clear s33
        refine wpList_nil ?_
        refine then_normal ?_
        exact hK9 ((iadd .i64 y2 (1 : Int)), y4) _ _ h7 (s34.sub (.cons rfl (.cons rfl (.cons rfl (.cons rfl (.cons rfl .nil))))))
      refine wp_block ?_
      refine wp_seq_k fun K13 hK13 => ?_
      refine wp_region_lit ?_
      refine seq_op s31 rfl rfl (of_decide_eq_true rfl) (ob_move rfl (.tmp rfl)) fun a35 w35 s35 => ?_; clear s31
      refine seq_op s35 rfl rfl (of_decide_eq_true rfl) (ob_assign rfl (.tmp rfl)) fun a36 w36 s36 => ?_; clear s35
      refine wpList_nil ?_
      refine then_normal ?_
      refine hK13 _ _ ?_
      have s37 := s36.sub (.cons (t := 0) rfl (.cons (t := 2) rfl (.cons (t := 4) rfl (.cons (t := 5) rfl (.cons (t := 13) rfl (.cons (t := 14) rfl .nil)))))); clear s36
      refine wp_seq_k fun K14 hK14 => ?_
      refine wp_region_lit ?_
      refine seq_op s37 rfl rfl (of_decide_eq_true rfl) (ob_move rfl (.tmp rfl)) fun a38 w38 s38 => ?_; clear s37
      refine seq_op s38 rfl rfl (of_decide_eq_true rfl) (ob_move rfl (.tmp rfl)) fun a39 w39 s39 => ?_; clear s38
      refine seq_op s39 rfl rfl (of_decide_eq_true rfl) (ob_quo rfl (.tmp rfl) (opd_int rfl) (by decide)) fun a40 w40 s40 => ?_; clear s39
      refine seq_op s40 rfl rfl (of_decide_eq_true rfl) (ob_sub rfl (.tmp rfl) (.tmp rfl)) fun a41 w41 s41 => ?_; clear s40
      refine seq_op s41 rfl rfl (of_decide_eq_true rfl) (ob_move rfl (.tmp rfl)) fun a42 w42 s42 => ?_; clear s41
      refine seq_op s42 rfl rfl (of_decide_eq_true rfl) (ob_rem rfl (.tmp rfl) (opd_int rfl) (by decide)) fun a43 w43 s43 => ?_; clear s42
      refine seq_op s43 rfl rfl (of_decide_eq_true rfl) (ob_eql rfl (.tmp rfl) (opd_int rfl)) fun a44 w44 s44 => ?_; clear s43
      refine seq_op s44 rfl rfl (of_decide_eq_true rfl) (ob_assign rfl (.tmp rfl)) fun a45 w45 s45 => ?_; clear s44
      refine seq_op s45 rfl rfl (of_decide_eq_true rfl) (ob_assign rfl (.tmp rfl)) fun a46 w46 s46 => ?_; clear s45
      refine wpList_nil ?_
      refine then_normal ?_
      refine hK14 _ _ ?_
      have s47 := s46.sub (.cons (t := 0) rfl (.cons (t := 2) rfl (.cons (t := 4) rfl (.cons (t := 5) rfl (.cons (t := 6) rfl (.cons (t := 7) rfl (.cons (t := 13) rfl (.cons (t := 14) rfl .nil)))))))); clear s46
      refine wp_block ?_
      refine wp_seq_k fun K15 hK15 => ?_
      refine wp_seq_k fun K16 hK16 => ?_
      refine wp_region_lit ?_
      refine seq_op s47 rfl rfl (of_decide_eq_true rfl) (ob_move rfl (.tmp rfl)) fun a48 w48 s48 => ?_; clear s47
      refine seq_op s48 rfl rfl (of_decide_eq_true rfl) (ob_move rfl (.tmp rfl)) fun a49 w49 s49 => ?_; clear s48
      refine seq_opg s49 rfl rfl rfl rfl (of_decide_eq_true rfl) (fun hb => ob_move rfl (.tmp rfl)) fun a50 w50 s50 => ?_; clear s49
      refine seq_opg s50 rfl rfl rfl rfl (of_decide_eq_true rfl) (fun hb => ob_move rfl (.tmp rfl)) fun a51 w51 s51 => ?_; clear s50
      obtain ⟨x1, e_x1, h8⟩ := bind_some h6; clear h6
      refine seq_opg s51 rfl rfl rfl rfl (of_decide_eq_true rfl) (fun hb => (Ob.uncond (t := 28) hb rfl ((Ob.uncond (t := 27) hb rfl (ob_indexStr rfl Try.underlying9 (.tmp rfl) (.tmp rfl) (ite_t hb e_x1)))))) fun a52 w52 s52 => ?_; clear s51
      refine seq_opg s52 rfl rfl rfl rfl (of_decide_eq_true rfl) (fun hb => (Ob.uncond (t := 29) hb rfl (ob_neq rfl (.tmp rfl) (opd_int rfl)))) fun a53 w53 s53 => ?_; clear s52
      obtain ⟨x2, e_x2, h9⟩ := bind_some h8; clear h8; replace e_x2 := Option.some.inj e_x2
      refine seq_op s53 rfl rfl (of_decide_eq_true rfl) ((ob_and2 rfl (.tmp rfl) (.tmp rfl) opd_bool).nm e_x2) fun a54 w54 s54 => ?_; clear s53
      refine seq_op s54 rfl rfl (of_decide_eq_true rfl) (ob_assign rfl (.tmp rfl)) fun a55 w55 s55 => ?_; clear s54
      refine wpList_nil ?_
      refine then_normal ?_
      refine hK16 _ _ ?_
      have s56 := s55.sub (.cons (t := 0) rfl (.cons (t := 2) rfl (.cons (t := 4) rfl (.cons (t := 5) rfl (.cons (t := 6) rfl (.cons (t := 7) rfl (.cons (t := 13) rfl (.cons (t := 14) rfl (.cons (t := 24) rfl .nil))))))))); clear s55
      have hj3 : ∀ (y5 : Bool) (a : Act) (w : World), (code_read.j3 k y3 y2 p1 (code_read.l1 k p1 n1)) y5 = some r → St ⟨58, w0, ok, []⟩ [BF b1 36 (karr 80 (kint .u8)) (List.replicate 80 (0 : Int)), BF b2 36 (karr 80 (kint .u8)) y3] [(0, (kstr.V p1)), (2, (ptrB b1 0)), (4, (ptrB b2 0)), (5, ((kint .i64).V y2)), (6, ((kint .i64).V (isub .i64 y2 (iquo .i64 y2 (6 : Int))))), (7, (kbool.V ((irem y2 (6 : Int)) == (5 : Int)))), (13, ((kint .i64).V (p1.length : Int))), (14, ((kint .i64).V y2)), (24, (kbool.V y5))] a w → K15 a w := by
        intro y5 a57 w57 h10 s57
        unfold code_read.j3 at h10
        refine hK15 _ _ ?_
        refine cond_split s57 (.tmp rfl) (fun hc3 => ?_) (fun hc3 => ?_)
        · replace h10 := ite_t hc3 h10
          have h11 := h10; clear h10
          refine wp_seq_k fun K17 hK17 => ?_
          refine wp_region_lit ?_
          refine seq_op s57 rfl rfl (of_decide_eq_true rfl) (ob_load rfl tk36 (.tmp rfl) (.tail _ (.head _)) (LG.refl _ _)) fun a58 w58 s58 => ?_; clear s57
          refine seq_opx0 (B' := (fun _ : Unit => [BF b1 36 (karr 80 (kint .u8)) y3, BF b2 36 (karr 80 (kint .u8)) y3])) s58 rfl rfl (ob_store (A := []) rfl tk36 (.tmp rfl) (.tmp rfl) rfl (LS.refl _ _ _) rfl) fun _ a59 w59 s59 => ?_; clear s58
          refine seq_op s59 rfl rfl (of_decide_eq_true rfl) (ob_assign rfl opd_bool) fun a60 w60 s60 => ?_; clear s59
          refine wpList_nil ?_
          refine then_normal ?_
          refine hK17 _ _ ?_
          have s61 := s60.sub (.cons (t := 2) rfl (.cons (t := 3) rfl .nil)); clear s60
          have s62 := St.drop (A := [_]) s61; clear s61
          refine wp_ret ?_
          obtain rfl := Option.some.inj h11
          exact leave s62 (.inl rfl) rfl (.cons (.cell rfl tk36 (.head _) (LG.refl _ _)) (.cons (.tmp rfl) .nil))
        · replace h10 := ite_f hc3 h10
          have h12 := h10; clear h10
          refine wp_seq_k fun K18 hK18 => ?_
          refine wp_region_lit ?_
          refine seq_op s57 rfl rfl (of_decide_eq_true rfl) (ob_move rfl (.tmp rfl)) fun a63 w63 s63 => ?_; clear s57
          refine seq_op s63 rfl rfl (of_decide_eq_true rfl) (ob_not rfl (.tmp rfl)) fun a64 w64 s64 => ?_; clear s63
          refine seq_op s64 rfl rfl (of_decide_eq_true rfl) (ob_assign rfl (.tmp rfl)) fun a65 w65 s65 => ?_; clear s64
          refine wpList_nil ?_
          refine then_normal ?_
          refine hK18 _ _ ?_
          have s66 := s65.sub (.cons (t := 0) rfl (.cons (t := 2) rfl (.cons (t := 4) rfl (.cons (t := 5) rfl (.cons (t := 6) rfl (.cons (t := 13) rfl (.cons (t := 14) rfl (.cons (t := 47) rfl .nil)))))))); clear s65
          refine cond_split s66 (.tmp rfl) (fun hc4 => ?_) (fun hc4 => ?_)
          · replace h12 := ite_t hc4 h12
            have h13 := h12; clear h12
            refine wp_region_lit ?_
            refine seq_op s66 rfl rfl (of_decide_eq_true rfl) (ob_move rfl (.tmp rfl)) fun a67 w67 s67 => ?_; clear s66
            refine seq_op s67 rfl rfl (of_decide_eq_true rfl) (ob_move rfl (.tmp rfl)) fun a68 w68 s68 => ?_; clear s67
            refine seq_op s68 rfl rfl (of_decide_eq_true rfl) (ob_move rfl (.tmp rfl)) fun a69 w69 s69 => ?_; clear s68
            obtain ⟨x3, e_x3, h14⟩ := bind_some h13; clear h13
            refine seq_op s69 rfl rfl (of_decide_eq_true rfl) (ob_indexStr rfl Try.underlying9 (.tmp rfl) (.tmp rfl) e_x3) fun a70 w70 s70 => ?_; clear s69
            refine seq_op s70 rfl rfl (of_decide_eq_true rfl) (ob_sub rfl (.tmp rfl) (opd_int rfl)) fun a71 w71 s71 => ?_; clear s70
            obtain ⟨g1, h15⟩ := guard_some h14; clear h14
            refine seq_op s71 rfl rfl (of_decide_eq_true rfl) (ob_indexAddr rfl Try.underlying36 sz5 (.tmp rfl) (.tmp rfl) g1.1 g1.2 (Nat.zero_add _)) fun a72 w72 s72 => ?_; clear s71
            obtain ⟨x4, e_x4, h16⟩ := bind_some h15; clear h15
            refine seq_opx0 (B' := (fun _ : Unit => [BF b1 36 (karr 80 (kint .u8)) (List.replicate 80 (0 : Int)), BF b2 36 (karr 80 (kint .u8)) x4])) s72 rfl rfl (ob_store (A := [_]) rfl tk5 (.tmp rfl) (.tmp rfl) rfl (LS.arrS e_x4) rfl) fun _ a73 w73 s73 => ?_; clear s72
            refine wpList_nil ?_
            refine in_normal ?_
            refine in_normal ?_
            refine then_normal ?_
            exact hj2 x4 _ _ h16 (s73.sub (.cons rfl (.cons rfl (.cons rfl (.cons rfl (.cons rfl (.cons rfl .nil)))))))
          · replace h12 := ite_f hc4 h12
            have h17 := h12; clear h12
            refine wp_skip ?_
            refine in_normal ?_
            refine in_normal ?_
            refine then_normal ?_
            exact hj2 y3 _ _ h17 (s66.sub (.cons rfl (.cons rfl (.cons rfl (.cons rfl (.cons rfl (.cons rfl .nil)))))))
      refine cond_split s56 (.tmp rfl) (fun hc5 => ?_) (fun hc5 => ?_)
      · replace h9 := ite_t hc5 h9
        have h18 := h9; clear h9
        refine wp_skip ?_
        refine then_normal ?_
        exact hj3 x2 _ _ h18 (s56.sub (.cons rfl (.cons rfl (.cons rfl (.cons rfl (.cons rfl (.cons rfl (.cons rfl (.cons rfl (.cons rfl .nil))))))))))
      · replace h9 := ite_f hc5 h9
        have h19 := h9; clear h9
        refine wp_region_lit ?_
        refine seq_op s56 rfl rfl (of_decide_eq_true rfl) (ob_move rfl (.tmp rfl)) fun a74 w74 s74 => ?_; clear s56
        refine seq_op s74 rfl rfl (of_decide_eq_true rfl) (ob_not rfl (.tmp rfl)) fun a75 w75 s75 => ?_; clear s74
        refine seq_op s75 rfl rfl (of_decide_eq_true rfl) (ob_move rfl (.tmp rfl)) fun a76 w76 s76 => ?_; clear s75
        refine seq_opg s76 rfl rfl rfl rfl (of_decide_eq_true rfl) (fun hb => ob_move rfl (.tmp rfl)) fun a77 w77 s77 => ?_; clear s76
        refine seq_opg s77 rfl rfl rfl rfl (of_decide_eq_true rfl) (fun hb => ob_move rfl (.tmp rfl)) fun a78 w78 s78 => ?_; clear s77
        obtain ⟨x5, e_x5, h20⟩ := bind_some h19; clear h19
        refine seq_opg s78 rfl rfl rfl rfl (of_decide_eq_true rfl) (fun hb => (Ob.uncond (t := 36) hb rfl ((Ob.uncond (t := 35) hb rfl (ob_indexStr rfl Try.underlying9 (.tmp rfl) (.tmp rfl) (ite_t hb e_x5)))))) fun a79 w79 s79 => ?_; clear s78
        refine seq_opg s79 rfl rfl rfl rfl (of_decide_eq_true rfl) (fun hb => (Ob.uncond (t := 37) hb rfl (ob_lss rfl (.tmp rfl) (opd_int rfl)))) fun a80 w80 s80 => ?_; clear s79
        refine seq_opg s80 rfl rfl rfl rfl (of_decide_eq_true rfl) (fun hb => (Ob.uncond (t := 38) hb rfl (ob_move rfl (.tmp rfl)))) fun a81 w81 s81 => ?_; clear s80
        refine seq_opg2 s81 rfl rfl rfl rfl (of_decide_eq_true rfl) (fun hb => ob_move rfl (.tmp rfl)) fun a82 w82 s82 => ?_; clear s81
        refine seq_opg2 s82 rfl rfl rfl rfl (of_decide_eq_true rfl) (fun hb => ob_move rfl (.tmp rfl)) fun a83 w83 s83 => ?_; clear s82
        obtain ⟨x6, e_x6, h21⟩ := bind_some h20; clear h20
        refine seq_opg2 s83 rfl rfl rfl rfl (of_decide_eq_true rfl) (fun hb => (Ob.uncond (t := 41) hb rfl ((Ob.uncond (t := 40) hb rfl (ob_indexStr rfl Try.underlying9 (.tmp rfl) (.tmp rfl) (ite_t hb e_x6)))))) fun a84 w84 s84 => ?_; clear s83
        refine seq_opg2 s84 rfl rfl rfl rfl (of_decide_eq_true rfl) (fun hb => (Ob.uncond (t := 42) hb rfl (ob_gtr rfl (.tmp rfl) (opd_int rfl)))) fun a85 w85 s85 => ?_; clear s84
        obtain ⟨x7, e_x7, h22⟩ := bind_some h21; clear h21; replace e_x7 := Option.some.inj e_x7
        refine seq_opg s85 rfl rfl rfl rfl (of_decide_eq_true rfl) (fun hb => (Ob.uncond (t := 39) hb rfl ((ob_or3 hb rfl (.tmp rfl) opd_bool (.tmp rfl)).nm e_x7))) fun a86 w86 s86 => ?_; clear s85
        refine seq_op s86 rfl rfl (of_decide_eq_true rfl) (ob_and2 rfl (.tmp rfl) (.tmp rfl) opd_bool) fun a87 w87 s87 => ?_; clear s86
        refine seq_op s87 rfl rfl (of_decide_eq_true rfl) (ob_assign rfl (.tmp rfl)) fun a88 w88 s88 => ?_; clear s87
        refine wpList_nil ?_
        refine then_normal ?_
        exact hj3 (if (!((irem y2 (6 : Int)) == (5 : Int))) then x7 else false) _ _ h22 (s88.sub (.cons rfl (.cons rfl (.cons rfl (.cons rfl (.cons rfl (.cons rfl (.cons rfl (.cons rfl (.cons rfl .nil))))))))))
    · replace h5 := ite_f hc2 h5
      have h23 := h5; clear h5
      refine wp_exit ?_
      refine (then_exit (then_exit (in_here ?_)))
      refine then_normal ?_
      exact hj1 y3 _ _ h23 (s30.sub (.cons rfl (.cons rfl .nil)))

/- 12 cabal/code.times10 -/
theorem c_code_times10 (k : Nat) (p1 : (List Int)) (p2 : Int) (r : (Bool × (List Int))) (h0 : code_times10 k p1 p2 = some r) (ok : Ok) (w0 : World) (z0 : Value) (z1 : Value) (b00 : Nat) (l0 : ∀ q, q ∈ [BF b00 24 (karr 32 (kint .u8)) p1] → q.holds ok w0) (d0 : ∀ c, c ∈ idsOf [BF b00 24 (karr 32 (kint .u8)) p1] → ¬ ok c) (nd : (idsOf [BF b00 24 (karr 32 (kint .u8)) p1]).Nodup) (u0 : (ptrB b00 0).holds ok w0 z0) (u1 : ((kint .u8).V p2).holds ok w0 z1) :
    GivesX Try.prog 12 [z0, z1] ok w0 [BF b00 24 (karr 32 (kint .u8)) p1] (fun g : Unit => resFact [kbool.V r.1]) (fun g : Unit => [BF b00 24 (karr 32 (kint .u8)) r.2]) := by
  unfold code_times10 at h0
  refine enterX (N := 32) Try.func12 rfl rfl (of_decide_eq_true rfl) (.cons u0 (.cons u1 .nil)) nd l0 d0 fun a1 s1 => ?_
  refine wp_seq_k fun K1 hK1 => ?_
  refine wp_region_lit ?_
  refine seq_op s1 rfl rfl (of_decide_eq_true rfl) (ob_assign rfl opd_bool) fun a2 w2 s2 => ?_; clear s1
  refine wpList_nil ?_
  refine then_normal ?_
  refine hK1 _ _ ?_
  have s3 := s2.sub (.cons (t := 0) rfl (.cons (t := 1) rfl .nil)); clear s2
  refine wp_seq_k fun K2 hK2 => ?_
  refine wp_region_lit ?_
  refine seq_op s3 rfl rfl (of_decide_eq_true rfl) (ob_move rfl (.tmp rfl)) fun a4 w4 s4 => ?_; clear s3
  refine seq_op s4 rfl rfl (of_decide_eq_true rfl) (ob_conv rfl _ Try.underlying5 Try.underlying3 (.tmp rfl)) fun a5 w5 s5 => ?_; clear s4
  refine seq_op s5 rfl rfl (of_decide_eq_true rfl) (ob_assign rfl (.tmp rfl)) fun a6 w6 s6 => ?_; clear s5
  refine wpList_nil ?_
  refine then_normal ?_
  refine hK2 _ _ ?_
  have s7 := s6.sub (.cons (t := 0) rfl (.cons (t := 5) rfl .nil)); clear s6
  refine wp_seq_k fun K3 hK3 => ?_
  refine wp_seq_k fun K4 hK4 => ?_
  refine wp_region_lit ?_
  refine seq_op s7 rfl rfl (of_decide_eq_true rfl) (ob_assign rfl (opd_int rfl)) fun a8 w8 s8 => ?_; clear s7
  refine wpList_nil ?_
  refine then_normal ?_
  refine hK4 _ _ ?_
  have s9 := s8.sub (.cons (t := 0) rfl (.cons (t := 5) rfl (.cons (t := 6) rfl .nil))); clear s8
  have hj1 : ∀ (y1 : Int) (y2 : (List Int)) (a : Act) (w : World), (code_times10.j1 k) y1 y2 = some r → St ⟨32, w0, ok, (idsOf [BF b00 24 (karr 32 (kint .u8)) p1])⟩ [BF b00 24 (karr 32 (kint .u8)) y2] [(5, ((kint .i64).V y1))] a w → K3 a w := by
    intro y1 y2 a10 w10 h1 s10
    unfold code_times10.j1 at h1
    refine hK3 _ _ ?_
    refine wp_seq_k fun K5 hK5 => ?_
    refine wp_region_lit ?_
    refine seq_op s10 rfl rfl (of_decide_eq_true rfl) (ob_move rfl (.tmp rfl)) fun a11 w11 s11 => ?_; clear s10
    refine seq_op s11 rfl rfl (of_decide_eq_true rfl) (ob_eql rfl (.tmp rfl) (opd_int rfl)) fun a12 w12 s12 => ?_; clear s11
    refine seq_op s12 rfl rfl (of_decide_eq_true rfl) (ob_assign rfl (.tmp rfl)) fun a13 w13 s13 => ?_; clear s12
    refine wpList_nil ?_
    refine then_normal ?_
    refine hK5 _ _ ?_
    have s14 := s13.sub (.cons (t := 4) rfl .nil); clear s13
    refine wp_ret ?_
    obtain rfl := Option.some.inj h1
    exact leaveXD (D := []) () s14 rfl (.inl rfl) rfl (.cons (.tmp rfl) .nil) rfl
  refine wp_block ?_
  refine wp_loop_fuel (fun m (q : Int × Int × (List Int)) => code_times10.l1 k m q.1 q.2.1 q.2.2) r (fun _ => rfl) (fun q a w => St ⟨32, w0, ok, (idsOf [BF b00 24 (karr 32 (kint .u8)) p1])⟩ [BF b00 24 (karr 32 (kint .u8)) q.2.2] [(0, (ptrB b00 0)), (5, ((kint .i64).V q.1)), (6, ((kint .i64).V q.2.1))] a w) ?_ k ((IntKind.wrap .i64 p2), (31 : Int), p1) _ _ h0 (s9.sub (.cons rfl (.cons rfl (.cons rfl .nil))))
  rintro n1 ⟨y3, y4, y5⟩ a15 w15 h2 s15 K6 hK6
  replace h2 : code_times10.l1 k (n1 + 1) y3 y4 y5 = some r := h2; rw [code_times10.l1] at h2
  have h3 := h2; clear h2
  refine wp_seq_k fun K7 hK7 => ?_
  refine wp_seq_k fun K8 hK8 => ?_
  refine wp_region_lit ?_
  refine seq_op s15 rfl rfl (of_decide_eq_true rfl) (ob_move rfl (.tmp rfl)) fun a16 w16 s16 => ?_; clear s15
  refine seq_op s16 rfl rfl (of_decide_eq_true rfl) (ob_geq rfl (.tmp rfl) (opd_int rfl)) fun a17 w17 s17 => ?_; clear s16
  refine wpList_nil ?_
  refine then_normal ?_
  refine hK8 _ _ ?_
  have s18 := s17.sub (.cons (t := 0) rfl (.cons (t := 5) rfl (.cons (t := 6) rfl (.cons (t := 10) rfl .nil)))); clear s17
  refine cond_split s18 (.tmp rfl) (fun hc1 => ?_) (fun hc1 => ?_)
  · replace h3 := ite_t hc1 h3
    have h4 := h3; clear h3
    refine wp_skip ?_
    refine then_normal ?_
    refine hK7 _ _ ?_
    have s19 := s18.sub (.cons (t := 0) rfl (.cons (t := 5) rfl (.cons (t := 6) rfl .nil))); clear s18
    refine wp_seq_k fun K9 hK9 => ?_
    refine wp_block ?_
    refine wp_seq_k fun K10 hK10 => ?_
    refine wp_region_lit ?_
    refine seq_op s19 rfl rfl (of_decide_eq_true rfl) (ob_move rfl (.tmp rfl)) fun a20 w20 s20 => ?_; clear s19
    refine seq_op s20 rfl rfl (of_decide_eq_true rfl) (ob_move rfl (.tmp rfl)) fun a21 w21 s21 => ?_; clear s20
    refine seq_op s21 rfl rfl (of_decide_eq_true rfl) (ob_move rfl (.tmp rfl)) fun a22 w22 s22 => ?_; clear s21
    refine seq_op s22 rfl rfl (of_decide_eq_true rfl) (ob_nilCheck rfl (.tmp rfl)) fun a23 w23 s23 => ?_; clear s22
    obtain ⟨g1, h5⟩ := guard_some h4; clear h4
    refine seq_op s23 rfl rfl (of_decide_eq_true rfl) (ob_indexAddr rfl Try.underlying24 sz5 (.tmp rfl) (.tmp rfl) g1.1 g1.2 (Nat.zero_add _)) fun a24 w24 s24 => ?_; clear s23
    obtain ⟨x1, e_x1, h6⟩ := bind_some h5; clear h5
    refine seq_op s24 rfl rfl (of_decide_eq_true rfl) (ob_load rfl tk5 (.tmp rfl) (.head _) (LG.arrA e_x1)) fun a25 w25 s25 => ?_; clear s24
    refine seq_op s25 rfl rfl (of_decide_eq_true rfl) (ob_conv rfl _ Try.underlying5 Try.underlying3 (.tmp rfl)) fun a26 w26 s26 => ?_; clear s25
    refine seq_op s26 rfl rfl (of_decide_eq_true rfl) (ob_mul rfl (opd_int rfl) (.tmp rfl)) fun a27 w27 s27 => ?_; clear s26
    refine seq_op s27 rfl rfl (of_decide_eq_true rfl) (ob_add rfl (.tmp rfl) (.tmp rfl)) fun a28 w28 s28 => ?_; clear s27
    refine seq_op s28 rfl rfl (of_decide_eq_true rfl) (ob_assign rfl (.tmp rfl)) fun a29 w29 s29 => ?_; clear s28
    refine wpList_nil ?_
    refine then_normal ?_
    refine hK10 _ _ ?_
    have s30 := s29.sub (.cons (t := 0) rfl (.cons (t := 5) rfl (.cons (t := 6) rfl .nil))); clear s29
    refine wp_seq_k fun K11 hK11 => ?_
    refine wp_region_lit ?_
    refine seq_op s30 rfl rfl (of_decide_eq_true rfl) (ob_move rfl (.tmp rfl)) fun a31 w31 s31 => ?_; clear s30
    refine seq_op s31 rfl rfl (of_decide_eq_true rfl) (ob_move rfl (.tmp rfl)) fun a32 w32 s32 => ?_; clear s31
    refine seq_op s32 rfl rfl (of_decide_eq_true rfl) (ob_move rfl (.tmp rfl)) fun a33 w33 s33 => ?_; clear s32
    obtain ⟨x2, e_x2, h7⟩ := bind_some h6; clear h6; replace e_x2 := Option.some.inj e_x2
    refine seq_op s33 rfl rfl (of_decide_eq_true rfl) ((ob_conv rfl _ Try.underlying3 Try.underlying5 (.tmp rfl)).nm e_x2) fun a34 w34 s34 => ?_; clear s33
    refine seq_op s34 rfl rfl (of_decide_eq_true rfl) (ob_nilCheck rfl (.tmp rfl)) fun a35 w35 s35 => ?_; clear s34
    obtain ⟨g2, h8⟩ := guard_some h7; clear h7
    refine seq_op s35 rfl rfl (of_decide_eq_true rfl) (ob_indexAddr rfl Try.underlying24 sz5 (.tmp rfl) (.tmp rfl) g2.1 g2.2 (Nat.zero_add _)) fun a36 w36 s36 => ?_; clear s35
    obtain ⟨x3, e_x3, h9⟩ := bind_some h8; clear h8
    refine seq_opx0 (B' := (fun _ : Unit => [BF b00 24 (karr 32 (kint .u8)) x3])) s36 rfl rfl (ob_store (A := []) rfl tk5 (.tmp rfl) (.tmp rfl) rfl (LS.arrS e_x3) rfl) fun _ a37 w37 s37 => ?_; clear s36
    refine wpList_nil ?_
    refine then_normal ?_
    refine hK11 _ _ ?_
    have s38 := s37.sub (.cons (t := 0) rfl (.cons (t := 5) rfl (.cons (t := 6) rfl .nil))); clear s37
    refine wp_region_lit ?_
    refine seq_op s38 rfl rfl (of_decide_eq_true rfl) (ob_move rfl (.tmp rfl)) fun a39 w39 s39 => ?_; clear s38
    obtain ⟨x4, e_x4, h10⟩ := bind_some h9; clear h9; replace e_x4 := Option.some.inj e_x4
    refine seq_op s39 rfl rfl (of_decide_eq_true rfl) ((ob_shr rfl (.tmp rfl) (opd_int rfl) (by decide)).nm e_x4) fun a40 w40 s40 => ?_; clear s39
    refine seq_op s40 rfl rfl (of_decide_eq_true rfl) (ob_assign rfl (.tmp rfl)) fun a41 w41 s41 => ?_; clear s40
    refine wpList_nil ?_
    refine in_normal ?_
    refine then_normal ?_
    refine hK9 _ _ ?_
    have s42 := s41.sub (.cons (t := 0) rfl (.cons (t := 5) rfl (.cons (t := 6) rfl .nil))); clear s41
    refine wp_region_lit ?_
    refine seq_op s42 rfl rfl (of_decide_eq_true rfl) (ob_move rfl (.tmp rfl)) fun a43 w43 s43 => ?_; clear s42
    refine seq_op s43 rfl rfl (of_decide_eq_true rfl) (ob_sub rfl (.tmp rfl) (opd_int rfl)) fun a44 w44 s44 => ?_; clear s43
    refine seq_op s44 rfl rfl (of_decide_eq_true rfl) (ob_assign rfl (.tmp rfl)) fun a45 w45 s45 => ?_; clear s44
    refine wpList_nil ?_
    refine then_normal ?_
    exact hK6 (x4, (isub .i64 y4 (1 : Int)), x3) _ _ h10 (s45.sub (.cons rfl (.cons rfl (.cons rfl .nil))))
  · replace h3 := ite_f hc1 h3
    have h11 := h3; clear h3
    refine wp_exit ?_
    refine (then_exit (then_exit (in_here ?_)))
    refine then_normal ?_
    exact hj1 y3 y5 _ _ h11 (s18.sub (.cons rfl .nil))

/- 7 cabal/code.Read -/
theorem c_code_Read (k : Nat) (p1 : (List Int)) (r : ((List Int) × Int)) (h0 : code_Read k p1 = some r) (ok : Ok) (w0 : World) (z0 : Value) (u0 : (kstr.V p1).holds ok w0 z0) :
    Gives Try.prog 7 [z0] ok w0 (resFact [(karr 32 (kint .u8)).V r.1, (kint .i64).V r.2]) := by
  unfold code_Read at h0
  refine enter (N := 46) Try.func7 rfl rfl (of_decide_eq_true rfl) (.cons u0 .nil) fun a1 s1 => ?_
  refine wp_seq_k fun K1 hK1 => ?_
  refine wp_region_lit ?_
  refine seq_opx (B' := (fun b1 : Nat => [BF b1 24 (karr 32 (kint .u8)) (List.replicate 32 (0 : Int))])) s1 rfl rfl (of_decide_eq_true rfl) (ob_new (k := (karr 32 (kint .u8))) rfl zz24 (Zr.arr 32 (Zr.int .u8))) fun b1 a2 w2 s2 => ?_; clear s1
  refine seq_op s2 rfl rfl (of_decide_eq_true rfl) (ob_assign rfl (opd_int rfl)) fun a3 w3 s3 => ?_; clear s2
  refine wpList_nil ?_
  refine then_normal ?_
  refine hK1 _ _ ?_
  have s4 := s3.sub (.cons (t := 0) rfl (.cons (t := 2) rfl .nil)); clear s3
  refine wp_seq_k fun K2 hK2 => ?_
  refine wp_region_lit ?_
  refine seq_op s4 rfl rfl (of_decide_eq_true rfl) (ob_move rfl (.tmp rfl)) fun a5 w5 s5 => ?_; clear s4
  obtain ⟨x1, e_x1, h1⟩ := bind_some h0; clear h0
  refine seq_op s5 rfl rfl (of_decide_eq_true rfl) (ob_callD (args := [_]) rfl .direct hb10 (fun a w s fs gs hf hg => by obtain rfl := hf.unnil; obtain rfl := hg.unnil; exact c_code_read k _ _ e_x1 _ _ _ (s.arg (.tmp rfl)))) fun a6 w6 s6 => ?_; clear s5
  refine seq_op s6 rfl rfl (of_decide_eq_true rfl) (ob_move rfl (.tmp rfl)) fun a7 w7 s7 => ?_; clear s6
  refine seq_op s7 rfl rfl (of_decide_eq_true rfl) (ob_extract rfl (.tmp rfl) rfl) fun a8 w8 s8 => ?_; clear s7
  refine seq_op s8 rfl rfl (of_decide_eq_true rfl) (ob_extract rfl (.tmp rfl) rfl) fun a9 w9 s9 => ?_; clear s8
  refine seq_opx (B' := (fun b2 : Nat => [BF b2 36 (karr 80 (kint .u8)) (List.replicate 80 (0 : Int)), BF b1 24 (karr 32 (kint .u8)) (List.replicate 32 (0 : Int))])) s9 rfl rfl (of_decide_eq_true rfl) (ob_new (k := (karr 80 (kint .u8))) rfl zz36 (Zr.arr 80 (Zr.int .u8))) fun b2 a10 w10 s10 => ?_; clear s9
  refine seq_opx0 (B' := (fun _ : Unit => [BF b2 36 (karr 80 (kint .u8)) x1.1, BF b1 24 (karr 32 (kint .u8)) (List.replicate 32 (0 : Int))])) s10 rfl rfl (ob_store (A := []) rfl tk36 (.tmp rfl) (.tmp rfl) rfl (LS.refl _ _ _) rfl) fun _ a11 w11 s11 => ?_; clear s10
  refine seq_op s11 rfl rfl (of_decide_eq_true rfl) (ob_assign rfl (.tmp rfl)) fun a12 w12 s12 => ?_; clear s11
  refine wpList_nil ?_
  refine then_normal ?_
  refine hK2 _ _ ?_
  have s13 := s12.sub (.cons (t := 2) rfl (.cons (t := 4) rfl (.cons (t := 5) rfl .nil))); clear s12
  refine wp_seq_k fun K3 hK3 => ?_
  refine wp_seq_k fun K4 hK4 => ?_
  refine wp_region_lit ?_
  refine seq_op s13 rfl rfl (of_decide_eq_true rfl) (ob_move rfl (.tmp rfl)) fun a14 w14 s14 => ?_; clear s13
  refine seq_op s14 rfl rfl (of_decide_eq_true rfl) (ob_not rfl (.tmp rfl)) fun a15 w15 s15 => ?_; clear s14
  refine wpList_nil ?_
  refine then_normal ?_
  refine hK4 _ _ ?_
  have s16 := s15.sub (.cons (t := 2) rfl (.cons (t := 4) rfl (.cons (t := 17) rfl .nil))); clear s15
  refine cond_split s16 (.tmp rfl) (fun hc1 => ?_) (fun hc1 => ?_)
  · replace h1 := ite_t hc1 h1
    have h2 := h1; clear h1
    refine wp_seq_k fun K5 hK5 => ?_
    refine wp_region_lit ?_
    obtain ⟨x2, e_x2, h3⟩ := bind_some h2; clear h2; replace e_x2 := Option.some.inj e_x2
    refine seq_op s16 rfl rfl (of_decide_eq_true rfl) (((ob_mkArr (k := (kint .u8)) rfl Try.underlying24 zz24 sz5 (Zr.arr 32 (Zr.int .u8)) (.nil _) : Ob _ _ _ _ _ ((karr 32 (kint .u8)).V ([(0 : Int), (0 : Int), (0 : Int), (0 : Int), (0 : Int), (0 : Int), (0 : Int), (0 : Int), (0 : Int), (0 : Int), (0 : Int), (0 : Int), (0 : Int), (0 : Int), (0 : Int), (0 : Int), (0 : Int), (0 : Int), (0 : Int), (0 : Int), (0 : Int), (0 : Int), (0 : Int), (0 : Int), (0 : Int), (0 : Int), (0 : Int), (0 : Int), (0 : Int), (0 : Int), (0 : Int), (0 : Int)] : (List Int))))).nm e_x2) fun a17 w17 s17 => ?_; clear s16
    refine seq_opx0 (B' := (fun _ : Unit => [BF b2 36 (karr 80 (kint .u8)) x1.1, BF b1 24 (karr 32 (kint .u8)) x2])) s17 rfl rfl (ob_store (A := [_]) rfl tk24 (.tmp rfl) (.tmp rfl) rfl (LS.refl _ _ _) rfl) fun _ a18 w18 s18 => ?_; clear s17
    refine seq_op s18 rfl rfl (of_decide_eq_true rfl) (ob_assign rfl (opd_int rfl)) fun a19 w19 s19 => ?_; clear s18
    refine wpList_nil ?_
    refine then_normal ?_
    refine hK5 _ _ ?_
    have s20 := s19.sub (.cons (t := 2) rfl (.cons (t := 3) rfl .nil)); clear s19
    have s21 := St.drop (A := []) s20; clear s20
    refine wp_ret ?_
    obtain rfl := Option.some.inj h3
    exact leave s21 (.inl rfl) rfl (.cons (.cell rfl tk24 (.head _) (LG.refl _ _)) (.cons (.tmp rfl) .nil))
  · replace h1 := ite_f hc1 h1
    have h4 := h1; clear h1
    refine wp_skip ?_
    refine then_normal ?_
    refine hK3 _ _ ?_
    have s22 := s16.sub (.cons (t := 2) rfl (.cons (t := 4) rfl .nil)); clear s16
    refine wp_seq_k fun K6 hK6 => ?_
    refine wp_seq_k fun K7 hK7 => ?_
    refine wp_region_lit ?_
    obtain ⟨x3, e_x3, h5⟩ := bind_some h4; clear h4
    refine seq_op s22 rfl rfl (of_decide_eq_true rfl) ((ob_lendG (L := [_]) (List.Perm.refl _) (.cons (t := 4) rfl (lendPtrB (.head _) (LG.refl _ _)) .nil) (Flat.res2 (Flat.V (KFlat.int _)) (Flat.V (KFlat.int _))) (fun _ => ob_callD (args := [_]) rfl .direct hb11 (fun a w s fs gs hf hg => by obtain rfl := hf.unnil; obtain rfl := hg.unnil; exact c_code_digits_check k _ _ e_x3 _ _ _ (s.arg (.tmp rfl)))))) fun a23 w23 s23 => ?_; clear s22
    refine seq_op s23 rfl rfl (of_decide_eq_true rfl) (ob_move rfl (.tmp rfl)) fun a24 w24 s24 => ?_; clear s23
    refine seq_op s24 rfl rfl (of_decide_eq_true rfl) (ob_extract rfl (.tmp rfl) rfl) fun a25 w25 s25 => ?_; clear s24
    refine seq_op s25 rfl rfl (of_decide_eq_true rfl) (ob_extract rfl (.tmp rfl) rfl) fun a26 w26 s26 => ?_; clear s25
    refine seq_op s26 rfl rfl (of_decide_eq_true rfl) (ob_assign rfl (.tmp rfl)) fun a27 w27 s27 => ?_; clear s26
    refine seq_op s27 rfl rfl (of_decide_eq_true rfl) (ob_assign rfl (.tmp rfl)) fun a28 w28 s28 => ?_; clear s27
    refine wpList_nil ?_
    refine then_normal ?_
    refine hK7 _ _ ?_
    have s29 := s28.sub (.cons (t := 2) rfl (.cons (t := 4) rfl (.cons (t := 6) rfl (.cons (t := 7) rfl .nil)))); clear s28
    refine wp_seq_k fun K8 hK8 => ?_
    refine wp_region_lit ?_
    refine seq_op s29 rfl rfl (of_decide_eq_true rfl) (ob_indexAddr rfl Try.underlying36 sz5 (.tmp rfl) (opd_int rfl) (by decide) (by decide) (Nat.zero_add _)) fun a30 w30 s30 => ?_; clear s29
    obtain ⟨x4, e_x4, h6⟩ := bind_some h5; clear h5
    refine seq_op s30 rfl rfl (of_decide_eq_true rfl) (ob_load rfl tk5 (.tmp rfl) (.head _) (LG.arrA e_x4)) fun a31 w31 s31 => ?_; clear s30
    refine seq_op s31 rfl rfl (of_decide_eq_true rfl) (ob_move rfl (.tmp rfl)) fun a32 w32 s32 => ?_; clear s31
    refine seq_op s32 rfl rfl (of_decide_eq_true rfl) (ob_neq rfl (.tmp rfl) (.tmp rfl)) fun a33 w33 s33 => ?_; clear s32
    refine seq_op s33 rfl rfl (of_decide_eq_true rfl) (ob_move rfl (.tmp rfl)) fun a34 w34 s34 => ?_; clear s33
    refine seq_opg s34 rfl rfl rfl rfl (of_decide_eq_true rfl) (fun hb => ob_indexAddr rfl Try.underlying36 sz5 (.tmp rfl) (opd_int rfl) (by decide) (by decide) (Nat.zero_add _)) fun a35 w35 s35 => ?_; clear s34
    obtain ⟨x5, e_x5, h7⟩ := bind_some h6; clear h6
    refine seq_opg s35 rfl rfl rfl rfl (of_decide_eq_true rfl) (fun hb => (Ob.uncond (t := 28) hb rfl (ob_load rfl tk5 (.tmp rfl) (.head _) (LG.arrA (ite_t hb e_x5))))) fun a36 w36 s36 => ?_; clear s35
    refine seq_opg s36 rfl rfl rfl rfl (of_decide_eq_true rfl) (fun hb => ob_move rfl (.tmp rfl)) fun a37 w37 s37 => ?_; clear s36
    refine seq_opg s37 rfl rfl rfl rfl (of_decide_eq_true rfl) (fun hb => (Ob.uncond (t := 30) hb rfl ((Ob.uncond (t := 29) hb rfl (ob_neq rfl (.tmp rfl) (.tmp rfl)))))) fun a38 w38 s38 => ?_; clear s37
    refine seq_op s38 rfl rfl (of_decide_eq_true rfl) (ob_or2 rfl (.tmp rfl) opd_bool (.tmp rfl)) fun a39 w39 s39 => ?_; clear s38
    refine wpList_nil ?_
    refine then_normal ?_
    refine hK8 _ _ ?_
    have s40 := s39.sub (.cons (t := 2) rfl (.cons (t := 4) rfl (.cons (t := 32) rfl .nil))); clear s39
    refine cond_split s40 (.tmp rfl) (fun hc2 => ?_) (fun hc2 => ?_)
    · replace h7 := ite_t hc2 h7
      have h8 := h7; clear h7
      refine wp_seq_k fun K9 hK9 => ?_
      refine wp_region_lit ?_
      obtain ⟨x6, e_x6, h9⟩ := bind_some h8; clear h8; replace e_x6 := Option.some.inj e_x6
      refine seq_op s40 rfl rfl (of_decide_eq_true rfl) (((ob_mkArr (k := (kint .u8)) rfl Try.underlying24 zz24 sz5 (Zr.arr 32 (Zr.int .u8)) (.nil _) : Ob _ _ _ _ _ ((karr 32 (kint .u8)).V ([(0 : Int), (0 : Int), (0 : Int), (0 : Int), (0 : Int), (0 : Int), (0 : Int), (0 : Int), (0 : Int), (0 : Int), (0 : Int), (0 : Int), (0 : Int), (0 : Int), (0 : Int), (0 : Int), (0 : Int), (0 : Int), (0 : Int), (0 : Int), (0 : Int), (0 : Int), (0 : Int), (0 : Int), (0 : Int), (0 : Int), (0 : Int), (0 : Int), (0 : Int), (0 : Int), (0 : Int), (0 : Int)] : (List Int))))).nm e_x6) fun a41 w41 s41 => ?_; clear s40
      refine seq_opx0 (B' := (fun _ : Unit => [BF b2 36 (karr 80 (kint .u8)) x1.1, BF b1 24 (karr 32 (kint .u8)) x6])) s41 rfl rfl (ob_store (A := [_]) rfl tk24 (.tmp rfl) (.tmp rfl) rfl (LS.refl _ _ _) rfl) fun _ a42 w42 s42 => ?_; clear s41
      refine seq_op s42 rfl rfl (of_decide_eq_true rfl) (ob_assign rfl (opd_int rfl)) fun a43 w43 s43 => ?_; clear s42
      refine wpList_nil ?_
      refine then_normal ?_
      refine hK9 _ _ ?_
      have s44 := s43.sub (.cons (t := 2) rfl (.cons (t := 3) rfl .nil)); clear s43
      have s45 := St.drop (A := []) s44; clear s44
      refine wp_ret ?_
      obtain rfl := Option.some.inj h9
      exact leave s45 (.inl rfl) rfl (.cons (.cell rfl tk24 (.head _) (LG.refl _ _)) (.cons (.tmp rfl) .nil))
    · replace h7 := ite_f hc2 h7
      have h10 := h7; clear h7
      refine wp_skip ?_
      refine then_normal ?_
      refine hK6 _ _ ?_
      have s46 := s40.sub (.cons (t := 2) rfl (.cons (t := 4) rfl .nil)); clear s40
      refine wp_seq_k fun K10 hK10 => ?_
      refine wp_region_lit ?_
      refine seq_opx (B' := (fun b3 : Nat => [BF b3 24 (karr 32 (kint .u8)) (List.replicate 32 (0 : Int)), BF b2 36 (karr 80 (kint .u8)) x1.1, BF b1 24 (karr 32 (kint .u8)) (List.replicate 32 (0 : Int))])) s46 rfl rfl (of_decide_eq_true rfl) (ob_new (k := (karr 32 (kint .u8))) rfl zz24 (Zr.arr 32 (Zr.int .u8))) fun b3 a47 w47 s47 => ?_; clear s46
      refine wpList_nil ?_
      refine then_normal ?_
      refine hK10 _ _ ?_
      have s48 := s47.sub (.cons (t := 2) rfl (.cons (t := 4) rfl (.cons (t := 8) rfl .nil))); clear s47
      refine wp_seq_k fun K11 hK11 => ?_
      refine wp_seq_k fun K12 hK12 => ?_
      refine wp_region_lit ?_
      refine seq_op s48 rfl rfl (of_decide_eq_true rfl) (ob_sliceArr rfl Try.underlying36 sz5 (.tmp rfl) .none (.some (opd_int rfl)) (show (0 : Int) ≤ (0 : Int) ∧ (0 : Int) ≤ (78 : Int) ∧ (78 : Int) ≤ ((80 : Nat) : Int) by decide)) fun a49 w49 s49 => ?_; clear s48
      refine seq_op s49 rfl rfl (of_decide_eq_true rfl) ((ob_lenSl rfl Try.underlying33 (.tmp rfl) (by decide)).nm (Y := (78 : Int)) (by rfl)) fun a50 w50 s50 => ?_; clear s49
      refine seq_op s50 rfl rfl (of_decide_eq_true rfl) (ob_move rfl (opd_int rfl)) fun a51 w51 s51 => ?_; clear s50
      refine wpList_nil ?_
      refine then_normal ?_
      refine hK12 _ _ ?_
      have s52 := s51.sub (.cons (t := 2) rfl (.cons (t := 8) rfl (.cons (t := 34) rfl (.cons (t := 35) rfl (.cons (t := 36) rfl .nil))))); clear s51
      have hj1 : ∀ (y1 : (List Int)) (a : Act) (w : World), (code_Read.j1 k) y1 = some r → St ⟨46, w0, ok, []⟩ [BF b1 24 (karr 32 (kint .u8)) (List.replicate 32 (0 : Int)), BF b3 24 (karr 32 (kint .u8)) y1] [(2, (ptrB b1 0)), (8, (ptrB b3 0))] a w → K11 a w := by
        intro y1 a53 w53 h11 s53
        unfold code_Read.j1 at h11
        refine hK11 _ _ ?_
        refine wp_seq_k fun K13 hK13 => ?_
        refine wp_region_lit ?_
        refine seq_op s53 rfl rfl (of_decide_eq_true rfl) (ob_load rfl tk24 (.tmp rfl) (.tail _ (.head _)) (LG.refl _ _)) fun a54 w54 s54 => ?_; clear s53
        refine seq_opx0 (B' := (fun _ : Unit => [BF b1 24 (karr 32 (kint .u8)) y1, BF b3 24 (karr 32 (kint .u8)) y1])) s54 rfl rfl (ob_store (A := []) rfl tk24 (.tmp rfl) (.tmp rfl) rfl (LS.refl _ _ _) rfl) fun _ a55 w55 s55 => ?_; clear s54
        refine seq_op s55 rfl rfl (of_decide_eq_true rfl) (ob_assign rfl (opd_int rfl)) fun a56 w56 s56 => ?_; clear s55
        refine wpList_nil ?_
        refine then_normal ?_
        refine hK13 _ _ ?_
        have s57 := s56.sub (.cons (t := 2) rfl (.cons (t := 3) rfl .nil)); clear s56
        have s58 := St.drop (A := [_]) s57; clear s57
        refine wp_ret ?_
        obtain rfl := Option.some.inj h11
        exact leave s58 (.inl rfl) rfl (.cons (.cell rfl tk24 (.head _) (LG.refl _ _)) (.cons (.tmp rfl) .nil))
      refine wp_block ?_
      have s59 := s52.perm (toFront [_, _] (toFront [] (toFront [] (List.Perm.refl _)))); clear s52
      refine wp_loop_fuel (fun m (q : Int × (List Int)) => code_Read.l1 k x1 m q.1 q.2) r (fun _ => rfl) (fun q a w => St ⟨46, w0, ok, []⟩ [BF b1 24 (karr 32 (kint .u8)) (List.replicate 32 (0 : Int)), BF b3 24 (karr 32 (kint .u8)) q.2, BF b2 36 (karr 80 (kint .u8)) x1.1] [(2, (ptrB b1 0)), (8, (ptrB b3 0)), (34, (is (.slice (some ⟨b2, soff 80 0 (0 : Int).toNat 1, none⟩) ((78 : Int).toNat - (0 : Int).toNat) (80 - (0 : Int).toNat)))), (35, ((kint .i64).V (78 : Int))), (36, ((kint .i64).V q.1))] a w) ?_ k ((0 : Int), (List.replicate 32 (0 : Int))) _ _ h10 (s59.sub (.cons rfl (.cons rfl (.cons rfl (.cons rfl (.cons rfl .nil))))))
      rintro n1 ⟨y2, y3⟩ a60 w60 h12 s60 K14 hK14
      replace h12 : code_Read.l1 k x1 (n1 + 1) y2 y3 = some r := h12; rw [code_Read.l1] at h12
      have h13 := h12; clear h12
      refine wp_seq_k fun K15 hK15 => ?_
      refine wp_region_lit ?_
      refine seq_op s60 rfl rfl (of_decide_eq_true rfl) (ob_lss rfl (.tmp rfl) (.tmp rfl)) fun a61 w61 s61 => ?_; clear s60
      refine wpList_nil ?_
      refine then_normal ?_
      refine hK15 _ _ ?_
      have s62 := s61.sub (.cons (t := 2) rfl (.cons (t := 8) rfl (.cons (t := 34) rfl (.cons (t := 35) rfl (.cons (t := 36) rfl (.cons (t := 37) rfl .nil)))))); clear s61
      refine wp_seq_k fun K16 hK16 => ?_
      refine cond_split s62 (.tmp rfl) (fun hc3 => ?_) (fun hc3 => ?_)
      · replace h13 := ite_t hc3 h13
        have h14 := h13; clear h13
        refine wp_skip ?_
        refine then_normal ?_
        refine hK16 _ _ ?_
        have s63 := s62.sub (.cons (t := 2) rfl (.cons (t := 8) rfl (.cons (t := 34) rfl (.cons (t := 35) rfl (.cons (t := 36) rfl .nil))))); clear s62
        refine wp_seq_k fun K17 hK17 => ?_
        refine wp_block ?_
        refine wp_seq_k fun K18 hK18 => ?_
        refine wp_region_lit ?_
        obtain ⟨g1, h15⟩ := guard_some h14; clear h14
        refine seq_op s63 rfl rfl (of_decide_eq_true rfl) (ob_indexAddrSl rfl Try.underlying33 sz5 (.tmp rfl) (.tmp rfl) g1.1 g1.2 (soff_idx0z (show (0 : Int) ≤ (0 : Int) ∧ (0 : Int) ≤ (78 : Int) ∧ (78 : Int) ≤ ((80 : Nat) : Int) by decide) g1)) fun a64 w64 s64 => ?_; clear s63
        obtain ⟨x7, e_x7, h16⟩ := bind_some h15; clear h15
        refine seq_op s64 rfl rfl (of_decide_eq_true rfl) (ob_load rfl tk5 (.tmp rfl) (.tail _ (.tail _ (.head _))) (LG.arrA e_x7)) fun a65 w65 s65 => ?_; clear s64
        refine seq_op s65 rfl rfl (of_decide_eq_true rfl) (ob_assign rfl (.tmp rfl)) fun a66 w66 s66 => ?_; clear s65
        refine wpList_nil ?_
        refine then_normal ?_
        refine hK18 _ _ ?_
        have s67 := s66.sub (.cons (t := 2) rfl (.cons (t := 8) rfl (.cons (t := 10) rfl (.cons (t := 34) rfl (.cons (t := 35) rfl (.cons (t := 36) rfl .nil)))))); clear s66
        refine wp_seq_k fun K19 hK19 => ?_
        refine wp_region_lit ?_
        refine seq_op s67 rfl rfl (of_decide_eq_true rfl) (ob_move rfl (.tmp rfl)) fun a68 w68 s68 => ?_; clear s67
        obtain ⟨x8, e_x8, h17⟩ := bind_some h16; clear h16
        refine seq_opx (B' := (fun _ : Unit => [BF b3 24 (karr 32 (kint .u8)) x8.2, BF b1 24 (karr 32 (kint .u8)) (List.replicate 32 (0 : Int)), BF b2 36 (karr 80 (kint .u8)) x1.1])) s68 rfl rfl (of_decide_eq_true rfl) (ob_callL (args := [_, _]) (L := [_]) rfl .direct hb12 (toFront [_] (List.Perm.refl _)) (fun a w s fs gs hf hg => by obtain rfl := hf.unnil; obtain rfl := hg.unnil; exact c_code_times10 k _ _ _ e_x8 _ _ _ _ _ (ownL s) (disL s) (nodL s) (s.arg (.tmp rfl)) (s.arg (.tmp rfl))) (by exact fun _ => rfl)) fun _ a69 w69 s69 => ?_; clear s68
        refine seq_op s69 rfl rfl (of_decide_eq_true rfl) (ob_not rfl (.tmp rfl)) fun a70 w70 s70 => ?_; clear s69
        refine wpList_nil ?_
        refine then_normal ?_
        refine hK19 _ _ ?_
        have s71 := s70.sub (.cons (t := 2) rfl (.cons (t := 8) rfl (.cons (t := 34) rfl (.cons (t := 35) rfl (.cons (t := 36) rfl (.cons (t := 42) rfl .nil)))))); clear s70
        refine cond_split s71 (.tmp rfl) (fun hc4 => ?_) (fun hc4 => ?_)
        · replace h17 := ite_t hc4 h17
          have h18 := h17; clear h17
          refine wp_seq_k fun K20 hK20 => ?_
          refine wp_region_lit ?_
          obtain ⟨x9, e_x9, h19⟩ := bind_some h18; clear h18; replace e_x9 := Option.some.inj e_x9
          refine seq_op s71 rfl rfl (of_decide_eq_true rfl) (((ob_mkArr (k := (kint .u8)) rfl Try.underlying24 zz24 sz5 (Zr.arr 32 (Zr.int .u8)) (.nil _) : Ob _ _ _ _ _ ((karr 32 (kint .u8)).V ([(0 : Int), (0 : Int), (0 : Int), (0 : Int), (0 : Int), (0 : Int), (0 : Int), (0 : Int), (0 : Int), (0 : Int), (0 : Int), (0 : Int), (0 : Int), (0 : Int), (0 : Int), (0 : Int), (0 : Int), (0 : Int), (0 : Int), (0 : Int), (0 : Int), (0 : Int), (0 : Int), (0 : Int), (0 : Int), (0 : Int), (0 : Int), (0 : Int), (0 : Int), (0 : Int), (0 : Int), (0 : Int)] : (List Int))))).nm e_x9) fun a72 w72 s72 => ?_; clear s71
          refine seq_opx0 (B' := (fun _ : Unit => [BF b3 24 (karr 32 (kint .u8)) x8.2, BF b1 24 (karr 32 (kint .u8)) x9, BF b2 36 (karr 80 (kint .u8)) x1.1])) s72 rfl rfl (ob_store (A := [_]) rfl tk24 (.tmp rfl) (.tmp rfl) rfl (LS.refl _ _ _) rfl) fun _ a73 w73 s73 => ?_; clear s72
          refine seq_op s73 rfl rfl (of_decide_eq_true rfl) (ob_assign rfl (opd_int rfl)) fun a74 w74 s74 => ?_; clear s73
          refine wpList_nil ?_
          refine then_normal ?_
          refine hK20 _ _ ?_
          have s75 := s74.sub (.cons (t := 2) rfl (.cons (t := 3) rfl .nil)); clear s74
          have s76 := St.drop (A := []) s75; clear s75
          have s77 := St.drop (A := [_]) s76; clear s76
          refine wp_ret ?_
          obtain rfl := Option.some.inj h19
          exact leave s77 (.inl rfl) rfl (.cons (.cell rfl tk24 (.head _) (LG.refl _ _)) (.cons (.tmp rfl) .nil))
        · replace h17 := ite_f hc4 h17
          have h20 := h17; clear h17
          refine wp_skip ?_
          refine in_normal ?_
          refine then_normal ?_
          refine hK17 _ _ ?_
          have s78 := s71.sub (.cons (t := 2) rfl (.cons (t := 8) rfl (.cons (t := 34) rfl (.cons (t := 35) rfl (.cons (t := 36) rfl .nil))))); clear s71
          refine wp_region_lit ?_
          refine seq_op s78 rfl rfl (of_decide_eq_true rfl) (ob_add rfl (.tmp rfl) (opd_int rfl)) fun a79 w79 s79 => ?_; clear s78
          refine seq_op s79 rfl rfl (of_decide_eq_true rfl) (ob_move rfl (.tmp rfl)) fun a80 w80 s80 => ?_; clear s79
          refine wpList_nil ?_
          refine then_normal ?_
          have s81 := s80.perm (toFront [_] (toFront [] (toFront [] (List.Perm.refl _)))); clear s80
          exact hK14 ((iadd .i64 y2 (1 : Int)), x8.2) _ _ h20 (s81.sub (.cons rfl (.cons rfl (.cons rfl (.cons rfl (.cons rfl .nil))))))
      · replace h13 := ite_f hc3 h13
        have h21 := h13; clear h13
        refine wp_exit ?_
        refine (then_exit (then_exit (in_here ?_)))
        refine then_normal ?_
        have s82 := St.drop (A := [_, _]) s62; clear s62
        exact hj1 y3 _ _ h21 (s82.sub (.cons rfl (.cons rfl .nil)))

/- 6 cabal/caballaw27.alive -/
theorem c_caballaw27_alive (k : Nat) (r : Bool) (h0 : caballaw27_alive k = some r) (ok : Ok) (w0 : World) :
    Gives Try.prog 6 [] ok w0 (resFact [kbool.V r]) := by
  unfold caballaw27_alive at h0
  refine enter (N := 29) Try.func6 rfl rfl (of_decide_eq_true rfl) .nil fun a1 s1 => ?_
  refine wp_seq_k fun K1 hK1 => ?_
  refine wp_region_lit ?_
  refine seq_op s1 rfl rfl (of_decide_eq_true rfl) (ob_assign rfl opd_bool) fun a2 w2 s2 => ?_; clear s1
  refine wpList_nil ?_
  refine then_normal ?_
  refine hK1 _ _ ?_
  have s3 := s2.sub .nil; clear s2
  refine wp_seq_k fun K2 hK2 => ?_
  refine wp_region_lit ?_
  obtain ⟨x1, e_x1, h1⟩ := bind_some h0; clear h0; replace e_x1 := Option.some.inj e_x1
  refine seq_op s3 rfl rfl (of_decide_eq_true rfl) (((ob_mkArr (k := (kint .u8)) rfl Try.underlying24 zz24 sz5 (Zr.arr 32 (Zr.int .u8)) (.nil _) : Ob _ _ _ _ _ ((karr 32 (kint .u8)).V ([(0 : Int), (0 : Int), (0 : Int), (0 : Int), (0 : Int), (0 : Int), (0 : Int), (0 : Int), (0 : Int), (0 : Int), (0 : Int), (0 : Int), (0 : Int), (0 : Int), (0 : Int), (0 : Int), (0 : Int), (0 : Int), (0 : Int), (0 : Int), (0 : Int), (0 : Int), (0 : Int), (0 : Int), (0 : Int), (0 : Int), (0 : Int), (0 : Int), (0 : Int), (0 : Int), (0 : Int), (0 : Int)] : (List Int))))).nm e_x1) fun a4 w4 s4 => ?_; clear s3
  obtain ⟨x2, e_x2, h2⟩ := bind_some h1; clear h1
  refine seq_op s4 rfl rfl (of_decide_eq_true rfl) (ob_callD (args := [_]) rfl .direct hb9 (fun a w s fs gs hf hg => by obtain rfl := hf.unnil; obtain rfl := hg.unnil; exact c_code_Write k _ _ e_x2 _ _ _ (s.arg (.tmp rfl)))) fun a5 w5 s5 => ?_; clear s4
  refine seq_op s5 rfl rfl (of_decide_eq_true rfl) (ob_assign rfl (.tmp rfl)) fun a6 w6 s6 => ?_; clear s5
  refine wpList_nil ?_
  refine then_normal ?_
  refine hK2 _ _ ?_
  have s7 := s6.sub (.cons (t := 1) rfl .nil); clear s6
  refine wp_seq_k fun K3 hK3 => ?_
  refine wp_region_lit ?_
  obtain ⟨x3, e_x3, h3⟩ := bind_some h2; clear h2; replace e_x3 := Option.some.inj e_x3
  refine seq_op s7 rfl rfl (of_decide_eq_true rfl) (((ob_mkArr (k := (kint .u8)) rfl Try.underlying24 zz24 sz5 (Zr.arr 32 (Zr.int .u8)) (.cons (opd_int rfl) rfl (LS.arr' (i := 0) (ys := ([(1 : Int), (0 : Int), (0 : Int), (0 : Int), (0 : Int), (0 : Int), (0 : Int), (0 : Int), (0 : Int), (0 : Int), (0 : Int), (0 : Int), (0 : Int), (0 : Int), (0 : Int), (0 : Int), (0 : Int), (0 : Int), (0 : Int), (0 : Int), (0 : Int), (0 : Int), (0 : Int), (0 : Int), (0 : Int), (0 : Int), (0 : Int), (0 : Int), (0 : Int), (0 : Int), (0 : Int), (0 : Int)] : (List Int))) (by simp) (by rfl)) (.cons (opd_int rfl) rfl (LS.arr' (i := 1) (ys := ([(1 : Int), (2 : Int), (0 : Int), (0 : Int), (0 : Int), (0 : Int), (0 : Int), (0 : Int), (0 : Int), (0 : Int), (0 : Int), (0 : Int), (0 : Int), (0 : Int), (0 : Int), (0 : Int), (0 : Int), (0 : Int), (0 : Int), (0 : Int), (0 : Int), (0 : Int), (0 : Int), (0 : Int), (0 : Int), (0 : Int), (0 : Int), (0 : Int), (0 : Int), (0 : Int), (0 : Int), (0 : Int)] : (List Int))) (by simp) (by rfl)) (.cons (opd_int rfl) rfl (LS.arr' (i := 2) (ys := ([(1 : Int), (2 : Int), (3 : Int), (0 : Int), (0 : Int), (0 : Int), (0 : Int), (0 : Int), (0 : Int), (0 : Int), (0 : Int), (0 : Int), (0 : Int), (0 : Int), (0 : Int), (0 : Int), (0 : Int), (0 : Int), (0 : Int), (0 : Int), (0 : Int), (0 : Int), (0 : Int), (0 : Int), (0 : Int), (0 : Int), (0 : Int), (0 : Int), (0 : Int), (0 : Int), (0 : Int), (0 : Int)] : (List Int))) (by simp) (by rfl)) (.nil _)))) : Ob _ _ _ _ _ ((karr 32 (kint .u8)).V ([(1 : Int), (2 : Int), (3 : Int), (0 : Int), (0 : Int), (0 : Int), (0 : Int), (0 : Int), (0 : Int), (0 : Int), (0 : Int), (0 : Int), (0 : Int), (0 : Int), (0 : Int), (0 : Int), (0 : Int), (0 : Int), (0 : Int), (0 : Int), (0 : Int), (0 : Int), (0 : Int), (0 : Int), (0 : Int), (0 : Int), (0 : Int), (0 : Int), (0 : Int), (0 : Int), (0 : Int), (0 : Int)] : (List Int))))).nm e_x3) fun a8 w8 s8 => ?_; clear s7
  obtain ⟨x4, e_x4, h4⟩ := bind_some h3; clear h3
  refine seq_op s8 rfl rfl (of_decide_eq_true rfl) (ob_callD (args := [_]) rfl .direct hb9 (fun a w s fs gs hf hg => by obtain rfl := hf.unnil; obtain rfl := hg.unnil; exact c_code_Write k _ _ e_x4 _ _ _ (s.arg (.tmp rfl)))) fun a9 w9 s9 => ?_; clear s8
  obtain ⟨x5, e_x5, h5⟩ := bind_some h4; clear h4
  refine seq_op s9 rfl rfl (of_decide_eq_true rfl) (ob_callD (args := [_]) rfl .direct hb7 (fun a w s fs gs hf hg => by obtain rfl := hf.unnil; obtain rfl := hg.unnil; exact c_code_Read k _ _ e_x5 _ _ _ (s.arg (.tmp rfl)))) fun a10 w10 s10 => ?_; clear s9
  refine seq_op s10 rfl rfl (of_decide_eq_true rfl) (ob_move rfl (.tmp rfl)) fun a11 w11 s11 => ?_; clear s10
  refine seq_op s11 rfl rfl (of_decide_eq_true rfl) (ob_extract rfl (.tmp rfl) rfl) fun a12 w12 s12 => ?_; clear s11
  refine seq_op s12 rfl rfl (of_decide_eq_true rfl) (ob_extract rfl (.tmp rfl) rfl) fun a13 w13 s13 => ?_; clear s12
  refine seq_opx (B' := (fun b1 : Nat => [BF b1 24 (karr 32 (kint .u8)) (List.replicate 32 (0 : Int))])) s13 rfl rfl (of_decide_eq_true rfl) (ob_new (k := (karr 32 (kint .u8))) rfl zz24 (Zr.arr 32 (Zr.int .u8))) fun b1 a14 w14 s14 => ?_; clear s13
  refine seq_opx0 (B' := (fun _ : Unit => [BF b1 24 (karr 32 (kint .u8)) x5.1])) s14 rfl rfl (ob_store (A := []) rfl tk24 (.tmp rfl) (.tmp rfl) rfl (LS.refl _ _ _) rfl) fun _ a15 w15 s15 => ?_; clear s14
  refine seq_op s15 rfl rfl (of_decide_eq_true rfl) (ob_assign rfl (.tmp rfl)) fun a16 w16 s16 => ?_; clear s15
  refine wpList_nil ?_
  refine then_normal ?_
  refine hK3 _ _ ?_
  have s17 := s16.sub (.cons (t := 1) rfl (.cons (t := 2) rfl (.cons (t := 3) rfl .nil))); clear s16
  refine wp_seq_k fun K4 hK4 => ?_
  refine wp_region_lit ?_
  refine seq_op s17 rfl rfl (of_decide_eq_true rfl) (ob_move rfl (.tmp rfl)) fun a18 w18 s18 => ?_; clear s17
  refine seq_op s18 rfl rfl (of_decide_eq_true rfl) (ob_lenStr rfl Try.underlying9 (.tmp rfl)) fun a19 w19 s19 => ?_; clear s18
  refine seq_op s19 rfl rfl (of_decide_eq_true rfl) (ob_eql rfl (.tmp rfl) (opd_int rfl)) fun a20 w20 s20 => ?_; clear s19
  refine seq_op s20 rfl rfl (of_decide_eq_true rfl) (ob_move rfl (.tmp rfl)) fun a21 w21 s21 => ?_; clear s20
  refine seq_opg s21 rfl rfl rfl rfl (of_decide_eq_true rfl) (fun hb => ob_move rfl (.tmp rfl)) fun a22 w22 s22 => ?_; clear s21
  obtain ⟨x6, e_x6, h6⟩ := bind_some h5; clear h5
  refine seq_opg s22 rfl rfl rfl rfl (of_decide_eq_true rfl) (fun hb => (Ob.uncond (t := 16) hb rfl (ob_cutStr rfl Try.underlying9 (.tmp rfl) (.some (opd_int rfl)) .none (ite_t hb e_x6)))) fun a23 w23 s23 => ?_; clear s22
  refine seq_opg s23 rfl rfl rfl rfl (of_decide_eq_true rfl) (fun hb => (Ob.uncond (t := 17) hb rfl (ob_seql rfl (.tmp rfl) (opd_str (by rfl) (by decide))))) fun a24 w24 s24 => ?_; clear s23
  obtain ⟨x7, e_x7, h7⟩ := bind_some h6; clear h6; replace e_x7 := Option.some.inj e_x7
  refine seq_op s24 rfl rfl (of_decide_eq_true rfl) ((ob_and2 rfl (.tmp rfl) (.tmp rfl) opd_bool).nm e_x7) fun a25 w25 s25 => ?_; clear s24
  refine seq_op s25 rfl rfl (of_decide_eq_true rfl) (ob_move rfl (.tmp rfl)) fun a26 w26 s26 => ?_; clear s25
  refine seq_opg s26 rfl rfl rfl rfl (of_decide_eq_true rfl) (fun hb => ob_load rfl tk24 (.tmp rfl) (.head _) (LG.refl _ _)) fun a27 w27 s27 => ?_; clear s26
  obtain ⟨x8, e_x8, h8⟩ := bind_some h7; clear h7; replace e_x8 := Option.some.inj e_x8
  refine seq_opg s27 rfl rfl rfl rfl (of_decide_eq_true rfl) (fun hb => ((ob_mkArr (k := (kint .u8)) rfl Try.underlying24 zz24 sz5 (Zr.arr 32 (Zr.int .u8)) (.cons (opd_int rfl) rfl (LS.arr' (i := 0) (ys := ([(1 : Int), (0 : Int), (0 : Int), (0 : Int), (0 : Int), (0 : Int), (0 : Int), (0 : Int), (0 : Int), (0 : Int), (0 : Int), (0 : Int), (0 : Int), (0 : Int), (0 : Int), (0 : Int), (0 : Int), (0 : Int), (0 : Int), (0 : Int), (0 : Int), (0 : Int), (0 : Int), (0 : Int), (0 : Int), (0 : Int), (0 : Int), (0 : Int), (0 : Int), (0 : Int), (0 : Int), (0 : Int)] : (List Int))) (by simp) (by rfl)) (.cons (opd_int rfl) rfl (LS.arr' (i := 1) (ys := ([(1 : Int), (2 : Int), (0 : Int), (0 : Int), (0 : Int), (0 : Int), (0 : Int), (0 : Int), (0 : Int), (0 : Int), (0 : Int), (0 : Int), (0 : Int), (0 : Int), (0 : Int), (0 : Int), (0 : Int), (0 : Int), (0 : Int), (0 : Int), (0 : Int), (0 : Int), (0 : Int), (0 : Int), (0 : Int), (0 : Int), (0 : Int), (0 : Int), (0 : Int), (0 : Int), (0 : Int), (0 : Int)] : (List Int))) (by simp) (by rfl)) (.cons (opd_int rfl) rfl (LS.arr' (i := 2) (ys := ([(1 : Int), (2 : Int), (3 : Int), (0 : Int), (0 : Int), (0 : Int), (0 : Int), (0 : Int), (0 : Int), (0 : Int), (0 : Int), (0 : Int), (0 : Int), (0 : Int), (0 : Int), (0 : Int), (0 : Int), (0 : Int), (0 : Int), (0 : Int), (0 : Int), (0 : Int), (0 : Int), (0 : Int), (0 : Int), (0 : Int), (0 : Int), (0 : Int), (0 : Int), (0 : Int), (0 : Int), (0 : Int)] : (List Int))) (by simp) (by rfl)) (.nil _)))) : Ob _ _ _ _ _ ((karr 32 (kint .u8)).V ([(1 : Int), (2 : Int), (3 : Int), (0 : Int), (0 : Int), (0 : Int), (0 : Int), (0 : Int), (0 : Int), (0 : Int), (0 : Int), (0 : Int), (0 : Int), (0 : Int), (0 : Int), (0 : Int), (0 : Int), (0 : Int), (0 : Int), (0 : Int), (0 : Int), (0 : Int), (0 : Int), (0 : Int), (0 : Int), (0 : Int), (0 : Int), (0 : Int), (0 : Int), (0 : Int), (0 : Int), (0 : Int)] : (List Int))))).nm e_x8) fun a28 w28 s28 => ?_; clear s27
  refine seq_opg s28 rfl rfl rfl rfl (of_decide_eq_true rfl) (fun hb => (Ob.uncond (t := 22) hb rfl ((Ob.uncond (t := 21) hb rfl (ob_eqAgg rfl rfl (by kernel_rfl) eq24 (by decide) (.tmp rfl) (.tmp rfl)))))) fun a29 w29 s29 => ?_; clear s28
  refine seq_op s29 rfl rfl (of_decide_eq_true rfl) (ob_and2 rfl (.tmp rfl) (.tmp rfl) opd_bool) fun a30 w30 s30 => ?_; clear s29
  refine seq_op s30 rfl rfl (of_decide_eq_true rfl) (ob_move rfl (.tmp rfl)) fun a31 w31 s31 => ?_; clear s30
  refine seq_opg s31 rfl rfl rfl rfl (of_decide_eq_true rfl) (fun hb => ob_move rfl (.tmp rfl)) fun a32 w32 s32 => ?_; clear s31
  refine seq_opg s32 rfl rfl rfl rfl (of_decide_eq_true rfl) (fun hb => (Ob.uncond (t := 26) hb rfl (ob_eql rfl (.tmp rfl) (opd_int rfl)))) fun a33 w33 s33 => ?_; clear s32
  obtain ⟨x9, e_x9, h9⟩ := bind_some h8; clear h8; replace e_x9 := Option.some.inj e_x9
  refine seq_op s33 rfl rfl (of_decide_eq_true rfl) ((ob_and2 rfl (.tmp rfl) (.tmp rfl) opd_bool).nm e_x9) fun a34 w34 s34 => ?_; clear s33
  refine seq_op s34 rfl rfl (of_decide_eq_true rfl) (ob_assign rfl (.tmp rfl)) fun a35 w35 s35 => ?_; clear s34
  refine wpList_nil ?_
  refine then_normal ?_
  refine hK4 _ _ ?_
  have s36 := s35.sub (.cons (t := 0) rfl .nil); clear s35
  have s37 := St.drop (A := []) s36; clear s36
  refine wp_ret ?_
  obtain rfl := Option.some.inj h9
  exact leave s37 (.inl rfl) rfl (.cons (.tmp rfl) .nil)

/- 5 cabal/caballaw27.CodeTurned -/
theorem c_caballaw27_CodeTurned (k : Nat) (p1 : (List Int)) (p2 : Int) (p3 : Int) (p4 : Bool) (r : Bool) (h0 : caballaw27_CodeTurned k p1 p2 p3 p4 = some r) (ok : Ok) (w0 : World) (z0 : Value) (z1 : Value) (z2 : Value) (z3 : Value) (u0 : ((karr 32 (kint .u8)).V p1).holds ok w0 z0) (u1 : ((kint .u8).V p2).holds ok w0 z1) (u2 : ((kint .u8).V p3).holds ok w0 z2) (u3 : (kbool.V p4).holds ok w0 z3) :
    Gives Try.prog 5 [z0, z1, z2, z3] ok w0 (resFact [kbool.V r]) := by
  unfold caballaw27_CodeTurned at h0
  refine enter (N := 95) Try.func5 rfl rfl (of_decide_eq_true rfl) (.cons u0 (.cons u1 (.cons u2 (.cons u3 .nil)))) fun a1 s1 => ?_
  refine wp_seq_k fun K1 hK1 => ?_
  refine wp_region_lit ?_
  refine seq_opx (B' := (fun b1 : Nat => [BF b1 24 (karr 32 (kint .u8)) p1])) s1 rfl rfl (of_decide_eq_true rfl) (ob_box rfl (.tmp rfl)) fun b1 a2 w2 s2 => ?_; clear s1
  refine seq_op s2 rfl rfl (of_decide_eq_true rfl) (ob_assign rfl opd_bool) fun a3 w3 s3 => ?_; clear s2
  refine wpList_nil ?_
  refine then_normal ?_
  refine hK1 _ _ ?_
  have s4 := s3.sub (.cons (t := 1) rfl (.cons (t := 2) rfl (.cons (t := 3) rfl (.cons (t := 4) rfl .nil)))); clear s3
  refine wp_seq_k fun K2 hK2 => ?_
  refine wp_seq_k fun K3 hK3 => ?_
  refine wp_region_lit ?_
  obtain ⟨x1, e_x1, h1⟩ := bind_some h0; clear h0
  refine seq_op s4 rfl rfl (of_decide_eq_true rfl) (ob_callD (args := []) rfl .direct hb6 (fun a w s fs gs hf hg => by obtain rfl := hf.unnil; obtain rfl := hg.unnil; exact c_caballaw27_alive k _ e_x1 _ _)) fun a5 w5 s5 => ?_; clear s4
  refine seq_op s5 rfl rfl (of_decide_eq_true rfl) (ob_not rfl (.tmp rfl)) fun a6 w6 s6 => ?_; clear s5
  refine wpList_nil ?_
  refine then_normal ?_
  refine hK3 _ _ ?_
  have s7 := s6.sub (.cons (t := 1) rfl (.cons (t := 2) rfl (.cons (t := 3) rfl (.cons (t := 4) rfl (.cons (t := 14) rfl .nil))))); clear s6
  refine cond_split s7 (.tmp rfl) (fun hc1 => ?_) (fun hc1 => ?_)
  · replace h1 := ite_t hc1 h1
    have h2 := h1; clear h1
    refine wp_seq_k fun K4 hK4 => ?_
    refine wp_region_lit ?_
    refine seq_op s7 rfl rfl (of_decide_eq_true rfl) (ob_assign rfl opd_bool) fun a8 w8 s8 => ?_; clear s7
    refine wpList_nil ?_
    refine then_normal ?_
    refine hK4 _ _ ?_
    have s9 := s8.sub (.cons (t := 8) rfl .nil); clear s8
    have s10 := St.drop (A := []) s9; clear s9
    refine wp_ret ?_
    obtain rfl := Option.some.inj h2
    exact leave s10 (.inl rfl) rfl (.cons (.tmp rfl) .nil)
  · replace h1 := ite_f hc1 h1
    have h3 := h1; clear h1
    refine wp_skip ?_
    refine then_normal ?_
    refine hK2 _ _ ?_
    have s11 := s7.sub (.cons (t := 1) rfl (.cons (t := 2) rfl (.cons (t := 3) rfl (.cons (t := 4) rfl .nil)))); clear s7
    refine wp_seq_k fun K5 hK5 => ?_
    refine wp_region_lit ?_
    refine seq_op s11 rfl rfl (of_decide_eq_true rfl) (ob_load rfl tk24 (.tmp rfl) (.head _) (LG.refl _ _)) fun a12 w12 s12 => ?_; clear s11
    obtain ⟨x2, e_x2, h4⟩ := bind_some h3; clear h3
    refine seq_op s12 rfl rfl (of_decide_eq_true rfl) (ob_callD (args := [_]) rfl .direct hb9 (fun a w s fs gs hf hg => by obtain rfl := hf.unnil; obtain rfl := hg.unnil; exact c_code_Write k _ _ e_x2 _ _ _ (s.arg (.tmp rfl)))) fun a13 w13 s13 => ?_; clear s12
    refine seq_opx (B' := (fun v1 : Value => [BytF v1 5 x2, BF b1 24 (karr 32 (kint .u8)) p1])) s13 rfl rfl (of_decide_eq_true rfl) (ob_strToBytes rfl Try.underlying9 Try.underlying33 Try.underlying5 (.tmp rfl)) fun v1 a14 w14 s14 => ?_; clear s13
    refine seq_op s14 rfl rfl (of_decide_eq_true rfl) (ob_assign rfl (.tmp rfl)) fun a15 w15 s15 => ?_; clear s14
    refine wpList_nil ?_
    refine then_normal ?_
    refine hK5 _ _ ?_
    have s16 := s15.sub (.cons (t := 1) rfl (.cons (t := 2) rfl (.cons (t := 3) rfl (.cons (t := 9) rfl .nil)))); clear s15
    have s17 := St.drop (A := [_]) s16; clear s16
    refine wp_seq_k fun K6 hK6 => ?_
    refine wp_seq_k fun K7 hK7 => ?_
    refine wp_region_lit ?_
    refine seq_op s17 rfl rfl (of_decide_eq_true rfl) (ob_move rfl (.tmp rfl)) fun a18 w18 s18 => ?_; clear s17
    refine seq_op s18 rfl rfl (of_decide_eq_true rfl) (ob_lenByt rfl Try.underlying33 (.tmp rfl) (.head _)) fun a19 w19 s19 => ?_; clear s18
    refine seq_op s19 rfl rfl (of_decide_eq_true rfl) (ob_neq rfl (.tmp rfl) (opd_int rfl)) fun a20 w20 s20 => ?_; clear s19
    refine wpList_nil ?_
    refine then_normal ?_
    refine hK7 _ _ ?_
    have s21 := s20.sub (.cons (t := 1) rfl (.cons (t := 2) rfl (.cons (t := 3) rfl (.cons (t := 9) rfl (.cons (t := 20) rfl .nil))))); clear s20
    refine cond_split s21 (.tmp rfl) (fun hc2 => ?_) (fun hc2 => ?_)
    · replace h4 := ite_t hc2 h4
      have h5 := h4; clear h4
      refine wp_seq_k fun K8 hK8 => ?_
      refine wp_region_lit ?_
      refine seq_op s21 rfl rfl (of_decide_eq_true rfl) (ob_assign rfl opd_bool) fun a22 w22 s22 => ?_; clear s21
      refine wpList_nil ?_
      refine then_normal ?_
      refine hK8 _ _ ?_
      have s23 := s22.sub (.cons (t := 8) rfl .nil); clear s22
      have s24 := St.drop (A := []) s23; clear s23
      refine wp_ret ?_
      obtain rfl := Option.some.inj h5
      exact leave s24 (.inl rfl) rfl (.cons (.tmp rfl) .nil)
    · replace h4 := ite_f hc2 h4
      have h6 := h4; clear h4
      refine wp_skip ?_
      refine then_normal ?_
      refine hK6 _ _ ?_
      have s25 := s21.sub (.cons (t := 1) rfl (.cons (t := 2) rfl (.cons (t := 3) rfl (.cons (t := 9) rfl .nil)))); clear s21
      refine wp_seq_k fun K9 hK9 => ?_
      refine wp_region_lit ?_
      refine seq_op s25 rfl rfl (of_decide_eq_true rfl) (ob_move rfl (.tmp rfl)) fun a26 w26 s26 => ?_; clear s25
      refine seq_op s26 rfl rfl (of_decide_eq_true rfl) (ob_rem rfl (.tmp rfl) (opd_int rfl) (by decide)) fun a27 w27 s27 => ?_; clear s26
      refine seq_op s27 rfl rfl (of_decide_eq_true rfl) (ob_conv rfl _ Try.underlying5 Try.underlying3 (.tmp rfl)) fun a28 w28 s28 => ?_; clear s27
      refine seq_op s28 rfl rfl (of_decide_eq_true rfl) (ob_mul rfl (.tmp rfl) (opd_int rfl)) fun a29 w29 s29 => ?_; clear s28
      refine seq_op s29 rfl rfl (of_decide_eq_true rfl) (ob_move rfl (.tmp rfl)) fun a30 w30 s30 => ?_; clear s29
      refine seq_op s30 rfl rfl (of_decide_eq_true rfl) (ob_quo rfl (.tmp rfl) (opd_int rfl) (by decide)) fun a31 w31 s31 => ?_; clear s30
      refine seq_op s31 rfl rfl (of_decide_eq_true rfl) (ob_rem rfl (.tmp rfl) (opd_int rfl) (by decide)) fun a32 w32 s32 => ?_; clear s31
      refine seq_op s32 rfl rfl (of_decide_eq_true rfl) (ob_conv rfl _ Try.underlying5 Try.underlying3 (.tmp rfl)) fun a33 w33 s33 => ?_; clear s32
      obtain ⟨x3, e_x3, h7⟩ := bind_some h6; clear h6; replace e_x3 := Option.some.inj e_x3
      refine seq_op s33 rfl rfl (of_decide_eq_true rfl) ((ob_add rfl (.tmp rfl) (.tmp rfl)).nm e_x3) fun a34 w34 s34 => ?_; clear s33
      refine seq_op s34 rfl rfl (of_decide_eq_true rfl) (ob_assign rfl (.tmp rfl)) fun a35 w35 s35 => ?_; clear s34
      refine wpList_nil ?_
      refine then_normal ?_
      refine hK9 _ _ ?_
      have s36 := s35.sub (.cons (t := 1) rfl (.cons (t := 2) rfl (.cons (t := 3) rfl (.cons (t := 9) rfl (.cons (t := 10) rfl .nil))))); clear s35
      refine wp_seq_k fun K10 hK10 => ?_
      refine wp_seq_k fun K11 hK11 => ?_
      refine wp_region_lit ?_
      refine seq_op s36 rfl rfl (of_decide_eq_true rfl) (ob_move rfl (.tmp rfl)) fun a37 w37 s37 => ?_; clear s36
      refine wpList_nil ?_
      refine then_normal ?_
      refine hK11 _ _ ?_
      have s38 := s37.sub (.cons (t := 1) rfl (.cons (t := 2) rfl (.cons (t := 9) rfl (.cons (t := 10) rfl (.cons (t := 30) rfl .nil))))); clear s37
      have hj1 : ∀ (y1 : (List Int)) (a : Act) (w : World), (caballaw27_CodeTurned.j1 k) y1 = some r → St ⟨95, w0, ok, []⟩ [BytF v1 5 y1] [(9, (is v1))] a w → K10 a w := by
        intro y1 a39 w39 h8 s39
        unfold caballaw27_CodeTurned.j1 at h8
        refine hK10 _ _ ?_
        refine wp_seq_k fun K12 hK12 => ?_
        refine wp_region_lit ?_
        refine seq_op s39 rfl rfl (of_decide_eq_true rfl) (ob_move rfl (.tmp rfl)) fun a40 w40 s40 => ?_; clear s39
        refine seq_op s40 rfl rfl (of_decide_eq_true rfl) (ob_bytStr rfl Try.underlying33 Try.underlying9 Try.underlying5 (.tmp rfl) (.head _)) fun a41 w41 s41 => ?_; clear s40
        obtain ⟨x4, e_x4, h9⟩ := bind_some h8; clear h8
        refine seq_op s41 rfl rfl (of_decide_eq_true rfl) (ob_callD (args := [_]) rfl .direct hb7 (fun a w s fs gs hf hg => by obtain rfl := hf.unnil; obtain rfl := hg.unnil; exact c_code_Read k _ _ e_x4 _ _ _ (s.arg (.tmp rfl)))) fun a42 w42 s42 => ?_; clear s41
        refine seq_op s42 rfl rfl (of_decide_eq_true rfl) (ob_move rfl (.tmp rfl)) fun a43 w43 s43 => ?_; clear s42
        refine seq_op s43 rfl rfl (of_decide_eq_true rfl) (ob_extract rfl (.tmp rfl) rfl) fun a44 w44 s44 => ?_; clear s43
        refine seq_op s44 rfl rfl (of_decide_eq_true rfl) (ob_extract rfl (.tmp rfl) rfl) fun a45 w45 s45 => ?_; clear s44
        refine seq_opx (B' := (fun b2 : Nat => [BF b2 24 (karr 32 (kint .u8)) (List.replicate 32 (0 : Int)), BytF v1 5 y1])) s45 rfl rfl (of_decide_eq_true rfl) (ob_new (k := (karr 32 (kint .u8))) rfl zz24 (Zr.arr 32 (Zr.int .u8))) fun b2 a46 w46 s46 => ?_; clear s45
        refine seq_opx0 (B' := (fun _ : Unit => [BF b2 24 (karr 32 (kint .u8)) x4.1, BytF v1 5 y1])) s46 rfl rfl (ob_store (A := []) rfl tk24 (.tmp rfl) (.tmp rfl) rfl (LS.refl _ _ _) rfl) fun _ a47 w47 s47 => ?_; clear s46
        refine seq_op s47 rfl rfl (of_decide_eq_true rfl) (ob_assign rfl (.tmp rfl)) fun a48 w48 s48 => ?_; clear s47
        refine wpList_nil ?_
        refine then_normal ?_
        refine hK12 _ _ ?_
        have s49 := s48.sub (.cons (t := 11) rfl (.cons (t := 12) rfl .nil)); clear s48
        have s50 := St.drop (A := [_]) s49; clear s49
        refine wp_seq_k fun K13 hK13 => ?_
        refine wp_region_lit ?_
        obtain ⟨x5, e_x5, h10⟩ := bind_some h9; clear h9
        refine seq_op s50 rfl rfl (of_decide_eq_true rfl) (ob_callD (args := []) rfl .direct hb6 (fun a w s fs gs hf hg => by obtain rfl := hf.unnil; obtain rfl := hg.unnil; exact c_caballaw27_alive k _ e_x5 _ _)) fun a51 w51 s51 => ?_; clear s50
        refine seq_op s51 rfl rfl (of_decide_eq_true rfl) (ob_move rfl (.tmp rfl)) fun a52 w52 s52 => ?_; clear s51
        refine seq_opg s52 rfl rfl rfl rfl (of_decide_eq_true rfl) (fun hb => ob_move rfl (.tmp rfl)) fun a53 w53 s53 => ?_; clear s52
        refine seq_opg s53 rfl rfl rfl rfl (of_decide_eq_true rfl) (fun hb => (Ob.uncond (t := 87) hb rfl (ob_eql rfl (.tmp rfl) (opd_int rfl)))) fun a54 w54 s54 => ?_; clear s53
        refine seq_op s54 rfl rfl (of_decide_eq_true rfl) (ob_and2 rfl (.tmp rfl) (.tmp rfl) opd_bool) fun a55 w55 s55 => ?_; clear s54
        refine seq_op s55 rfl rfl (of_decide_eq_true rfl) (ob_move rfl (.tmp rfl)) fun a56 w56 s56 => ?_; clear s55
        refine seq_opg s56 rfl rfl rfl rfl (of_decide_eq_true rfl) (fun hb => ob_load rfl tk24 (.tmp rfl) (.head _) (LG.refl _ _)) fun a57 w57 s57 => ?_; clear s56
        obtain ⟨x6, e_x6, h11⟩ := bind_some h10; clear h10; replace e_x6 := Option.some.inj e_x6
        refine seq_opg s57 rfl rfl rfl rfl (of_decide_eq_true rfl) (fun hb => ((ob_mkArr (k := (kint .u8)) rfl Try.underlying24 zz24 sz5 (Zr.arr 32 (Zr.int .u8)) (.nil _) : Ob _ _ _ _ _ ((karr 32 (kint .u8)).V ([(0 : Int), (0 : Int), (0 : Int), (0 : Int), (0 : Int), (0 : Int), (0 : Int), (0 : Int), (0 : Int), (0 : Int), (0 : Int), (0 : Int), (0 : Int), (0 : Int), (0 : Int), (0 : Int), (0 : Int), (0 : Int), (0 : Int), (0 : Int), (0 : Int), (0 : Int), (0 : Int), (0 : Int), (0 : Int), (0 : Int), (0 : Int), (0 : Int), (0 : Int), (0 : Int), (0 : Int), (0 : Int)] : (List Int))))).nm e_x6) fun a58 w58 s58 => ?_; clear s57
        refine seq_opg s58 rfl rfl rfl rfl (of_decide_eq_true rfl) (fun hb => (Ob.uncond (t := 92) hb rfl ((Ob.uncond (t := 91) hb rfl (ob_eqAgg rfl rfl (by kernel_rfl) eq24 (by decide) (.tmp rfl) (.tmp rfl)))))) fun a59 w59 s59 => ?_; clear s58
        obtain ⟨x7, e_x7, h12⟩ := bind_some h11; clear h11; replace e_x7 := Option.some.inj e_x7
        refine seq_op s59 rfl rfl (of_decide_eq_true rfl) ((ob_and2 rfl (.tmp rfl) (.tmp rfl) opd_bool).nm e_x7) fun a60 w60 s60 => ?_; clear s59
        refine seq_op s60 rfl rfl (of_decide_eq_true rfl) (ob_assign rfl (.tmp rfl)) fun a61 w61 s61 => ?_; clear s60
        refine wpList_nil ?_
        refine then_normal ?_
        refine hK13 _ _ ?_
        have s62 := s61.sub (.cons (t := 8) rfl .nil); clear s61
        have s63 := St.drop (A := []) s62; clear s62
        refine wp_ret ?_
        obtain rfl := Option.some.inj h12
        exact leave s63 (.inl rfl) rfl (.cons (.tmp rfl) .nil)
      refine cond_split s38 (.tmp rfl) (fun hc3 => ?_) (fun hc3 => ?_)
      · replace h7 := ite_t hc3 h7
        have h13 := h7; clear h7
        refine wp_seq_k fun K14 hK14 => ?_
        refine wp_seq_k fun K15 hK15 => ?_
        obtain ⟨x8, e_x8, h14⟩ := bind_some h13; clear h13; replace e_x8 := Option.some.inj e_x8
        obtain ⟨g1, h15⟩ := guard_some h14; clear h14
        obtain ⟨x9, e_x9, h16⟩ := bind_some h15; clear h15
        obtain ⟨g2, h17⟩ := guard_some h16; clear h16
        obtain ⟨x10, e_x10, h18⟩ := bind_some h17; clear h17
        refine wp_goes (Fs := [((kint .u8).V p2), ((kint .u8).V (iquo .u8 p2 (16 : Int))), ((kint .u8).V (irem (iquo .u8 p2 (16 : Int)) (5 : Int))), ((kint .i64).V (IntKind.wrap .i64 (irem (iquo .u8 p2 (16 : Int)) (5 : Int)))), (kbool.V x8), (kbool.V x8), (Fact.when (x8 == false) (is v1)), (Fact.when (x8 == false) ((kint .i64).V x3)), (Fact.when (x8 == false) (is (rowPtr v1 (x3.toNat * 1)))), (Fact.when (x8 == false) ((kint .u8).V x9)), (Fact.when (x8 == false) (is v1)), (Fact.when (x8 == false) ((kint .i64).V x3)), (Fact.when (x8 == false) ((kint .i64).V (iadd .i64 x3 (1 : Int)))), (Fact.when (x8 == false) (is (rowPtr v1 ((iadd .i64 x3 (1 : Int)).toNat * 1)))), (Fact.when (x8 == false) ((kint .u8).V x10))]) (bits := [0, 1, 3, 7, 15, 31, 63, 63, 255, 511, 63, 63, 2111, 7231, 15423, 32767, 65535]) (m := 15) (todo := 0) mx s38 ?_; clear s38
        refine goes_last (by kernel_rfl) rfl (opsS_cons (.plain _ (Av.old (t := 1) rfl rfl Av.nil) rfl rfl (ob_move rfl (.tmp rfl))) (opsS_cons (.plain _ (Av.new (j := 0) rfl rfl rfl Av.nil) rfl rfl (ob_quo rfl (.tmp rfl) (opd_int rfl) (by decide))) (opsS_cons (.plain _ (Av.new (j := 1) rfl rfl rfl Av.nil) rfl rfl (ob_rem rfl (.tmp rfl) (opd_int rfl) (by decide))) (opsS_cons (.plain _ (Av.new (j := 2) rfl rfl rfl Av.nil) rfl rfl (ob_conv rfl _ Try.underlying5 Try.underlying3 (.tmp rfl))) (opsS_cons (.plain _ (Av.new (j := 3) rfl rfl rfl Av.nil) rfl rfl ((ob_eql rfl (.tmp rfl) (opd_int rfl)).nm e_x8)) (opsS_cons (.plain _ (Av.new (j := 4) rfl rfl rfl Av.nil) rfl rfl (ob_move rfl (.tmp rfl))) (opsS_cons (.guarded _ (Av.old (t := 9) rfl rfl (Av.new (j := 5) rfl rfl rfl Av.nil)) rfl rfl rfl rfl (fun hb => ob_move rfl (.tmp rfl))) (opsS_cons (.guarded _ (Av.old (t := 10) rfl rfl (Av.new (j := 5) rfl rfl rfl Av.nil)) rfl rfl rfl rfl (fun hb => ob_move rfl (.tmp rfl))) (opsS_cons (.guarded _ (Av.new (j := 5) rfl rfl rfl (Av.new (j := 6) rfl rfl rfl (Av.new (j := 7) rfl rfl rfl Av.nil))) rfl rfl rfl rfl (fun hb => (Ob.uncond (t := 38) hb rfl ((Ob.uncond (t := 37) hb rfl (ob_indexAddrByt rfl Try.underlying33 sz5 (.tmp rfl) (.head _) (.tmp rfl) (g1 hb))))))) (opsS_cons (.guarded _ (Av.new (j := 5) rfl rfl rfl (Av.new (j := 8) rfl rfl rfl Av.nil)) rfl rfl rfl rfl (fun hb => (Ob.uncond (t := 39) hb rfl (ob_loadByt rfl tk5 (.tmp rfl) (.head _) (ite_t hb e_x9))))) (opsS_cons (.guarded _ (Av.old (t := 9) rfl rfl (Av.new (j := 5) rfl rfl rfl Av.nil)) rfl rfl rfl rfl (fun hb => ob_move rfl (.tmp rfl))) (opsS_cons (.guarded _ (Av.old (t := 10) rfl rfl (Av.new (j := 5) rfl rfl rfl Av.nil)) rfl rfl rfl rfl (fun hb => ob_move rfl (.tmp rfl))) (opsS_cons (.guarded _ (Av.new (j := 5) rfl rfl rfl (Av.new (j := 11) rfl rfl rfl Av.nil)) rfl rfl rfl rfl (fun hb => (Ob.uncond (t := 42) hb rfl (ob_add rfl (.tmp rfl) (opd_int rfl))))) (opsS_cons (.guarded _ (Av.new (j := 5) rfl rfl rfl (Av.new (j := 10) rfl rfl rfl (Av.new (j := 12) rfl rfl rfl Av.nil))) rfl rfl rfl rfl (fun hb => (Ob.uncond (t := 43) hb rfl ((Ob.uncond (t := 41) hb rfl (ob_indexAddrByt rfl Try.underlying33 sz5 (.tmp rfl) (.head _) (.tmp rfl) (g2 hb))))))) (opsS_cons (.guarded _ (Av.new (j := 5) rfl rfl rfl (Av.new (j := 13) rfl rfl rfl Av.nil)) rfl rfl rfl rfl (fun hb => (Ob.uncond (t := 44) hb rfl (ob_loadByt rfl tk5 (.tmp rfl) (.head _) (ite_t hb e_x10))))) opsS_nil))))))))))))))) (out_old (t := 9) rfl rfl (out_old (t := 10) rfl rfl (out_new (i := 5) (by decide) rfl rfl (out_new (i := 9) (by decide) rfl rfl (out_new (i := 14) (by decide) rfl rfl out_nil))))) fun a64 w64 s64 => ?_
        refine seq_opg s64 rfl rfl rfl rfl (of_decide_eq_true rfl) (fun hb => (Ob.uncond (t := 45) hb rfl ((Ob.uncond (t := 40) hb rfl (ob_eql rfl (.tmp rfl) (.tmp rfl)))))) fun a65 w65 s65 => ?_; clear s64
        refine seq_op s65 rfl rfl (of_decide_eq_true rfl) (ob_or2 rfl (.tmp rfl) opd_bool (.tmp rfl)) fun a66 w66 s66 => ?_; clear s65
        refine wpList_nil ?_
        refine then_normal ?_
        refine hK15 _ _ ?_
        have s67 := s66.sub (.cons (t := 9) rfl (.cons (t := 10) rfl (.cons (t := 47) rfl .nil))); clear s66
        refine cond_split s67 (.tmp rfl) (fun hc4 => ?_) (fun hc4 => ?_)
        · replace h18 := ite_t hc4 h18
          have h19 := h18; clear h18
          refine wp_seq_k fun K16 hK16 => ?_
          refine wp_region_lit ?_
          obtain ⟨x11, e_x11, h20⟩ := bind_some h19; clear h19
          refine seq_op s67 rfl rfl (of_decide_eq_true rfl) (ob_callD (args := []) rfl .direct hb6 (fun a w s fs gs hf hg => by obtain rfl := hf.unnil; obtain rfl := hg.unnil; exact c_caballaw27_alive k _ e_x11 _ _)) fun a68 w68 s68 => ?_; clear s67
          refine seq_op s68 rfl rfl (of_decide_eq_true rfl) (ob_assign rfl (.tmp rfl)) fun a69 w69 s69 => ?_; clear s68
          refine wpList_nil ?_
          refine then_normal ?_
          refine hK16 _ _ ?_
          have s70 := s69.sub (.cons (t := 8) rfl .nil); clear s69
          have s71 := St.drop (A := []) s70; clear s70
          refine wp_ret ?_
          obtain rfl := Option.some.inj h20
          exact leave s71 (.inl rfl) rfl (.cons (.tmp rfl) .nil)
        · replace h18 := ite_f hc4 h18
          have h21 := h18; clear h18
          refine wp_skip ?_
          refine then_normal ?_
          refine hK14 _ _ ?_
          have s72 := s67.sub (.cons (t := 9) rfl (.cons (t := 10) rfl .nil)); clear s67
          obtain ⟨g3, h22⟩ := guard_some h21; clear h21
          obtain ⟨x12, e_x12, h23⟩ := bind_some h22; clear h22
          obtain ⟨g4, h24⟩ := guard_some h23; clear h23
          obtain ⟨x13, e_x13, h25⟩ := bind_some h24; clear h24
          obtain ⟨g5, h26⟩ := guard_some h25; clear h25
          obtain ⟨x14, e_x14, h27⟩ := bind_some h26; clear h26
          refine wp_goes (Fs := [(is v1), ((kint .i64).V x3), (is v1), ((kint .i64).V x3), ((kint .i64).V (iadd .i64 x3 (1 : Int))), (is v1), ((kint .i64).V x3), ((kint .i64).V (iadd .i64 x3 (1 : Int))), (is (rowPtr v1 ((iadd .i64 x3 (1 : Int)).toNat * 1))), ((kint .u8).V x12), (is v1), ((kint .i64).V x3), (is (rowPtr v1 (x3.toNat * 1))), ((kint .u8).V x13), (is (rowPtr v1 (x3.toNat * 1))), nofact]) (bits := [0, 0, 0, 0, 8, 0, 0, 64, 224, 480, 0, 0, 3072, 7168, 16355, 32739, 65535, 131071]) (m := 16) (todo := 32768) mx s72 ?_; clear s72
          refine goes_turn (B' := (fun _ : Unit => [BytF v1 5 x14])) (Fs' := (fun _ : Unit => setAll ([(is v1), ((kint .i64).V x3), (is v1), ((kint .i64).V x3), ((kint .i64).V (iadd .i64 x3 (1 : Int))), (is v1), ((kint .i64).V x3), ((kint .i64).V (iadd .i64 x3 (1 : Int))), (is (rowPtr v1 ((iadd .i64 x3 (1 : Int)).toNat * 1))), ((kint .u8).V x12), (is v1), ((kint .i64).V x3), (is (rowPtr v1 (x3.toNat * 1))), ((kint .u8).V x13), (is (rowPtr v1 (x3.toNat * 1))), nofact]) [(15, nofact)])) 15 32768 65507 0 (by kernel_rfl) rfl rfl rfl (opsS_cons (.plain _ (Av.old (t := 9) rfl rfl Av.nil) rfl rfl (ob_move rfl (.tmp rfl))) (opsS_cons (.plain _ (Av.old (t := 10) rfl rfl Av.nil) rfl rfl (ob_move rfl (.tmp rfl))) (opsS_cons (.plain _ (Av.old (t := 9) rfl rfl Av.nil) rfl rfl (ob_move rfl (.tmp rfl))) (opsS_cons (.plain _ (Av.old (t := 10) rfl rfl Av.nil) rfl rfl (ob_move rfl (.tmp rfl))) (opsS_cons (.plain _ (Av.new (j := 3) rfl rfl rfl Av.nil) rfl rfl (ob_add rfl (.tmp rfl) (opd_int rfl))) (opsS_cons (.plain _ (Av.old (t := 9) rfl rfl Av.nil) rfl rfl (ob_move rfl (.tmp rfl))) (opsS_cons (.plain _ (Av.old (t := 10) rfl rfl Av.nil) rfl rfl (ob_move rfl (.tmp rfl))) (opsS_cons (.plain _ (Av.new (j := 6) rfl rfl rfl Av.nil) rfl rfl (ob_add rfl (.tmp rfl) (opd_int rfl))) (opsS_cons (.plain _ (Av.new (j := 5) rfl rfl rfl (Av.new (j := 7) rfl rfl rfl Av.nil)) rfl rfl (ob_indexAddrByt rfl Try.underlying33 sz5 (.tmp rfl) (.head _) (.tmp rfl) g3)) (opsS_cons (.plain _ (Av.new (j := 8) rfl rfl rfl Av.nil) rfl rfl (ob_loadByt rfl tk5 (.tmp rfl) (.head _) e_x12)) (opsS_cons (.plain _ (Av.old (t := 9) rfl rfl Av.nil) rfl rfl (ob_move rfl (.tmp rfl))) (opsS_cons (.plain _ (Av.old (t := 10) rfl rfl Av.nil) rfl rfl (ob_move rfl (.tmp rfl))) (opsS_cons (.plain _ (Av.new (j := 10) rfl rfl rfl (Av.new (j := 11) rfl rfl rfl Av.nil)) rfl rfl (ob_indexAddrByt rfl Try.underlying33 sz5 (.tmp rfl) (.head _) (.tmp rfl) g4)) (opsS_cons (.plain _ (Av.new (j := 12) rfl rfl rfl Av.nil) rfl rfl (ob_loadByt rfl tk5 (.tmp rfl) (.head _) e_x13)) (opsS_cons (.plain _ (Av.new (j := 0) rfl rfl rfl (Av.new (j := 1) rfl rfl rfl Av.nil)) rfl rfl (ob_indexAddrByt rfl Try.underlying33 sz5 (.tmp rfl) (.head _) (.tmp rfl) g5)) (opsS_skip (by rfl) opsS_nil)))))))))))))))) (.plain _ (Av.new (j := 9) rfl rfl rfl (Av.new (j := 14) rfl rfl rfl Av.nil)) rfl (fun _ => rfl) (fun R => ob_storeByt (A := []) rfl tk5 (.tmp rfl) (.tmp rfl) rfl e_x14 rfl)) (setAll_same (us := (fun _ : Unit => [(15, nofact)])) fun _ => by kernel_rfl) fun _ => ?_
          refine goes_last (by kernel_rfl) rfl (opsS_skip (by rfl) (opsS_skip (by rfl) (opsS_cons (.plain _ (Av.old (t := 9) rfl rfl Av.nil) rfl rfl (ob_move rfl (.tmp rfl))) (opsS_cons (.plain _ (Av.old (t := 10) rfl rfl Av.nil) rfl rfl (ob_move rfl (.tmp rfl))) (opsS_cons (.plain _ (Av.new (j := 3) rfl rfl rfl Av.nil) rfl rfl (ob_add rfl (.tmp rfl) (opd_int rfl))) (opsS_skip (by rfl) (opsS_skip (by rfl) (opsS_skip (by rfl) (opsS_skip (by rfl) (opsS_skip (by rfl) (opsS_skip (by rfl) (opsS_skip (by rfl) (opsS_skip (by rfl) (opsS_skip (by rfl) (opsS_skip (by rfl) (opsS_skip (by rfl) opsS_nil)))))))))))))))) (out_old (t := 9) rfl rfl (out_new (i := 2) (by decide) rfl rfl (out_new (i := 4) (by decide) rfl rfl (out_new (i := 13) (by decide) rfl rfl out_nil)))) fun a73 w73 s73 => ?_
          obtain ⟨g6, h28⟩ := guard_some h27; clear h27
          refine seq_op s73 rfl rfl (of_decide_eq_true rfl) (ob_indexAddrByt rfl Try.underlying33 sz5 (.tmp rfl) (.head _) (.tmp rfl) g6) fun a74 w74 s74 => ?_; clear s73
          obtain ⟨x15, e_x15, h29⟩ := bind_some h28; clear h28
          refine seq_opx0 (B' := (fun _ : Unit => [BytF v1 5 x15])) s74 rfl rfl (ob_storeByt (A := []) rfl tk5 (.tmp rfl) (.tmp rfl) rfl e_x15 rfl) fun _ a75 w75 s75 => ?_; clear s74
          refine wpList_nil ?_
          refine then_normal ?_
          exact hj1 x15 _ _ h29 (s75.sub (.cons rfl .nil))
      · replace h7 := ite_f hc3 h7
        have h30 := h7; clear h7
        refine wp_region_lit ?_
        refine seq_op s38 rfl rfl (of_decide_eq_true rfl) (ob_move rfl (.tmp rfl)) fun a76 w76 s76 => ?_; clear s38
        refine seq_op s76 rfl rfl (of_decide_eq_true rfl) (ob_move rfl (.tmp rfl)) fun a77 w77 s77 => ?_; clear s76
        refine seq_op s77 rfl rfl (of_decide_eq_true rfl) (ob_move rfl (.tmp rfl)) fun a78 w78 s78 => ?_; clear s77
        refine seq_op s78 rfl rfl (of_decide_eq_true rfl) (ob_move rfl (.tmp rfl)) fun a79 w79 s79 => ?_; clear s78
        obtain ⟨g7, h31⟩ := guard_some h30; clear h30
        refine seq_op s79 rfl rfl (of_decide_eq_true rfl) (ob_indexAddrByt rfl Try.underlying33 sz5 (.tmp rfl) (.head _) (.tmp rfl) g7) fun a80 w80 s80 => ?_; clear s79
        obtain ⟨x16, e_x16, h32⟩ := bind_some h31; clear h31
        refine seq_op s80 rfl rfl (of_decide_eq_true rfl) (ob_loadByt rfl tk5 (.tmp rfl) (.head _) e_x16) fun a81 w81 s81 => ?_; clear s80
        refine seq_op s81 rfl rfl (of_decide_eq_true rfl) (ob_sub rfl (.tmp rfl) (opd_int rfl)) fun a82 w82 s82 => ?_; clear s81
        refine seq_op s82 rfl rfl (of_decide_eq_true rfl) (ob_add rfl (.tmp rfl) (opd_int rfl)) fun a83 w83 s83 => ?_; clear s82
        refine seq_op s83 rfl rfl (of_decide_eq_true rfl) (ob_move rfl (.tmp rfl)) fun a84 w84 s84 => ?_; clear s83
        refine seq_op s84 rfl rfl (of_decide_eq_true rfl) (ob_rem rfl (.tmp rfl) (opd_int rfl) (by decide)) fun a85 w85 s85 => ?_; clear s84
        obtain ⟨x17, e_x17, h33⟩ := bind_some h32; clear h32; replace e_x17 := Option.some.inj e_x17
        refine seq_op s85 rfl rfl (of_decide_eq_true rfl) ((ob_add rfl (.tmp rfl) (.tmp rfl)).nm e_x17) fun a86 w86 s86 => ?_; clear s85
        refine seq_op s86 rfl rfl (of_decide_eq_true rfl) (ob_rem rfl (.tmp rfl) (opd_int rfl) (by decide)) fun a87 w87 s87 => ?_; clear s86
        refine seq_op s87 rfl rfl (of_decide_eq_true rfl) (ob_add rfl (opd_int rfl) (.tmp rfl)) fun a88 w88 s88 => ?_; clear s87
        obtain ⟨g8, h34⟩ := guard_some h33; clear h33
        refine seq_op s88 rfl rfl (of_decide_eq_true rfl) (ob_indexAddrByt rfl Try.underlying33 sz5 (.tmp rfl) (.head _) (.tmp rfl) g8) fun a89 w89 s89 => ?_; clear s88
        obtain ⟨x18, e_x18, h35⟩ := bind_some h34; clear h34
        refine seq_opx0 (B' := (fun _ : Unit => [BytF v1 5 x18])) s89 rfl rfl (ob_storeByt (A := []) rfl tk5 (.tmp rfl) (.tmp rfl) rfl e_x18 rfl) fun _ a90 w90 s90 => ?_; clear s89
        refine wpList_nil ?_
        refine then_normal ?_
        exact hj1 x18 _ _ h35 (s90.sub (.cons rfl .nil))

end Go.Proofs.Ytankoeffbdnffaa
