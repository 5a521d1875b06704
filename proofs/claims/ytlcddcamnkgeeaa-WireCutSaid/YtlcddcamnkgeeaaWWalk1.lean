/- Each function's code comes to what its plain function answers. No condition. -/
import Derived.Test.YtlcddcamnkgeeaaWFacts
namespace Go.Proofs.Ytlcddcamnkgeeaa
open Go Go.RowKit Go.Proofs.Kit Go.Proofs.Pure
set_option linter.unusedVariables false
set_option linter.unusedSimpArgs false
set_option maxRecDepth 100000
set_option maxHeartbeats 2000000

/- 43 (*cabal/wire.Writer).Numbers -/
theorem c_wire_Writer_Numbers (k : Nat) (p1 : wire_Writer) (p2 : (List Int)) (r : wire_Writer) (h0 : wire_Writer_Numbers k p1 p2 = some r) (ok : Ok) (w0 : World) (z0 : Value) (z1 : Value) (b00 : Nat) (w0_0 : Value) (l0 : ∀ q, q ∈ [BF b00 59 (ko_wire_Writer_0 w0_0) (⟨[]⟩ : wire_Writer), RowF w0_0 5 (kint .u8) p1.out] → q.holds ok w0) (d0 : ∀ c, c ∈ idsOf [BF b00 59 (ko_wire_Writer_0 w0_0) (⟨[]⟩ : wire_Writer), RowF w0_0 5 (kint .u8) p1.out] → ¬ ok c) (nd : (idsOf [BF b00 59 (ko_wire_Writer_0 w0_0) (⟨[]⟩ : wire_Writer), RowF w0_0 5 (kint .u8) p1.out]).Nodup) (u0 : (ptrB b00 0).holds ok w0 z0) (u1 : ((ksl (kint .u32)).V p2).holds ok w0 z1) :
    GivesX Try.prog 43 [z0, z1] ok w0 [BF b00 59 (ko_wire_Writer_0 w0_0) (⟨[]⟩ : wire_Writer), RowF w0_0 5 (kint .u8) p1.out] (fun g : Value => resFact []) (fun g : Value => [BF b00 59 (ko_wire_Writer_0 (g)) (⟨[]⟩ : wire_Writer), RowF (g) 5 (kint .u8) r.out]) := by
  unfold wire_Writer_Numbers at h0
  refine enterX (N := 48) Try.func43 rfl rfl (of_decide_eq_true rfl) (.cons u0 (.cons u1 .nil)) nd l0 d0 fun a1 s1 => ?_
  refine wp_seq_k fun K1 hK1 => ?_
  refine wp_region_lit ?_
  refine seq_op s1 rfl rfl (of_decide_eq_true rfl) (ob_move rfl (.tmp rfl)) fun a2 w2 s2 => ?_; clear s1
  refine seq_op s2 rfl rfl (of_decide_eq_true rfl) (ob_lens rfl Try.underlying62 (.tmp rfl)) fun a3 w3 s3 => ?_; clear s2
  refine seq_op s3 rfl rfl (of_decide_eq_true rfl) (ob_move rfl (opd_int rfl)) fun a4 w4 s4 => ?_; clear s3
  refine wpList_nil ?_
  refine then_normal ?_
  refine hK1 _ _ ?_
  have s5 := s4.sub (.cons (t := 0) rfl (.cons (t := 7) rfl (.cons (t := 8) rfl (.cons (t := 9) rfl .nil)))); clear s4
  refine wp_block ?_
  refine wp_loop_fuel (fun m (q : Int × (List Int)) => wire_Writer_Numbers.l1 k p2 m q.1 q.2) r (fun _ => rfl) (fun q a w => ∃ (v1 : Value), St ⟨48, w0, ok, (idsOf [BF b00 59 (ko_wire_Writer_0 w0_0) (⟨[]⟩ : wire_Writer), RowF w0_0 5 (kint .u8) p1.out])⟩ [BF b00 59 (ko_wire_Writer_0 v1) (⟨[]⟩ : wire_Writer), RowF v1 5 (kint .u8) q.2] [(0, (ptrB b00 0)), (7, ((ksl (kint .u32)).V p2)), (8, ((kint .i64).V (p2.length : Int))), (9, ((kint .i64).V q.1))] a w) ?_ k ((0 : Int), p1.out) _ _ h0 ⟨w0_0, (s5.sub (.cons rfl (.cons rfl (.cons rfl (.cons rfl .nil)))))⟩
  rintro n1 ⟨y1, y2⟩ a6 w6 h1 ⟨v1, s6⟩ K2 hK2
  replace h1 : wire_Writer_Numbers.l1 k p2 (n1 + 1) y1 y2 = some r := h1; rw [wire_Writer_Numbers.l1] at h1
  have h2 := h1; clear h1
  refine wp_seq_k fun K3 hK3 => ?_
  refine wp_region_lit ?_
  refine seq_op s6 rfl rfl (of_decide_eq_true rfl) (ob_lss rfl (.tmp rfl) (.tmp rfl)) fun a7 w7 s7 => ?_; clear s6
  refine wpList_nil ?_
  refine then_normal ?_
  refine hK3 _ _ ?_
  have s8 := s7.sub (.cons (t := 0) rfl (.cons (t := 7) rfl (.cons (t := 8) rfl (.cons (t := 9) rfl (.cons (t := 10) rfl .nil))))); clear s7
  refine wp_seq_k fun K4 hK4 => ?_
  refine cond_split s8 (.tmp rfl) (fun hc1 => ?_) (fun hc1 => ?_)
  · replace h2 := ite_t hc1 h2
    have h3 := h2; clear h2
    refine wp_skip ?_
    refine then_normal ?_
    refine hK4 _ _ ?_
    have s9 := s8.sub (.cons (t := 0) rfl (.cons (t := 7) rfl (.cons (t := 8) rfl (.cons (t := 9) rfl .nil)))); clear s8
    refine wp_seq_k fun K5 hK5 => ?_
    have hj1 : ∀ (y3 : (List Int)) (v3 : Value) (a : Act) (w : World), (wire_Writer_Numbers.j1 k y1 (wire_Writer_Numbers.l1 k p2 n1)) y3 = some r → St ⟨48, w0, ok, (idsOf [BF b00 59 (ko_wire_Writer_0 w0_0) (⟨[]⟩ : wire_Writer), RowF w0_0 5 (kint .u8) p1.out])⟩ [BF b00 59 (ko_wire_Writer_0 v3) (⟨[]⟩ : wire_Writer), RowF v3 5 (kint .u8) y3] [(0, (ptrB b00 0)), (7, ((ksl (kint .u32)).V p2)), (8, ((kint .i64).V (p2.length : Int))), (9, ((kint .i64).V y1))] a w → K5 a w := by
      intro y3 v3 a10 w10 h4 s10
      unfold wire_Writer_Numbers.j1 at h4
      refine hK5 _ _ ?_
      refine wp_region_lit ?_
      refine seq_op s10 rfl rfl (of_decide_eq_true rfl) (ob_add rfl (.tmp rfl) (opd_int rfl)) fun a11 w11 s11 => ?_; clear s10
      refine seq_op s11 rfl rfl (of_decide_eq_true rfl) (ob_move rfl (.tmp rfl)) fun a12 w12 s12 => ?_; clear s11
      refine wpList_nil ?_
      refine then_normal ?_
      exact hK2 ((iadd .i64 y1 (1 : Int)), y3) _ _ h4 ⟨v3, (s12.sub (.cons rfl (.cons rfl (.cons rfl (.cons rfl .nil)))))⟩
    refine wp_block ?_
    refine wp_seq_k fun K6 hK6 => ?_
    refine wp_region_lit ?_
    obtain ⟨x1, e_x1, h5⟩ := bind_some h3; clear h3
    refine seq_op s9 rfl rfl (of_decide_eq_true rfl) (ob_indexAddrs rfl Try.underlying62 sz69 (.tmp rfl) (.tmp rfl) e_x1) fun a13 w13 s13 => ?_; clear s9
    refine seq_op s13 rfl rfl (of_decide_eq_true rfl) (ob_loadr rfl tk69 (.tmp rfl)) fun a14 w14 s14 => ?_; clear s13
    refine seq_op s14 rfl rfl (of_decide_eq_true rfl) (ob_assign rfl (.tmp rfl)) fun a15 w15 s15 => ?_; clear s14
    refine wpList_nil ?_
    refine then_normal ?_
    refine hK6 _ _ ?_
    have s16 := s15.sub (.cons (t := 0) rfl (.cons (t := 5) rfl (.cons (t := 7) rfl (.cons (t := 8) rfl (.cons (t := 9) rfl .nil))))); clear s15
    refine wp_seq_k fun K7 hK7 => ?_
    refine wp_seq_k fun K8 hK8 => ?_
    refine wp_region_lit ?_
    refine seq_op s16 rfl rfl (of_decide_eq_true rfl) (ob_assign rfl (opd_int rfl)) fun a17 w17 s17 => ?_; clear s16
    refine wpList_nil ?_
    refine then_normal ?_
    refine hK8 _ _ ?_
    have s18 := s17.sub (.cons (t := 0) rfl (.cons (t := 5) rfl (.cons (t := 6) rfl (.cons (t := 7) rfl (.cons (t := 8) rfl (.cons (t := 9) rfl .nil)))))); clear s17
    have hj2 : ∀ (y4 : (List Int)) (v2 : Value) (a : Act) (w : World), (wire_Writer_Numbers.j2 k x1 y1 (wire_Writer_Numbers.l1 k p2 n1)) y4 = some r → St ⟨48, w0, ok, (idsOf [BF b00 59 (ko_wire_Writer_0 w0_0) (⟨[]⟩ : wire_Writer), RowF w0_0 5 (kint .u8) p1.out])⟩ [BF b00 59 (ko_wire_Writer_0 v2) (⟨[]⟩ : wire_Writer), RowF v2 5 (kint .u8) y4] [(0, (ptrB b00 0)), (5, ((kint .u32).V x1)), (7, ((ksl (kint .u32)).V p2)), (8, ((kint .i64).V (p2.length : Int))), (9, ((kint .i64).V y1))] a w → K7 a w := by
      intro y4 v2 a19 w19 h6 s19
      unfold wire_Writer_Numbers.j2 at h6
      refine hK7 _ _ ?_
      refine wp_region_lit ?_
      refine seq_op s19 rfl rfl (of_decide_eq_true rfl) (ob_move rfl (.tmp rfl)) fun a20 w20 s20 => ?_; clear s19
      refine seq_op s20 rfl rfl (of_decide_eq_true rfl) (ob_move rfl (.tmp rfl)) fun a21 w21 s21 => ?_; clear s20
      refine seq_op s21 rfl rfl (of_decide_eq_true rfl) (ob_nilCheck rfl (.tmp rfl)) fun a22 w22 s22 => ?_; clear s21
      refine seq_op s22 rfl rfl (of_decide_eq_true rfl) (ob_fieldAddr (off' := 0) rfl Try.underlying59 rfl sz23 (by decide) (.tmp rfl) rfl) fun a23 w23 s23 => ?_; clear s22
      refine seq_op s23 rfl rfl (of_decide_eq_true rfl) (ob_loadRowV rfl (tkr23 _) (.tmp rfl) (.head _) (lgo_wire_Writer_0_out (⟨[]⟩ : wire_Writer))) fun a24 w24 s24 => ?_; clear s23
      refine seq_op s24 rfl rfl (of_decide_eq_true rfl) (ob_move rfl (.tmp rfl)) fun a25 w25 s25 => ?_; clear s24
      refine seq_op s25 rfl rfl (of_decide_eq_true rfl) (ob_conv rfl _ Try.underlying69 Try.underlying5 (.tmp rfl)) fun a26 w26 s26 => ?_; clear s25
      refine seq_op s26 rfl rfl (of_decide_eq_true rfl) (ob_andNot rfl (.tmp rfl) (opd_int rfl)) fun a27 w27 s27 => ?_; clear s26
      refine seq_op s27 rfl rfl (of_decide_eq_true rfl) (ob_mkSlice (k := (kint .u8)) (xs := ([(iandn .u8 (IntKind.wrap .u8 x1) (128 : Int))] : (List Int))) rfl Try.underlying23 zz5 sz5 (Zr.int .u8) (by decide) (by decide) (.cons (.tmp rfl) rfl (LS.arr' (i := 0) (ys := ([(iandn .u8 (IntKind.wrap .u8 x1) (128 : Int))] : (List Int))) (by simp) (by rfl)) (.nil _))) fun a28 w28 s28 => ?_; clear s27
      obtain ⟨g1, h7⟩ := guard_some h6; clear h6
      refine seq_opx (B' := (fun v3 : Value => [BF b00 59 (ko_wire_Writer_0 v2) (⟨[]⟩ : wire_Writer), RowF v3 5 (kint .u8) (y4 ++ ([(iandn .u8 (IntKind.wrap .u8 x1) (128 : Int))] : (List Int)))])) s28 rfl rfl (of_decide_eq_true rfl) (ob_appendL2 (A := [_]) rfl Try.underlying23 ap5 (Zr.int .u8) (by decide) (.tmp rfl) (.tmp rfl) rfl g1) fun v3 a29 w29 s29 => ?_; clear s28
      refine seq_op s29 rfl rfl (of_decide_eq_true rfl) (ob_nilCheck rfl (.tmp rfl)) fun a30 w30 s30 => ?_; clear s29
      refine seq_op s30 rfl rfl (of_decide_eq_true rfl) (ob_fieldAddr (off' := 0) rfl Try.underlying59 rfl sz23 (by decide) (.tmp rfl) rfl) fun a31 w31 s31 => ?_; clear s30
      refine seq_opx0 (B' := (fun _ : Unit => [BF b00 59 (ko_wire_Writer_0 v3) (⟨[]⟩ : wire_Writer), RowF v3 5 (kint .u8) (y4 ++ ([(iandn .u8 (IntKind.wrap .u8 x1) (128 : Int))] : (List Int)))])) s31 rfl rfl (ob_storeRowV (A := []) rfl (tkr23 _) (.tmp rfl) (.tmp rfl) (.tail _ (.head _)) rfl (lsk_wire_Writer_0_to_0_at0 (⟨[]⟩ : wire_Writer)) rfl) fun _ a32 w32 s32 => ?_; clear s31
      refine wpList_nil ?_
      refine in_normal ?_
      refine then_normal ?_
      exact hj1 (y4 ++ ([(iandn .u8 (IntKind.wrap .u8 x1) (128 : Int))] : (List Int))) v3 _ _ h7 (s32.sub (.cons rfl (.cons rfl (.cons rfl (.cons rfl .nil)))))
    refine wp_block ?_
    refine wp_loop_fuel (fun m (q : Int × (List Int)) => wire_Writer_Numbers.l2 k x1 y1 (wire_Writer_Numbers.l1 k p2 n1) m q.1 q.2) r (fun _ => rfl) (fun q a w => ∃ (v4 : Value), St ⟨48, w0, ok, (idsOf [BF b00 59 (ko_wire_Writer_0 w0_0) (⟨[]⟩ : wire_Writer), RowF w0_0 5 (kint .u8) p1.out])⟩ [BF b00 59 (ko_wire_Writer_0 v4) (⟨[]⟩ : wire_Writer), RowF v4 5 (kint .u8) q.2] [(0, (ptrB b00 0)), (5, ((kint .u32).V x1)), (6, ((kint .i64).V q.1)), (7, ((ksl (kint .u32)).V p2)), (8, ((kint .i64).V (p2.length : Int))), (9, ((kint .i64).V y1))] a w) ?_ k ((28 : Int), y2) _ _ h5 ⟨v1, (s18.sub (.cons rfl (.cons rfl (.cons rfl (.cons rfl (.cons rfl (.cons rfl .nil)))))))⟩
    rintro n2 ⟨y5, y6⟩ a33 w33 h8 ⟨v4, s33⟩ K9 hK9
    replace h8 : wire_Writer_Numbers.l2 k x1 y1 (wire_Writer_Numbers.l1 k p2 n1) (n2 + 1) y5 y6 = some r := h8; rw [wire_Writer_Numbers.l2] at h8
    have h9 := h8; clear h8
    refine wp_seq_k fun K10 hK10 => ?_
    refine wp_seq_k fun K11 hK11 => ?_
    refine wp_region_lit ?_
    refine seq_op s33 rfl rfl (of_decide_eq_true rfl) (ob_move rfl (.tmp rfl)) fun a34 w34 s34 => ?_; clear s33
    refine seq_op s34 rfl rfl (of_decide_eq_true rfl) (ob_gtr rfl (.tmp rfl) (opd_int rfl)) fun a35 w35 s35 => ?_; clear s34
    refine wpList_nil ?_
    refine then_normal ?_
    refine hK11 _ _ ?_
    have s36 := s35.sub (.cons (t := 0) rfl (.cons (t := 5) rfl (.cons (t := 6) rfl (.cons (t := 7) rfl (.cons (t := 8) rfl (.cons (t := 9) rfl (.cons (t := 14) rfl .nil))))))); clear s35
    refine cond_split s36 (.tmp rfl) (fun hc2 => ?_) (fun hc2 => ?_)
    · replace h9 := ite_t hc2 h9
      have h10 := h9; clear h9
      refine wp_skip ?_
      refine then_normal ?_
      refine hK10 _ _ ?_
      have s37 := s36.sub (.cons (t := 0) rfl (.cons (t := 5) rfl (.cons (t := 6) rfl (.cons (t := 7) rfl (.cons (t := 8) rfl (.cons (t := 9) rfl .nil)))))); clear s36
      refine wp_seq_k fun K12 hK12 => ?_
      have hj3 : ∀ (y7 : (List Int)) (v5 : Value) (a : Act) (w : World), (wire_Writer_Numbers.j3 k y5 (wire_Writer_Numbers.l2 k x1 y1 (wire_Writer_Numbers.l1 k p2 n1) n2)) y7 = some r → St ⟨48, w0, ok, (idsOf [BF b00 59 (ko_wire_Writer_0 w0_0) (⟨[]⟩ : wire_Writer), RowF w0_0 5 (kint .u8) p1.out])⟩ [BF b00 59 (ko_wire_Writer_0 v5) (⟨[]⟩ : wire_Writer), RowF v5 5 (kint .u8) y7] [(0, (ptrB b00 0)), (5, ((kint .u32).V x1)), (6, ((kint .i64).V y5)), (7, ((ksl (kint .u32)).V p2)), (8, ((kint .i64).V (p2.length : Int))), (9, ((kint .i64).V y1))] a w → K12 a w := by
        intro y7 v5 a38 w38 h11 s38
        unfold wire_Writer_Numbers.j3 at h11
        refine hK12 _ _ ?_
        refine wp_region_lit ?_
        refine seq_op s38 rfl rfl (of_decide_eq_true rfl) (ob_move rfl (.tmp rfl)) fun a39 w39 s39 => ?_; clear s38
        refine seq_op s39 rfl rfl (of_decide_eq_true rfl) (ob_sub rfl (.tmp rfl) (opd_int rfl)) fun a40 w40 s40 => ?_; clear s39
        refine seq_op s40 rfl rfl (of_decide_eq_true rfl) (ob_assign rfl (.tmp rfl)) fun a41 w41 s41 => ?_; clear s40
        refine wpList_nil ?_
        refine then_normal ?_
        exact hK9 ((isub .i64 y5 (7 : Int)), y7) _ _ h11 ⟨v5, (s41.sub (.cons rfl (.cons rfl (.cons rfl (.cons rfl (.cons rfl (.cons rfl .nil)))))))⟩
      refine wp_block ?_
      refine wp_seq_k fun K13 hK13 => ?_
      refine wp_region_lit ?_
      refine seq_op s37 rfl rfl (of_decide_eq_true rfl) (ob_move rfl (.tmp rfl)) fun a42 w42 s42 => ?_; clear s37
      refine seq_op s42 rfl rfl (of_decide_eq_true rfl) (ob_move rfl (.tmp rfl)) fun a43 w43 s43 => ?_; clear s42
      obtain ⟨g2, h12⟩ := guard_some h10; clear h10
      refine seq_op s43 rfl rfl (of_decide_eq_true rfl) (ob_shr rfl (.tmp rfl) (.tmp rfl) g2) fun a44 w44 s44 => ?_; clear s43
      refine seq_op s44 rfl rfl (of_decide_eq_true rfl) (ob_gtr rfl (.tmp rfl) (opd_int rfl)) fun a45 w45 s45 => ?_; clear s44
      refine wpList_nil ?_
      refine then_normal ?_
      refine hK13 _ _ ?_
      have s46 := s45.sub (.cons (t := 0) rfl (.cons (t := 5) rfl (.cons (t := 6) rfl (.cons (t := 7) rfl (.cons (t := 8) rfl (.cons (t := 9) rfl (.cons (t := 20) rfl .nil))))))); clear s45
      refine cond_split s46 (.tmp rfl) (fun hc3 => ?_) (fun hc3 => ?_)
      · replace h12 := ite_t hc3 h12
        have h13 := h12; clear h12
        obtain ⟨g3, h14⟩ := guard_some h13; clear h13
        obtain ⟨x2, e_x2, h15⟩ := bind_some h14; clear h14; replace e_x2 := Option.some.inj e_x2
        obtain ⟨g4, h16⟩ := guard_some h15; clear h15
        refine wp_goes (Fs := [(ptrB b00 0), (ptrB b00 0), (ptrB b00 0), (ptrB b00 0), (is v4), ((kint .u32).V x1), ((kint .i64).V y5), ((kint .u32).V (ishr .u32 x1 y5)), ((kint .u8).V (IntKind.wrap .u8 (ishr .u32 x1 y5))), ((kint .u8).V (ior .u8 (IntKind.wrap .u8 (ishr .u32 x1 y5)) (128 : Int))), ((ksl (kint .u8)).V x2), nofact]) (bits := [0, 0, 2, 6, 14, 0, 0, 96, 224, 480, 992, 2046, 4095, 8191, 16383]) (m := 12) (todo := 2048) mx s46 ?_; clear s46
        refine goes_turn (B' := (fun v6 : Value => [BF b00 59 (ko_wire_Writer_0 v4) (⟨[]⟩ : wire_Writer), RowF v6 5 (kint .u8) (y6 ++ x2)])) (Fs' := (fun v6 : Value => setAll ([(ptrB b00 0), (ptrB b00 0), (ptrB b00 0), (ptrB b00 0), (is v4), ((kint .u32).V x1), ((kint .i64).V y5), ((kint .u32).V (ishr .u32 x1 y5)), ((kint .u8).V (IntKind.wrap .u8 (ishr .u32 x1 y5))), ((kint .u8).V (ior .u8 (IntKind.wrap .u8 (ishr .u32 x1 y5)) (128 : Int))), ((ksl (kint .u8)).V x2), nofact]) [(11, (is v6))])) 11 2048 4094 0 (by kernel_rfl) rfl rfl rfl (opsS_cons (.plain _ (Av.old (t := 0) rfl rfl Av.nil) rfl rfl (ob_move rfl (.tmp rfl))) (opsS_cons (.plain _ (Av.old (t := 0) rfl rfl Av.nil) rfl rfl (ob_move rfl (.tmp rfl))) (opsS_cons (.plain _ (Av.new (j := 1) rfl rfl rfl Av.nil) rfl rfl (ob_nilCheck rfl (.tmp rfl))) (opsS_cons (.plain _ (Av.new (j := 2) rfl rfl rfl Av.nil) rfl rfl (ob_fieldAddr (off' := 0) rfl Try.underlying59 rfl sz23 (by decide) (.tmp rfl) rfl)) (opsS_cons (.plain _ (Av.new (j := 3) rfl rfl rfl Av.nil) rfl rfl (ob_loadRowV rfl (tkr23 _) (.tmp rfl) (.head _) (lgo_wire_Writer_0_out (⟨[]⟩ : wire_Writer)))) (opsS_cons (.plain _ (Av.old (t := 5) rfl rfl Av.nil) rfl rfl (ob_move rfl (.tmp rfl))) (opsS_cons (.plain _ (Av.old (t := 6) rfl rfl Av.nil) rfl rfl (ob_move rfl (.tmp rfl))) (opsS_cons (.plain _ (Av.new (j := 5) rfl rfl rfl (Av.new (j := 6) rfl rfl rfl Av.nil)) rfl rfl (ob_shr rfl (.tmp rfl) (.tmp rfl) g3)) (opsS_cons (.plain _ (Av.new (j := 7) rfl rfl rfl Av.nil) rfl rfl (ob_conv rfl _ Try.underlying69 Try.underlying5 (.tmp rfl))) (opsS_cons (.plain _ (Av.new (j := 8) rfl rfl rfl Av.nil) rfl rfl (ob_or rfl (.tmp rfl) (opd_int rfl))) (opsS_cons (.plain _ (Av.new (j := 9) rfl rfl rfl Av.nil) rfl rfl ((ob_mkSlice (k := (kint .u8)) (xs := ([(ior .u8 (IntKind.wrap .u8 (ishr .u32 x1 y5)) (128 : Int))] : (List Int))) rfl Try.underlying23 zz5 sz5 (Zr.int .u8) (by decide) (by decide) (.cons (.tmp rfl) rfl (LS.arr' (i := 0) (ys := ([(ior .u8 (IntKind.wrap .u8 (ishr .u32 x1 y5)) (128 : Int))] : (List Int))) (by simp) (by rfl)) (.nil _))).nm e_x2)) (opsS_skip (by rfl) opsS_nil)))))))))))) (.plain _ (Av.new (j := 4) rfl rfl rfl (Av.new (j := 10) rfl rfl rfl Av.nil)) rfl (fun _ => rfl) (fun R => ob_appendL2 (A := [_]) rfl Try.underlying23 ap5 (Zr.int .u8) (by decide) (.tmp rfl) (.tmp rfl) rfl g4)) (setAll_same (us := (fun v6 : Value => [(11, (is v6))])) fun _ => by kernel_rfl) fun v6 => ?_
        refine goes_last (by kernel_rfl) rfl (opsS_cons (.plain _ (Av.old (t := 0) rfl rfl Av.nil) rfl rfl (ob_move rfl (.tmp rfl))) (opsS_skip (by rfl) (opsS_skip (by rfl) (opsS_skip (by rfl) (opsS_skip (by rfl) (opsS_skip (by rfl) (opsS_skip (by rfl) (opsS_skip (by rfl) (opsS_skip (by rfl) (opsS_skip (by rfl) (opsS_skip (by rfl) (opsS_skip (by rfl) opsS_nil)))))))))))) (out_old (t := 0) rfl rfl (out_old (t := 5) rfl rfl (out_old (t := 6) rfl rfl (out_old (t := 7) rfl rfl (out_old (t := 8) rfl rfl (out_old (t := 9) rfl rfl (out_new (i := 0) (by decide) rfl rfl (out_new (i := 11) (by decide) rfl rfl out_nil)))))))) fun a47 w47 s47 => ?_
        refine seq_op s47 rfl rfl (of_decide_eq_true rfl) (ob_nilCheck rfl (.tmp rfl)) fun a48 w48 s48 => ?_; clear s47
        refine seq_op s48 rfl rfl (of_decide_eq_true rfl) (ob_fieldAddr (off' := 0) rfl Try.underlying59 rfl sz23 (by decide) (.tmp rfl) rfl) fun a49 w49 s49 => ?_; clear s48
        refine seq_opx0 (B' := (fun _ : Unit => [BF b00 59 (ko_wire_Writer_0 v6) (⟨[]⟩ : wire_Writer), RowF v6 5 (kint .u8) (y6 ++ x2)])) s49 rfl rfl (ob_storeRowV (A := []) rfl (tkr23 _) (.tmp rfl) (.tmp rfl) (.tail _ (.head _)) rfl (lsk_wire_Writer_0_to_0_at0 (⟨[]⟩ : wire_Writer)) rfl) fun _ a50 w50 s50 => ?_; clear s49
        refine wpList_nil ?_
        refine in_normal ?_
        refine then_normal ?_
        exact hj3 (y6 ++ x2) v6 _ _ h16 (s50.sub (.cons rfl (.cons rfl (.cons rfl (.cons rfl (.cons rfl (.cons rfl .nil)))))))
      · replace h12 := ite_f hc3 h12
        have h17 := h12; clear h12
        refine wp_skip ?_
        refine in_normal ?_
        refine then_normal ?_
        exact hj3 y6 v4 _ _ h17 (s46.sub (.cons rfl (.cons rfl (.cons rfl (.cons rfl (.cons rfl (.cons rfl .nil)))))))
    · replace h9 := ite_f hc2 h9
      have h18 := h9; clear h9
      refine wp_exit ?_
      refine (then_exit (then_exit (in_here ?_)))
      refine then_normal ?_
      exact hj2 y6 v4 _ _ h18 (s36.sub (.cons rfl (.cons rfl (.cons rfl (.cons rfl (.cons rfl .nil))))))
  · replace h2 := ite_f hc1 h2
    have h19 := h2; clear h2
    refine wp_exit ?_
    refine (then_exit (then_exit (in_here ?_)))
    obtain rfl := Option.some.inj h19
    exact leaveXD (D := []) v1 s8 rfl (.inr rfl) rfl .nil rfl

/- 44 (*cabal/wire.Writer).Texts -/
theorem c_wire_Writer_Texts (k : Nat) (p1 : wire_Writer) (p2 : (List (List Int))) (r : wire_Writer) (h0 : wire_Writer_Texts k p1 p2 = some r) (ok : Ok) (w0 : World) (z0 : Value) (z1 : Value) (b00 : Nat) (w0_0 : Value) (l0 : ∀ q, q ∈ [BF b00 59 (ko_wire_Writer_0 w0_0) (⟨[]⟩ : wire_Writer), RowF w0_0 5 (kint .u8) p1.out] → q.holds ok w0) (d0 : ∀ c, c ∈ idsOf [BF b00 59 (ko_wire_Writer_0 w0_0) (⟨[]⟩ : wire_Writer), RowF w0_0 5 (kint .u8) p1.out] → ¬ ok c) (nd : (idsOf [BF b00 59 (ko_wire_Writer_0 w0_0) (⟨[]⟩ : wire_Writer), RowF w0_0 5 (kint .u8) p1.out]).Nodup) (u0 : (ptrB b00 0).holds ok w0 z0) (u1 : ((ksl kstr).V p2).holds ok w0 z1) :
    GivesX Try.prog 44 [z0, z1] ok w0 [BF b00 59 (ko_wire_Writer_0 w0_0) (⟨[]⟩ : wire_Writer), RowF w0_0 5 (kint .u8) p1.out] (fun g : Value => resFact []) (fun g : Value => [BF b00 59 (ko_wire_Writer_0 (g)) (⟨[]⟩ : wire_Writer), RowF (g) 5 (kint .u8) r.out]) := by
  unfold wire_Writer_Texts at h0
  refine enterX (N := 28) Try.func44 rfl rfl (of_decide_eq_true rfl) (.cons u0 (.cons u1 .nil)) nd l0 d0 fun a1 s1 => ?_
  refine wp_seq_k fun K1 hK1 => ?_
  refine wp_region_lit ?_
  refine seq_op s1 rfl rfl (of_decide_eq_true rfl) (ob_move rfl (.tmp rfl)) fun a2 w2 s2 => ?_; clear s1
  refine seq_op s2 rfl rfl (of_decide_eq_true rfl) (ob_lens rfl Try.underlying49 (.tmp rfl)) fun a3 w3 s3 => ?_; clear s2
  refine seq_op s3 rfl rfl (of_decide_eq_true rfl) (ob_move rfl (opd_int rfl)) fun a4 w4 s4 => ?_; clear s3
  refine wpList_nil ?_
  refine then_normal ?_
  refine hK1 _ _ ?_
  have s5 := s4.sub (.cons (t := 0) rfl (.cons (t := 6) rfl (.cons (t := 7) rfl (.cons (t := 8) rfl .nil)))); clear s4
  refine wp_block ?_
  refine wp_loop_fuel (fun m (q : Int × (List Int)) => wire_Writer_Texts.l1 k p2 m q.1 q.2) r (fun _ => rfl) (fun q a w => ∃ (v1 : Value), St ⟨28, w0, ok, (idsOf [BF b00 59 (ko_wire_Writer_0 w0_0) (⟨[]⟩ : wire_Writer), RowF w0_0 5 (kint .u8) p1.out])⟩ [BF b00 59 (ko_wire_Writer_0 v1) (⟨[]⟩ : wire_Writer), RowF v1 5 (kint .u8) q.2] [(0, (ptrB b00 0)), (6, ((ksl kstr).V p2)), (7, ((kint .i64).V (p2.length : Int))), (8, ((kint .i64).V q.1))] a w) ?_ k ((0 : Int), p1.out) _ _ h0 ⟨w0_0, (s5.sub (.cons rfl (.cons rfl (.cons rfl (.cons rfl .nil)))))⟩
  rintro n1 ⟨y1, y2⟩ a6 w6 h1 ⟨v1, s6⟩ K2 hK2
  replace h1 : wire_Writer_Texts.l1 k p2 (n1 + 1) y1 y2 = some r := h1; rw [wire_Writer_Texts.l1] at h1
  have h2 := h1; clear h1
  refine wp_seq_k fun K3 hK3 => ?_
  refine wp_region_lit ?_
  refine seq_op s6 rfl rfl (of_decide_eq_true rfl) (ob_lss rfl (.tmp rfl) (.tmp rfl)) fun a7 w7 s7 => ?_; clear s6
  refine wpList_nil ?_
  refine then_normal ?_
  refine hK3 _ _ ?_
  have s8 := s7.sub (.cons (t := 0) rfl (.cons (t := 6) rfl (.cons (t := 7) rfl (.cons (t := 8) rfl (.cons (t := 9) rfl .nil))))); clear s7
  refine wp_seq_k fun K4 hK4 => ?_
  refine cond_split s8 (.tmp rfl) (fun hc1 => ?_) (fun hc1 => ?_)
  · replace h2 := ite_t hc1 h2
    have h3 := h2; clear h2
    refine wp_skip ?_
    refine then_normal ?_
    refine hK4 _ _ ?_
    have s9 := s8.sub (.cons (t := 0) rfl (.cons (t := 6) rfl (.cons (t := 7) rfl (.cons (t := 8) rfl .nil)))); clear s8
    refine wp_seq_k fun K5 hK5 => ?_
    refine wp_block ?_
    refine wp_seq_k fun K6 hK6 => ?_
    refine wp_region_lit ?_
    obtain ⟨x1, e_x1, h4⟩ := bind_some h3; clear h3
    refine seq_op s9 rfl rfl (of_decide_eq_true rfl) (ob_indexAddrs rfl Try.underlying49 sz9 (.tmp rfl) (.tmp rfl) e_x1) fun a10 w10 s10 => ?_; clear s9
    refine seq_op s10 rfl rfl (of_decide_eq_true rfl) (ob_loadr rfl tk9 (.tmp rfl)) fun a11 w11 s11 => ?_; clear s10
    refine seq_op s11 rfl rfl (of_decide_eq_true rfl) (ob_assign rfl (.tmp rfl)) fun a12 w12 s12 => ?_; clear s11
    refine wpList_nil ?_
    refine then_normal ?_
    refine hK6 _ _ ?_
    have s13 := s12.sub (.cons (t := 0) rfl (.cons (t := 5) rfl (.cons (t := 6) rfl (.cons (t := 7) rfl (.cons (t := 8) rfl .nil))))); clear s12
    refine wp_seq_k fun K7 hK7 => ?_
    refine wp_region_lit ?_
    refine seq_op s13 rfl rfl (of_decide_eq_true rfl) (ob_move rfl (.tmp rfl)) fun a14 w14 s14 => ?_; clear s13
    refine seq_op s14 rfl rfl (of_decide_eq_true rfl) (ob_move rfl (.tmp rfl)) fun a15 w15 s15 => ?_; clear s14
    refine seq_op s15 rfl rfl (of_decide_eq_true rfl) (ob_lenStr rfl Try.underlying9 (.tmp rfl)) fun a16 w16 s16 => ?_; clear s15
    refine seq_op s16 rfl rfl (of_decide_eq_true rfl) (ob_conv rfl _ Try.underlying3 Try.underlying69 (.tmp rfl)) fun a17 w17 s17 => ?_; clear s16
    refine seq_op s17 rfl rfl (of_decide_eq_true rfl) (ob_mkSlice (k := (kint .u32)) (xs := ([(IntKind.wrap .u32 (x1.length : Int))] : (List Int))) rfl Try.underlying62 zz69 sz69 (Zr.int .u32) (by decide) (by decide) (.cons (.tmp rfl) rfl (LS.arr' (i := 0) (ys := ([(IntKind.wrap .u32 (x1.length : Int))] : (List Int))) (by simp) (by rfl)) (.nil _))) fun a18 w18 s18 => ?_; clear s17
    obtain ⟨x2, e_x2, h5⟩ := bind_some h4; clear h4
    refine seq_opx (B' := (fun v2 : Value => [BF b00 59 (ko_wire_Writer_0 v2) (⟨[]⟩ : wire_Writer), RowF v2 5 (kint .u8) x2.out])) s18 rfl rfl (of_decide_eq_true rfl) (ob_callL (args := [_, _]) (L := [_, _]) rfl .direct hb43 (List.Perm.refl _) (fun a w s fs gs hf hg => by obtain rfl := hf.unnil; obtain rfl := hg.unnil; exact c_wire_Writer_Numbers k _ _ _ e_x2 _ _ _ _ _ _ (ownL s) (disL s) (nodL s) (s.arg (.tmp rfl)) (s.arg (.tmp rfl))) (by exact fun _ => rfl)) fun v2 a19 w19 s19 => ?_; clear s18
    refine wpList_nil ?_
    refine then_normal ?_
    refine hK7 _ _ ?_
    have s20 := s19.sub (.cons (t := 0) rfl (.cons (t := 5) rfl (.cons (t := 6) rfl (.cons (t := 7) rfl (.cons (t := 8) rfl .nil))))); clear s19
    refine wp_region_lit ?_
    refine seq_op s20 rfl rfl (of_decide_eq_true rfl) (ob_move rfl (.tmp rfl)) fun a21 w21 s21 => ?_; clear s20
    refine seq_op s21 rfl rfl (of_decide_eq_true rfl) (ob_move rfl (.tmp rfl)) fun a22 w22 s22 => ?_; clear s21
    refine seq_op s22 rfl rfl (of_decide_eq_true rfl) (ob_nilCheck rfl (.tmp rfl)) fun a23 w23 s23 => ?_; clear s22
    refine seq_op s23 rfl rfl (of_decide_eq_true rfl) (ob_fieldAddr (off' := 0) rfl Try.underlying59 rfl sz23 (by decide) (.tmp rfl) rfl) fun a24 w24 s24 => ?_; clear s23
    refine seq_op s24 rfl rfl (of_decide_eq_true rfl) (ob_loadRowV rfl (tkr23 _) (.tmp rfl) (.head _) (lgo_wire_Writer_0_out (⟨[]⟩ : wire_Writer))) fun a25 w25 s25 => ?_; clear s24
    refine seq_op s25 rfl rfl (of_decide_eq_true rfl) (ob_move rfl (.tmp rfl)) fun a26 w26 s26 => ?_; clear s25
    obtain ⟨g1, h6⟩ := guard_some h5; clear h5
    refine seq_opx (B' := (fun v3 : Value => [BF b00 59 (ko_wire_Writer_0 v2) (⟨[]⟩ : wire_Writer), RowF v3 5 (kint .u8) (x2.out ++ x1)])) s26 rfl rfl (of_decide_eq_true rfl) (ob_appendStr (A := [_]) rfl Try.underlying23 Try.underlying9 ap5 by5 (.tmp rfl) (.tmp rfl) rfl g1) fun v3 a27 w27 s27 => ?_; clear s26
    refine seq_op s27 rfl rfl (of_decide_eq_true rfl) (ob_nilCheck rfl (.tmp rfl)) fun a28 w28 s28 => ?_; clear s27
    refine seq_op s28 rfl rfl (of_decide_eq_true rfl) (ob_fieldAddr (off' := 0) rfl Try.underlying59 rfl sz23 (by decide) (.tmp rfl) rfl) fun a29 w29 s29 => ?_; clear s28
    refine seq_opx0 (B' := (fun _ : Unit => [BF b00 59 (ko_wire_Writer_0 v3) (⟨[]⟩ : wire_Writer), RowF v3 5 (kint .u8) (x2.out ++ x1)])) s29 rfl rfl (ob_storeRowV (A := []) rfl (tkr23 _) (.tmp rfl) (.tmp rfl) (.tail _ (.head _)) rfl (lsk_wire_Writer_0_to_0_at0 (⟨[]⟩ : wire_Writer)) rfl) fun _ a30 w30 s30 => ?_; clear s29
    refine wpList_nil ?_
    refine in_normal ?_
    refine then_normal ?_
    refine hK5 _ _ ?_
    have s31 := s30.sub (.cons (t := 0) rfl (.cons (t := 6) rfl (.cons (t := 7) rfl (.cons (t := 8) rfl .nil)))); clear s30
    refine wp_region_lit ?_
    refine seq_op s31 rfl rfl (of_decide_eq_true rfl) (ob_add rfl (.tmp rfl) (opd_int rfl)) fun a32 w32 s32 => ?_; clear s31
    refine seq_op s32 rfl rfl (of_decide_eq_true rfl) (ob_move rfl (.tmp rfl)) fun a33 w33 s33 => ?_; clear s32
    refine wpList_nil ?_
    refine then_normal ?_
    exact hK2 ((iadd .i64 y1 (1 : Int)), (x2.out ++ x1)) _ _ h6 ⟨v3, (s33.sub (.cons rfl (.cons rfl (.cons rfl (.cons rfl .nil)))))⟩
  · replace h2 := ite_f hc1 h2
    have h7 := h2; clear h2
    refine wp_exit ?_
    refine (then_exit (then_exit (in_here ?_)))
    obtain rfl := Option.some.inj h7
    exact leaveXD (D := []) v1 s8 rfl (.inr rfl) rfl .nil rfl

/- 32 (*cabal/wire.Writer).String -/
theorem c_wire_Writer_String (k : Nat) (p1 : wire_Writer) (r : (List Int)) (h0 : wire_Writer_String k p1 = some r) (ok : Ok) (w0 : World) (z0 : Value) (u0 : (ptrTo k_wire_Writer p1).holds ok w0 z0) :
    Gives Try.prog 32 [z0] ok w0 (resFact [kstr.V r]) := by
  unfold wire_Writer_String at h0
  refine enter (N := 8) Try.func32 rfl rfl (of_decide_eq_true rfl) (.cons u0 .nil) fun a1 s1 => ?_
  refine wp_seq_k fun K1 hK1 => ?_
  refine wp_region_lit ?_
  refine seq_op s1 rfl rfl (of_decide_eq_true rfl) (ob_assign rfl (opd_str (by rfl) (by decide))) fun a2 w2 s2 => ?_; clear s1
  refine wpList_nil ?_
  refine then_normal ?_
  refine hK1 _ _ ?_
  have s3 := s2.sub (.cons (t := 0) rfl .nil); clear s2
  refine wp_seq_k fun K2 hK2 => ?_
  refine wp_region_lit ?_
  refine seq_op s3 rfl rfl (of_decide_eq_true rfl) (ob_move rfl (.tmp rfl)) fun a4 w4 s4 => ?_; clear s3
  refine seq_op s4 rfl rfl (of_decide_eq_true rfl) (ob_nilCheckr rfl (.tmp rfl)) fun a5 w5 s5 => ?_; clear s4
  refine seq_op s5 rfl rfl (of_decide_eq_true rfl) (ob_fieldAddrr rfl Try.underlying59 rfl sz23 (by decide) (.tmp rfl) (lg_wire_Writer_out p1)) fun a6 w6 s6 => ?_; clear s5
  refine seq_op s6 rfl rfl (of_decide_eq_true rfl) (ob_loadr rfl tk23 (.tmp rfl)) fun a7 w7 s7 => ?_; clear s6
  refine seq_op s7 rfl rfl (of_decide_eq_true rfl) (ob_bytesToStr rfl Try.underlying23 Try.underlying9 Try.underlying5 (.tmp rfl)) fun a8 w8 s8 => ?_; clear s7
  refine seq_op s8 rfl rfl (of_decide_eq_true rfl) (ob_assign rfl (.tmp rfl)) fun a9 w9 s9 => ?_; clear s8
  refine wpList_nil ?_
  refine then_normal ?_
  refine hK2 _ _ ?_
  have s10 := s9.sub (.cons (t := 2) rfl .nil); clear s9
  refine wp_ret ?_
  obtain rfl := Option.some.inj h0
  exact leave s10 (.inl rfl) rfl (.cons (.tmp rfl) .nil)

/- 33 cabal/wire.NewReader -/
theorem c_wire_NewReader (k : Nat) (p1 : (List Int)) (r : wire_Reader) (h0 : wire_NewReader k p1 = some r) (ok : Ok) (w0 : World) (z0 : Value) (u0 : (kstr.V p1).holds ok w0 z0) :
    GivesX Try.prog 33 [z0] ok w0 [] (fun g : Nat => resFact [ptrB g 0]) (fun g : Nat => [BF g 101 k_wire_Reader r]) := by
  unfold wire_NewReader at h0
  refine enterX (N := 6) Try.func33 rfl rfl (of_decide_eq_true rfl) (.cons u0 .nil) List.nodup_nil (fun _ h => by cases h) (fun _ h => by cases h) fun a1 s1 => ?_
  refine wp_seq_k fun K1 hK1 => ?_
  refine wp_region_lit ?_
  refine seq_op s1 rfl rfl (of_decide_eq_true rfl) (ob_assign rfl opd_is) fun a2 w2 s2 => ?_; clear s1
  refine wpList_nil ?_
  refine then_normal ?_
  refine hK1 _ _ ?_
  have s3 := s2.sub (.cons (t := 0) rfl .nil); clear s2
  refine wp_seq_k fun K2 hK2 => ?_
  refine wp_region_lit ?_
  refine seq_op s3 rfl rfl (of_decide_eq_true rfl) (ob_move rfl (.tmp rfl)) fun a4 w4 s4 => ?_; clear s3
  refine seq_op s4 rfl rfl (of_decide_eq_true rfl) (ob_mkStruct (K := k_wire_Reader) (X0 := (⟨[], (0 : Int)⟩ : wire_Reader)) rfl Try.underlying101 zz101 rfl pl101 (Zr.iso (f := t_wire_Reader) (x := (⟨[], (0 : Int)⟩ : wire_Reader)) (Zr.pair Zr.str (Zr.pair (Zr.int .i64) Zr.nil))) (.cons (.tmp rfl) rfl (ls_wire_Reader_s (⟨[], (0 : Int)⟩ : wire_Reader) p1) (.nil _))) fun a5 w5 s5 => ?_; clear s4
  refine seq_opx (B' := (fun b1 : Nat => [BF b1 101 k_wire_Reader (⟨p1, (0 : Int)⟩ : wire_Reader)])) s5 rfl rfl (of_decide_eq_true rfl) (ob_box rfl (.tmp rfl)) fun b1 a6 w6 s6 => ?_; clear s5
  refine seq_op s6 rfl rfl (of_decide_eq_true rfl) (ob_assign rfl (.tmp rfl)) fun a7 w7 s7 => ?_; clear s6
  refine wpList_nil ?_
  refine then_normal ?_
  refine hK2 _ _ ?_
  have s8 := s7.sub (.cons (t := 2) rfl .nil); clear s7
  refine wp_ret ?_
  obtain rfl := Option.some.inj h0
  exact leaveXD (D := []) b1 s8 rfl (.inl rfl) rfl (.cons (.tmp rfl) .nil) rfl

/- 60 (*cabal/wire.Reader).number -/
theorem c_wire_Reader_number (k : Nat) (p1 : wire_Reader) (r : (Int × Int × Int)) (h0 : wire_Reader_number k p1 = some r) (ok : Ok) (w0 : World) (z0 : Value) (u0 : (ptrTo k_wire_Reader p1).holds ok w0 z0) :
    Gives Try.prog 60 [z0] ok w0 (resFact [(kint .u32).V r.1, (kint .i64).V r.2.1, (kint .i64).V r.2.2]) := by
  unfold wire_Reader_number at h0
  refine enter (N := 53) Try.func60 rfl rfl (of_decide_eq_true rfl) (.cons u0 .nil) fun a1 s1 => ?_
  refine wp_seq_k fun K1 hK1 => ?_
  refine wp_region_lit ?_
  refine seq_op s1 rfl rfl (of_decide_eq_true rfl) (ob_assign rfl (opd_int rfl)) fun a2 w2 s2 => ?_; clear s1
  refine seq_op s2 rfl rfl (of_decide_eq_true rfl) (ob_assign rfl (opd_int rfl)) fun a3 w3 s3 => ?_; clear s2
  refine seq_op s3 rfl rfl (of_decide_eq_true rfl) (ob_assign rfl (opd_int rfl)) fun a4 w4 s4 => ?_; clear s3
  refine wpList_nil ?_
  refine then_normal ?_
  refine hK1 _ _ ?_
  have s5 := s4.sub (.cons (t := 0) rfl .nil); clear s4
  refine wp_scope_straight ?_
  refine wp_seq_k fun K2 hK2 => ?_
  refine wp_region_lit ?_
  refine seq_op s5 rfl rfl (of_decide_eq_true rfl) (ob_assign rfl (opd_int rfl)) fun a6 w6 s6 => ?_; clear s5
  refine wpList_nil ?_
  refine then_normal ?_
  refine hK2 _ _ ?_
  have s7 := s6.sub (.cons (t := 0) rfl (.cons (t := 5) rfl .nil)); clear s6
  refine wp_seq_k fun K3 hK3 => ?_
  refine wp_region_lit ?_
  refine seq_op s7 rfl rfl (of_decide_eq_true rfl) (ob_assign rfl (opd_int rfl)) fun a8 w8 s8 => ?_; clear s7
  refine wpList_nil ?_
  refine then_normal ?_
  refine hK3 _ _ ?_
  have s9 := s8.sub (.cons (t := 0) rfl (.cons (t := 5) rfl (.cons (t := 6) rfl .nil))); clear s8
  refine wp_seq_k fun K4 hK4 => ?_
  refine wp_label ?_
  refine then_normal ?_
  refine hK4 _ _ ?_
  have s10 := s9.sub (.cons (t := 0) rfl (.cons (t := 5) rfl (.cons (t := 6) rfl .nil))); clear s9
  refine wp_seq_k fun K5 hK5 => ?_
  refine wp_seq_k fun K6 hK6 => ?_
  refine wp_region_lit ?_
  refine seq_op s10 rfl rfl (of_decide_eq_true rfl) (ob_move rfl (.tmp rfl)) fun a11 w11 s11 => ?_; clear s10
  refine seq_op s11 rfl rfl (of_decide_eq_true rfl) (ob_nilCheckr rfl (.tmp rfl)) fun a12 w12 s12 => ?_; clear s11
  refine seq_op s12 rfl rfl (of_decide_eq_true rfl) (ob_fieldAddrr rfl Try.underlying101 rfl sz9 (by decide) (.tmp rfl) (lg_wire_Reader_s p1)) fun a13 w13 s13 => ?_; clear s12
  refine seq_op s13 rfl rfl (of_decide_eq_true rfl) (ob_loadr rfl tk9 (.tmp rfl)) fun a14 w14 s14 => ?_; clear s13
  refine seq_op s14 rfl rfl (of_decide_eq_true rfl) (ob_lenStr rfl Try.underlying9 (.tmp rfl)) fun a15 w15 s15 => ?_; clear s14
  refine seq_op s15 rfl rfl (of_decide_eq_true rfl) (ob_move rfl (opd_int rfl)) fun a16 w16 s16 => ?_; clear s15
  refine wpList_nil ?_
  refine then_normal ?_
  refine hK6 _ _ ?_
  have s17 := s16.sub (.cons (t := 0) rfl (.cons (t := 5) rfl (.cons (t := 6) rfl (.cons (t := 13) rfl (.cons (t := 14) rfl .nil))))); clear s16
  have hj1 : ∀ (y1 : Int) (a : Act) (w : World), (wire_Reader_number.j1 k) y1 = some r → St ⟨53, w0, ok, []⟩ [] [(6, ((kint .i64).V y1))] a w → K5 a w := by
    intro y1 a18 w18 h1 s18
    unfold wire_Reader_number.j1 at h1
    refine hK5 _ _ ?_
    refine wp_seq_k fun K7 hK7 => ?_
    refine wp_region_lit ?_
    refine seq_op s18 rfl rfl (of_decide_eq_true rfl) (ob_move rfl (.tmp rfl)) fun a19 w19 s19 => ?_; clear s18
    refine seq_op s19 rfl rfl (of_decide_eq_true rfl) (ob_assign rfl (opd_int rfl)) fun a20 w20 s20 => ?_; clear s19
    refine seq_op s20 rfl rfl (of_decide_eq_true rfl) (ob_assign rfl (opd_int rfl)) fun a21 w21 s21 => ?_; clear s20
    refine seq_op s21 rfl rfl (of_decide_eq_true rfl) (ob_assign rfl (.tmp rfl)) fun a22 w22 s22 => ?_; clear s21
    refine wpList_nil ?_
    refine then_normal ?_
    refine hK7 _ _ ?_
    have s23 := s22.sub (.cons (t := 2) rfl (.cons (t := 3) rfl (.cons (t := 4) rfl .nil))); clear s22
    refine wp_ret ?_
    obtain rfl := Option.some.inj h1
    exact leave s23 (.inl rfl) rfl (.cons (.tmp rfl) (.cons (.tmp rfl) (.cons (.tmp rfl) .nil)))
  refine wp_block ?_
  refine wp_loop_fuel (fun m (q : Int × Int) => wire_Reader_number.l1 k p1 m q.1 q.2) r (fun _ => rfl) (fun q a w => St ⟨53, w0, ok, []⟩ [] [(0, (ptrTo k_wire_Reader p1)), (5, ((kint .u64).V q.1)), (6, ((kint .i64).V (3 : Int))), (13, ((kint .i64).V (p1.s.length : Int))), (14, ((kint .i64).V q.2))] a w) ?_ k ((0 : Int), (0 : Int)) _ _ h0 (s17.sub (.cons rfl (.cons rfl (.cons rfl (.cons rfl (.cons rfl .nil))))))
  rintro n1 ⟨y2, y3⟩ a24 w24 h2 s24 K8 hK8
  replace h2 : wire_Reader_number.l1 k p1 (n1 + 1) y2 y3 = some r := h2; rw [wire_Reader_number.l1] at h2
  have h3 := h2; clear h2
  refine wp_seq_k fun K9 hK9 => ?_
  refine wp_region_lit ?_
  refine seq_op s24 rfl rfl (of_decide_eq_true rfl) (ob_lss rfl (.tmp rfl) (.tmp rfl)) fun a25 w25 s25 => ?_; clear s24
  refine wpList_nil ?_
  refine then_normal ?_
  refine hK9 _ _ ?_
  have s26 := s25.sub (.cons (t := 0) rfl (.cons (t := 5) rfl (.cons (t := 6) rfl (.cons (t := 13) rfl (.cons (t := 14) rfl (.cons (t := 15) rfl .nil)))))); clear s25
  refine wp_seq_k fun K10 hK10 => ?_
  refine cond_split s26 (.tmp rfl) (fun hc1 => ?_) (fun hc1 => ?_)
  · replace h3 := ite_t hc1 h3
    have h4 := h3; clear h3
    refine wp_skip ?_
    refine then_normal ?_
    refine hK10 _ _ ?_
    have s27 := s26.sub (.cons (t := 0) rfl (.cons (t := 5) rfl (.cons (t := 6) rfl (.cons (t := 13) rfl (.cons (t := 14) rfl .nil))))); clear s26
    refine wp_seq_k fun K11 hK11 => ?_
    refine wp_block ?_
    refine wp_seq_k fun K12 hK12 => ?_
    refine wp_region_lit ?_
    refine seq_op s27 rfl rfl (of_decide_eq_true rfl) (ob_move rfl (.tmp rfl)) fun a28 w28 s28 => ?_; clear s27
    refine seq_op s28 rfl rfl (of_decide_eq_true rfl) (ob_assign rfl (.tmp rfl)) fun a29 w29 s29 => ?_; clear s28
    refine wpList_nil ?_
    refine then_normal ?_
    refine hK12 _ _ ?_
    have s30 := s29.sub (.cons (t := 0) rfl (.cons (t := 5) rfl (.cons (t := 6) rfl (.cons (t := 7) rfl (.cons (t := 13) rfl (.cons (t := 14) rfl .nil)))))); clear s29
    refine wp_seq_k fun K13 hK13 => ?_
    refine wp_region_lit ?_
    refine seq_op s30 rfl rfl (of_decide_eq_true rfl) (ob_move rfl (.tmp rfl)) fun a31 w31 s31 => ?_; clear s30
    refine seq_op s31 rfl rfl (of_decide_eq_true rfl) (ob_nilCheckr rfl (.tmp rfl)) fun a32 w32 s32 => ?_; clear s31
    refine seq_op s32 rfl rfl (of_decide_eq_true rfl) (ob_fieldAddrr rfl Try.underlying101 rfl sz9 (by decide) (.tmp rfl) (lg_wire_Reader_s p1)) fun a33 w33 s33 => ?_; clear s32
    refine seq_op s33 rfl rfl (of_decide_eq_true rfl) (ob_loadr rfl tk9 (.tmp rfl)) fun a34 w34 s34 => ?_; clear s33
    refine seq_op s34 rfl rfl (of_decide_eq_true rfl) (ob_move rfl (.tmp rfl)) fun a35 w35 s35 => ?_; clear s34
    obtain ⟨x1, e_x1, h5⟩ := bind_some h4; clear h4
    refine seq_op s35 rfl rfl (of_decide_eq_true rfl) (ob_indexStr rfl Try.underlying9 (.tmp rfl) (.tmp rfl) e_x1) fun a36 w36 s36 => ?_; clear s35
    refine seq_op s36 rfl rfl (of_decide_eq_true rfl) (ob_assign rfl (.tmp rfl)) fun a37 w37 s37 => ?_; clear s36
    refine wpList_nil ?_
    refine then_normal ?_
    refine hK13 _ _ ?_
    have s38 := s37.sub (.cons (t := 0) rfl (.cons (t := 5) rfl (.cons (t := 6) rfl (.cons (t := 7) rfl (.cons (t := 8) rfl (.cons (t := 13) rfl (.cons (t := 14) rfl .nil))))))); clear s37
    refine wp_seq_k fun K14 hK14 => ?_
    refine wp_region_lit ?_
    refine seq_op s38 rfl rfl (of_decide_eq_true rfl) (ob_move rfl (.tmp rfl)) fun a39 w39 s39 => ?_; clear s38
    refine seq_op s39 rfl rfl (of_decide_eq_true rfl) (ob_shl rfl (.tmp rfl) (opd_int rfl) (by decide)) fun a40 w40 s40 => ?_; clear s39
    refine seq_op s40 rfl rfl (of_decide_eq_true rfl) (ob_move rfl (.tmp rfl)) fun a41 w41 s41 => ?_; clear s40
    refine seq_op s41 rfl rfl (of_decide_eq_true rfl) (ob_andNot rfl (.tmp rfl) (opd_int rfl)) fun a42 w42 s42 => ?_; clear s41
    refine seq_op s42 rfl rfl (of_decide_eq_true rfl) (ob_conv rfl _ Try.underlying5 Try.underlying106 (.tmp rfl)) fun a43 w43 s43 => ?_; clear s42
    obtain ⟨x2, e_x2, h6⟩ := bind_some h5; clear h5; replace e_x2 := Option.some.inj e_x2
    refine seq_op s43 rfl rfl (of_decide_eq_true rfl) ((ob_or rfl (.tmp rfl) (.tmp rfl)).nm e_x2) fun a44 w44 s44 => ?_; clear s43
    refine seq_op s44 rfl rfl (of_decide_eq_true rfl) (ob_assign rfl (.tmp rfl)) fun a45 w45 s45 => ?_; clear s44
    refine wpList_nil ?_
    refine then_normal ?_
    refine hK14 _ _ ?_
    have s46 := s45.sub (.cons (t := 0) rfl (.cons (t := 5) rfl (.cons (t := 6) rfl (.cons (t := 7) rfl (.cons (t := 8) rfl (.cons (t := 13) rfl (.cons (t := 14) rfl .nil))))))); clear s45
    refine wp_block ?_
    refine wp_seq_k fun K15 hK15 => ?_
    refine wp_seq_k fun K16 hK16 => ?_
    refine wp_region_lit ?_
    refine seq_op s46 rfl rfl (of_decide_eq_true rfl) (ob_move rfl (.tmp rfl)) fun a47 w47 s47 => ?_; clear s46
    refine seq_op s47 rfl rfl (of_decide_eq_true rfl) (ob_eql rfl (.tmp rfl) (opd_int rfl)) fun a48 w48 s48 => ?_; clear s47
    refine seq_op s48 rfl rfl (of_decide_eq_true rfl) (ob_move rfl (.tmp rfl)) fun a49 w49 s49 => ?_; clear s48
    refine seq_opg s49 rfl rfl rfl rfl (of_decide_eq_true rfl) (fun hb => ob_move rfl (.tmp rfl)) fun a50 w50 s50 => ?_; clear s49
    refine seq_opg s50 rfl rfl rfl rfl (of_decide_eq_true rfl) (fun hb => (Ob.uncond (t := 33) hb rfl (ob_eql rfl (.tmp rfl) (opd_int rfl)))) fun a51 w51 s51 => ?_; clear s50
    refine seq_op s51 rfl rfl (of_decide_eq_true rfl) (ob_and2 rfl (.tmp rfl) (.tmp rfl) opd_bool) fun a52 w52 s52 => ?_; clear s51
    refine seq_op s52 rfl rfl (of_decide_eq_true rfl) (ob_assign rfl (.tmp rfl)) fun a53 w53 s53 => ?_; clear s52
    refine wpList_nil ?_
    refine then_normal ?_
    refine hK16 _ _ ?_
    have s54 := s53.sub (.cons (t := 0) rfl (.cons (t := 5) rfl (.cons (t := 6) rfl (.cons (t := 7) rfl (.cons (t := 8) rfl (.cons (t := 13) rfl (.cons (t := 14) rfl (.cons (t := 29) rfl .nil)))))))); clear s53
    have hj2 : ∀ (y4 : Bool) (a : Act) (w : World), (wire_Reader_number.j2 k x1 x2 y3 (wire_Reader_number.l1 k p1 n1)) y4 = some r → St ⟨53, w0, ok, []⟩ [] [(0, (ptrTo k_wire_Reader p1)), (5, ((kint .u64).V x2)), (6, ((kint .i64).V (3 : Int))), (7, ((kint .i64).V y3)), (8, ((kint .u8).V x1)), (13, ((kint .i64).V (p1.s.length : Int))), (14, ((kint .i64).V y3)), (29, (kbool.V y4))] a w → K15 a w := by
      intro y4 a55 w55 h7 s55
      unfold wire_Reader_number.j2 at h7
      refine hK15 _ _ ?_
      refine cond_split s55 (.tmp rfl) (fun hc2 => ?_) (fun hc2 => ?_)
      · replace h7 := ite_t hc2 h7
        have h8 := h7; clear h7
        refine wp_seq_k fun K17 hK17 => ?_
        refine wp_region_lit ?_
        refine seq_op s55 rfl rfl (of_decide_eq_true rfl) (ob_assign rfl (opd_int rfl)) fun a56 w56 s56 => ?_; clear s55
        refine wpList_nil ?_
        refine then_normal ?_
        refine hK17 _ _ ?_
        have s57 := s56.sub (.cons (t := 6) rfl .nil); clear s56
        refine wp_exit ?_
        refine (in_other (by decide) (in_other (by decide) (then_exit (then_exit (in_here ?_)))))
        refine then_normal ?_
        exact hj1 (4 : Int) _ _ h8 (s57.sub (.cons rfl .nil))
      · replace h7 := ite_f hc2 h7
        have h9 := h7; clear h7
        refine wp_seq_k fun K18 hK18 => ?_
        refine wp_region_lit ?_
        refine seq_op s55 rfl rfl (of_decide_eq_true rfl) (ob_move rfl (.tmp rfl)) fun a58 w58 s58 => ?_; clear s55
        refine seq_op s58 rfl rfl (of_decide_eq_true rfl) (ob_lss rfl (.tmp rfl) (opd_int rfl)) fun a59 w59 s59 => ?_; clear s58
        refine seq_op s59 rfl rfl (of_decide_eq_true rfl) (ob_assign rfl (.tmp rfl)) fun a60 w60 s60 => ?_; clear s59
        refine wpList_nil ?_
        refine then_normal ?_
        refine hK18 _ _ ?_
        have s61 := s60.sub (.cons (t := 0) rfl (.cons (t := 5) rfl (.cons (t := 6) rfl (.cons (t := 7) rfl (.cons (t := 13) rfl (.cons (t := 14) rfl (.cons (t := 44) rfl .nil))))))); clear s60
        refine cond_split s61 (.tmp rfl) (fun hc3 => ?_) (fun hc3 => ?_)
        · replace h9 := ite_t hc3 h9
          have h10 := h9; clear h9
          refine wp_seq_k fun K19 hK19 => ?_
          refine wp_region_lit ?_
          refine seq_op s61 rfl rfl (of_decide_eq_true rfl) (ob_move rfl (.tmp rfl)) fun a62 w62 s62 => ?_; clear s61
          refine seq_op s62 rfl rfl (of_decide_eq_true rfl) (ob_conv rfl _ Try.underlying106 Try.underlying69 (.tmp rfl)) fun a63 w63 s63 => ?_; clear s62
          refine seq_op s63 rfl rfl (of_decide_eq_true rfl) (ob_move rfl (.tmp rfl)) fun a64 w64 s64 => ?_; clear s63
          refine seq_op s64 rfl rfl (of_decide_eq_true rfl) (ob_add rfl (.tmp rfl) (opd_int rfl)) fun a65 w65 s65 => ?_; clear s64
          refine seq_op s65 rfl rfl (of_decide_eq_true rfl) (ob_assign rfl (.tmp rfl)) fun a66 w66 s66 => ?_; clear s65
          refine seq_op s66 rfl rfl (of_decide_eq_true rfl) (ob_assign rfl (.tmp rfl)) fun a67 w67 s67 => ?_; clear s66
          refine seq_op s67 rfl rfl (of_decide_eq_true rfl) (ob_assign rfl (opd_int rfl)) fun a68 w68 s68 => ?_; clear s67
          refine wpList_nil ?_
          refine then_normal ?_
          refine hK19 _ _ ?_
          have s69 := s68.sub (.cons (t := 2) rfl (.cons (t := 3) rfl (.cons (t := 4) rfl .nil))); clear s68
          refine wp_ret ?_
          obtain rfl := Option.some.inj h10
          exact leave s69 (.inl rfl) rfl (.cons (.tmp rfl) (.cons (.tmp rfl) (.cons (.tmp rfl) .nil)))
        · replace h9 := ite_f hc3 h9
          have h11 := h9; clear h9
          refine wp_skip ?_
          refine in_normal ?_
          refine in_normal ?_
          refine then_normal ?_
          refine hK11 _ _ ?_
          have s70 := s61.sub (.cons (t := 0) rfl (.cons (t := 5) rfl (.cons (t := 6) rfl (.cons (t := 13) rfl (.cons (t := 14) rfl (.cons (t := 44) rfl .nil)))))); clear s61
          refine wp_region_lit ?_
          refine seq_op s70 rfl rfl (of_decide_eq_true rfl) (ob_add rfl (.tmp rfl) (opd_int rfl)) fun a71 w71 s71 => ?_; clear s70
          refine seq_op s71 rfl rfl (of_decide_eq_true rfl) (ob_move rfl (.tmp rfl)) fun a72 w72 s72 => ?_; clear s71
          refine wpList_nil ?_
          refine then_normal ?_
          exact hK8 (x2, (iadd .i64 y3 (1 : Int))) _ _ h11 (s72.sub (.cons rfl (.cons rfl (.cons rfl (.cons rfl (.cons rfl .nil))))))
    refine cond_split s54 (.tmp rfl) (fun hc4 => ?_) (fun hc4 => ?_)
    · replace h6 := ite_t hc4 h6
      have h12 := h6; clear h6
      refine wp_skip ?_
      refine then_normal ?_
      exact hj2 (if (x1 == (128 : Int)) then (y3 == (0 : Int)) else false) _ _ h12 (s54.sub (.cons rfl (.cons rfl (.cons rfl (.cons rfl (.cons rfl (.cons rfl (.cons rfl (.cons rfl .nil)))))))))
    · replace h6 := ite_f hc4 h6
      have h13 := h6; clear h6
      refine wp_seq_k fun K20 hK20 => ?_
      refine wp_region_lit ?_
      refine seq_op s54 rfl rfl (of_decide_eq_true rfl) (ob_move rfl (.tmp rfl)) fun a73 w73 s73 => ?_; clear s54
      refine seq_op s73 rfl rfl (of_decide_eq_true rfl) (ob_geq rfl (.tmp rfl) (opd_int rfl)) fun a74 w74 s74 => ?_; clear s73
      refine seq_op s74 rfl rfl (of_decide_eq_true rfl) (ob_assign rfl (.tmp rfl)) fun a75 w75 s75 => ?_; clear s74
      refine wpList_nil ?_
      refine then_normal ?_
      refine hK20 _ _ ?_
      have s76 := s75.sub (.cons (t := 0) rfl (.cons (t := 5) rfl (.cons (t := 6) rfl (.cons (t := 7) rfl (.cons (t := 8) rfl (.cons (t := 13) rfl (.cons (t := 14) rfl (.cons (t := 29) rfl .nil)))))))); clear s75
      refine cond_split s76 (.tmp rfl) (fun hc5 => ?_) (fun hc5 => ?_)
      · replace h13 := ite_t hc5 h13
        have h14 := h13; clear h13
        refine wp_skip ?_
        refine then_normal ?_
        exact hj2 (decide (x2 ≥ (4294967296 : Int))) _ _ h14 (s76.sub (.cons rfl (.cons rfl (.cons rfl (.cons rfl (.cons rfl (.cons rfl (.cons rfl (.cons rfl .nil)))))))))
      · replace h13 := ite_f hc5 h13
        have h15 := h13; clear h13
        refine wp_region_lit ?_
        refine seq_op s76 rfl rfl (of_decide_eq_true rfl) (ob_move rfl (.tmp rfl)) fun a77 w77 s77 => ?_; clear s76
        refine seq_op s77 rfl rfl (of_decide_eq_true rfl) (ob_eql rfl (.tmp rfl) (opd_int rfl)) fun a78 w78 s78 => ?_; clear s77
        refine seq_op s78 rfl rfl (of_decide_eq_true rfl) (ob_move rfl (.tmp rfl)) fun a79 w79 s79 => ?_; clear s78
        refine seq_opg s79 rfl rfl rfl rfl (of_decide_eq_true rfl) (fun hb => ob_move rfl (.tmp rfl)) fun a80 w80 s80 => ?_; clear s79
        refine seq_opg s80 rfl rfl rfl rfl (of_decide_eq_true rfl) (fun hb => (Ob.uncond (t := 41) hb rfl (ob_geq rfl (.tmp rfl) (opd_int rfl)))) fun a81 w81 s81 => ?_; clear s80
        refine seq_op s81 rfl rfl (of_decide_eq_true rfl) (ob_and2 rfl (.tmp rfl) (.tmp rfl) opd_bool) fun a82 w82 s82 => ?_; clear s81
        refine seq_op s82 rfl rfl (of_decide_eq_true rfl) (ob_assign rfl (.tmp rfl)) fun a83 w83 s83 => ?_; clear s82
        refine wpList_nil ?_
        refine then_normal ?_
        exact hj2 (if (y3 == (4 : Int)) then (decide (x1 ≥ (128 : Int))) else false) _ _ h15 (s83.sub (.cons rfl (.cons rfl (.cons rfl (.cons rfl (.cons rfl (.cons rfl (.cons rfl (.cons rfl .nil)))))))))
  · replace h3 := ite_f hc1 h3
    have h16 := h3; clear h3
    refine wp_exit ?_
    refine (then_exit (then_exit (in_here ?_)))
    refine then_normal ?_
    exact hj1 (3 : Int) _ _ h16 (s26.sub (.cons rfl .nil))

/- 34 (*cabal/wire.Reader).Number -/
theorem c_wire_Reader_Number (k : Nat) (p1 : wire_Reader) (r : (Int × wire_Reader)) (h0 : wire_Reader_Number k p1 = some r) (ok : Ok) (w0 : World) (z0 : Value) (b00 : Nat) (l0 : ∀ q, q ∈ [BF b00 101 k_wire_Reader p1] → q.holds ok w0) (d0 : ∀ c, c ∈ idsOf [BF b00 101 k_wire_Reader p1] → ¬ ok c) (nd : (idsOf [BF b00 101 k_wire_Reader p1]).Nodup) (u0 : (ptrB b00 0).holds ok w0 z0) :
    GivesX Try.prog 34 [z0] ok w0 [BF b00 101 k_wire_Reader p1] (fun g : Unit => resFact [(kint .u32).V r.1]) (fun g : Unit => [BF b00 101 k_wire_Reader r.2]) := by
  unfold wire_Reader_Number at h0
  refine enterX (N := 31) Try.func34 rfl rfl (of_decide_eq_true rfl) (.cons u0 .nil) nd l0 d0 fun a1 s1 => ?_
  refine wp_seq_k fun K1 hK1 => ?_
  refine wp_region_lit ?_
  refine seq_op s1 rfl rfl (of_decide_eq_true rfl) (ob_assign rfl (opd_int rfl)) fun a2 w2 s2 => ?_; clear s1
  refine wpList_nil ?_
  refine then_normal ?_
  refine hK1 _ _ ?_
  have s3 := s2.sub (.cons (t := 0) rfl .nil); clear s2
  refine wp_seq_k fun K2 hK2 => ?_
  refine wp_seq_k fun K3 hK3 => ?_
  refine wp_region_lit ?_
  refine seq_op s3 rfl rfl (of_decide_eq_true rfl) (ob_move rfl (.tmp rfl)) fun a4 w4 s4 => ?_; clear s3
  refine seq_op s4 rfl rfl (of_decide_eq_true rfl) (ob_nilCheck rfl (.tmp rfl)) fun a5 w5 s5 => ?_; clear s4
  refine seq_op s5 rfl rfl (of_decide_eq_true rfl) (ob_fieldAddr (off' := 1) rfl Try.underlying101 rfl sz31 (by decide) (.tmp rfl) rfl) fun a6 w6 s6 => ?_; clear s5
  refine seq_op s6 rfl rfl (of_decide_eq_true rfl) (ob_load rfl tk31 (.tmp rfl) (.head _) (lg_wire_Reader_err p1)) fun a7 w7 s7 => ?_; clear s6
  refine seq_op s7 rfl rfl (of_decide_eq_true rfl) (ob_neq rfl (.tmp rfl) (opd_int rfl)) fun a8 w8 s8 => ?_; clear s7
  refine wpList_nil ?_
  refine then_normal ?_
  refine hK3 _ _ ?_
  have s9 := s8.sub (.cons (t := 0) rfl (.cons (t := 10) rfl .nil)); clear s8
  refine cond_split s9 (.tmp rfl) (fun hc1 => ?_) (fun hc1 => ?_)
  · replace h0 := ite_t hc1 h0
    have h1 := h0; clear h0
    refine wp_seq_k fun K4 hK4 => ?_
    refine wp_region_lit ?_
    refine seq_op s9 rfl rfl (of_decide_eq_true rfl) (ob_assign rfl (opd_int rfl)) fun a10 w10 s10 => ?_; clear s9
    refine wpList_nil ?_
    refine then_normal ?_
    refine hK4 _ _ ?_
    have s11 := s10.sub (.cons (t := 2) rfl .nil); clear s10
    refine wp_ret ?_
    obtain rfl := Option.some.inj h1
    exact leaveXD (D := []) () s11 rfl (.inl rfl) rfl (.cons (.tmp rfl) .nil) rfl
  · replace h0 := ite_f hc1 h0
    have h2 := h0; clear h0
    refine wp_skip ?_
    refine then_normal ?_
    refine hK2 _ _ ?_
    have s12 := s9.sub (.cons (t := 0) rfl .nil); clear s9
    refine wp_seq_k fun K5 hK5 => ?_
    refine wp_region_lit ?_
    refine seq_op s12 rfl rfl (of_decide_eq_true rfl) (ob_move rfl (.tmp rfl)) fun a13 w13 s13 => ?_; clear s12
    obtain ⟨x1, e_x1, h3⟩ := bind_some h2; clear h2
    refine seq_op s13 rfl rfl (of_decide_eq_true rfl) ((ob_lendG (L := [_]) (List.Perm.refl _) (.cons (t := 12) rfl (lendPtrB (.head _) (LG.refl _ _)) .nil) (Flat.res3 (Flat.V (KFlat.int _)) (Flat.V (KFlat.int _)) (Flat.V (KFlat.int _))) (fun _ => ob_callD (args := [_]) rfl .direct hb60 (fun a w s fs gs hf hg => by obtain rfl := hf.unnil; obtain rfl := hg.unnil; exact c_wire_Reader_number k _ _ e_x1 _ _ _ (s.arg (.tmp rfl)))))) fun a14 w14 s14 => ?_; clear s13
    refine seq_op s14 rfl rfl (of_decide_eq_true rfl) (ob_move rfl (.tmp rfl)) fun a15 w15 s15 => ?_; clear s14
    refine seq_op s15 rfl rfl (of_decide_eq_true rfl) (ob_extract rfl (.tmp rfl) rfl) fun a16 w16 s16 => ?_; clear s15
    refine seq_op s16 rfl rfl (of_decide_eq_true rfl) (ob_extract rfl (.tmp rfl) rfl) fun a17 w17 s17 => ?_; clear s16
    refine seq_op s17 rfl rfl (of_decide_eq_true rfl) (ob_extract rfl (.tmp rfl) rfl) fun a18 w18 s18 => ?_; clear s17
    refine seq_op s18 rfl rfl (of_decide_eq_true rfl) (ob_assign rfl (.tmp rfl)) fun a19 w19 s19 => ?_; clear s18
    refine seq_op s19 rfl rfl (of_decide_eq_true rfl) (ob_assign rfl (.tmp rfl)) fun a20 w20 s20 => ?_; clear s19
    refine seq_op s20 rfl rfl (of_decide_eq_true rfl) (ob_assign rfl (.tmp rfl)) fun a21 w21 s21 => ?_; clear s20
    refine wpList_nil ?_
    refine then_normal ?_
    refine hK5 _ _ ?_
    have s22 := s21.sub (.cons (t := 0) rfl (.cons (t := 3) rfl (.cons (t := 4) rfl (.cons (t := 5) rfl .nil)))); clear s21
    refine wp_seq_k fun K6 hK6 => ?_
    refine wp_region_lit ?_
    refine seq_op s22 rfl rfl (of_decide_eq_true rfl) (ob_move rfl (.tmp rfl)) fun a23 w23 s23 => ?_; clear s22
    refine seq_op s23 rfl rfl (of_decide_eq_true rfl) (ob_move rfl (.tmp rfl)) fun a24 w24 s24 => ?_; clear s23
    refine seq_op s24 rfl rfl (of_decide_eq_true rfl) (ob_move rfl (.tmp rfl)) fun a25 w25 s25 => ?_; clear s24
    refine seq_op s25 rfl rfl (of_decide_eq_true rfl) (ob_nilCheck rfl (.tmp rfl)) fun a26 w26 s26 => ?_; clear s25
    refine seq_op s26 rfl rfl (of_decide_eq_true rfl) (ob_fieldAddr (off' := 0) rfl Try.underlying101 rfl sz9 (by decide) (.tmp rfl) rfl) fun a27 w27 s27 => ?_; clear s26
    refine seq_op s27 rfl rfl (of_decide_eq_true rfl) (ob_load rfl tk9 (.tmp rfl) (.head _) (lg_wire_Reader_s p1)) fun a28 w28 s28 => ?_; clear s27
    refine seq_op s28 rfl rfl (of_decide_eq_true rfl) (ob_move rfl (.tmp rfl)) fun a29 w29 s29 => ?_; clear s28
    obtain ⟨x2, e_x2, h4⟩ := bind_some h3; clear h3
    refine seq_op s29 rfl rfl (of_decide_eq_true rfl) (ob_cutStr rfl Try.underlying9 (.tmp rfl) (.some (.tmp rfl)) .none e_x2) fun a30 w30 s30 => ?_; clear s29
    refine seq_op s30 rfl rfl (of_decide_eq_true rfl) (ob_move rfl (.tmp rfl)) fun a31 w31 s31 => ?_; clear s30
    refine seq_op s31 rfl rfl (of_decide_eq_true rfl) (ob_nilCheck rfl (.tmp rfl)) fun a32 w32 s32 => ?_; clear s31
    refine seq_op s32 rfl rfl (of_decide_eq_true rfl) (ob_fieldAddr (off' := 0) rfl Try.underlying101 rfl sz9 (by decide) (.tmp rfl) rfl) fun a33 w33 s33 => ?_; clear s32
    refine seq_opx0 (B' := (fun _ : Unit => [BF b00 101 k_wire_Reader ({ p1 with s := x2 })])) s33 rfl rfl (ob_store (A := []) rfl tk9 (.tmp rfl) (.tmp rfl) rfl (ls_wire_Reader_s p1 x2) rfl) fun _ a34 w34 s34 => ?_; clear s33
    refine seq_op s34 rfl rfl (of_decide_eq_true rfl) (ob_nilCheck rfl (.tmp rfl)) fun a35 w35 s35 => ?_; clear s34
    refine seq_op s35 rfl rfl (of_decide_eq_true rfl) (ob_fieldAddr (off' := 1) rfl Try.underlying101 rfl sz31 (by decide) (.tmp rfl) rfl) fun a36 w36 s36 => ?_; clear s35
    refine seq_opx0 (B' := (fun _ : Unit => [BF b00 101 k_wire_Reader ({ { p1 with s := x2 } with err := x1.2.2 })])) s36 rfl rfl (ob_store (A := []) rfl tk31 (.tmp rfl) (.tmp rfl) rfl (ls_wire_Reader_err ({ p1 with s := x2 }) x1.2.2) rfl) fun _ a37 w37 s37 => ?_; clear s36
    refine wpList_nil ?_
    refine then_normal ?_
    refine hK6 _ _ ?_
    have s38 := s37.sub (.cons (t := 3) rfl .nil); clear s37
    refine wp_seq_k fun K7 hK7 => ?_
    refine wp_region_lit ?_
    refine seq_op s38 rfl rfl (of_decide_eq_true rfl) (ob_move rfl (.tmp rfl)) fun a39 w39 s39 => ?_; clear s38
    refine seq_op s39 rfl rfl (of_decide_eq_true rfl) (ob_assign rfl (.tmp rfl)) fun a40 w40 s40 => ?_; clear s39
    refine wpList_nil ?_
    refine then_normal ?_
    refine hK7 _ _ ?_
    have s41 := s40.sub (.cons (t := 2) rfl .nil); clear s40
    refine wp_ret ?_
    obtain rfl := Option.some.inj h4
    exact leaveXD (D := []) () s41 rfl (.inl rfl) rfl (.cons (.tmp rfl) .nil) rfl

/- 62 (*cabal/wire.Reader).count -/
theorem c_wire_Reader_count (k : Nat) (p1 : wire_Reader) (p2 : Int) (r : (Int × wire_Reader)) (h0 : wire_Reader_count k p1 p2 = some r) (ok : Ok) (w0 : World) (z0 : Value) (z1 : Value) (b00 : Nat) (l0 : ∀ q, q ∈ [BF b00 101 k_wire_Reader p1] → q.holds ok w0) (d0 : ∀ c, c ∈ idsOf [BF b00 101 k_wire_Reader p1] → ¬ ok c) (nd : (idsOf [BF b00 101 k_wire_Reader p1]).Nodup) (u0 : (ptrB b00 0).holds ok w0 z0) (u1 : ((kint .i64).V p2).holds ok w0 z1) :
    GivesX Try.prog 62 [z0, z1] ok w0 [BF b00 101 k_wire_Reader p1] (fun g : Unit => resFact [(kint .i64).V r.1]) (fun g : Unit => [BF b00 101 k_wire_Reader r.2]) := by
  unfold wire_Reader_count at h0
  refine enterX (N := 34) Try.func62 rfl rfl (of_decide_eq_true rfl) (.cons u0 (.cons u1 .nil)) nd l0 d0 fun a1 s1 => ?_
  refine wp_seq_k fun K1 hK1 => ?_
  refine wp_region_lit ?_
  refine seq_op s1 rfl rfl (of_decide_eq_true rfl) (ob_assign rfl (opd_int rfl)) fun a2 w2 s2 => ?_; clear s1
  refine wpList_nil ?_
  refine then_normal ?_
  refine hK1 _ _ ?_
  have s3 := s2.sub (.cons (t := 0) rfl (.cons (t := 1) rfl .nil)); clear s2
  refine wp_seq_k fun K2 hK2 => ?_
  refine wp_region_lit ?_
  refine seq_op s3 rfl rfl (of_decide_eq_true rfl) (ob_move rfl (.tmp rfl)) fun a4 w4 s4 => ?_; clear s3
  refine seq_op s4 rfl rfl (of_decide_eq_true rfl) (ob_nilCheck rfl (.tmp rfl)) fun a5 w5 s5 => ?_; clear s4
  refine seq_op s5 rfl rfl (of_decide_eq_true rfl) (ob_fieldAddr (off' := 0) rfl Try.underlying101 rfl sz9 (by decide) (.tmp rfl) rfl) fun a6 w6 s6 => ?_; clear s5
  refine seq_op s6 rfl rfl (of_decide_eq_true rfl) (ob_load rfl tk9 (.tmp rfl) (.head _) (lg_wire_Reader_s p1)) fun a7 w7 s7 => ?_; clear s6
  refine seq_op s7 rfl rfl (of_decide_eq_true rfl) (ob_assign rfl (.tmp rfl)) fun a8 w8 s8 => ?_; clear s7
  refine wpList_nil ?_
  refine then_normal ?_
  refine hK2 _ _ ?_
  have s9 := s8.sub (.cons (t := 0) rfl (.cons (t := 1) rfl (.cons (t := 5) rfl .nil))); clear s8
  refine wp_seq_k fun K3 hK3 => ?_
  refine wp_region_lit ?_
  refine seq_op s9 rfl rfl (of_decide_eq_true rfl) (ob_move rfl (.tmp rfl)) fun a10 w10 s10 => ?_; clear s9
  obtain ⟨x1, e_x1, h1⟩ := bind_some h0; clear h0
  refine seq_opx (B' := (fun _ : Unit => [BF b00 101 k_wire_Reader x1.2])) s10 rfl rfl (of_decide_eq_true rfl) (ob_callL (args := [_]) (L := [_]) rfl .direct hb34 (List.Perm.refl _) (fun a w s fs gs hf hg => by obtain rfl := hf.unnil; obtain rfl := hg.unnil; exact c_wire_Reader_Number k _ _ e_x1 _ _ _ _ (ownL s) (disL s) (nodL s) (s.arg (.tmp rfl))) (by exact fun _ => rfl)) fun _ a11 w11 s11 => ?_; clear s10
  refine seq_op s11 rfl rfl (of_decide_eq_true rfl) (ob_assign rfl (.tmp rfl)) fun a12 w12 s12 => ?_; clear s11
  refine wpList_nil ?_
  refine then_normal ?_
  refine hK3 _ _ ?_
  have s13 := s12.sub (.cons (t := 0) rfl (.cons (t := 1) rfl (.cons (t := 5) rfl (.cons (t := 6) rfl .nil)))); clear s12
  refine wp_seq_k fun K4 hK4 => ?_
  refine wp_seq_k fun K5 hK5 => ?_
  refine wp_region_lit ?_
  refine seq_op s13 rfl rfl (of_decide_eq_true rfl) (ob_move rfl (.tmp rfl)) fun a14 w14 s14 => ?_; clear s13
  refine seq_op s14 rfl rfl (of_decide_eq_true rfl) (ob_nilCheck rfl (.tmp rfl)) fun a15 w15 s15 => ?_; clear s14
  refine seq_op s15 rfl rfl (of_decide_eq_true rfl) (ob_fieldAddr (off' := 1) rfl Try.underlying101 rfl sz31 (by decide) (.tmp rfl) rfl) fun a16 w16 s16 => ?_; clear s15
  refine seq_op s16 rfl rfl (of_decide_eq_true rfl) (ob_load rfl tk31 (.tmp rfl) (.head _) (lg_wire_Reader_err x1.2)) fun a17 w17 s17 => ?_; clear s16
  refine seq_op s17 rfl rfl (of_decide_eq_true rfl) (ob_eql rfl (.tmp rfl) (opd_int rfl)) fun a18 w18 s18 => ?_; clear s17
  refine seq_op s18 rfl rfl (of_decide_eq_true rfl) (ob_move rfl (.tmp rfl)) fun a19 w19 s19 => ?_; clear s18
  refine seq_opg s19 rfl rfl rfl rfl (of_decide_eq_true rfl) (fun hb => ob_move rfl (.tmp rfl)) fun a20 w20 s20 => ?_; clear s19
  refine seq_opg s20 rfl rfl rfl rfl (of_decide_eq_true rfl) (fun hb => (Ob.uncond (t := 19) hb rfl (ob_conv rfl _ Try.underlying69 Try.underlying2 (.tmp rfl)))) fun a21 w21 s21 => ?_; clear s20
  refine seq_opg s21 rfl rfl rfl rfl (of_decide_eq_true rfl) (fun hb => ob_move rfl (.tmp rfl)) fun a22 w22 s22 => ?_; clear s21
  refine seq_opg s22 rfl rfl rfl rfl (of_decide_eq_true rfl) (fun hb => (Ob.uncond (t := 21) hb rfl (ob_max rfl (.tmp rfl) (opd_int rfl)))) fun a23 w23 s23 => ?_; clear s22
  obtain ⟨x2, e_x2, h2⟩ := bind_some h1; clear h1; replace e_x2 := Option.some.inj e_x2
  refine seq_opg s23 rfl rfl rfl rfl (of_decide_eq_true rfl) (fun hb => (Ob.uncond (t := 22) hb rfl ((Ob.uncond (t := 20) hb rfl ((ob_gtr rfl (.tmp rfl) (.tmp rfl)).nm e_x2))))) fun a24 w24 s24 => ?_; clear s23
  refine seq_op s24 rfl rfl (of_decide_eq_true rfl) (ob_and2 rfl (.tmp rfl) (.tmp rfl) opd_bool) fun a25 w25 s25 => ?_; clear s24
  refine wpList_nil ?_
  refine then_normal ?_
  refine hK5 _ _ ?_
  have s26 := s25.sub (.cons (t := 0) rfl (.cons (t := 5) rfl (.cons (t := 6) rfl (.cons (t := 24) rfl .nil)))); clear s25
  refine cond_split s26 (.tmp rfl) (fun hc1 => ?_) (fun hc1 => ?_)
  · replace h2 := ite_t hc1 h2
    have h3 := h2; clear h2
    refine wp_seq_k fun K6 hK6 => ?_
    refine wp_region_lit ?_
    refine seq_op s26 rfl rfl (of_decide_eq_true rfl) (ob_move rfl (.tmp rfl)) fun a27 w27 s27 => ?_; clear s26
    refine seq_op s27 rfl rfl (of_decide_eq_true rfl) (ob_move rfl (.tmp rfl)) fun a28 w28 s28 => ?_; clear s27
    refine seq_op s28 rfl rfl (of_decide_eq_true rfl) (ob_move rfl (.tmp rfl)) fun a29 w29 s29 => ?_; clear s28
    refine seq_op s29 rfl rfl (of_decide_eq_true rfl) (ob_nilCheck rfl (.tmp rfl)) fun a30 w30 s30 => ?_; clear s29
    refine seq_op s30 rfl rfl (of_decide_eq_true rfl) (ob_fieldAddr (off' := 0) rfl Try.underlying101 rfl sz9 (by decide) (.tmp rfl) rfl) fun a31 w31 s31 => ?_; clear s30
    refine seq_opx0 (B' := (fun _ : Unit => [BF b00 101 k_wire_Reader ({ x1.2 with s := p1.s })])) s31 rfl rfl (ob_store (A := []) rfl tk9 (.tmp rfl) (.tmp rfl) rfl (ls_wire_Reader_s x1.2 p1.s) rfl) fun _ a32 w32 s32 => ?_; clear s31
    refine seq_op s32 rfl rfl (of_decide_eq_true rfl) (ob_nilCheck rfl (.tmp rfl)) fun a33 w33 s33 => ?_; clear s32
    refine seq_op s33 rfl rfl (of_decide_eq_true rfl) (ob_fieldAddr (off' := 1) rfl Try.underlying101 rfl sz31 (by decide) (.tmp rfl) rfl) fun a34 w34 s34 => ?_; clear s33
    refine seq_opx0 (B' := (fun _ : Unit => [BF b00 101 k_wire_Reader ({ { x1.2 with s := p1.s } with err := (5 : Int) })])) s34 rfl rfl (ob_store (A := []) rfl tk31 (.tmp rfl) (opd_int rfl) rfl (ls_wire_Reader_err ({ x1.2 with s := p1.s }) (5 : Int)) rfl) fun _ a35 w35 s35 => ?_; clear s34
    refine wpList_nil ?_
    refine then_normal ?_
    refine hK6 _ _ ?_
    have s36 := s35.sub .nil; clear s35
    refine wp_seq_k fun K7 hK7 => ?_
    refine wp_region_lit ?_
    refine seq_op s36 rfl rfl (of_decide_eq_true rfl) (ob_assign rfl (opd_int rfl)) fun a37 w37 s37 => ?_; clear s36
    refine wpList_nil ?_
    refine then_normal ?_
    refine hK7 _ _ ?_
    have s38 := s37.sub (.cons (t := 4) rfl .nil); clear s37
    refine wp_ret ?_
    obtain rfl := Option.some.inj h3
    exact leaveXD (D := []) () s38 rfl (.inl rfl) rfl (.cons (.tmp rfl) .nil) rfl
  · replace h2 := ite_f hc1 h2
    have h4 := h2; clear h2
    refine wp_skip ?_
    refine then_normal ?_
    refine hK4 _ _ ?_
    have s39 := s26.sub (.cons (t := 6) rfl .nil); clear s26
    refine wp_seq_k fun K8 hK8 => ?_
    refine wp_region_lit ?_
    refine seq_op s39 rfl rfl (of_decide_eq_true rfl) (ob_move rfl (.tmp rfl)) fun a40 w40 s40 => ?_; clear s39
    refine seq_op s40 rfl rfl (of_decide_eq_true rfl) (ob_conv rfl _ Try.underlying69 Try.underlying3 (.tmp rfl)) fun a41 w41 s41 => ?_; clear s40
    refine seq_op s41 rfl rfl (of_decide_eq_true rfl) (ob_assign rfl (.tmp rfl)) fun a42 w42 s42 => ?_; clear s41
    refine wpList_nil ?_
    refine then_normal ?_
    refine hK8 _ _ ?_
    have s43 := s42.sub (.cons (t := 4) rfl .nil); clear s42
    refine wp_ret ?_
    obtain rfl := Option.some.inj h4
    exact leaveXD (D := []) () s43 rfl (.inl rfl) rfl (.cons (.tmp rfl) .nil) rfl

/- 61 (*cabal/wire.Reader).take -/
theorem c_wire_Reader_take (k : Nat) (p1 : wire_Reader) (p2 : Int) (r : ((List Int) × wire_Reader)) (h0 : wire_Reader_take k p1 p2 = some r) (ok : Ok) (w0 : World) (z0 : Value) (z1 : Value) (b00 : Nat) (l0 : ∀ q, q ∈ [BF b00 101 k_wire_Reader p1] → q.holds ok w0) (d0 : ∀ c, c ∈ idsOf [BF b00 101 k_wire_Reader p1] → ¬ ok c) (nd : (idsOf [BF b00 101 k_wire_Reader p1]).Nodup) (u0 : (ptrB b00 0).holds ok w0 z0) (u1 : ((kint .i64).V p2).holds ok w0 z1) :
    GivesX Try.prog 61 [z0, z1] ok w0 [BF b00 101 k_wire_Reader p1] (fun g : Unit => resFact [kstr.V r.1]) (fun g : Unit => [BF b00 101 k_wire_Reader r.2]) := by
  unfold wire_Reader_take at h0
  refine enterX (N := 44) Try.func61 rfl rfl (of_decide_eq_true rfl) (.cons u0 (.cons u1 .nil)) nd l0 d0 fun a1 s1 => ?_
  refine wp_seq_k fun K1 hK1 => ?_
  refine wp_region_lit ?_
  refine seq_op s1 rfl rfl (of_decide_eq_true rfl) (ob_assign rfl (opd_str (by rfl) (by decide))) fun a2 w2 s2 => ?_; clear s1
  refine wpList_nil ?_
  refine then_normal ?_
  refine hK1 _ _ ?_
  have s3 := s2.sub (.cons (t := 0) rfl (.cons (t := 1) rfl .nil)); clear s2
  refine wp_seq_k fun K2 hK2 => ?_
  refine wp_seq_k fun K3 hK3 => ?_
  refine wp_region_lit ?_
  refine seq_op s3 rfl rfl (of_decide_eq_true rfl) (ob_move rfl (.tmp rfl)) fun a4 w4 s4 => ?_; clear s3
  refine seq_op s4 rfl rfl (of_decide_eq_true rfl) (ob_nilCheck rfl (.tmp rfl)) fun a5 w5 s5 => ?_; clear s4
  refine seq_op s5 rfl rfl (of_decide_eq_true rfl) (ob_fieldAddr (off' := 1) rfl Try.underlying101 rfl sz31 (by decide) (.tmp rfl) rfl) fun a6 w6 s6 => ?_; clear s5
  refine seq_op s6 rfl rfl (of_decide_eq_true rfl) (ob_load rfl tk31 (.tmp rfl) (.head _) (lg_wire_Reader_err p1)) fun a7 w7 s7 => ?_; clear s6
  refine seq_op s7 rfl rfl (of_decide_eq_true rfl) (ob_eql rfl (.tmp rfl) (opd_int rfl)) fun a8 w8 s8 => ?_; clear s7
  refine seq_op s8 rfl rfl (of_decide_eq_true rfl) (ob_move rfl (.tmp rfl)) fun a9 w9 s9 => ?_; clear s8
  refine seq_opg s9 rfl rfl rfl rfl (of_decide_eq_true rfl) (fun hb => ob_move rfl (.tmp rfl)) fun a10 w10 s10 => ?_; clear s9
  refine seq_opg s10 rfl rfl rfl rfl (of_decide_eq_true rfl) (fun hb => ob_move rfl (.tmp rfl)) fun a11 w11 s11 => ?_; clear s10
  refine seq_opg s11 rfl rfl rfl rfl (of_decide_eq_true rfl) (fun hb => (Ob.uncond (t := 13) hb rfl (ob_nilCheck rfl (.tmp rfl)))) fun a12 w12 s12 => ?_; clear s11
  refine seq_opg s12 rfl rfl rfl rfl (of_decide_eq_true rfl) (fun hb => (Ob.uncond (t := 14) hb rfl (ob_fieldAddr (off' := 0) rfl Try.underlying101 rfl sz9 (by decide) (.tmp rfl) rfl))) fun a13 w13 s13 => ?_; clear s12
  refine seq_opg s13 rfl rfl rfl rfl (of_decide_eq_true rfl) (fun hb => (Ob.uncond (t := 15) hb rfl (ob_load rfl tk9 (.tmp rfl) (.head _) (lg_wire_Reader_s p1)))) fun a14 w14 s14 => ?_; clear s13
  refine seq_opg s14 rfl rfl rfl rfl (of_decide_eq_true rfl) (fun hb => (Ob.uncond (t := 16) hb rfl (ob_lenStr rfl Try.underlying9 (.tmp rfl)))) fun a15 w15 s15 => ?_; clear s14
  refine seq_opg s15 rfl rfl rfl rfl (of_decide_eq_true rfl) (fun hb => (Ob.uncond (t := 17) hb rfl ((Ob.uncond (t := 12) hb rfl (ob_gtr rfl (.tmp rfl) (.tmp rfl)))))) fun a16 w16 s16 => ?_; clear s15
  obtain ⟨x1, e_x1, h1⟩ := bind_some h0; clear h0; replace e_x1 := Option.some.inj e_x1
  refine seq_op s16 rfl rfl (of_decide_eq_true rfl) ((ob_and2 rfl (.tmp rfl) (.tmp rfl) opd_bool).nm e_x1) fun a17 w17 s17 => ?_; clear s16
  refine wpList_nil ?_
  refine then_normal ?_
  refine hK3 _ _ ?_
  have s18 := s17.sub (.cons (t := 0) rfl (.cons (t := 1) rfl (.cons (t := 19) rfl .nil))); clear s17
  have hj1 : ∀ (y1 : wire_Reader) (a : Act) (w : World), (wire_Reader_take.j1 k p2) y1 = some r → St ⟨44, w0, ok, (idsOf [BF b00 101 k_wire_Reader p1])⟩ [BF b00 101 k_wire_Reader y1] [(0, (ptrB b00 0)), (1, ((kint .i64).V p2))] a w → K2 a w := by
    intro y1 a19 w19 h2 s19
    unfold wire_Reader_take.j1 at h2
    refine hK2 _ _ ?_
    refine wp_seq_k fun K4 hK4 => ?_
    refine wp_seq_k fun K5 hK5 => ?_
    refine wp_region_lit ?_
    refine seq_op s19 rfl rfl (of_decide_eq_true rfl) (ob_move rfl (.tmp rfl)) fun a20 w20 s20 => ?_; clear s19
    refine seq_op s20 rfl rfl (of_decide_eq_true rfl) (ob_nilCheck rfl (.tmp rfl)) fun a21 w21 s21 => ?_; clear s20
    refine seq_op s21 rfl rfl (of_decide_eq_true rfl) (ob_fieldAddr (off' := 1) rfl Try.underlying101 rfl sz31 (by decide) (.tmp rfl) rfl) fun a22 w22 s22 => ?_; clear s21
    refine seq_op s22 rfl rfl (of_decide_eq_true rfl) (ob_load rfl tk31 (.tmp rfl) (.head _) (lg_wire_Reader_err y1)) fun a23 w23 s23 => ?_; clear s22
    refine seq_op s23 rfl rfl (of_decide_eq_true rfl) (ob_neq rfl (.tmp rfl) (opd_int rfl)) fun a24 w24 s24 => ?_; clear s23
    refine wpList_nil ?_
    refine then_normal ?_
    refine hK5 _ _ ?_
    have s25 := s24.sub (.cons (t := 0) rfl (.cons (t := 1) rfl (.cons (t := 27) rfl .nil))); clear s24
    refine cond_split s25 (.tmp rfl) (fun hc1 => ?_) (fun hc1 => ?_)
    · replace h2 := ite_t hc1 h2
      have h3 := h2; clear h2
      refine wp_seq_k fun K6 hK6 => ?_
      refine wp_region_lit ?_
      refine seq_op s25 rfl rfl (of_decide_eq_true rfl) (ob_assign rfl (opd_str (by rfl) (by decide))) fun a26 w26 s26 => ?_; clear s25
      refine wpList_nil ?_
      refine then_normal ?_
      refine hK6 _ _ ?_
      have s27 := s26.sub (.cons (t := 4) rfl .nil); clear s26
      refine wp_ret ?_
      obtain rfl := Option.some.inj h3
      exact leaveXD (D := []) () s27 rfl (.inl rfl) rfl (.cons (.tmp rfl) .nil) rfl
    · replace h2 := ite_f hc1 h2
      have h4 := h2; clear h2
      refine wp_skip ?_
      refine then_normal ?_
      refine hK4 _ _ ?_
      have s28 := s25.sub (.cons (t := 0) rfl (.cons (t := 1) rfl .nil)); clear s25
      refine wp_seq_k fun K7 hK7 => ?_
      refine wp_region_lit ?_
      refine seq_op s28 rfl rfl (of_decide_eq_true rfl) (ob_move rfl (.tmp rfl)) fun a29 w29 s29 => ?_; clear s28
      refine seq_op s29 rfl rfl (of_decide_eq_true rfl) (ob_nilCheck rfl (.tmp rfl)) fun a30 w30 s30 => ?_; clear s29
      refine seq_op s30 rfl rfl (of_decide_eq_true rfl) (ob_fieldAddr (off' := 0) rfl Try.underlying101 rfl sz9 (by decide) (.tmp rfl) rfl) fun a31 w31 s31 => ?_; clear s30
      refine seq_op s31 rfl rfl (of_decide_eq_true rfl) (ob_load rfl tk9 (.tmp rfl) (.head _) (lg_wire_Reader_s y1)) fun a32 w32 s32 => ?_; clear s31
      refine seq_op s32 rfl rfl (of_decide_eq_true rfl) (ob_move rfl (.tmp rfl)) fun a33 w33 s33 => ?_; clear s32
      obtain ⟨x2, e_x2, h5⟩ := bind_some h4; clear h4
      refine seq_op s33 rfl rfl (of_decide_eq_true rfl) (ob_cutStr rfl Try.underlying9 (.tmp rfl) .none (.some (.tmp rfl)) e_x2) fun a34 w34 s34 => ?_; clear s33
      refine seq_op s34 rfl rfl (of_decide_eq_true rfl) (ob_assign rfl (.tmp rfl)) fun a35 w35 s35 => ?_; clear s34
      refine wpList_nil ?_
      refine then_normal ?_
      refine hK7 _ _ ?_
      have s36 := s35.sub (.cons (t := 0) rfl (.cons (t := 1) rfl (.cons (t := 5) rfl .nil))); clear s35
      refine wp_seq_k fun K8 hK8 => ?_
      refine wp_region_lit ?_
      refine seq_op s36 rfl rfl (of_decide_eq_true rfl) (ob_move rfl (.tmp rfl)) fun a37 w37 s37 => ?_; clear s36
      refine seq_op s37 rfl rfl (of_decide_eq_true rfl) (ob_move rfl (.tmp rfl)) fun a38 w38 s38 => ?_; clear s37
      refine seq_op s38 rfl rfl (of_decide_eq_true rfl) (ob_nilCheck rfl (.tmp rfl)) fun a39 w39 s39 => ?_; clear s38
      refine seq_op s39 rfl rfl (of_decide_eq_true rfl) (ob_fieldAddr (off' := 0) rfl Try.underlying101 rfl sz9 (by decide) (.tmp rfl) rfl) fun a40 w40 s40 => ?_; clear s39
      refine seq_op s40 rfl rfl (of_decide_eq_true rfl) (ob_load rfl tk9 (.tmp rfl) (.head _) (lg_wire_Reader_s y1)) fun a41 w41 s41 => ?_; clear s40
      refine seq_op s41 rfl rfl (of_decide_eq_true rfl) (ob_move rfl (.tmp rfl)) fun a42 w42 s42 => ?_; clear s41
      obtain ⟨x3, e_x3, h6⟩ := bind_some h5; clear h5
      refine seq_op s42 rfl rfl (of_decide_eq_true rfl) (ob_cutStr rfl Try.underlying9 (.tmp rfl) (.some (.tmp rfl)) .none e_x3) fun a43 w43 s43 => ?_; clear s42
      refine seq_op s43 rfl rfl (of_decide_eq_true rfl) (ob_nilCheck rfl (.tmp rfl)) fun a44 w44 s44 => ?_; clear s43
      refine seq_op s44 rfl rfl (of_decide_eq_true rfl) (ob_fieldAddr (off' := 0) rfl Try.underlying101 rfl sz9 (by decide) (.tmp rfl) rfl) fun a45 w45 s45 => ?_; clear s44
      refine seq_opx0 (B' := (fun _ : Unit => [BF b00 101 k_wire_Reader ({ y1 with s := x3 })])) s45 rfl rfl (ob_store (A := []) rfl tk9 (.tmp rfl) (.tmp rfl) rfl (ls_wire_Reader_s y1 x3) rfl) fun _ a46 w46 s46 => ?_; clear s45
      refine wpList_nil ?_
      refine then_normal ?_
      refine hK8 _ _ ?_
      have s47 := s46.sub (.cons (t := 5) rfl .nil); clear s46
      refine wp_seq_k fun K9 hK9 => ?_
      refine wp_region_lit ?_
      refine seq_op s47 rfl rfl (of_decide_eq_true rfl) (ob_move rfl (.tmp rfl)) fun a48 w48 s48 => ?_; clear s47
      refine seq_op s48 rfl rfl (of_decide_eq_true rfl) (ob_assign rfl (.tmp rfl)) fun a49 w49 s49 => ?_; clear s48
      refine wpList_nil ?_
      refine then_normal ?_
      refine hK9 _ _ ?_
      have s50 := s49.sub (.cons (t := 4) rfl .nil); clear s49
      refine wp_ret ?_
      obtain rfl := Option.some.inj h6
      exact leaveXD (D := []) () s50 rfl (.inl rfl) rfl (.cons (.tmp rfl) .nil) rfl
  refine cond_split s18 (.tmp rfl) (fun hc2 => ?_) (fun hc2 => ?_)
  · replace h1 := ite_t hc2 h1
    have h7 := h1; clear h1
    refine wp_region_lit ?_
    refine seq_op s18 rfl rfl (of_decide_eq_true rfl) (ob_move rfl (.tmp rfl)) fun a51 w51 s51 => ?_; clear s18
    refine seq_op s51 rfl rfl (of_decide_eq_true rfl) (ob_nilCheck rfl (.tmp rfl)) fun a52 w52 s52 => ?_; clear s51
    refine seq_op s52 rfl rfl (of_decide_eq_true rfl) (ob_fieldAddr (off' := 1) rfl Try.underlying101 rfl sz31 (by decide) (.tmp rfl) rfl) fun a53 w53 s53 => ?_; clear s52
    refine seq_opx0 (B' := (fun _ : Unit => [BF b00 101 k_wire_Reader ({ p1 with err := (3 : Int) })])) s53 rfl rfl (ob_store (A := []) rfl tk31 (.tmp rfl) (opd_int rfl) rfl (ls_wire_Reader_err p1 (3 : Int)) rfl) fun _ a54 w54 s54 => ?_; clear s53
    refine wpList_nil ?_
    refine then_normal ?_
    exact hj1 ({ p1 with err := (3 : Int) }) _ _ h7 (s54.sub (.cons rfl (.cons rfl .nil)))
  · replace h1 := ite_f hc2 h1
    have h8 := h1; clear h1
    refine wp_skip ?_
    refine then_normal ?_
    exact hj1 p1 _ _ h8 (s18.sub (.cons rfl (.cons rfl .nil)))

/- 35 (*cabal/wire.Reader).Text -/
theorem c_wire_Reader_Text (k : Nat) (p1 : wire_Reader) (p2 : Int) (r : ((List Int) × wire_Reader)) (h0 : wire_Reader_Text k p1 p2 = some r) (ok : Ok) (w0 : World) (z0 : Value) (z1 : Value) (b00 : Nat) (l0 : ∀ q, q ∈ [BF b00 101 k_wire_Reader p1] → q.holds ok w0) (d0 : ∀ c, c ∈ idsOf [BF b00 101 k_wire_Reader p1] → ¬ ok c) (nd : (idsOf [BF b00 101 k_wire_Reader p1]).Nodup) (u0 : (ptrB b00 0).holds ok w0 z0) (u1 : ((kint .i64).V p2).holds ok w0 z1) :
    GivesX Try.prog 35 [z0, z1] ok w0 [BF b00 101 k_wire_Reader p1] (fun g : Unit => resFact [kstr.V r.1]) (fun g : Unit => [BF b00 101 k_wire_Reader r.2]) := by
  unfold wire_Reader_Text at h0
  refine enterX (N := 26) Try.func35 rfl rfl (of_decide_eq_true rfl) (.cons u0 (.cons u1 .nil)) nd l0 d0 fun a1 s1 => ?_
  refine wp_seq_k fun K1 hK1 => ?_
  refine wp_region_lit ?_
  refine seq_op s1 rfl rfl (of_decide_eq_true rfl) (ob_assign rfl (opd_str (by rfl) (by decide))) fun a2 w2 s2 => ?_; clear s1
  refine wpList_nil ?_
  refine then_normal ?_
  refine hK1 _ _ ?_
  have s3 := s2.sub (.cons (t := 0) rfl (.cons (t := 1) rfl .nil)); clear s2
  refine wp_seq_k fun K2 hK2 => ?_
  refine wp_region_lit ?_
  refine seq_op s3 rfl rfl (of_decide_eq_true rfl) (ob_move rfl (.tmp rfl)) fun a4 w4 s4 => ?_; clear s3
  refine seq_op s4 rfl rfl (of_decide_eq_true rfl) (ob_nilCheck rfl (.tmp rfl)) fun a5 w5 s5 => ?_; clear s4
  refine seq_op s5 rfl rfl (of_decide_eq_true rfl) (ob_fieldAddr (off' := 0) rfl Try.underlying101 rfl sz9 (by decide) (.tmp rfl) rfl) fun a6 w6 s6 => ?_; clear s5
  refine seq_op s6 rfl rfl (of_decide_eq_true rfl) (ob_load rfl tk9 (.tmp rfl) (.head _) (lg_wire_Reader_s p1)) fun a7 w7 s7 => ?_; clear s6
  refine seq_op s7 rfl rfl (of_decide_eq_true rfl) (ob_assign rfl (.tmp rfl)) fun a8 w8 s8 => ?_; clear s7
  refine wpList_nil ?_
  refine then_normal ?_
  refine hK2 _ _ ?_
  have s9 := s8.sub (.cons (t := 0) rfl (.cons (t := 1) rfl (.cons (t := 5) rfl .nil))); clear s8
  refine wp_seq_k fun K3 hK3 => ?_
  refine wp_region_lit ?_
  refine seq_op s9 rfl rfl (of_decide_eq_true rfl) (ob_move rfl (.tmp rfl)) fun a10 w10 s10 => ?_; clear s9
  refine seq_op s10 rfl rfl (of_decide_eq_true rfl) (ob_move rfl (.tmp rfl)) fun a11 w11 s11 => ?_; clear s10
  refine seq_op s11 rfl rfl (of_decide_eq_true rfl) (ob_move rfl (.tmp rfl)) fun a12 w12 s12 => ?_; clear s11
  obtain ⟨x1, e_x1, h1⟩ := bind_some h0; clear h0
  refine seq_opx (B' := (fun _ : Unit => [BF b00 101 k_wire_Reader x1.2])) s12 rfl rfl (of_decide_eq_true rfl) (ob_callL (args := [_, _]) (L := [_]) rfl .direct hb62 (List.Perm.refl _) (fun a w s fs gs hf hg => by obtain rfl := hf.unnil; obtain rfl := hg.unnil; exact c_wire_Reader_count k _ _ _ e_x1 _ _ _ _ _ (ownL s) (disL s) (nodL s) (s.arg (.tmp rfl)) (s.arg (.tmp rfl))) (by exact fun _ => rfl)) fun _ a13 w13 s13 => ?_; clear s12
  obtain ⟨x2, e_x2, h2⟩ := bind_some h1; clear h1
  refine seq_opx (B' := (fun _ : Unit => [BF b00 101 k_wire_Reader x2.2])) s13 rfl rfl (of_decide_eq_true rfl) (ob_callL (args := [_, _]) (L := [_]) rfl .direct hb61 (List.Perm.refl _) (fun a w s fs gs hf hg => by obtain rfl := hf.unnil; obtain rfl := hg.unnil; exact c_wire_Reader_take k _ _ _ e_x2 _ _ _ _ _ (ownL s) (disL s) (nodL s) (s.arg (.tmp rfl)) (s.arg (.tmp rfl))) (by exact fun _ => rfl)) fun _ a14 w14 s14 => ?_; clear s13
  refine seq_op s14 rfl rfl (of_decide_eq_true rfl) (ob_assign rfl (.tmp rfl)) fun a15 w15 s15 => ?_; clear s14
  refine wpList_nil ?_
  refine then_normal ?_
  refine hK3 _ _ ?_
  have s16 := s15.sub (.cons (t := 0) rfl (.cons (t := 5) rfl (.cons (t := 6) rfl .nil))); clear s15
  refine wp_seq_k fun K4 hK4 => ?_
  refine wp_seq_k fun K5 hK5 => ?_
  refine wp_region_lit ?_
  refine seq_op s16 rfl rfl (of_decide_eq_true rfl) (ob_move rfl (.tmp rfl)) fun a17 w17 s17 => ?_; clear s16
  refine seq_op s17 rfl rfl (of_decide_eq_true rfl) (ob_nilCheck rfl (.tmp rfl)) fun a18 w18 s18 => ?_; clear s17
  refine seq_op s18 rfl rfl (of_decide_eq_true rfl) (ob_fieldAddr (off' := 1) rfl Try.underlying101 rfl sz31 (by decide) (.tmp rfl) rfl) fun a19 w19 s19 => ?_; clear s18
  refine seq_op s19 rfl rfl (of_decide_eq_true rfl) (ob_load rfl tk31 (.tmp rfl) (.head _) (lg_wire_Reader_err x2.2)) fun a20 w20 s20 => ?_; clear s19
  refine seq_op s20 rfl rfl (of_decide_eq_true rfl) (ob_neq rfl (.tmp rfl) (opd_int rfl)) fun a21 w21 s21 => ?_; clear s20
  refine wpList_nil ?_
  refine then_normal ?_
  refine hK5 _ _ ?_
  have s22 := s21.sub (.cons (t := 0) rfl (.cons (t := 5) rfl (.cons (t := 6) rfl (.cons (t := 20) rfl .nil)))); clear s21
  have hj1 : ∀ (y1 : wire_Reader) (a : Act) (w : World), (wire_Reader_Text.j1 k x2) y1 = some r → St ⟨26, w0, ok, (idsOf [BF b00 101 k_wire_Reader p1])⟩ [BF b00 101 k_wire_Reader y1] [(6, (kstr.V x2.1))] a w → K4 a w := by
    intro y1 a23 w23 h3 s23
    unfold wire_Reader_Text.j1 at h3
    refine hK4 _ _ ?_
    refine wp_seq_k fun K6 hK6 => ?_
    refine wp_region_lit ?_
    refine seq_op s23 rfl rfl (of_decide_eq_true rfl) (ob_move rfl (.tmp rfl)) fun a24 w24 s24 => ?_; clear s23
    refine seq_op s24 rfl rfl (of_decide_eq_true rfl) (ob_assign rfl (.tmp rfl)) fun a25 w25 s25 => ?_; clear s24
    refine wpList_nil ?_
    refine then_normal ?_
    refine hK6 _ _ ?_
    have s26 := s25.sub (.cons (t := 4) rfl .nil); clear s25
    refine wp_ret ?_
    obtain rfl := Option.some.inj h3
    exact leaveXD (D := []) () s26 rfl (.inl rfl) rfl (.cons (.tmp rfl) .nil) rfl
  refine cond_split s22 (.tmp rfl) (fun hc1 => ?_) (fun hc1 => ?_)
  · replace h2 := ite_t hc1 h2
    have h4 := h2; clear h2
    refine wp_region_lit ?_
    refine seq_op s22 rfl rfl (of_decide_eq_true rfl) (ob_move rfl (.tmp rfl)) fun a27 w27 s27 => ?_; clear s22
    refine seq_op s27 rfl rfl (of_decide_eq_true rfl) (ob_move rfl (.tmp rfl)) fun a28 w28 s28 => ?_; clear s27
    refine seq_op s28 rfl rfl (of_decide_eq_true rfl) (ob_nilCheck rfl (.tmp rfl)) fun a29 w29 s29 => ?_; clear s28
    refine seq_op s29 rfl rfl (of_decide_eq_true rfl) (ob_fieldAddr (off' := 0) rfl Try.underlying101 rfl sz9 (by decide) (.tmp rfl) rfl) fun a30 w30 s30 => ?_; clear s29
    refine seq_opx0 (B' := (fun _ : Unit => [BF b00 101 k_wire_Reader ({ x2.2 with s := p1.s })])) s30 rfl rfl (ob_store (A := []) rfl tk9 (.tmp rfl) (.tmp rfl) rfl (ls_wire_Reader_s x2.2 p1.s) rfl) fun _ a31 w31 s31 => ?_; clear s30
    refine wpList_nil ?_
    refine then_normal ?_
    exact hj1 ({ x2.2 with s := p1.s }) _ _ h4 (s31.sub (.cons rfl .nil))
  · replace h2 := ite_f hc1 h2
    have h5 := h2; clear h2
    refine wp_skip ?_
    refine then_normal ?_
    exact hj1 x2.2 _ _ h5 (s22.sub (.cons rfl .nil))

/- 39 (*cabal/wire.Reader).End -/
theorem c_wire_Reader_End (k : Nat) (p1 : wire_Reader) (r : Int) (h0 : wire_Reader_End k p1 = some r) (ok : Ok) (w0 : World) (z0 : Value) (u0 : (ptrTo k_wire_Reader p1).holds ok w0 z0) :
    Gives Try.prog 39 [z0] ok w0 (resFact [(kint .i64).V r]) := by
  unfold wire_Reader_End at h0
  refine enter (N := 20) Try.func39 rfl rfl (of_decide_eq_true rfl) (.cons u0 .nil) fun a1 s1 => ?_
  refine wp_seq_k fun K1 hK1 => ?_
  refine wp_region_lit ?_
  refine seq_op s1 rfl rfl (of_decide_eq_true rfl) (ob_assign rfl (opd_int rfl)) fun a2 w2 s2 => ?_; clear s1
  refine wpList_nil ?_
  refine then_normal ?_
  refine hK1 _ _ ?_
  have s3 := s2.sub (.cons (t := 0) rfl .nil); clear s2
  refine wp_seq_k fun K2 hK2 => ?_
  refine wp_seq_k fun K3 hK3 => ?_
  refine wp_region_lit ?_
  refine seq_op s3 rfl rfl (of_decide_eq_true rfl) (ob_move rfl (.tmp rfl)) fun a4 w4 s4 => ?_; clear s3
  refine seq_op s4 rfl rfl (of_decide_eq_true rfl) (ob_nilCheckr rfl (.tmp rfl)) fun a5 w5 s5 => ?_; clear s4
  refine seq_op s5 rfl rfl (of_decide_eq_true rfl) (ob_fieldAddrr rfl Try.underlying101 rfl sz31 (by decide) (.tmp rfl) (lg_wire_Reader_err p1)) fun a6 w6 s6 => ?_; clear s5
  refine seq_op s6 rfl rfl (of_decide_eq_true rfl) (ob_loadr rfl tk31 (.tmp rfl)) fun a7 w7 s7 => ?_; clear s6
  refine seq_op s7 rfl rfl (of_decide_eq_true rfl) (ob_eql rfl (.tmp rfl) (opd_int rfl)) fun a8 w8 s8 => ?_; clear s7
  refine seq_op s8 rfl rfl (of_decide_eq_true rfl) (ob_move rfl (.tmp rfl)) fun a9 w9 s9 => ?_; clear s8
  refine seq_opg s9 rfl rfl rfl rfl (of_decide_eq_true rfl) (fun hb => ob_move rfl (.tmp rfl)) fun a10 w10 s10 => ?_; clear s9
  refine seq_opg s10 rfl rfl rfl rfl (of_decide_eq_true rfl) (fun hb => (Ob.uncond (t := 9) hb rfl (ob_nilCheckr rfl (.tmp rfl)))) fun a11 w11 s11 => ?_; clear s10
  refine seq_opg s11 rfl rfl rfl rfl (of_decide_eq_true rfl) (fun hb => (Ob.uncond (t := 10) hb rfl (ob_fieldAddrr rfl Try.underlying101 rfl sz9 (by decide) (.tmp rfl) (lg_wire_Reader_s p1)))) fun a12 w12 s12 => ?_; clear s11
  refine seq_opg s12 rfl rfl rfl rfl (of_decide_eq_true rfl) (fun hb => (Ob.uncond (t := 11) hb rfl (ob_loadr rfl tk9 (.tmp rfl)))) fun a13 w13 s13 => ?_; clear s12
  refine seq_opg s13 rfl rfl rfl rfl (of_decide_eq_true rfl) (fun hb => (Ob.uncond (t := 12) hb rfl (ob_lenStr rfl Try.underlying9 (.tmp rfl)))) fun a14 w14 s14 => ?_; clear s13
  refine seq_opg s14 rfl rfl rfl rfl (of_decide_eq_true rfl) (fun hb => (Ob.uncond (t := 13) hb rfl (ob_gtr rfl (.tmp rfl) (opd_int rfl)))) fun a15 w15 s15 => ?_; clear s14
  obtain ⟨x1, e_x1, h1⟩ := bind_some h0; clear h0; replace e_x1 := Option.some.inj e_x1
  refine seq_op s15 rfl rfl (of_decide_eq_true rfl) ((ob_and2 rfl (.tmp rfl) (.tmp rfl) opd_bool).nm e_x1) fun a16 w16 s16 => ?_; clear s15
  refine wpList_nil ?_
  refine then_normal ?_
  refine hK3 _ _ ?_
  have s17 := s16.sub (.cons (t := 0) rfl (.cons (t := 15) rfl .nil)); clear s16
  refine cond_split s17 (.tmp rfl) (fun hc1 => ?_) (fun hc1 => ?_)
  · replace h1 := ite_t hc1 h1
    have h2 := h1; clear h1
    refine wp_seq_k fun K4 hK4 => ?_
    refine wp_region_lit ?_
    refine seq_op s17 rfl rfl (of_decide_eq_true rfl) (ob_assign rfl (opd_int rfl)) fun a18 w18 s18 => ?_; clear s17
    refine wpList_nil ?_
    refine then_normal ?_
    refine hK4 _ _ ?_
    have s19 := s18.sub (.cons (t := 2) rfl .nil); clear s18
    refine wp_ret ?_
    obtain rfl := Option.some.inj h2
    exact leave s19 (.inl rfl) rfl (.cons (.tmp rfl) .nil)
  · replace h1 := ite_f hc1 h1
    have h3 := h1; clear h1
    refine wp_skip ?_
    refine then_normal ?_
    refine hK2 _ _ ?_
    have s20 := s17.sub (.cons (t := 0) rfl .nil); clear s17
    refine wp_seq_k fun K5 hK5 => ?_
    refine wp_region_lit ?_
    refine seq_op s20 rfl rfl (of_decide_eq_true rfl) (ob_move rfl (.tmp rfl)) fun a21 w21 s21 => ?_; clear s20
    refine seq_op s21 rfl rfl (of_decide_eq_true rfl) (ob_nilCheckr rfl (.tmp rfl)) fun a22 w22 s22 => ?_; clear s21
    refine seq_op s22 rfl rfl (of_decide_eq_true rfl) (ob_fieldAddrr rfl Try.underlying101 rfl sz31 (by decide) (.tmp rfl) (lg_wire_Reader_err p1)) fun a23 w23 s23 => ?_; clear s22
    refine seq_op s23 rfl rfl (of_decide_eq_true rfl) (ob_loadr rfl tk31 (.tmp rfl)) fun a24 w24 s24 => ?_; clear s23
    refine seq_op s24 rfl rfl (of_decide_eq_true rfl) (ob_assign rfl (.tmp rfl)) fun a25 w25 s25 => ?_; clear s24
    refine wpList_nil ?_
    refine then_normal ?_
    refine hK5 _ _ ?_
    have s26 := s25.sub (.cons (t := 2) rfl .nil); clear s25
    refine wp_ret ?_
    obtain rfl := Option.some.inj h3
    exact leave s26 (.inl rfl) rfl (.cons (.tmp rfl) .nil)

/- 29 cabal/caballaw10.alive -/
theorem c_caballaw10_alive (k : Nat) (r : Bool) (h0 : caballaw10_alive k = some r) (ok : Ok) (w0 : World) :
    Gives Try.prog 29 [] ok w0 (resFact [kbool.V r]) := by
  unfold caballaw10_alive at h0
  refine enter (N := 49) Try.func29 rfl rfl (of_decide_eq_true rfl) .nil fun a1 s1 => ?_
  refine wp_seq_k fun K1 hK1 => ?_
  refine wp_region_lit ?_
  refine seq_op s1 rfl rfl (of_decide_eq_true rfl) (ob_assign rfl opd_bool) fun a2 w2 s2 => ?_; clear s1
  refine wpList_nil ?_
  refine then_normal ?_
  refine hK1 _ _ ?_
  have s3 := s2.sub .nil; clear s2
  refine wp_seq_k fun K2 hK2 => ?_
  refine wp_region_lit ?_
  have s4 := St.adopt s3 (G := RowF (nilRow 1) 5 (kint .u8) []) rfl (rowNilN _ _ _ _ _); clear s3
  refine seq_opx (B' := (fun b1 : Nat => [BF b1 59 (ko_wire_Writer_0 (nilRow 1)) (⟨[]⟩ : wire_Writer), RowF (nilRow 1) 5 (kint .u8) ([] : (List Int))])) s4 rfl rfl (of_decide_eq_true rfl) (ob_new (k := (ko_wire_Writer_0 (nilRow 1))) rfl zz59 (Zr.iso (f := to_wire_Writer_0) (x := (⟨[]⟩ : wire_Writer)) (Zr.pair (Zr.kis 1) Zr.nil))) fun b1 a5 w5 s5 => ?_; clear s4
  refine wpList_nil ?_
  refine then_normal ?_
  refine hK2 _ _ ?_
  have s6 := s5.sub (.cons (t := 1) rfl .nil); clear s5
  refine wp_seq_k fun K3 hK3 => ?_
  refine wp_region_lit ?_
  obtain ⟨x1, e_x1, h1⟩ := bind_some h0; clear h0; replace e_x1 := Option.some.inj e_x1
  refine seq_op s6 rfl rfl (of_decide_eq_true rfl) ((ob_mkSlice (k := (kint .u32)) (xs := ([(0 : Int), (127 : Int), (128 : Int), (4294967295 : Int)] : (List Int))) rfl Try.underlying62 zz69 sz69 (Zr.int .u32) (by decide) (by decide) (.cons (opd_int rfl) rfl (LS.arr' (i := 0) (ys := ([(0 : Int), (0 : Int), (0 : Int), (0 : Int)] : (List Int))) (by simp) (by rfl)) (.cons (opd_int rfl) rfl (LS.arr' (i := 1) (ys := ([(0 : Int), (127 : Int), (0 : Int), (0 : Int)] : (List Int))) (by simp) (by rfl)) (.cons (opd_int rfl) rfl (LS.arr' (i := 2) (ys := ([(0 : Int), (127 : Int), (128 : Int), (0 : Int)] : (List Int))) (by simp) (by rfl)) (.cons (opd_int rfl) rfl (LS.arr' (i := 3) (ys := ([(0 : Int), (127 : Int), (128 : Int), (4294967295 : Int)] : (List Int))) (by simp) (by rfl)) (.nil _)))))).nm e_x1) fun a7 w7 s7 => ?_; clear s6
  obtain ⟨x2, e_x2, h2⟩ := bind_some h1; clear h1
  refine seq_opx (B' := (fun v1 : Value => [BF b1 59 (ko_wire_Writer_0 v1) (⟨[]⟩ : wire_Writer), RowF v1 5 (kint .u8) x2.out])) s7 rfl rfl (of_decide_eq_true rfl) (ob_callL (args := [_, _]) (L := [_, _]) rfl .direct hb43 (List.Perm.refl _) (fun a w s fs gs hf hg => by obtain rfl := hf.unnil; obtain rfl := hg.unnil; exact c_wire_Writer_Numbers k _ _ _ e_x2 _ _ _ _ _ _ (ownL s) (disL s) (nodL s) (s.arg (.tmp rfl)) (s.arg (.tmp rfl))) (by exact fun _ => rfl)) fun v1 a8 w8 s8 => ?_; clear s7
  refine wpList_nil ?_
  refine then_normal ?_
  refine hK3 _ _ ?_
  have s9 := s8.sub (.cons (t := 1) rfl .nil); clear s8
  refine wp_seq_k fun K4 hK4 => ?_
  refine wp_region_lit ?_
  refine seq_op s9 rfl rfl (of_decide_eq_true rfl) (ob_mkSlice (k := kstr) (xs := ([([97, 98] : List Int)] : (List (List Int)))) rfl Try.underlying49 zz9 sz9 Zr.str (by decide) (by decide) (.cons (opd_str (by rfl) (by decide)) rfl (LS.arr' (i := 0) (ys := ([([97, 98] : List Int)] : (List (List Int)))) (by simp) (by rfl)) (.nil _))) fun a10 w10 s10 => ?_; clear s9
  obtain ⟨x3, e_x3, h3⟩ := bind_some h2; clear h2
  refine seq_opx (B' := (fun v2 : Value => [BF b1 59 (ko_wire_Writer_0 v2) (⟨[]⟩ : wire_Writer), RowF v2 5 (kint .u8) x3.out])) s10 rfl rfl (of_decide_eq_true rfl) (ob_callL (args := [_, _]) (L := [_, _]) rfl .direct hb44 (List.Perm.refl _) (fun a w s fs gs hf hg => by obtain rfl := hf.unnil; obtain rfl := hg.unnil; exact c_wire_Writer_Texts k _ _ _ e_x3 _ _ _ _ _ _ (ownL s) (disL s) (nodL s) (s.arg (.tmp rfl)) (s.arg (.tmp rfl))) (by exact fun _ => rfl)) fun v2 a11 w11 s11 => ?_; clear s10
  refine wpList_nil ?_
  refine then_normal ?_
  refine hK4 _ _ ?_
  have s12 := s11.sub (.cons (t := 1) rfl .nil); clear s11
  refine wp_seq_k fun K5 hK5 => ?_
  refine wp_region_lit ?_
  obtain ⟨x4, e_x4, h4⟩ := bind_some h3; clear h3
  refine seq_op s12 rfl rfl (of_decide_eq_true rfl) ((ob_lendG (L := [_, _]) (List.Perm.refl _) (.cons (t := 1) rfl (lendObj (K' := k_wire_Writer) (X' := x3) (.head _) rfl (upo_wire_Writer_0 rfl (.row (LetAll.row (.tail _ (.head _)))))) .nil) (Flat.res1 (Flat.V KFlat.str)) (fun _ => ob_callD (args := [_]) rfl .direct hb32 (fun a w s fs gs hf hg => by obtain rfl := hf.unnil; obtain rfl := hg.unnil; exact c_wire_Writer_String k _ _ e_x4 _ _ _ (s.arg (.tmp rfl)))))) fun a13 w13 s13 => ?_; clear s12
  obtain ⟨x5, e_x5, h5⟩ := bind_some h4; clear h4
  refine seq_opx (B' := (fun b2 : Nat => [BF b2 101 k_wire_Reader x5, BF b1 59 (ko_wire_Writer_0 v2) (⟨[]⟩ : wire_Writer), RowF v2 5 (kint .u8) x3.out])) s13 rfl rfl (of_decide_eq_true rfl) (ob_callL (args := [_]) (L := []) rfl .direct hb33 (List.Perm.refl _) (fun a w s fs gs hf hg => by obtain rfl := hf.unnil; obtain rfl := hg.unnil; exact c_wire_NewReader k _ _ e_x5 _ _ _ (s.arg (.tmp rfl))) (by exact fun _ => rfl)) fun b2 a14 w14 s14 => ?_; clear s13
  refine seq_op s14 rfl rfl (of_decide_eq_true rfl) (ob_assign rfl (.tmp rfl)) fun a15 w15 s15 => ?_; clear s14
  refine wpList_nil ?_
  refine then_normal ?_
  refine hK5 _ _ ?_
  have s16 := s15.sub (.cons (t := 1) rfl (.cons (t := 2) rfl .nil)); clear s15
  refine wp_seq_k fun K6 hK6 => ?_
  refine wp_region_lit ?_
  refine seq_op s16 rfl rfl (of_decide_eq_true rfl) (ob_move rfl (.tmp rfl)) fun a17 w17 s17 => ?_; clear s16
  obtain ⟨x6, e_x6, h6⟩ := bind_some h5; clear h5
  refine seq_opx (B' := (fun _ : Unit => [BF b2 101 k_wire_Reader x6.2, BF b1 59 (ko_wire_Writer_0 v2) (⟨[]⟩ : wire_Writer), RowF v2 5 (kint .u8) x3.out])) s17 rfl rfl (of_decide_eq_true rfl) (ob_callL (args := [_]) (L := [_]) rfl .direct hb34 (List.Perm.refl _) (fun a w s fs gs hf hg => by obtain rfl := hf.unnil; obtain rfl := hg.unnil; exact c_wire_Reader_Number k _ _ e_x6 _ _ _ _ (ownL s) (disL s) (nodL s) (s.arg (.tmp rfl))) (by exact fun _ => rfl)) fun _ a18 w18 s18 => ?_; clear s17
  refine seq_op s18 rfl rfl (of_decide_eq_true rfl) (ob_move rfl (.tmp rfl)) fun a19 w19 s19 => ?_; clear s18
  obtain ⟨x7, e_x7, h7⟩ := bind_some h6; clear h6
  refine seq_opx (B' := (fun _ : Unit => [BF b2 101 k_wire_Reader x7.2, BF b1 59 (ko_wire_Writer_0 v2) (⟨[]⟩ : wire_Writer), RowF v2 5 (kint .u8) x3.out])) s19 rfl rfl (of_decide_eq_true rfl) (ob_callL (args := [_]) (L := [_]) rfl .direct hb34 (List.Perm.refl _) (fun a w s fs gs hf hg => by obtain rfl := hf.unnil; obtain rfl := hg.unnil; exact c_wire_Reader_Number k _ _ e_x7 _ _ _ _ (ownL s) (disL s) (nodL s) (s.arg (.tmp rfl))) (by exact fun _ => rfl)) fun _ a20 w20 s20 => ?_; clear s19
  refine seq_op s20 rfl rfl (of_decide_eq_true rfl) (ob_move rfl (.tmp rfl)) fun a21 w21 s21 => ?_; clear s20
  obtain ⟨x8, e_x8, h8⟩ := bind_some h7; clear h7
  refine seq_opx (B' := (fun _ : Unit => [BF b2 101 k_wire_Reader x8.2, BF b1 59 (ko_wire_Writer_0 v2) (⟨[]⟩ : wire_Writer), RowF v2 5 (kint .u8) x3.out])) s21 rfl rfl (of_decide_eq_true rfl) (ob_callL (args := [_]) (L := [_]) rfl .direct hb34 (List.Perm.refl _) (fun a w s fs gs hf hg => by obtain rfl := hf.unnil; obtain rfl := hg.unnil; exact c_wire_Reader_Number k _ _ e_x8 _ _ _ _ (ownL s) (disL s) (nodL s) (s.arg (.tmp rfl))) (by exact fun _ => rfl)) fun _ a22 w22 s22 => ?_; clear s21
  refine seq_op s22 rfl rfl (of_decide_eq_true rfl) (ob_move rfl (.tmp rfl)) fun a23 w23 s23 => ?_; clear s22
  obtain ⟨x9, e_x9, h9⟩ := bind_some h8; clear h8
  refine seq_opx (B' := (fun _ : Unit => [BF b2 101 k_wire_Reader x9.2, BF b1 59 (ko_wire_Writer_0 v2) (⟨[]⟩ : wire_Writer), RowF v2 5 (kint .u8) x3.out])) s23 rfl rfl (of_decide_eq_true rfl) (ob_callL (args := [_]) (L := [_]) rfl .direct hb34 (List.Perm.refl _) (fun a w s fs gs hf hg => by obtain rfl := hf.unnil; obtain rfl := hg.unnil; exact c_wire_Reader_Number k _ _ e_x9 _ _ _ _ (ownL s) (disL s) (nodL s) (s.arg (.tmp rfl))) (by exact fun _ => rfl)) fun _ a24 w24 s24 => ?_; clear s23
  refine seq_op s24 rfl rfl (of_decide_eq_true rfl) (ob_assign rfl (.tmp rfl)) fun a25 w25 s25 => ?_; clear s24
  refine seq_op s25 rfl rfl (of_decide_eq_true rfl) (ob_assign rfl (.tmp rfl)) fun a26 w26 s26 => ?_; clear s25
  refine seq_op s26 rfl rfl (of_decide_eq_true rfl) (ob_assign rfl (.tmp rfl)) fun a27 w27 s27 => ?_; clear s26
  refine seq_op s27 rfl rfl (of_decide_eq_true rfl) (ob_assign rfl (.tmp rfl)) fun a28 w28 s28 => ?_; clear s27
  refine wpList_nil ?_
  refine then_normal ?_
  refine hK6 _ _ ?_
  have s29 := s28.sub (.cons (t := 1) rfl (.cons (t := 2) rfl (.cons (t := 3) rfl (.cons (t := 4) rfl (.cons (t := 5) rfl (.cons (t := 6) rfl .nil)))))); clear s28
  refine wp_seq_k fun K7 hK7 => ?_
  refine wp_region_lit ?_
  obtain ⟨x10, e_x10, h10⟩ := bind_some h9; clear h9
  refine seq_op s29 rfl rfl (of_decide_eq_true rfl) ((ob_lendG (L := [_, _]) (toFront [_] (toFront [_] (List.Perm.refl _))) (.cons (t := 1) rfl (lendObj (K' := k_wire_Writer) (X' := x3) (.head _) rfl (upo_wire_Writer_0 rfl (.row (LetAll.row (.tail _ (.head _)))))) .nil) (Flat.res1 (Flat.V KFlat.str)) (fun _ => ob_callD (args := [_]) rfl .direct hb32 (fun a w s fs gs hf hg => by obtain rfl := hf.unnil; obtain rfl := hg.unnil; exact c_wire_Writer_String k _ _ e_x10 _ _ _ (s.arg (.tmp rfl)))))) fun a30 w30 s30 => ?_; clear s29
  obtain ⟨x11, e_x11, h11⟩ := bind_some h10; clear h10; replace e_x11 := Option.some.inj e_x11
  refine seq_op s30 rfl rfl (of_decide_eq_true rfl) ((ob_seql rfl (.tmp rfl) (opd_str (by rfl) (by decide))).nm e_x11) fun a31 w31 s31 => ?_; clear s30
  refine seq_op s31 rfl rfl (of_decide_eq_true rfl) (ob_move rfl (.tmp rfl)) fun a32 w32 s32 => ?_; clear s31
  refine seq_opg s32 rfl rfl rfl rfl (of_decide_eq_true rfl) (fun hb => ob_move rfl (.tmp rfl)) fun a33 w33 s33 => ?_; clear s32
  refine seq_opg s33 rfl rfl rfl rfl (of_decide_eq_true rfl) (fun hb => (Ob.uncond (t := 24) hb rfl (ob_eql rfl (.tmp rfl) (opd_int rfl)))) fun a34 w34 s34 => ?_; clear s33
  refine seq_op s34 rfl rfl (of_decide_eq_true rfl) (ob_and2 rfl (.tmp rfl) (.tmp rfl) opd_bool) fun a35 w35 s35 => ?_; clear s34
  refine seq_op s35 rfl rfl (of_decide_eq_true rfl) (ob_move rfl (.tmp rfl)) fun a36 w36 s36 => ?_; clear s35
  refine seq_opg s36 rfl rfl rfl rfl (of_decide_eq_true rfl) (fun hb => ob_move rfl (.tmp rfl)) fun a37 w37 s37 => ?_; clear s36
  refine seq_opg s37 rfl rfl rfl rfl (of_decide_eq_true rfl) (fun hb => (Ob.uncond (t := 28) hb rfl (ob_eql rfl (.tmp rfl) (opd_int rfl)))) fun a38 w38 s38 => ?_; clear s37
  obtain ⟨x12, e_x12, h12⟩ := bind_some h11; clear h11; replace e_x12 := Option.some.inj e_x12
  refine seq_op s38 rfl rfl (of_decide_eq_true rfl) ((ob_and2 rfl (.tmp rfl) (.tmp rfl) opd_bool).nm e_x12) fun a39 w39 s39 => ?_; clear s38
  refine seq_op s39 rfl rfl (of_decide_eq_true rfl) (ob_move rfl (.tmp rfl)) fun a40 w40 s40 => ?_; clear s39
  refine seq_opg s40 rfl rfl rfl rfl (of_decide_eq_true rfl) (fun hb => ob_move rfl (.tmp rfl)) fun a41 w41 s41 => ?_; clear s40
  refine seq_opg s41 rfl rfl rfl rfl (of_decide_eq_true rfl) (fun hb => (Ob.uncond (t := 32) hb rfl (ob_eql rfl (.tmp rfl) (opd_int rfl)))) fun a42 w42 s42 => ?_; clear s41
  refine seq_op s42 rfl rfl (of_decide_eq_true rfl) (ob_and2 rfl (.tmp rfl) (.tmp rfl) opd_bool) fun a43 w43 s43 => ?_; clear s42
  refine seq_op s43 rfl rfl (of_decide_eq_true rfl) (ob_move rfl (.tmp rfl)) fun a44 w44 s44 => ?_; clear s43
  refine seq_opg s44 rfl rfl rfl rfl (of_decide_eq_true rfl) (fun hb => ob_move rfl (.tmp rfl)) fun a45 w45 s45 => ?_; clear s44
  refine seq_opg s45 rfl rfl rfl rfl (of_decide_eq_true rfl) (fun hb => (Ob.uncond (t := 36) hb rfl (ob_eql rfl (.tmp rfl) (opd_int rfl)))) fun a46 w46 s46 => ?_; clear s45
  obtain ⟨x13, e_x13, h13⟩ := bind_some h12; clear h12; replace e_x13 := Option.some.inj e_x13
  refine seq_op s46 rfl rfl (of_decide_eq_true rfl) ((ob_and2 rfl (.tmp rfl) (.tmp rfl) opd_bool).nm e_x13) fun a47 w47 s47 => ?_; clear s46
  refine seq_op s47 rfl rfl (of_decide_eq_true rfl) (ob_move rfl (.tmp rfl)) fun a48 w48 s48 => ?_; clear s47
  refine seq_opg s48 rfl rfl rfl rfl (of_decide_eq_true rfl) (fun hb => ob_move rfl (.tmp rfl)) fun a49 w49 s49 => ?_; clear s48
  obtain ⟨x14, e_x14, h14⟩ := bind_some h13; clear h13
  refine seq_opxg (B1 := (fun _ : Unit => [BF b2 101 k_wire_Reader x14.2, BF b1 59 (ko_wire_Writer_0 v2) (⟨[]⟩ : wire_Writer), RowF v2 5 (kint .u8) x3.out])) s49 rfl rfl rfl rfl (of_decide_eq_true rfl) (fun hb => (ObX.uncond (t := 40) hb rfl (ob_callL (args := [_, _]) (L := [_]) rfl .direct hb35 (List.Perm.refl _) (fun a w s fs gs hf hg => by obtain rfl := hf.unnil; obtain rfl := hg.unnil; exact c_wire_Reader_Text k _ _ _ (ite_t hb e_x14) _ _ _ _ _ (ownL s) (disL s) (nodL s) (s.arg (.tmp rfl)) (s.arg (opd_int rfl))) (by exact fun _ => rfl)))) (fun hb0 => by obtain rfl := Option.some.inj (ite_f hb0 e_x14); exact ⟨(), rfl⟩) fun _ a50 w50 s50 => ?_; clear s49
  refine seq_opg s50 rfl rfl rfl rfl (of_decide_eq_true rfl) (fun hb => (Ob.uncond (t := 41) hb rfl (ob_seql rfl (.tmp rfl) (opd_str (by rfl) (by decide))))) fun a51 w51 s51 => ?_; clear s50
  refine seq_op s51 rfl rfl (of_decide_eq_true rfl) (ob_and2 rfl (.tmp rfl) (.tmp rfl) opd_bool) fun a52 w52 s52 => ?_; clear s51
  refine seq_op s52 rfl rfl (of_decide_eq_true rfl) (ob_move rfl (.tmp rfl)) fun a53 w53 s53 => ?_; clear s52
  refine seq_opg s53 rfl rfl rfl rfl (of_decide_eq_true rfl) (fun hb => ob_move rfl (.tmp rfl)) fun a54 w54 s54 => ?_; clear s53
  obtain ⟨x15, e_x15, h15⟩ := bind_some h14; clear h14
  refine seq_opg s54 rfl rfl rfl rfl (of_decide_eq_true rfl) (fun hb => (Ob.uncond (t := 45) hb rfl ((ob_lendG (L := [_]) (List.Perm.refl _) (.cons (t := 45) rfl (lendPtrB (.head _) (LG.refl _ _)) .nil) (Flat.res1 (Flat.V (KFlat.int _))) (fun _ => ob_callD (args := [_]) rfl .direct hb39 (fun a w s fs gs hf hg => by obtain rfl := hf.unnil; obtain rfl := hg.unnil; exact c_wire_Reader_End k _ _ (ite_t hb e_x15) _ _ _ (s.arg (.tmp rfl)))))))) fun a55 w55 s55 => ?_; clear s54
  refine seq_opg s55 rfl rfl rfl rfl (of_decide_eq_true rfl) (fun hb => (Ob.uncond (t := 46) hb rfl (ob_eql rfl (.tmp rfl) (opd_int rfl)))) fun a56 w56 s56 => ?_; clear s55
  obtain ⟨x16, e_x16, h16⟩ := bind_some h15; clear h15; replace e_x16 := Option.some.inj e_x16
  refine seq_op s56 rfl rfl (of_decide_eq_true rfl) ((ob_and2 rfl (.tmp rfl) (.tmp rfl) opd_bool).nm e_x16) fun a57 w57 s57 => ?_; clear s56
  refine seq_op s57 rfl rfl (of_decide_eq_true rfl) (ob_assign rfl (.tmp rfl)) fun a58 w58 s58 => ?_; clear s57
  refine wpList_nil ?_
  refine then_normal ?_
  refine hK7 _ _ ?_
  have s59 := s58.sub (.cons (t := 0) rfl .nil); clear s58
  have s60 := St.drop (A := []) s59; clear s59
  have s61 := St.drop (A := []) s60; clear s60
  have s62 := St.drop (A := []) s61; clear s61
  refine wp_ret ?_
  obtain rfl := Option.some.inj h16
  exact leave s62 (.inl rfl) rfl (.cons (.tmp rfl) .nil)

/- 30 cabal/caballaw10.great -/
theorem c_caballaw10_great (k : Nat) (p1 : (List caballaw10_Item)) (r : Bool) (h0 : caballaw10_great k p1 = some r) (ok : Ok) (w0 : World) (z0 : Value) (u0 : ((ksl k_caballaw10_Item).V p1).holds ok w0 z0) :
    Gives Try.prog 30 [z0] ok w0 (resFact [kbool.V r]) := by
  unfold caballaw10_great at h0
  refine enter (N := 38) Try.func30 rfl rfl (of_decide_eq_true rfl) (.cons u0 .nil) fun a1 s1 => ?_
  refine wp_seq_k fun K1 hK1 => ?_
  refine wp_region_lit ?_
  refine seq_op s1 rfl rfl (of_decide_eq_true rfl) (ob_assign rfl opd_bool) fun a2 w2 s2 => ?_; clear s1
  refine wpList_nil ?_
  refine then_normal ?_
  refine hK1 _ _ ?_
  have s3 := s2.sub (.cons (t := 0) rfl .nil); clear s2
  refine wp_seq_k fun K2 hK2 => ?_
  refine wp_seq_k fun K3 hK3 => ?_
  refine wp_region_lit ?_
  refine seq_op s3 rfl rfl (of_decide_eq_true rfl) (ob_move rfl (.tmp rfl)) fun a4 w4 s4 => ?_; clear s3
  refine seq_op s4 rfl rfl (of_decide_eq_true rfl) (ob_lens rfl Try.underlying56 (.tmp rfl)) fun a5 w5 s5 => ?_; clear s4
  refine seq_op s5 rfl rfl (of_decide_eq_true rfl) (ob_gtr rfl (.tmp rfl) (opd_int rfl)) fun a6 w6 s6 => ?_; clear s5
  refine wpList_nil ?_
  refine then_normal ?_
  refine hK3 _ _ ?_
  have s7 := s6.sub (.cons (t := 0) rfl (.cons (t := 6) rfl .nil)); clear s6
  refine cond_split s7 (.tmp rfl) (fun hc1 => ?_) (fun hc1 => ?_)
  · replace h0 := ite_t hc1 h0
    have h1 := h0; clear h0
    refine wp_seq_k fun K4 hK4 => ?_
    refine wp_region_lit ?_
    refine seq_op s7 rfl rfl (of_decide_eq_true rfl) (ob_assign rfl opd_bool) fun a8 w8 s8 => ?_; clear s7
    refine wpList_nil ?_
    refine then_normal ?_
    refine hK4 _ _ ?_
    have s9 := s8.sub (.cons (t := 2) rfl .nil); clear s8
    refine wp_ret ?_
    obtain rfl := Option.some.inj h1
    exact leave s9 (.inl rfl) rfl (.cons (.tmp rfl) .nil)
  · replace h0 := ite_f hc1 h0
    have h2 := h0; clear h0
    refine wp_skip ?_
    refine then_normal ?_
    refine hK2 _ _ ?_
    have s10 := s7.sub (.cons (t := 0) rfl .nil); clear s7
    refine wp_seq_k fun K5 hK5 => ?_
    refine wp_seq_k fun K6 hK6 => ?_
    refine wp_region_lit ?_
    refine seq_op s10 rfl rfl (of_decide_eq_true rfl) (ob_assign rfl (opd_int rfl)) fun a11 w11 s11 => ?_; clear s10
    refine wpList_nil ?_
    refine then_normal ?_
    refine hK6 _ _ ?_
    have s12 := s11.sub (.cons (t := 0) rfl (.cons (t := 3) rfl .nil)); clear s11
    have hj1 : ∀ (a : Act) (w : World), (caballaw10_great.j1 k) = some r → St ⟨38, w0, ok, []⟩ [] [] a w → K5 a w := by
      intro a13 w13 h3 s13
      unfold caballaw10_great.j1 at h3
      refine hK5 _ _ ?_
      refine wp_seq_k fun K7 hK7 => ?_
      refine wp_region_lit ?_
      refine seq_op s13 rfl rfl (of_decide_eq_true rfl) (ob_assign rfl opd_bool) fun a14 w14 s14 => ?_; clear s13
      refine wpList_nil ?_
      refine then_normal ?_
      refine hK7 _ _ ?_
      have s15 := s14.sub (.cons (t := 2) rfl .nil); clear s14
      refine wp_ret ?_
      obtain rfl := Option.some.inj h3
      exact leave s15 (.inl rfl) rfl (.cons (.tmp rfl) .nil)
    refine wp_block ?_
    refine wp_loop_fuel (fun m (q : Int) => caballaw10_great.l1 k p1 m q) r (fun _ => rfl) (fun q a w => St ⟨38, w0, ok, []⟩ [] [(0, ((ksl k_caballaw10_Item).V p1)), (3, ((kint .i64).V q))] a w) ?_ k (0 : Int) _ _ h2 (s12.sub (.cons rfl (.cons rfl .nil)))
    rintro n1 y1 a16 w16 h4 s16 K8 hK8
    replace h4 : caballaw10_great.l1 k p1 (n1 + 1) y1 = some r := h4; rw [caballaw10_great.l1] at h4
    have h5 := h4; clear h4
    refine wp_seq_k fun K9 hK9 => ?_
    refine wp_seq_k fun K10 hK10 => ?_
    refine wp_region_lit ?_
    refine seq_op s16 rfl rfl (of_decide_eq_true rfl) (ob_move rfl (.tmp rfl)) fun a17 w17 s17 => ?_; clear s16
    refine seq_op s17 rfl rfl (of_decide_eq_true rfl) (ob_move rfl (.tmp rfl)) fun a18 w18 s18 => ?_; clear s17
    refine seq_op s18 rfl rfl (of_decide_eq_true rfl) (ob_lens rfl Try.underlying56 (.tmp rfl)) fun a19 w19 s19 => ?_; clear s18
    refine seq_op s19 rfl rfl (of_decide_eq_true rfl) (ob_lss rfl (.tmp rfl) (.tmp rfl)) fun a20 w20 s20 => ?_; clear s19
    refine wpList_nil ?_
    refine then_normal ?_
    refine hK10 _ _ ?_
    have s21 := s20.sub (.cons (t := 0) rfl (.cons (t := 3) rfl (.cons (t := 10) rfl .nil))); clear s20
    refine cond_split s21 (.tmp rfl) (fun hc2 => ?_) (fun hc2 => ?_)
    · replace h5 := ite_t hc2 h5
      have h6 := h5; clear h5
      refine wp_skip ?_
      refine then_normal ?_
      refine hK9 _ _ ?_
      have s22 := s21.sub (.cons (t := 0) rfl (.cons (t := 3) rfl .nil)); clear s21
      refine wp_seq_k fun K11 hK11 => ?_
      refine wp_block ?_
      refine wp_seq_k fun K12 hK12 => ?_
      refine wp_region_lit ?_
      refine seq_op s22 rfl rfl (of_decide_eq_true rfl) (ob_move rfl (.tmp rfl)) fun a23 w23 s23 => ?_; clear s22
      refine seq_op s23 rfl rfl (of_decide_eq_true rfl) (ob_move rfl (.tmp rfl)) fun a24 w24 s24 => ?_; clear s23
      obtain ⟨x1, e_x1, h7⟩ := bind_some h6; clear h6
      refine seq_op s24 rfl rfl (of_decide_eq_true rfl) (ob_indexAddrs rfl Try.underlying56 sz65 (.tmp rfl) (.tmp rfl) e_x1) fun a25 w25 s25 => ?_; clear s24
      refine seq_op s25 rfl rfl (of_decide_eq_true rfl) (ob_fieldAddrr rfl Try.underlying65 rfl sz9 (by decide) (.tmp rfl) (lg_caballaw10_Item_Text x1)) fun a26 w26 s26 => ?_; clear s25
      refine seq_op s26 rfl rfl (of_decide_eq_true rfl) (ob_loadr rfl tk9 (.tmp rfl)) fun a27 w27 s27 => ?_; clear s26
      refine seq_op s27 rfl rfl (of_decide_eq_true rfl) (ob_lenStr rfl Try.underlying9 (.tmp rfl)) fun a28 w28 s28 => ?_; clear s27
      refine seq_op s28 rfl rfl (of_decide_eq_true rfl) (ob_gtr rfl (.tmp rfl) (opd_int rfl)) fun a29 w29 s29 => ?_; clear s28
      refine seq_op s29 rfl rfl (of_decide_eq_true rfl) (ob_move rfl (.tmp rfl)) fun a30 w30 s30 => ?_; clear s29
      refine seq_opg s30 rfl rfl rfl rfl (of_decide_eq_true rfl) (fun hb => ob_move rfl (.tmp rfl)) fun a31 w31 s31 => ?_; clear s30
      refine seq_opg s31 rfl rfl rfl rfl (of_decide_eq_true rfl) (fun hb => ob_move rfl (.tmp rfl)) fun a32 w32 s32 => ?_; clear s31
      obtain ⟨x2, e_x2, h8⟩ := bind_some h7; clear h7
      refine seq_opg s32 rfl rfl rfl rfl (of_decide_eq_true rfl) (fun hb => (Ob.uncond (t := 22) hb rfl ((Ob.uncond (t := 21) hb rfl (ob_indexAddrs rfl Try.underlying56 sz65 (.tmp rfl) (.tmp rfl) (ite_t hb e_x2)))))) fun a33 w33 s33 => ?_; clear s32
      refine seq_opg s33 rfl rfl rfl rfl (of_decide_eq_true rfl) (fun hb => (Ob.uncond (t := 23) hb rfl (ob_fieldAddrr rfl Try.underlying65 rfl sz62 (by decide) (.tmp rfl) (lg_caballaw10_Item_Numbers x2)))) fun a34 w34 s34 => ?_; clear s33
      refine seq_opg s34 rfl rfl rfl rfl (of_decide_eq_true rfl) (fun hb => (Ob.uncond (t := 24) hb rfl (ob_loadr rfl tk62 (.tmp rfl)))) fun a35 w35 s35 => ?_; clear s34
      refine seq_opg s35 rfl rfl rfl rfl (of_decide_eq_true rfl) (fun hb => (Ob.uncond (t := 25) hb rfl (ob_lens rfl Try.underlying62 (.tmp rfl)))) fun a36 w36 s36 => ?_; clear s35
      refine seq_opg s36 rfl rfl rfl rfl (of_decide_eq_true rfl) (fun hb => (Ob.uncond (t := 26) hb rfl (ob_gtr rfl (.tmp rfl) (opd_int rfl)))) fun a37 w37 s37 => ?_; clear s36
      obtain ⟨x3, e_x3, h9⟩ := bind_some h8; clear h8; replace e_x3 := Option.some.inj e_x3
      refine seq_op s37 rfl rfl (of_decide_eq_true rfl) ((ob_or2 rfl (.tmp rfl) opd_bool (.tmp rfl)).nm e_x3) fun a38 w38 s38 => ?_; clear s37
      refine seq_op s38 rfl rfl (of_decide_eq_true rfl) (ob_move rfl (.tmp rfl)) fun a39 w39 s39 => ?_; clear s38
      refine seq_opg s39 rfl rfl rfl rfl (of_decide_eq_true rfl) (fun hb => ob_move rfl (.tmp rfl)) fun a40 w40 s40 => ?_; clear s39
      refine seq_opg s40 rfl rfl rfl rfl (of_decide_eq_true rfl) (fun hb => ob_move rfl (.tmp rfl)) fun a41 w41 s41 => ?_; clear s40
      obtain ⟨x4, e_x4, h10⟩ := bind_some h9; clear h9
      refine seq_opg s41 rfl rfl rfl rfl (of_decide_eq_true rfl) (fun hb => (Ob.uncond (t := 31) hb rfl ((Ob.uncond (t := 30) hb rfl (ob_indexAddrs rfl Try.underlying56 sz65 (.tmp rfl) (.tmp rfl) (ite_t hb e_x4)))))) fun a42 w42 s42 => ?_; clear s41
      refine seq_opg s42 rfl rfl rfl rfl (of_decide_eq_true rfl) (fun hb => (Ob.uncond (t := 32) hb rfl (ob_fieldAddrr rfl Try.underlying65 rfl sz63 (by decide) (.tmp rfl) (lg_caballaw10_Item_Keys x4)))) fun a43 w43 s43 => ?_; clear s42
      refine seq_opg s43 rfl rfl rfl rfl (of_decide_eq_true rfl) (fun hb => (Ob.uncond (t := 33) hb rfl (ob_loadr rfl tk63 (.tmp rfl)))) fun a44 w44 s44 => ?_; clear s43
      refine seq_opg s44 rfl rfl rfl rfl (of_decide_eq_true rfl) (fun hb => (Ob.uncond (t := 34) hb rfl (ob_lens rfl Try.underlying63 (.tmp rfl)))) fun a45 w45 s45 => ?_; clear s44
      refine seq_opg s45 rfl rfl rfl rfl (of_decide_eq_true rfl) (fun hb => (Ob.uncond (t := 35) hb rfl (ob_gtr rfl (.tmp rfl) (opd_int rfl)))) fun a46 w46 s46 => ?_; clear s45
      refine seq_op s46 rfl rfl (of_decide_eq_true rfl) (ob_or2 rfl (.tmp rfl) opd_bool (.tmp rfl)) fun a47 w47 s47 => ?_; clear s46
      refine wpList_nil ?_
      refine then_normal ?_
      refine hK12 _ _ ?_
      have s48 := s47.sub (.cons (t := 0) rfl (.cons (t := 3) rfl (.cons (t := 37) rfl .nil))); clear s47
      refine cond_split s48 (.tmp rfl) (fun hc3 => ?_) (fun hc3 => ?_)
      · replace h10 := ite_t hc3 h10
        have h11 := h10; clear h10
        refine wp_seq_k fun K13 hK13 => ?_
        refine wp_region_lit ?_
        refine seq_op s48 rfl rfl (of_decide_eq_true rfl) (ob_assign rfl opd_bool) fun a49 w49 s49 => ?_; clear s48
        refine wpList_nil ?_
        refine then_normal ?_
        refine hK13 _ _ ?_
        have s50 := s49.sub (.cons (t := 2) rfl .nil); clear s49
        refine wp_ret ?_
        obtain rfl := Option.some.inj h11
        exact leave s50 (.inl rfl) rfl (.cons (.tmp rfl) .nil)
      · replace h10 := ite_f hc3 h10
        have h12 := h10; clear h10
        refine wp_skip ?_
        refine in_normal ?_
        refine then_normal ?_
        refine hK11 _ _ ?_
        have s51 := s48.sub (.cons (t := 0) rfl (.cons (t := 3) rfl .nil)); clear s48
        refine wp_region_lit ?_
        refine seq_op s51 rfl rfl (of_decide_eq_true rfl) (ob_move rfl (.tmp rfl)) fun a52 w52 s52 => ?_; clear s51
        refine seq_op s52 rfl rfl (of_decide_eq_true rfl) (ob_add rfl (.tmp rfl) (opd_int rfl)) fun a53 w53 s53 => ?_; clear s52
        refine seq_op s53 rfl rfl (of_decide_eq_true rfl) (ob_assign rfl (.tmp rfl)) fun a54 w54 s54 => ?_; clear s53
        refine wpList_nil ?_
        refine then_normal ?_
        exact hK8 (iadd .i64 y1 (1 : Int)) _ _ h12 (s54.sub (.cons rfl (.cons rfl .nil)))
    · replace h5 := ite_f hc2 h5
      have h13 := h5; clear h5
      refine wp_exit ?_
      refine (then_exit (then_exit (in_here ?_)))
      refine then_normal ?_
      exact hj1 _ _ h13 (s21.sub .nil)

/- 55 cabal/cabalref10.Number -/
theorem c_cabalref10_Number (k : Nat) (p1 : Int) (r : (List Int)) (h0 : cabalref10_Number k p1 = some r) (ok : Ok) (w0 : World) (z0 : Value) (u0 : ((kint .u32).V p1).holds ok w0 z0) :
    Gives Try.prog 55 [z0] ok w0 (resFact [kstr.V r]) := by
  unfold cabalref10_Number at h0
  refine enter (N := 24) Try.func55 rfl rfl (of_decide_eq_true rfl) (.cons u0 .nil) fun a1 s1 => ?_
  refine wp_seq_k fun K1 hK1 => ?_
  refine wp_region_lit ?_
  refine seq_op s1 rfl rfl (of_decide_eq_true rfl) (ob_assign rfl (opd_str (by rfl) (by decide))) fun a2 w2 s2 => ?_; clear s1
  refine wpList_nil ?_
  refine then_normal ?_
  refine hK1 _ _ ?_
  have s3 := s2.sub (.cons (t := 0) rfl .nil); clear s2
  refine wp_seq_k fun K2 hK2 => ?_
  refine wp_region_lit ?_
  refine seq_op s3 rfl rfl (of_decide_eq_true rfl) (ob_move rfl (.tmp rfl)) fun a4 w4 s4 => ?_; clear s3
  refine seq_op s4 rfl rfl (of_decide_eq_true rfl) (ob_rem rfl (.tmp rfl) (opd_int rfl) (by decide)) fun a5 w5 s5 => ?_; clear s4
  refine seq_op s5 rfl rfl (of_decide_eq_true rfl) (ob_conv rfl _ Try.underlying69 Try.underlying5 (.tmp rfl)) fun a6 w6 s6 => ?_; clear s5
  refine seq_op s6 rfl rfl (of_decide_eq_true rfl) (ob_mkSlice (k := (kint .u8)) (xs := ([(IntKind.wrap .u8 (irem p1 (128 : Int)))] : (List Int))) rfl Try.underlying23 zz5 sz5 (Zr.int .u8) (by decide) (by decide) (.cons (.tmp rfl) rfl (LS.arr' (i := 0) (ys := ([(IntKind.wrap .u8 (irem p1 (128 : Int)))] : (List Int))) (by simp) (by rfl)) (.nil _))) fun a7 w7 s7 => ?_; clear s6
  refine seq_op s7 rfl rfl (of_decide_eq_true rfl) (ob_bytesToStr rfl Try.underlying23 Try.underlying9 Try.underlying5 (.tmp rfl)) fun a8 w8 s8 => ?_; clear s7
  refine seq_op s8 rfl rfl (of_decide_eq_true rfl) (ob_assign rfl (.tmp rfl)) fun a9 w9 s9 => ?_; clear s8
  refine wpList_nil ?_
  refine then_normal ?_
  refine hK2 _ _ ?_
  have s10 := s9.sub (.cons (t := 0) rfl (.cons (t := 3) rfl .nil)); clear s9
  refine wp_seq_k fun K3 hK3 => ?_
  refine wp_seq_k fun K4 hK4 => ?_
  refine wp_region_lit ?_
  refine seq_op s10 rfl rfl (of_decide_eq_true rfl) (ob_move rfl (.tmp rfl)) fun a11 w11 s11 => ?_; clear s10
  refine seq_op s11 rfl rfl (of_decide_eq_true rfl) (ob_quo rfl (.tmp rfl) (opd_int rfl) (by decide)) fun a12 w12 s12 => ?_; clear s11
  refine seq_op s12 rfl rfl (of_decide_eq_true rfl) (ob_assign rfl (.tmp rfl)) fun a13 w13 s13 => ?_; clear s12
  refine wpList_nil ?_
  refine then_normal ?_
  refine hK4 _ _ ?_
  have s14 := s13.sub (.cons (t := 0) rfl (.cons (t := 3) rfl .nil)); clear s13
  have hj1 : ∀ (y1 : (List Int)) (a : Act) (w : World), (cabalref10_Number.j1 k) y1 = some r → St ⟨24, w0, ok, []⟩ [] [(3, (kstr.V y1))] a w → K3 a w := by
    intro y1 a15 w15 h1 s15
    unfold cabalref10_Number.j1 at h1
    refine hK3 _ _ ?_
    refine wp_seq_k fun K5 hK5 => ?_
    refine wp_region_lit ?_
    refine seq_op s15 rfl rfl (of_decide_eq_true rfl) (ob_move rfl (.tmp rfl)) fun a16 w16 s16 => ?_; clear s15
    refine seq_op s16 rfl rfl (of_decide_eq_true rfl) (ob_assign rfl (.tmp rfl)) fun a17 w17 s17 => ?_; clear s16
    refine wpList_nil ?_
    refine then_normal ?_
    refine hK5 _ _ ?_
    have s18 := s17.sub (.cons (t := 2) rfl .nil); clear s17
    refine wp_ret ?_
    obtain rfl := Option.some.inj h1
    exact leave s18 (.inl rfl) rfl (.cons (.tmp rfl) .nil)
  refine wp_block ?_
  refine wp_loop_fuel (fun m (q : Int × (List Int)) => cabalref10_Number.l1 k m q.1 q.2) r (fun _ => rfl) (fun q a w => St ⟨24, w0, ok, []⟩ [] [(0, ((kint .u32).V q.1)), (3, (kstr.V q.2))] a w) ?_ k ((iquo .u32 p1 (128 : Int)), ([(IntKind.wrap .u8 (irem p1 (128 : Int)))] : (List Int))) _ _ h0 (s14.sub (.cons rfl (.cons rfl .nil)))
  rintro n1 ⟨y2, y3⟩ a19 w19 h2 s19 K6 hK6
  replace h2 : cabalref10_Number.l1 k (n1 + 1) y2 y3 = some r := h2; rw [cabalref10_Number.l1] at h2
  have h3 := h2; clear h2
  refine wp_seq_k fun K7 hK7 => ?_
  refine wp_seq_k fun K8 hK8 => ?_
  refine wp_region_lit ?_
  refine seq_op s19 rfl rfl (of_decide_eq_true rfl) (ob_move rfl (.tmp rfl)) fun a20 w20 s20 => ?_; clear s19
  refine seq_op s20 rfl rfl (of_decide_eq_true rfl) (ob_gtr rfl (.tmp rfl) (opd_int rfl)) fun a21 w21 s21 => ?_; clear s20
  refine wpList_nil ?_
  refine then_normal ?_
  refine hK8 _ _ ?_
  have s22 := s21.sub (.cons (t := 0) rfl (.cons (t := 3) rfl (.cons (t := 12) rfl .nil))); clear s21
  refine cond_split s22 (.tmp rfl) (fun hc1 => ?_) (fun hc1 => ?_)
  · replace h3 := ite_t hc1 h3
    have h4 := h3; clear h3
    refine wp_skip ?_
    refine then_normal ?_
    refine hK7 _ _ ?_
    have s23 := s22.sub (.cons (t := 0) rfl (.cons (t := 3) rfl .nil)); clear s22
    refine wp_seq_k fun K9 hK9 => ?_
    refine wp_block ?_
    refine wp_region_lit ?_
    refine seq_op s23 rfl rfl (of_decide_eq_true rfl) (ob_move rfl (.tmp rfl)) fun a24 w24 s24 => ?_; clear s23
    refine seq_op s24 rfl rfl (of_decide_eq_true rfl) (ob_rem rfl (.tmp rfl) (opd_int rfl) (by decide)) fun a25 w25 s25 => ?_; clear s24
    refine seq_op s25 rfl rfl (of_decide_eq_true rfl) (ob_add rfl (.tmp rfl) (opd_int rfl)) fun a26 w26 s26 => ?_; clear s25
    refine seq_op s26 rfl rfl (of_decide_eq_true rfl) (ob_conv rfl _ Try.underlying69 Try.underlying5 (.tmp rfl)) fun a27 w27 s27 => ?_; clear s26
    obtain ⟨x1, e_x1, h5⟩ := bind_some h4; clear h4; replace e_x1 := Option.some.inj e_x1
    refine seq_op s27 rfl rfl (of_decide_eq_true rfl) ((ob_mkSlice (k := (kint .u8)) (xs := ([(IntKind.wrap .u8 (iadd .u32 (irem y2 (128 : Int)) (128 : Int)))] : (List Int))) rfl Try.underlying23 zz5 sz5 (Zr.int .u8) (by decide) (by decide) (.cons (.tmp rfl) rfl (LS.arr' (i := 0) (ys := ([(IntKind.wrap .u8 (iadd .u32 (irem y2 (128 : Int)) (128 : Int)))] : (List Int))) (by simp) (by rfl)) (.nil _))).nm e_x1) fun a28 w28 s28 => ?_; clear s27
    refine seq_op s28 rfl rfl (of_decide_eq_true rfl) (ob_bytesToStr rfl Try.underlying23 Try.underlying9 Try.underlying5 (.tmp rfl)) fun a29 w29 s29 => ?_; clear s28
    refine seq_op s29 rfl rfl (of_decide_eq_true rfl) (ob_move rfl (.tmp rfl)) fun a30 w30 s30 => ?_; clear s29
    obtain ⟨g1, h6⟩ := guard_some h5; clear h5
    refine seq_op s30 rfl rfl (of_decide_eq_true rfl) (ob_cat rfl (.tmp rfl) (.tmp rfl) g1) fun a31 w31 s31 => ?_; clear s30
    refine seq_op s31 rfl rfl (of_decide_eq_true rfl) (ob_assign rfl (.tmp rfl)) fun a32 w32 s32 => ?_; clear s31
    refine wpList_nil ?_
    refine in_normal ?_
    refine then_normal ?_
    refine hK9 _ _ ?_
    have s33 := s32.sub (.cons (t := 0) rfl (.cons (t := 3) rfl .nil)); clear s32
    refine wp_region_lit ?_
    refine seq_op s33 rfl rfl (of_decide_eq_true rfl) (ob_move rfl (.tmp rfl)) fun a34 w34 s34 => ?_; clear s33
    refine seq_op s34 rfl rfl (of_decide_eq_true rfl) (ob_quo rfl (.tmp rfl) (opd_int rfl) (by decide)) fun a35 w35 s35 => ?_; clear s34
    refine seq_op s35 rfl rfl (of_decide_eq_true rfl) (ob_assign rfl (.tmp rfl)) fun a36 w36 s36 => ?_; clear s35
    refine wpList_nil ?_
    refine then_normal ?_
    exact hK6 ((iquo .u32 y2 (128 : Int)), (x1 ++ y3)) _ _ h6 (s36.sub (.cons rfl (.cons rfl .nil)))
  · replace h3 := ite_f hc1 h3
    have h7 := h3; clear h3
    refine wp_exit ?_
    refine (then_exit (then_exit (in_here ?_)))
    refine then_normal ?_
    exact hj1 y3 _ _ h7 (s22.sub (.cons rfl .nil))

/- 56 cabal/cabalref10.Text -/
theorem c_cabalref10_Text (k : Nat) (p1 : (List Int)) (r : (List Int)) (h0 : cabalref10_Text k p1 = some r) (ok : Ok) (w0 : World) (z0 : Value) (u0 : (kstr.V p1).holds ok w0 z0) :
    Gives Try.prog 56 [z0] ok w0 (resFact [kstr.V r]) := by
  unfold cabalref10_Text at h0
  refine enter (N := 9) Try.func56 rfl rfl (of_decide_eq_true rfl) (.cons u0 .nil) fun a1 s1 => ?_
  refine wp_seq_k fun K1 hK1 => ?_
  refine wp_region_lit ?_
  refine seq_op s1 rfl rfl (of_decide_eq_true rfl) (ob_assign rfl (opd_str (by rfl) (by decide))) fun a2 w2 s2 => ?_; clear s1
  refine wpList_nil ?_
  refine then_normal ?_
  refine hK1 _ _ ?_
  have s3 := s2.sub (.cons (t := 0) rfl .nil); clear s2
  refine wp_seq_k fun K2 hK2 => ?_
  refine wp_region_lit ?_
  refine seq_op s3 rfl rfl (of_decide_eq_true rfl) (ob_move rfl (.tmp rfl)) fun a4 w4 s4 => ?_; clear s3
  refine seq_op s4 rfl rfl (of_decide_eq_true rfl) (ob_lenStr rfl Try.underlying9 (.tmp rfl)) fun a5 w5 s5 => ?_; clear s4
  refine seq_op s5 rfl rfl (of_decide_eq_true rfl) (ob_conv rfl _ Try.underlying3 Try.underlying69 (.tmp rfl)) fun a6 w6 s6 => ?_; clear s5
  obtain ⟨x1, e_x1, h1⟩ := bind_some h0; clear h0
  refine seq_op s6 rfl rfl (of_decide_eq_true rfl) (ob_callD (args := [_]) rfl .direct hb55 (fun a w s fs gs hf hg => by obtain rfl := hf.unnil; obtain rfl := hg.unnil; exact c_cabalref10_Number k _ _ e_x1 _ _ _ (s.arg (.tmp rfl)))) fun a7 w7 s7 => ?_; clear s6
  refine seq_op s7 rfl rfl (of_decide_eq_true rfl) (ob_move rfl (.tmp rfl)) fun a8 w8 s8 => ?_; clear s7
  obtain ⟨g1, h2⟩ := guard_some h1; clear h1
  refine seq_op s8 rfl rfl (of_decide_eq_true rfl) (ob_cat rfl (.tmp rfl) (.tmp rfl) g1) fun a9 w9 s9 => ?_; clear s8
  refine seq_op s9 rfl rfl (of_decide_eq_true rfl) (ob_assign rfl (.tmp rfl)) fun a10 w10 s10 => ?_; clear s9
  refine wpList_nil ?_
  refine then_normal ?_
  refine hK2 _ _ ?_
  have s11 := s10.sub (.cons (t := 2) rfl .nil); clear s10
  refine wp_ret ?_
  obtain rfl := Option.some.inj h2
  exact leave s11 (.inl rfl) rfl (.cons (.tmp rfl) .nil)

/- 57 (*cabal/wire.Writer).Keys -/
theorem c_wire_Writer_Keys (k : Nat) (p1 : wire_Writer) (p2 : (List (List Int))) (r : wire_Writer) (h0 : wire_Writer_Keys k p1 p2 = some r) (ok : Ok) (w0 : World) (z0 : Value) (z1 : Value) (b00 : Nat) (w0_0 : Value) (l0 : ∀ q, q ∈ [BF b00 59 (ko_wire_Writer_0 w0_0) (⟨[]⟩ : wire_Writer), RowF w0_0 5 (kint .u8) p1.out] → q.holds ok w0) (d0 : ∀ c, c ∈ idsOf [BF b00 59 (ko_wire_Writer_0 w0_0) (⟨[]⟩ : wire_Writer), RowF w0_0 5 (kint .u8) p1.out] → ¬ ok c) (nd : (idsOf [BF b00 59 (ko_wire_Writer_0 w0_0) (⟨[]⟩ : wire_Writer), RowF w0_0 5 (kint .u8) p1.out]).Nodup) (u0 : (ptrB b00 0).holds ok w0 z0) (u1 : ((ksl (karr 32 (kint .u8))).V p2).holds ok w0 z1) :
    GivesX Try.prog 57 [z0, z1] ok w0 [BF b00 59 (ko_wire_Writer_0 w0_0) (⟨[]⟩ : wire_Writer), RowF w0_0 5 (kint .u8) p1.out] (fun g : Value => resFact []) (fun g : Value => [BF b00 59 (ko_wire_Writer_0 (g)) (⟨[]⟩ : wire_Writer), RowF (g) 5 (kint .u8) r.out]) := by
  unfold wire_Writer_Keys at h0
  refine enterX (N := 22) Try.func57 rfl rfl (of_decide_eq_true rfl) (.cons u0 (.cons u1 .nil)) nd l0 d0 fun a1 s1 => ?_
  refine wp_seq_k fun K1 hK1 => ?_
  refine wp_region_lit ?_
  refine seq_op s1 rfl rfl (of_decide_eq_true rfl) (ob_move rfl (.tmp rfl)) fun a2 w2 s2 => ?_; clear s1
  refine seq_op s2 rfl rfl (of_decide_eq_true rfl) (ob_lens rfl Try.underlying63 (.tmp rfl)) fun a3 w3 s3 => ?_; clear s2
  refine seq_op s3 rfl rfl (of_decide_eq_true rfl) (ob_move rfl (opd_int rfl)) fun a4 w4 s4 => ?_; clear s3
  refine wpList_nil ?_
  refine then_normal ?_
  refine hK1 _ _ ?_
  have s5 := s4.sub (.cons (t := 0) rfl (.cons (t := 6) rfl (.cons (t := 7) rfl (.cons (t := 8) rfl .nil)))); clear s4
  refine wp_block ?_
  refine wp_loop_fuel (fun m (q : Int × (List Int)) => wire_Writer_Keys.l1 k p2 m q.1 q.2) r (fun _ => rfl) (fun q a w => ∃ (v1 : Value), St ⟨22, w0, ok, (idsOf [BF b00 59 (ko_wire_Writer_0 w0_0) (⟨[]⟩ : wire_Writer), RowF w0_0 5 (kint .u8) p1.out])⟩ [BF b00 59 (ko_wire_Writer_0 v1) (⟨[]⟩ : wire_Writer), RowF v1 5 (kint .u8) q.2] [(0, (ptrB b00 0)), (6, ((ksl (karr 32 (kint .u8))).V p2)), (7, ((kint .i64).V (p2.length : Int))), (8, ((kint .i64).V q.1))] a w) ?_ k ((0 : Int), p1.out) _ _ h0 ⟨w0_0, (s5.sub (.cons rfl (.cons rfl (.cons rfl (.cons rfl .nil)))))⟩
  rintro n1 ⟨y1, y2⟩ a6 w6 h1 ⟨v1, s6⟩ K2 hK2
  replace h1 : wire_Writer_Keys.l1 k p2 (n1 + 1) y1 y2 = some r := h1; rw [wire_Writer_Keys.l1] at h1
  have h2 := h1; clear h1
  refine wp_seq_k fun K3 hK3 => ?_
  refine wp_region_lit ?_
  refine seq_op s6 rfl rfl (of_decide_eq_true rfl) (ob_lss rfl (.tmp rfl) (.tmp rfl)) fun a7 w7 s7 => ?_; clear s6
  refine wpList_nil ?_
  refine then_normal ?_
  refine hK3 _ _ ?_
  have s8 := s7.sub (.cons (t := 0) rfl (.cons (t := 6) rfl (.cons (t := 7) rfl (.cons (t := 8) rfl (.cons (t := 9) rfl .nil))))); clear s7
  refine wp_seq_k fun K4 hK4 => ?_
  refine cond_split s8 (.tmp rfl) (fun hc1 => ?_) (fun hc1 => ?_)
  · replace h2 := ite_t hc1 h2
    have h3 := h2; clear h2
    refine wp_skip ?_
    refine then_normal ?_
    refine hK4 _ _ ?_
    have s9 := s8.sub (.cons (t := 0) rfl (.cons (t := 6) rfl (.cons (t := 7) rfl (.cons (t := 8) rfl .nil)))); clear s8
    refine wp_seq_k fun K5 hK5 => ?_
    refine wp_block ?_
    refine wp_seq_k fun K6 hK6 => ?_
    refine wp_region_lit ?_
    obtain ⟨x1, e_x1, h4⟩ := bind_some h3; clear h3
    refine seq_op s9 rfl rfl (of_decide_eq_true rfl) (ob_indexAddrs rfl Try.underlying63 sz72 (.tmp rfl) (.tmp rfl) e_x1) fun a10 w10 s10 => ?_; clear s9
    refine seq_op s10 rfl rfl (of_decide_eq_true rfl) (ob_loadr rfl tk72 (.tmp rfl)) fun a11 w11 s11 => ?_; clear s10
    refine seq_opx (B' := (fun b1 : Nat => [BF b1 72 (karr 32 (kint .u8)) (List.replicate 32 (0 : Int)), BF b00 59 (ko_wire_Writer_0 v1) (⟨[]⟩ : wire_Writer), RowF v1 5 (kint .u8) y2])) s11 rfl rfl (of_decide_eq_true rfl) (ob_new (k := (karr 32 (kint .u8))) rfl zz72 (Zr.arr 32 (Zr.int .u8))) fun b1 a12 w12 s12 => ?_; clear s11
    refine seq_opx0 (B' := (fun _ : Unit => [BF b1 72 (karr 32 (kint .u8)) x1, BF b00 59 (ko_wire_Writer_0 v1) (⟨[]⟩ : wire_Writer), RowF v1 5 (kint .u8) y2])) s12 rfl rfl (ob_store (A := []) rfl tk72 (.tmp rfl) (.tmp rfl) rfl (LS.refl _ _ _) rfl) fun _ a13 w13 s13 => ?_; clear s12
    refine wpList_nil ?_
    refine then_normal ?_
    refine hK6 _ _ ?_
    have s14 := s13.sub (.cons (t := 0) rfl (.cons (t := 5) rfl (.cons (t := 6) rfl (.cons (t := 7) rfl (.cons (t := 8) rfl .nil))))); clear s13
    obtain ⟨x2, e_x2, h5⟩ := bind_some h4; clear h4
    obtain ⟨g1, h6⟩ := guard_some h5; clear h5
    refine wp_goes (Fs := [(ptrB b00 0), (ptrB b00 0), (ptrB b00 0), (ptrB b00 0), (is v1), (is (.slice (some ⟨b1, soff 32 0 (0 : Int).toNat 1, none⟩) ((32 : Int).toNat - (0 : Int).toNat) (32 - (0 : Int).toNat))), nofact]) (bits := [0, 0, 2, 6, 14, 0, 62, 127, 255, 511]) (m := 7) (todo := 64) mx s14 ?_; clear s14
    refine goes_turn (B' := (fun v2 : Value => [BF b1 72 (karr 32 (kint .u8)) x1, BF b00 59 (ko_wire_Writer_0 v1) (⟨[]⟩ : wire_Writer), RowF v2 5 (kint .u8) (y2 ++ x2)])) (Fs' := (fun v2 : Value => setAll ([(ptrB b00 0), (ptrB b00 0), (ptrB b00 0), (ptrB b00 0), (is v1), (is (.slice (some ⟨b1, soff 32 0 (0 : Int).toNat 1, none⟩) ((32 : Int).toNat - (0 : Int).toNat) (32 - (0 : Int).toNat))), nofact]) [(6, (is v2))])) 6 64 126 0 (by kernel_rfl) rfl rfl rfl (opsS_cons (.plain _ (Av.old (t := 0) rfl rfl Av.nil) rfl rfl (ob_move rfl (.tmp rfl))) (opsS_cons (.plain _ (Av.old (t := 0) rfl rfl Av.nil) rfl rfl (ob_move rfl (.tmp rfl))) (opsS_cons (.plain _ (Av.new (j := 1) rfl rfl rfl Av.nil) rfl rfl (ob_nilCheck rfl (.tmp rfl))) (opsS_cons (.plain _ (Av.new (j := 2) rfl rfl rfl Av.nil) rfl rfl (ob_fieldAddr (off' := 0) rfl Try.underlying59 rfl sz23 (by decide) (.tmp rfl) rfl)) (opsS_cons (.plain _ (Av.new (j := 3) rfl rfl rfl Av.nil) rfl rfl (ob_loadRowV rfl (tkr23 _) (.tmp rfl) (.tail _ (.head _)) (lgo_wire_Writer_0_out (⟨[]⟩ : wire_Writer)))) (opsS_cons (.plain _ (Av.old (t := 5) rfl rfl Av.nil) rfl rfl (ob_sliceArr rfl Try.underlying72 sz5 (.tmp rfl) .none .none (show (0 : Int) ≤ (0 : Int) ∧ (0 : Int) ≤ (32 : Int) ∧ (32 : Int) ≤ ((32 : Nat) : Int) by decide))) (opsS_skip (by rfl) opsS_nil))))))) (.plain _ (Av.new (j := 4) rfl rfl rfl (Av.new (j := 5) rfl rfl rfl Av.nil)) rfl (fun _ => rfl) (fun R => (ob_lendX (L := [_, _]) (List.Perm.refl _) (.cons (t := 17) rfl (lendSlB (.head _) (LG.refl _ _) e_x2 rfl (cut_len e_x2) (cut_cap e_x2 (show (0 : Int) ≤ (0 : Int) ∧ (0 : Int) ≤ (32 : Int) ∧ (32 : Int) ≤ ((32 : Nat) : Int) by decide) (by decide))) .nil) (fun _ => Flat.is) (fun _ => (.cons (FlatO.row (KFlat.int _)) FlatL.nil)) (fun _ _ => ob_appendL2 (A := []) rfl Try.underlying23 ap5 (Zr.int .u8) (by decide) (.tmp rfl) (.tmp rfl) rfl g1)))) (setAll_same (us := (fun v2 : Value => [(6, (is v2))])) fun _ => by kernel_rfl) fun v2 => ?_
    refine goes_last (by kernel_rfl) rfl (opsS_cons (.plain _ (Av.old (t := 0) rfl rfl Av.nil) rfl rfl (ob_move rfl (.tmp rfl))) (opsS_skip (by rfl) (opsS_skip (by rfl) (opsS_skip (by rfl) (opsS_skip (by rfl) (opsS_skip (by rfl) (opsS_skip (by rfl) opsS_nil))))))) (out_old (t := 0) rfl rfl (out_old (t := 6) rfl rfl (out_old (t := 7) rfl rfl (out_old (t := 8) rfl rfl (out_new (i := 0) (by decide) rfl rfl (out_new (i := 6) (by decide) rfl rfl out_nil)))))) fun a15 w15 s15 => ?_
    refine seq_op s15 rfl rfl (of_decide_eq_true rfl) (ob_nilCheck rfl (.tmp rfl)) fun a16 w16 s16 => ?_; clear s15
    refine seq_op s16 rfl rfl (of_decide_eq_true rfl) (ob_fieldAddr (off' := 0) rfl Try.underlying59 rfl sz23 (by decide) (.tmp rfl) rfl) fun a17 w17 s17 => ?_; clear s16
    refine seq_opx0 (B' := (fun _ : Unit => [BF b1 72 (karr 32 (kint .u8)) x1, BF b00 59 (ko_wire_Writer_0 v2) (⟨[]⟩ : wire_Writer), RowF v2 5 (kint .u8) (y2 ++ x2)])) s17 rfl rfl (ob_storeRowV (A := [_]) rfl (tkr23 _) (.tmp rfl) (.tmp rfl) (.tail _ (.tail _ (.head _))) rfl (lsk_wire_Writer_0_to_0_at0 (⟨[]⟩ : wire_Writer)) rfl) fun _ a18 w18 s18 => ?_; clear s17
    refine wpList_nil ?_
    refine in_normal ?_
    refine then_normal ?_
    refine hK5 _ _ ?_
    have s19 := s18.sub (.cons (t := 0) rfl (.cons (t := 6) rfl (.cons (t := 7) rfl (.cons (t := 8) rfl .nil)))); clear s18
    have s20 := St.drop (A := []) s19; clear s19
    refine wp_region_lit ?_
    refine seq_op s20 rfl rfl (of_decide_eq_true rfl) (ob_add rfl (.tmp rfl) (opd_int rfl)) fun a21 w21 s21 => ?_; clear s20
    refine seq_op s21 rfl rfl (of_decide_eq_true rfl) (ob_move rfl (.tmp rfl)) fun a22 w22 s22 => ?_; clear s21
    refine wpList_nil ?_
    refine then_normal ?_
    exact hK2 ((iadd .i64 y1 (1 : Int)), (y2 ++ x2)) _ _ h6 ⟨v2, (s22.sub (.cons rfl (.cons rfl (.cons rfl (.cons rfl .nil)))))⟩
  · replace h2 := ite_f hc1 h2
    have h7 := h2; clear h2
    refine wp_exit ?_
    refine (then_exit (then_exit (in_here ?_)))
    obtain rfl := Option.some.inj h7
    exact leaveXD (D := []) v1 s8 rfl (.inr rfl) rfl .nil rfl

/- 45 (*cabal/wire.Writer).KeyList -/
theorem c_wire_Writer_KeyList (k : Nat) (p1 : wire_Writer) (p2 : (List (List Int))) (r : wire_Writer) (h0 : wire_Writer_KeyList k p1 p2 = some r) (ok : Ok) (w0 : World) (z0 : Value) (z1 : Value) (b00 : Nat) (w0_0 : Value) (l0 : ∀ q, q ∈ [BF b00 59 (ko_wire_Writer_0 w0_0) (⟨[]⟩ : wire_Writer), RowF w0_0 5 (kint .u8) p1.out] → q.holds ok w0) (d0 : ∀ c, c ∈ idsOf [BF b00 59 (ko_wire_Writer_0 w0_0) (⟨[]⟩ : wire_Writer), RowF w0_0 5 (kint .u8) p1.out] → ¬ ok c) (nd : (idsOf [BF b00 59 (ko_wire_Writer_0 w0_0) (⟨[]⟩ : wire_Writer), RowF w0_0 5 (kint .u8) p1.out]).Nodup) (u0 : (ptrB b00 0).holds ok w0 z0) (u1 : ((ksl (karr 32 (kint .u8))).V p2).holds ok w0 z1) :
    GivesX Try.prog 45 [z0, z1] ok w0 [BF b00 59 (ko_wire_Writer_0 w0_0) (⟨[]⟩ : wire_Writer), RowF w0_0 5 (kint .u8) p1.out] (fun g : Value => resFact []) (fun g : Value => [BF b00 59 (ko_wire_Writer_0 (g)) (⟨[]⟩ : wire_Writer), RowF (g) 5 (kint .u8) r.out]) := by
  unfold wire_Writer_KeyList at h0
  refine enterX (N := 13) Try.func45 rfl rfl (of_decide_eq_true rfl) (.cons u0 (.cons u1 .nil)) nd l0 d0 fun a1 s1 => ?_
  refine wp_seq_k fun K1 hK1 => ?_
  refine wp_region_lit ?_
  refine seq_op s1 rfl rfl (of_decide_eq_true rfl) (ob_move rfl (.tmp rfl)) fun a2 w2 s2 => ?_; clear s1
  refine seq_op s2 rfl rfl (of_decide_eq_true rfl) (ob_move rfl (.tmp rfl)) fun a3 w3 s3 => ?_; clear s2
  refine seq_op s3 rfl rfl (of_decide_eq_true rfl) (ob_lens rfl Try.underlying63 (.tmp rfl)) fun a4 w4 s4 => ?_; clear s3
  refine seq_op s4 rfl rfl (of_decide_eq_true rfl) (ob_conv rfl _ Try.underlying3 Try.underlying69 (.tmp rfl)) fun a5 w5 s5 => ?_; clear s4
  refine seq_op s5 rfl rfl (of_decide_eq_true rfl) (ob_mkSlice (k := (kint .u32)) (xs := ([(IntKind.wrap .u32 (p2.length : Int))] : (List Int))) rfl Try.underlying62 zz69 sz69 (Zr.int .u32) (by decide) (by decide) (.cons (.tmp rfl) rfl (LS.arr' (i := 0) (ys := ([(IntKind.wrap .u32 (p2.length : Int))] : (List Int))) (by simp) (by rfl)) (.nil _))) fun a6 w6 s6 => ?_; clear s5
  obtain ⟨x1, e_x1, h1⟩ := bind_some h0; clear h0
  refine seq_opx (B' := (fun v1 : Value => [BF b00 59 (ko_wire_Writer_0 v1) (⟨[]⟩ : wire_Writer), RowF v1 5 (kint .u8) x1.out])) s6 rfl rfl (of_decide_eq_true rfl) (ob_callL (args := [_, _]) (L := [_, _]) rfl .direct hb43 (List.Perm.refl _) (fun a w s fs gs hf hg => by obtain rfl := hf.unnil; obtain rfl := hg.unnil; exact c_wire_Writer_Numbers k _ _ _ e_x1 _ _ _ _ _ _ (ownL s) (disL s) (nodL s) (s.arg (.tmp rfl)) (s.arg (.tmp rfl))) (by exact fun _ => rfl)) fun v1 a7 w7 s7 => ?_; clear s6
  refine wpList_nil ?_
  refine then_normal ?_
  refine hK1 _ _ ?_
  have s8 := s7.sub (.cons (t := 0) rfl (.cons (t := 1) rfl .nil)); clear s7
  refine wp_region_lit ?_
  refine seq_op s8 rfl rfl (of_decide_eq_true rfl) (ob_move rfl (.tmp rfl)) fun a9 w9 s9 => ?_; clear s8
  refine seq_op s9 rfl rfl (of_decide_eq_true rfl) (ob_move rfl (.tmp rfl)) fun a10 w10 s10 => ?_; clear s9
  obtain ⟨x2, e_x2, h2⟩ := bind_some h1; clear h1
  refine seq_opx (B' := (fun v2 : Value => [BF b00 59 (ko_wire_Writer_0 v2) (⟨[]⟩ : wire_Writer), RowF v2 5 (kint .u8) x2.out])) s10 rfl rfl (of_decide_eq_true rfl) (ob_callL (args := [_, _]) (L := [_, _]) rfl .direct hb57 (List.Perm.refl _) (fun a w s fs gs hf hg => by obtain rfl := hf.unnil; obtain rfl := hg.unnil; exact c_wire_Writer_Keys k _ _ _ e_x2 _ _ _ _ _ _ (ownL s) (disL s) (nodL s) (s.arg (.tmp rfl)) (s.arg (.tmp rfl))) (by exact fun _ => rfl)) fun v2 a11 w11 s11 => ?_; clear s10
  refine wpList_nil ?_
  obtain rfl := Option.some.inj h2
  exact leaveXD (D := []) v2 s11 rfl (.inr rfl) rfl .nil rfl

/- 58 cabal/cabalref10.KeyList -/
theorem c_cabalref10_KeyList (k : Nat) (p1 : (List (List Int))) (r : (List Int)) (h0 : cabalref10_KeyList k p1 = some r) (ok : Ok) (w0 : World) (z0 : Value) (u0 : ((ksl (karr 32 (kint .u8))).V p1).holds ok w0 z0) :
    Gives Try.prog 58 [z0] ok w0 (resFact [kstr.V r]) := by
  unfold cabalref10_KeyList at h0
  refine enter (N := 23) Try.func58 rfl rfl (of_decide_eq_true rfl) (.cons u0 .nil) fun a1 s1 => ?_
  refine wp_seq_k fun K1 hK1 => ?_
  refine wp_region_lit ?_
  refine seq_op s1 rfl rfl (of_decide_eq_true rfl) (ob_assign rfl (opd_str (by rfl) (by decide))) fun a2 w2 s2 => ?_; clear s1
  refine wpList_nil ?_
  refine then_normal ?_
  refine hK1 _ _ ?_
  have s3 := s2.sub (.cons (t := 0) rfl .nil); clear s2
  refine wp_seq_k fun K2 hK2 => ?_
  refine wp_region_lit ?_
  refine seq_op s3 rfl rfl (of_decide_eq_true rfl) (ob_move rfl (.tmp rfl)) fun a4 w4 s4 => ?_; clear s3
  refine seq_op s4 rfl rfl (of_decide_eq_true rfl) (ob_lens rfl Try.underlying63 (.tmp rfl)) fun a5 w5 s5 => ?_; clear s4
  refine seq_op s5 rfl rfl (of_decide_eq_true rfl) (ob_conv rfl _ Try.underlying3 Try.underlying69 (.tmp rfl)) fun a6 w6 s6 => ?_; clear s5
  obtain ⟨x1, e_x1, h1⟩ := bind_some h0; clear h0
  refine seq_op s6 rfl rfl (of_decide_eq_true rfl) (ob_callD (args := [_]) rfl .direct hb55 (fun a w s fs gs hf hg => by obtain rfl := hf.unnil; obtain rfl := hg.unnil; exact c_cabalref10_Number k _ _ e_x1 _ _ _ (s.arg (.tmp rfl)))) fun a7 w7 s7 => ?_; clear s6
  refine seq_op s7 rfl rfl (of_decide_eq_true rfl) (ob_assign rfl (.tmp rfl)) fun a8 w8 s8 => ?_; clear s7
  refine wpList_nil ?_
  refine then_normal ?_
  refine hK2 _ _ ?_
  have s9 := s8.sub (.cons (t := 0) rfl (.cons (t := 3) rfl .nil)); clear s8
  refine wp_seq_k fun K3 hK3 => ?_
  refine wp_seq_k fun K4 hK4 => ?_
  refine wp_region_lit ?_
  refine seq_op s9 rfl rfl (of_decide_eq_true rfl) (ob_assign rfl (opd_int rfl)) fun a10 w10 s10 => ?_; clear s9
  refine wpList_nil ?_
  refine then_normal ?_
  refine hK4 _ _ ?_
  have s11 := s10.sub (.cons (t := 0) rfl (.cons (t := 3) rfl (.cons (t := 4) rfl .nil))); clear s10
  have hj1 : ∀ (y1 : (List Int)) (a : Act) (w : World), (cabalref10_KeyList.j1 k) y1 = some r → St ⟨23, w0, ok, []⟩ [] [(3, (kstr.V y1))] a w → K3 a w := by
    intro y1 a12 w12 h2 s12
    unfold cabalref10_KeyList.j1 at h2
    refine hK3 _ _ ?_
    refine wp_seq_k fun K5 hK5 => ?_
    refine wp_region_lit ?_
    refine seq_op s12 rfl rfl (of_decide_eq_true rfl) (ob_move rfl (.tmp rfl)) fun a13 w13 s13 => ?_; clear s12
    refine seq_op s13 rfl rfl (of_decide_eq_true rfl) (ob_assign rfl (.tmp rfl)) fun a14 w14 s14 => ?_; clear s13
    refine wpList_nil ?_
    refine then_normal ?_
    refine hK5 _ _ ?_
    have s15 := s14.sub (.cons (t := 2) rfl .nil); clear s14
    refine wp_ret ?_
    obtain rfl := Option.some.inj h2
    exact leave s15 (.inl rfl) rfl (.cons (.tmp rfl) .nil)
  refine wp_block ?_
  refine wp_loop_fuel (fun m (q : (List Int) × Int) => cabalref10_KeyList.l1 k p1 m q.1 q.2) r (fun _ => rfl) (fun q a w => St ⟨23, w0, ok, []⟩ [] [(0, ((ksl (karr 32 (kint .u8))).V p1)), (3, (kstr.V q.1)), (4, ((kint .i64).V q.2))] a w) ?_ k (x1, (0 : Int)) _ _ h1 (s11.sub (.cons rfl (.cons rfl (.cons rfl .nil))))
  rintro n1 ⟨y2, y3⟩ a16 w16 h3 s16 K6 hK6
  replace h3 : cabalref10_KeyList.l1 k p1 (n1 + 1) y2 y3 = some r := h3; rw [cabalref10_KeyList.l1] at h3
  have h4 := h3; clear h3
  refine wp_seq_k fun K7 hK7 => ?_
  refine wp_seq_k fun K8 hK8 => ?_
  refine wp_region_lit ?_
  refine seq_op s16 rfl rfl (of_decide_eq_true rfl) (ob_move rfl (.tmp rfl)) fun a17 w17 s17 => ?_; clear s16
  refine seq_op s17 rfl rfl (of_decide_eq_true rfl) (ob_move rfl (.tmp rfl)) fun a18 w18 s18 => ?_; clear s17
  refine seq_op s18 rfl rfl (of_decide_eq_true rfl) (ob_lens rfl Try.underlying63 (.tmp rfl)) fun a19 w19 s19 => ?_; clear s18
  refine seq_op s19 rfl rfl (of_decide_eq_true rfl) (ob_lss rfl (.tmp rfl) (.tmp rfl)) fun a20 w20 s20 => ?_; clear s19
  refine wpList_nil ?_
  refine then_normal ?_
  refine hK8 _ _ ?_
  have s21 := s20.sub (.cons (t := 0) rfl (.cons (t := 3) rfl (.cons (t := 4) rfl (.cons (t := 12) rfl .nil)))); clear s20
  refine cond_split s21 (.tmp rfl) (fun hc1 => ?_) (fun hc1 => ?_)
  · replace h4 := ite_t hc1 h4
    have h5 := h4; clear h4
    refine wp_skip ?_
    refine then_normal ?_
    refine hK7 _ _ ?_
    have s22 := s21.sub (.cons (t := 0) rfl (.cons (t := 3) rfl (.cons (t := 4) rfl .nil))); clear s21
    refine wp_seq_k fun K9 hK9 => ?_
    refine wp_block ?_
    refine wp_region_lit ?_
    refine seq_op s22 rfl rfl (of_decide_eq_true rfl) (ob_move rfl (.tmp rfl)) fun a23 w23 s23 => ?_; clear s22
    refine seq_op s23 rfl rfl (of_decide_eq_true rfl) (ob_move rfl (.tmp rfl)) fun a24 w24 s24 => ?_; clear s23
    refine seq_op s24 rfl rfl (of_decide_eq_true rfl) (ob_move rfl (.tmp rfl)) fun a25 w25 s25 => ?_; clear s24
    obtain ⟨x2, e_x2, h6⟩ := bind_some h5; clear h5
    refine seq_op s25 rfl rfl (of_decide_eq_true rfl) (ob_indexAddrs rfl Try.underlying63 sz72 (.tmp rfl) (.tmp rfl) e_x2) fun a26 w26 s26 => ?_; clear s25
    obtain ⟨x3, e_x3, h7⟩ := bind_some h6; clear h6
    refine seq_op s26 rfl rfl (of_decide_eq_true rfl) (ob_sliceArrr rfl Try.underlying72 sz5 (.tmp rfl) (by decide) .none .none e_x3) fun a27 w27 s27 => ?_; clear s26
    refine seq_op s27 rfl rfl (of_decide_eq_true rfl) (ob_bytesToStr rfl Try.underlying23 Try.underlying9 Try.underlying5 (.tmp rfl)) fun a28 w28 s28 => ?_; clear s27
    obtain ⟨g1, h8⟩ := guard_some h7; clear h7
    refine seq_op s28 rfl rfl (of_decide_eq_true rfl) (ob_cat rfl (.tmp rfl) (.tmp rfl) g1) fun a29 w29 s29 => ?_; clear s28
    refine seq_op s29 rfl rfl (of_decide_eq_true rfl) (ob_assign rfl (.tmp rfl)) fun a30 w30 s30 => ?_; clear s29
    refine wpList_nil ?_
    refine in_normal ?_
    refine then_normal ?_
    refine hK9 _ _ ?_
    have s31 := s30.sub (.cons (t := 0) rfl (.cons (t := 3) rfl (.cons (t := 4) rfl .nil))); clear s30
    refine wp_region_lit ?_
    refine seq_op s31 rfl rfl (of_decide_eq_true rfl) (ob_move rfl (.tmp rfl)) fun a32 w32 s32 => ?_; clear s31
    refine seq_op s32 rfl rfl (of_decide_eq_true rfl) (ob_add rfl (.tmp rfl) (opd_int rfl)) fun a33 w33 s33 => ?_; clear s32
    refine seq_op s33 rfl rfl (of_decide_eq_true rfl) (ob_assign rfl (.tmp rfl)) fun a34 w34 s34 => ?_; clear s33
    refine wpList_nil ?_
    refine then_normal ?_
    exact hK6 ((y2 ++ x3), (iadd .i64 y3 (1 : Int))) _ _ h8 (s34.sub (.cons rfl (.cons rfl (.cons rfl .nil))))
  · replace h4 := ite_f hc1 h4
    have h9 := h4; clear h4
    refine wp_exit ?_
    refine (then_exit (then_exit (in_here ?_)))
    refine then_normal ?_
    exact hj1 y2 _ _ h9 (s21.sub (.cons rfl .nil))

/- 46 (*cabal/wire.Writer).NumberList -/
theorem c_wire_Writer_NumberList (k : Nat) (p1 : wire_Writer) (p2 : (List Int)) (r : wire_Writer) (h0 : wire_Writer_NumberList k p1 p2 = some r) (ok : Ok) (w0 : World) (z0 : Value) (z1 : Value) (b00 : Nat) (w0_0 : Value) (l0 : ∀ q, q ∈ [BF b00 59 (ko_wire_Writer_0 w0_0) (⟨[]⟩ : wire_Writer), RowF w0_0 5 (kint .u8) p1.out] → q.holds ok w0) (d0 : ∀ c, c ∈ idsOf [BF b00 59 (ko_wire_Writer_0 w0_0) (⟨[]⟩ : wire_Writer), RowF w0_0 5 (kint .u8) p1.out] → ¬ ok c) (nd : (idsOf [BF b00 59 (ko_wire_Writer_0 w0_0) (⟨[]⟩ : wire_Writer), RowF w0_0 5 (kint .u8) p1.out]).Nodup) (u0 : (ptrB b00 0).holds ok w0 z0) (u1 : ((ksl (kint .u32)).V p2).holds ok w0 z1) :
    GivesX Try.prog 46 [z0, z1] ok w0 [BF b00 59 (ko_wire_Writer_0 w0_0) (⟨[]⟩ : wire_Writer), RowF w0_0 5 (kint .u8) p1.out] (fun g : Value => resFact []) (fun g : Value => [BF b00 59 (ko_wire_Writer_0 (g)) (⟨[]⟩ : wire_Writer), RowF (g) 5 (kint .u8) r.out]) := by
  unfold wire_Writer_NumberList at h0
  refine enterX (N := 13) Try.func46 rfl rfl (of_decide_eq_true rfl) (.cons u0 (.cons u1 .nil)) nd l0 d0 fun a1 s1 => ?_
  refine wp_seq_k fun K1 hK1 => ?_
  refine wp_region_lit ?_
  refine seq_op s1 rfl rfl (of_decide_eq_true rfl) (ob_move rfl (.tmp rfl)) fun a2 w2 s2 => ?_; clear s1
  refine seq_op s2 rfl rfl (of_decide_eq_true rfl) (ob_move rfl (.tmp rfl)) fun a3 w3 s3 => ?_; clear s2
  refine seq_op s3 rfl rfl (of_decide_eq_true rfl) (ob_lens rfl Try.underlying62 (.tmp rfl)) fun a4 w4 s4 => ?_; clear s3
  refine seq_op s4 rfl rfl (of_decide_eq_true rfl) (ob_conv rfl _ Try.underlying3 Try.underlying69 (.tmp rfl)) fun a5 w5 s5 => ?_; clear s4
  refine seq_op s5 rfl rfl (of_decide_eq_true rfl) (ob_mkSlice (k := (kint .u32)) (xs := ([(IntKind.wrap .u32 (p2.length : Int))] : (List Int))) rfl Try.underlying62 zz69 sz69 (Zr.int .u32) (by decide) (by decide) (.cons (.tmp rfl) rfl (LS.arr' (i := 0) (ys := ([(IntKind.wrap .u32 (p2.length : Int))] : (List Int))) (by simp) (by rfl)) (.nil _))) fun a6 w6 s6 => ?_; clear s5
  obtain ⟨x1, e_x1, h1⟩ := bind_some h0; clear h0
  refine seq_opx (B' := (fun v1 : Value => [BF b00 59 (ko_wire_Writer_0 v1) (⟨[]⟩ : wire_Writer), RowF v1 5 (kint .u8) x1.out])) s6 rfl rfl (of_decide_eq_true rfl) (ob_callL (args := [_, _]) (L := [_, _]) rfl .direct hb43 (List.Perm.refl _) (fun a w s fs gs hf hg => by obtain rfl := hf.unnil; obtain rfl := hg.unnil; exact c_wire_Writer_Numbers k _ _ _ e_x1 _ _ _ _ _ _ (ownL s) (disL s) (nodL s) (s.arg (.tmp rfl)) (s.arg (.tmp rfl))) (by exact fun _ => rfl)) fun v1 a7 w7 s7 => ?_; clear s6
  refine wpList_nil ?_
  refine then_normal ?_
  refine hK1 _ _ ?_
  have s8 := s7.sub (.cons (t := 0) rfl (.cons (t := 1) rfl .nil)); clear s7
  refine wp_region_lit ?_
  refine seq_op s8 rfl rfl (of_decide_eq_true rfl) (ob_move rfl (.tmp rfl)) fun a9 w9 s9 => ?_; clear s8
  refine seq_op s9 rfl rfl (of_decide_eq_true rfl) (ob_move rfl (.tmp rfl)) fun a10 w10 s10 => ?_; clear s9
  obtain ⟨x2, e_x2, h2⟩ := bind_some h1; clear h1
  refine seq_opx (B' := (fun v2 : Value => [BF b00 59 (ko_wire_Writer_0 v2) (⟨[]⟩ : wire_Writer), RowF v2 5 (kint .u8) x2.out])) s10 rfl rfl (of_decide_eq_true rfl) (ob_callL (args := [_, _]) (L := [_, _]) rfl .direct hb43 (List.Perm.refl _) (fun a w s fs gs hf hg => by obtain rfl := hf.unnil; obtain rfl := hg.unnil; exact c_wire_Writer_Numbers k _ _ _ e_x2 _ _ _ _ _ _ (ownL s) (disL s) (nodL s) (s.arg (.tmp rfl)) (s.arg (.tmp rfl))) (by exact fun _ => rfl)) fun v2 a11 w11 s11 => ?_; clear s10
  refine wpList_nil ?_
  obtain rfl := Option.some.inj h2
  exact leaveXD (D := []) v2 s11 rfl (.inr rfl) rfl .nil rfl

/- 59 cabal/cabalref10.NumberList -/
theorem c_cabalref10_NumberList (k : Nat) (p1 : (List Int)) (r : (List Int)) (h0 : cabalref10_NumberList k p1 = some r) (ok : Ok) (w0 : World) (z0 : Value) (u0 : ((ksl (kint .u32)).V p1).holds ok w0 z0) :
    Gives Try.prog 59 [z0] ok w0 (resFact [kstr.V r]) := by
  unfold cabalref10_NumberList at h0
  refine enter (N := 23) Try.func59 rfl rfl (of_decide_eq_true rfl) (.cons u0 .nil) fun a1 s1 => ?_
  refine wp_seq_k fun K1 hK1 => ?_
  refine wp_region_lit ?_
  refine seq_op s1 rfl rfl (of_decide_eq_true rfl) (ob_assign rfl (opd_str (by rfl) (by decide))) fun a2 w2 s2 => ?_; clear s1
  refine wpList_nil ?_
  refine then_normal ?_
  refine hK1 _ _ ?_
  have s3 := s2.sub (.cons (t := 0) rfl .nil); clear s2
  refine wp_seq_k fun K2 hK2 => ?_
  refine wp_region_lit ?_
  refine seq_op s3 rfl rfl (of_decide_eq_true rfl) (ob_move rfl (.tmp rfl)) fun a4 w4 s4 => ?_; clear s3
  refine seq_op s4 rfl rfl (of_decide_eq_true rfl) (ob_lens rfl Try.underlying62 (.tmp rfl)) fun a5 w5 s5 => ?_; clear s4
  refine seq_op s5 rfl rfl (of_decide_eq_true rfl) (ob_conv rfl _ Try.underlying3 Try.underlying69 (.tmp rfl)) fun a6 w6 s6 => ?_; clear s5
  obtain ⟨x1, e_x1, h1⟩ := bind_some h0; clear h0
  refine seq_op s6 rfl rfl (of_decide_eq_true rfl) (ob_callD (args := [_]) rfl .direct hb55 (fun a w s fs gs hf hg => by obtain rfl := hf.unnil; obtain rfl := hg.unnil; exact c_cabalref10_Number k _ _ e_x1 _ _ _ (s.arg (.tmp rfl)))) fun a7 w7 s7 => ?_; clear s6
  refine seq_op s7 rfl rfl (of_decide_eq_true rfl) (ob_assign rfl (.tmp rfl)) fun a8 w8 s8 => ?_; clear s7
  refine wpList_nil ?_
  refine then_normal ?_
  refine hK2 _ _ ?_
  have s9 := s8.sub (.cons (t := 0) rfl (.cons (t := 3) rfl .nil)); clear s8
  refine wp_seq_k fun K3 hK3 => ?_
  refine wp_seq_k fun K4 hK4 => ?_
  refine wp_region_lit ?_
  refine seq_op s9 rfl rfl (of_decide_eq_true rfl) (ob_assign rfl (opd_int rfl)) fun a10 w10 s10 => ?_; clear s9
  refine wpList_nil ?_
  refine then_normal ?_
  refine hK4 _ _ ?_
  have s11 := s10.sub (.cons (t := 0) rfl (.cons (t := 3) rfl (.cons (t := 4) rfl .nil))); clear s10
  have hj1 : ∀ (y1 : (List Int)) (a : Act) (w : World), (cabalref10_NumberList.j1 k) y1 = some r → St ⟨23, w0, ok, []⟩ [] [(3, (kstr.V y1))] a w → K3 a w := by
    intro y1 a12 w12 h2 s12
    unfold cabalref10_NumberList.j1 at h2
    refine hK3 _ _ ?_
    refine wp_seq_k fun K5 hK5 => ?_
    refine wp_region_lit ?_
    refine seq_op s12 rfl rfl (of_decide_eq_true rfl) (ob_move rfl (.tmp rfl)) fun a13 w13 s13 => ?_; clear s12
    refine seq_op s13 rfl rfl (of_decide_eq_true rfl) (ob_assign rfl (.tmp rfl)) fun a14 w14 s14 => ?_; clear s13
    refine wpList_nil ?_
    refine then_normal ?_
    refine hK5 _ _ ?_
    have s15 := s14.sub (.cons (t := 2) rfl .nil); clear s14
    refine wp_ret ?_
    obtain rfl := Option.some.inj h2
    exact leave s15 (.inl rfl) rfl (.cons (.tmp rfl) .nil)
  refine wp_block ?_
  refine wp_loop_fuel (fun m (q : (List Int) × Int) => cabalref10_NumberList.l1 k p1 m q.1 q.2) r (fun _ => rfl) (fun q a w => St ⟨23, w0, ok, []⟩ [] [(0, ((ksl (kint .u32)).V p1)), (3, (kstr.V q.1)), (4, ((kint .i64).V q.2))] a w) ?_ k (x1, (0 : Int)) _ _ h1 (s11.sub (.cons rfl (.cons rfl (.cons rfl .nil))))
  rintro n1 ⟨y2, y3⟩ a16 w16 h3 s16 K6 hK6
  replace h3 : cabalref10_NumberList.l1 k p1 (n1 + 1) y2 y3 = some r := h3; rw [cabalref10_NumberList.l1] at h3
  have h4 := h3; clear h3
  refine wp_seq_k fun K7 hK7 => ?_
  refine wp_seq_k fun K8 hK8 => ?_
  refine wp_region_lit ?_
  refine seq_op s16 rfl rfl (of_decide_eq_true rfl) (ob_move rfl (.tmp rfl)) fun a17 w17 s17 => ?_; clear s16
  refine seq_op s17 rfl rfl (of_decide_eq_true rfl) (ob_move rfl (.tmp rfl)) fun a18 w18 s18 => ?_; clear s17
  refine seq_op s18 rfl rfl (of_decide_eq_true rfl) (ob_lens rfl Try.underlying62 (.tmp rfl)) fun a19 w19 s19 => ?_; clear s18
  refine seq_op s19 rfl rfl (of_decide_eq_true rfl) (ob_lss rfl (.tmp rfl) (.tmp rfl)) fun a20 w20 s20 => ?_; clear s19
  refine wpList_nil ?_
  refine then_normal ?_
  refine hK8 _ _ ?_
  have s21 := s20.sub (.cons (t := 0) rfl (.cons (t := 3) rfl (.cons (t := 4) rfl (.cons (t := 12) rfl .nil)))); clear s20
  refine cond_split s21 (.tmp rfl) (fun hc1 => ?_) (fun hc1 => ?_)
  · replace h4 := ite_t hc1 h4
    have h5 := h4; clear h4
    refine wp_skip ?_
    refine then_normal ?_
    refine hK7 _ _ ?_
    have s22 := s21.sub (.cons (t := 0) rfl (.cons (t := 3) rfl (.cons (t := 4) rfl .nil))); clear s21
    refine wp_seq_k fun K9 hK9 => ?_
    refine wp_block ?_
    refine wp_region_lit ?_
    refine seq_op s22 rfl rfl (of_decide_eq_true rfl) (ob_move rfl (.tmp rfl)) fun a23 w23 s23 => ?_; clear s22
    refine seq_op s23 rfl rfl (of_decide_eq_true rfl) (ob_move rfl (.tmp rfl)) fun a24 w24 s24 => ?_; clear s23
    refine seq_op s24 rfl rfl (of_decide_eq_true rfl) (ob_move rfl (.tmp rfl)) fun a25 w25 s25 => ?_; clear s24
    obtain ⟨x2, e_x2, h6⟩ := bind_some h5; clear h5
    refine seq_op s25 rfl rfl (of_decide_eq_true rfl) (ob_indexAddrs rfl Try.underlying62 sz69 (.tmp rfl) (.tmp rfl) e_x2) fun a26 w26 s26 => ?_; clear s25
    refine seq_op s26 rfl rfl (of_decide_eq_true rfl) (ob_loadr rfl tk69 (.tmp rfl)) fun a27 w27 s27 => ?_; clear s26
    obtain ⟨x3, e_x3, h7⟩ := bind_some h6; clear h6
    refine seq_op s27 rfl rfl (of_decide_eq_true rfl) (ob_callD (args := [_]) rfl .direct hb55 (fun a w s fs gs hf hg => by obtain rfl := hf.unnil; obtain rfl := hg.unnil; exact c_cabalref10_Number k _ _ e_x3 _ _ _ (s.arg (.tmp rfl)))) fun a28 w28 s28 => ?_; clear s27
    obtain ⟨g1, h8⟩ := guard_some h7; clear h7
    refine seq_op s28 rfl rfl (of_decide_eq_true rfl) (ob_cat rfl (.tmp rfl) (.tmp rfl) g1) fun a29 w29 s29 => ?_; clear s28
    refine seq_op s29 rfl rfl (of_decide_eq_true rfl) (ob_assign rfl (.tmp rfl)) fun a30 w30 s30 => ?_; clear s29
    refine wpList_nil ?_
    refine in_normal ?_
    refine then_normal ?_
    refine hK9 _ _ ?_
    have s31 := s30.sub (.cons (t := 0) rfl (.cons (t := 3) rfl (.cons (t := 4) rfl .nil))); clear s30
    refine wp_region_lit ?_
    refine seq_op s31 rfl rfl (of_decide_eq_true rfl) (ob_move rfl (.tmp rfl)) fun a32 w32 s32 => ?_; clear s31
    refine seq_op s32 rfl rfl (of_decide_eq_true rfl) (ob_add rfl (.tmp rfl) (opd_int rfl)) fun a33 w33 s33 => ?_; clear s32
    refine seq_op s33 rfl rfl (of_decide_eq_true rfl) (ob_assign rfl (.tmp rfl)) fun a34 w34 s34 => ?_; clear s33
    refine wpList_nil ?_
    refine then_normal ?_
    exact hK6 ((y2 ++ x3), (iadd .i64 y3 (1 : Int))) _ _ h8 (s34.sub (.cons rfl (.cons rfl (.cons rfl .nil))))
  · replace h4 := ite_f hc1 h4
    have h9 := h4; clear h4
    refine wp_exit ?_
    refine (then_exit (then_exit (in_here ?_)))
    refine then_normal ?_
    exact hj1 y2 _ _ h9 (s21.sub (.cons rfl .nil))

/- 31 cabal/caballaw10.write -/
theorem c_caballaw10_write (k : Nat) (p1 : wire_Writer) (p2 : caballaw10_Item) (r : ((List Int) × wire_Writer)) (h0 : caballaw10_write k p1 p2 = some r) (ok : Ok) (w0 : World) (z0 : Value) (z1 : Value) (b00 : Nat) (w0_0 : Value) (l0 : ∀ q, q ∈ [BF b00 59 (ko_wire_Writer_0 w0_0) (⟨[]⟩ : wire_Writer), RowF w0_0 5 (kint .u8) p1.out] → q.holds ok w0) (d0 : ∀ c, c ∈ idsOf [BF b00 59 (ko_wire_Writer_0 w0_0) (⟨[]⟩ : wire_Writer), RowF w0_0 5 (kint .u8) p1.out] → ¬ ok c) (nd : (idsOf [BF b00 59 (ko_wire_Writer_0 w0_0) (⟨[]⟩ : wire_Writer), RowF w0_0 5 (kint .u8) p1.out]).Nodup) (u0 : (ptrB b00 0).holds ok w0 z0) (u1 : (k_caballaw10_Item.V p2).holds ok w0 z1) :
    GivesX Try.prog 31 [z0, z1] ok w0 [BF b00 59 (ko_wire_Writer_0 w0_0) (⟨[]⟩ : wire_Writer), RowF w0_0 5 (kint .u8) p1.out] (fun g : Value => resFact [kstr.V r.1]) (fun g : Value => [BF b00 59 (ko_wire_Writer_0 (g)) (⟨[]⟩ : wire_Writer), RowF (g) 5 (kint .u8) r.2.out]) := by
  unfold caballaw10_write at h0
  refine enterX (N := 88) Try.func31 rfl rfl (of_decide_eq_true rfl) (.cons u0 (.cons u1 .nil)) nd l0 d0 fun a1 s1 => ?_
  refine wp_seq_k fun K1 hK1 => ?_
  refine wp_region_lit ?_
  refine seq_opx (B' := (fun b1 : Nat => [BF b1 65 k_caballaw10_Item p2, BF b00 59 (ko_wire_Writer_0 w0_0) (⟨[]⟩ : wire_Writer), RowF w0_0 5 (kint .u8) p1.out])) s1 rfl rfl (of_decide_eq_true rfl) (ob_box rfl (.tmp rfl)) fun b1 a2 w2 s2 => ?_; clear s1
  refine seq_op s2 rfl rfl (of_decide_eq_true rfl) (ob_assign rfl (opd_str (by rfl) (by decide))) fun a3 w3 s3 => ?_; clear s2
  refine wpList_nil ?_
  refine then_normal ?_
  refine hK1 _ _ ?_
  have s4 := s3.sub (.cons (t := 0) rfl (.cons (t := 3) rfl .nil)); clear s3
  refine wp_seq_k fun K2 hK2 => ?_
  refine wp_region_lit ?_
  refine seq_op s4 rfl rfl (of_decide_eq_true rfl) (ob_assign rfl (opd_str (by rfl) (by decide))) fun a5 w5 s5 => ?_; clear s4
  refine wpList_nil ?_
  refine then_normal ?_
  refine hK2 _ _ ?_
  have s6 := s5.sub (.cons (t := 0) rfl (.cons (t := 3) rfl (.cons (t := 5) rfl .nil))); clear s5
  refine wp_seq_k fun K3 hK3 => ?_
  refine wp_seq_k fun K4 hK4 => ?_
  refine wp_region_lit ?_
  refine seq_op s6 rfl rfl (of_decide_eq_true rfl) (ob_fieldAddr (off' := 0) rfl Try.underlying65 rfl sz3 (by decide) (.tmp rfl) rfl) fun a7 w7 s7 => ?_; clear s6
  refine seq_op s7 rfl rfl (of_decide_eq_true rfl) (ob_load rfl tk3 (.tmp rfl) (.head _) (lg_caballaw10_Item_Kind p2)) fun a8 w8 s8 => ?_; clear s7
  refine seq_op s8 rfl rfl (of_decide_eq_true rfl) (ob_rem rfl (.tmp rfl) (opd_int rfl) (by decide)) fun a9 w9 s9 => ?_; clear s8
  refine wpList_nil ?_
  refine then_normal ?_
  refine hK4 _ _ ?_
  have s10 := s9.sub (.cons (t := 0) rfl (.cons (t := 3) rfl (.cons (t := 5) rfl (.cons (t := 10) rfl .nil)))); clear s9
  have hj1 : ∀ (y1 : (List Int)) (y2 : (List Int)) (v1 : Value) (a : Act) (w : World), (caballaw10_write.j1 k) y1 y2 = some r → St ⟨88, w0, ok, (idsOf [BF b00 59 (ko_wire_Writer_0 w0_0) (⟨[]⟩ : wire_Writer), RowF w0_0 5 (kint .u8) p1.out])⟩ [BF b00 59 (ko_wire_Writer_0 v1) (⟨[]⟩ : wire_Writer), RowF v1 5 (kint .u8) y2] [(5, (kstr.V y1))] a w → K3 a w := by
    intro y1 y2 v1 a11 w11 h1 s11
    unfold caballaw10_write.j1 at h1
    refine hK3 _ _ ?_
    refine wp_seq_k fun K5 hK5 => ?_
    refine wp_region_lit ?_
    refine seq_op s11 rfl rfl (of_decide_eq_true rfl) (ob_move rfl (.tmp rfl)) fun a12 w12 s12 => ?_; clear s11
    refine seq_op s12 rfl rfl (of_decide_eq_true rfl) (ob_assign rfl (.tmp rfl)) fun a13 w13 s13 => ?_; clear s12
    refine wpList_nil ?_
    refine then_normal ?_
    refine hK5 _ _ ?_
    have s14 := s13.sub (.cons (t := 4) rfl .nil); clear s13
    refine wp_ret ?_
    obtain rfl := Option.some.inj h1
    exact leaveXD (D := []) v1 s14 rfl (.inl rfl) rfl (.cons (.tmp rfl) .nil) rfl
  refine wp_block ?_
  refine wp_seq_k fun K6 hK6 => ?_
  refine wp_region_lit ?_
  refine seq_op s10 rfl rfl (of_decide_eq_true rfl) (ob_eql rfl (.tmp rfl) (opd_int rfl)) fun a15 w15 s15 => ?_; clear s10
  refine seq_op s15 rfl rfl (of_decide_eq_true rfl) (ob_assign rfl (.tmp rfl)) fun a16 w16 s16 => ?_; clear s15
  refine wpList_nil ?_
  refine then_normal ?_
  refine hK6 _ _ ?_
  have s17 := s16.sub (.cons (t := 0) rfl (.cons (t := 3) rfl (.cons (t := 5) rfl (.cons (t := 10) rfl (.cons (t := 11) rfl .nil))))); clear s16
  refine cond_split s17 (.tmp rfl) (fun hc1 => ?_) (fun hc1 => ?_)
  · replace h0 := ite_t hc1 h0
    have h2 := h0; clear h0
    refine wp_seq_k fun K7 hK7 => ?_
    refine wp_region_lit ?_
    refine seq_op s17 rfl rfl (of_decide_eq_true rfl) (ob_move rfl (.tmp rfl)) fun a18 w18 s18 => ?_; clear s17
    refine seq_op s18 rfl rfl (of_decide_eq_true rfl) (ob_fieldAddr (off' := 2) rfl Try.underlying65 rfl sz62 (by decide) (.tmp rfl) rfl) fun a19 w19 s19 => ?_; clear s18
    refine seq_op s19 rfl rfl (of_decide_eq_true rfl) (ob_load rfl tk62 (.tmp rfl) (.head _) (lg_caballaw10_Item_Numbers p2)) fun a20 w20 s20 => ?_; clear s19
    obtain ⟨x1, e_x1, h3⟩ := bind_some h2; clear h2
    refine seq_opx (B' := (fun v2 : Value => [BF b00 59 (ko_wire_Writer_0 v2) (⟨[]⟩ : wire_Writer), RowF v2 5 (kint .u8) x1.out, BF b1 65 k_caballaw10_Item p2])) s20 rfl rfl (of_decide_eq_true rfl) (ob_callL (args := [_, _]) (L := [_, _]) rfl .direct hb43 (toFront [_] (toFront [_] (List.Perm.refl _))) (fun a w s fs gs hf hg => by obtain rfl := hf.unnil; obtain rfl := hg.unnil; exact c_wire_Writer_Numbers k _ _ _ e_x1 _ _ _ _ _ _ (ownL s) (disL s) (nodL s) (s.arg (.tmp rfl)) (s.arg (.tmp rfl))) (by exact fun _ => rfl)) fun v2 a21 w21 s21 => ?_; clear s20
    refine wpList_nil ?_
    refine then_normal ?_
    refine hK7 _ _ ?_
    have s22 := s21.sub (.cons (t := 3) rfl (.cons (t := 5) rfl .nil)); clear s21
    refine wp_seq_k fun K8 hK8 => ?_
    refine wp_region_lit ?_
    refine seq_op s22 rfl rfl (of_decide_eq_true rfl) (ob_assign rfl (opd_int rfl)) fun a23 w23 s23 => ?_; clear s22
    refine wpList_nil ?_
    refine then_normal ?_
    refine hK8 _ _ ?_
    have s24 := s23.sub (.cons (t := 3) rfl (.cons (t := 5) rfl (.cons (t := 6) rfl .nil))); clear s23
    refine wp_block ?_
    have s25 := s24.perm (toFront [_, _] (toFront [] (toFront [] (List.Perm.refl _)))); clear s24
    refine wp_loop_fuel (fun m (q : (List Int) × Int) => caballaw10_write.l1 k p2 x1 m q.1 q.2) r (fun _ => rfl) (fun q a w => St ⟨88, w0, ok, (idsOf [BF b00 59 (ko_wire_Writer_0 w0_0) (⟨[]⟩ : wire_Writer), RowF w0_0 5 (kint .u8) p1.out])⟩ [BF b1 65 k_caballaw10_Item p2, BF b00 59 (ko_wire_Writer_0 v2) (⟨[]⟩ : wire_Writer), RowF v2 5 (kint .u8) x1.out] [(3, (ptrB b1 0)), (5, (kstr.V q.1)), (6, ((kint .i64).V q.2))] a w) ?_ k (([] : List Int), (0 : Int)) _ _ h3 (s25.sub (.cons rfl (.cons rfl (.cons rfl .nil))))
    rintro n1 ⟨y3, y4⟩ a26 w26 h4 s26 K9 hK9
    replace h4 : caballaw10_write.l1 k p2 x1 (n1 + 1) y3 y4 = some r := h4; rw [caballaw10_write.l1] at h4
    have h5 := h4; clear h4
    refine wp_seq_k fun K10 hK10 => ?_
    refine wp_seq_k fun K11 hK11 => ?_
    refine wp_region_lit ?_
    refine seq_op s26 rfl rfl (of_decide_eq_true rfl) (ob_move rfl (.tmp rfl)) fun a27 w27 s27 => ?_; clear s26
    refine seq_op s27 rfl rfl (of_decide_eq_true rfl) (ob_fieldAddr (off' := 2) rfl Try.underlying65 rfl sz62 (by decide) (.tmp rfl) rfl) fun a28 w28 s28 => ?_; clear s27
    refine seq_op s28 rfl rfl (of_decide_eq_true rfl) (ob_load rfl tk62 (.tmp rfl) (.head _) (lg_caballaw10_Item_Numbers p2)) fun a29 w29 s29 => ?_; clear s28
    refine seq_op s29 rfl rfl (of_decide_eq_true rfl) (ob_lens rfl Try.underlying62 (.tmp rfl)) fun a30 w30 s30 => ?_; clear s29
    refine seq_op s30 rfl rfl (of_decide_eq_true rfl) (ob_lss rfl (.tmp rfl) (.tmp rfl)) fun a31 w31 s31 => ?_; clear s30
    refine wpList_nil ?_
    refine then_normal ?_
    refine hK11 _ _ ?_
    have s32 := s31.sub (.cons (t := 3) rfl (.cons (t := 5) rfl (.cons (t := 6) rfl (.cons (t := 21) rfl .nil)))); clear s31
    refine cond_split s32 (.tmp rfl) (fun hc2 => ?_) (fun hc2 => ?_)
    · replace h5 := ite_t hc2 h5
      have h6 := h5; clear h5
      refine wp_skip ?_
      refine then_normal ?_
      refine hK10 _ _ ?_
      have s33 := s32.sub (.cons (t := 3) rfl (.cons (t := 5) rfl (.cons (t := 6) rfl .nil))); clear s32
      refine wp_seq_k fun K12 hK12 => ?_
      refine wp_block ?_
      refine wp_region_lit ?_
      refine seq_op s33 rfl rfl (of_decide_eq_true rfl) (ob_move rfl (.tmp rfl)) fun a34 w34 s34 => ?_; clear s33
      refine seq_op s34 rfl rfl (of_decide_eq_true rfl) (ob_fieldAddr (off' := 2) rfl Try.underlying65 rfl sz62 (by decide) (.tmp rfl) rfl) fun a35 w35 s35 => ?_; clear s34
      refine seq_op s35 rfl rfl (of_decide_eq_true rfl) (ob_load rfl tk62 (.tmp rfl) (.head _) (lg_caballaw10_Item_Numbers p2)) fun a36 w36 s36 => ?_; clear s35
      refine seq_op s36 rfl rfl (of_decide_eq_true rfl) (ob_move rfl (.tmp rfl)) fun a37 w37 s37 => ?_; clear s36
      obtain ⟨x2, e_x2, h7⟩ := bind_some h6; clear h6
      refine seq_op s37 rfl rfl (of_decide_eq_true rfl) (ob_indexAddrs rfl Try.underlying62 sz69 (.tmp rfl) (.tmp rfl) e_x2) fun a38 w38 s38 => ?_; clear s37
      refine seq_op s38 rfl rfl (of_decide_eq_true rfl) (ob_loadr rfl tk69 (.tmp rfl)) fun a39 w39 s39 => ?_; clear s38
      obtain ⟨x3, e_x3, h8⟩ := bind_some h7; clear h7
      refine seq_op s39 rfl rfl (of_decide_eq_true rfl) (ob_callD (args := [_]) rfl .direct hb55 (fun a w s fs gs hf hg => by obtain rfl := hf.unnil; obtain rfl := hg.unnil; exact c_cabalref10_Number k _ _ e_x3 _ _ _ (s.arg (.tmp rfl)))) fun a40 w40 s40 => ?_; clear s39
      obtain ⟨g1, h9⟩ := guard_some h8; clear h8
      refine seq_op s40 rfl rfl (of_decide_eq_true rfl) (ob_cat rfl (.tmp rfl) (.tmp rfl) g1) fun a41 w41 s41 => ?_; clear s40
      refine seq_op s41 rfl rfl (of_decide_eq_true rfl) (ob_assign rfl (.tmp rfl)) fun a42 w42 s42 => ?_; clear s41
      refine wpList_nil ?_
      refine in_normal ?_
      refine then_normal ?_
      refine hK12 _ _ ?_
      have s43 := s42.sub (.cons (t := 3) rfl (.cons (t := 5) rfl (.cons (t := 6) rfl .nil))); clear s42
      refine wp_region_lit ?_
      refine seq_op s43 rfl rfl (of_decide_eq_true rfl) (ob_move rfl (.tmp rfl)) fun a44 w44 s44 => ?_; clear s43
      refine seq_op s44 rfl rfl (of_decide_eq_true rfl) (ob_add rfl (.tmp rfl) (opd_int rfl)) fun a45 w45 s45 => ?_; clear s44
      refine seq_op s45 rfl rfl (of_decide_eq_true rfl) (ob_assign rfl (.tmp rfl)) fun a46 w46 s46 => ?_; clear s45
      refine wpList_nil ?_
      refine then_normal ?_
      exact hK9 ((y3 ++ x3), (iadd .i64 y4 (1 : Int))) _ _ h9 (s46.sub (.cons rfl (.cons rfl (.cons rfl .nil))))
    · replace h5 := ite_f hc2 h5
      have h10 := h5; clear h5
      refine wp_exit ?_
      refine (then_exit (then_exit (in_here ?_)))
      refine in_normal ?_
      refine then_normal ?_
      have s47 := St.drop (A := []) s32; clear s32
      exact hj1 y3 x1.out v2 _ _ h10 (s47.sub (.cons rfl .nil))
  · replace h0 := ite_f hc1 h0
    have h11 := h0; clear h0
    refine wp_seq_k fun K13 hK13 => ?_
    refine wp_region_lit ?_
    refine seq_op s17 rfl rfl (of_decide_eq_true rfl) (ob_eql rfl (.tmp rfl) (opd_int rfl)) fun a48 w48 s48 => ?_; clear s17
    refine seq_op s48 rfl rfl (of_decide_eq_true rfl) (ob_assign rfl (.tmp rfl)) fun a49 w49 s49 => ?_; clear s48
    refine wpList_nil ?_
    refine then_normal ?_
    refine hK13 _ _ ?_
    have s50 := s49.sub (.cons (t := 0) rfl (.cons (t := 3) rfl (.cons (t := 5) rfl (.cons (t := 10) rfl (.cons (t := 32) rfl .nil))))); clear s49
    refine cond_split s50 (.tmp rfl) (fun hc3 => ?_) (fun hc3 => ?_)
    · replace h11 := ite_t hc3 h11
      have h12 := h11; clear h11
      refine wp_seq_k fun K14 hK14 => ?_
      refine wp_region_lit ?_
      refine seq_op s50 rfl rfl (of_decide_eq_true rfl) (ob_move rfl (.tmp rfl)) fun a51 w51 s51 => ?_; clear s50
      refine seq_op s51 rfl rfl (of_decide_eq_true rfl) (ob_fieldAddr (off' := 3) rfl Try.underlying65 rfl sz9 (by decide) (.tmp rfl) rfl) fun a52 w52 s52 => ?_; clear s51
      refine seq_op s52 rfl rfl (of_decide_eq_true rfl) (ob_load rfl tk9 (.tmp rfl) (.head _) (lg_caballaw10_Item_Text p2)) fun a53 w53 s53 => ?_; clear s52
      refine seq_op s53 rfl rfl (of_decide_eq_true rfl) (ob_fieldAddr (off' := 3) rfl Try.underlying65 rfl sz9 (by decide) (.tmp rfl) rfl) fun a54 w54 s54 => ?_; clear s53
      refine seq_op s54 rfl rfl (of_decide_eq_true rfl) (ob_load rfl tk9 (.tmp rfl) (.head _) (lg_caballaw10_Item_Text p2)) fun a55 w55 s55 => ?_; clear s54
      refine seq_op s55 rfl rfl (of_decide_eq_true rfl) (ob_mkSlice (k := kstr) (xs := ([p2.Text, p2.Text] : (List (List Int)))) rfl Try.underlying49 zz9 sz9 Zr.str (by decide) (by decide) (.cons (.tmp rfl) rfl (LS.arr' (i := 0) (ys := ([p2.Text, []] : (List (List Int)))) (by simp) (by rfl)) (.cons (.tmp rfl) rfl (LS.arr' (i := 1) (ys := ([p2.Text, p2.Text] : (List (List Int)))) (by simp) (by rfl)) (.nil _)))) fun a56 w56 s56 => ?_; clear s55
      obtain ⟨x4, e_x4, h13⟩ := bind_some h12; clear h12
      refine seq_opx (B' := (fun v3 : Value => [BF b00 59 (ko_wire_Writer_0 v3) (⟨[]⟩ : wire_Writer), RowF v3 5 (kint .u8) x4.out, BF b1 65 k_caballaw10_Item p2])) s56 rfl rfl (of_decide_eq_true rfl) (ob_callL (args := [_, _]) (L := [_, _]) rfl .direct hb44 (toFront [_] (toFront [_] (List.Perm.refl _))) (fun a w s fs gs hf hg => by obtain rfl := hf.unnil; obtain rfl := hg.unnil; exact c_wire_Writer_Texts k _ _ _ e_x4 _ _ _ _ _ _ (ownL s) (disL s) (nodL s) (s.arg (.tmp rfl)) (s.arg (.tmp rfl))) (by exact fun _ => rfl)) fun v3 a57 w57 s57 => ?_; clear s56
      refine wpList_nil ?_
      refine then_normal ?_
      refine hK14 _ _ ?_
      have s58 := s57.sub (.cons (t := 3) rfl .nil); clear s57
      obtain ⟨x5, e_x5, h14⟩ := bind_some h13; clear h13
      refine wp_goes (Fs := [(ptrB b1 3), (kstr.V p2.Text), (kstr.V x5), (ptrB b1 3), (kstr.V p2.Text)]) (bits := [0, 1, 3, 0, 8, 31, 63, 127]) (m := 5) (todo := 0) mx s58 ?_; clear s58
      refine goes_last (by kernel_rfl) rfl (opsS_cons (.plain _ (Av.old (t := 3) rfl rfl Av.nil) rfl rfl (ob_fieldAddr (off' := 3) rfl Try.underlying65 rfl sz9 (by decide) (.tmp rfl) rfl)) (opsS_cons (.plain _ (Av.new (j := 0) rfl rfl rfl Av.nil) rfl rfl (ob_load rfl tk9 (.tmp rfl) (.tail _ (.tail _ (.head _))) (lg_caballaw10_Item_Text p2))) (opsS_cons (.plain _ (Av.new (j := 1) rfl rfl rfl Av.nil) rfl rfl (ob_callD (args := [_]) rfl .direct hb56 (fun a w s fs gs hf hg => by obtain rfl := hf.unnil; obtain rfl := hg.unnil; exact c_cabalref10_Text k _ _ e_x5 _ _ _ (s.arg (.tmp rfl))))) (opsS_cons (.plain _ (Av.old (t := 3) rfl rfl Av.nil) rfl rfl (ob_fieldAddr (off' := 3) rfl Try.underlying65 rfl sz9 (by decide) (.tmp rfl) rfl)) (opsS_cons (.plain _ (Av.new (j := 3) rfl rfl rfl Av.nil) rfl rfl (ob_load rfl tk9 (.tmp rfl) (.tail _ (.tail _ (.head _))) (lg_caballaw10_Item_Text p2))) opsS_nil))))) (out_new (i := 2) (by decide) rfl rfl (out_new (i := 4) (by decide) rfl rfl out_nil)) fun a59 w59 s59 => ?_
      obtain ⟨x6, e_x6, h15⟩ := bind_some h14; clear h14
      refine seq_op s59 rfl rfl (of_decide_eq_true rfl) (ob_callD (args := [_]) rfl .direct hb56 (fun a w s fs gs hf hg => by obtain rfl := hf.unnil; obtain rfl := hg.unnil; exact c_cabalref10_Text k _ _ e_x6 _ _ _ (s.arg (.tmp rfl)))) fun a60 w60 s60 => ?_; clear s59
      obtain ⟨g2, h16⟩ := guard_some h15; clear h15
      refine seq_op s60 rfl rfl (of_decide_eq_true rfl) (ob_cat rfl (.tmp rfl) (.tmp rfl) g2) fun a61 w61 s61 => ?_; clear s60
      refine seq_op s61 rfl rfl (of_decide_eq_true rfl) (ob_assign rfl (.tmp rfl)) fun a62 w62 s62 => ?_; clear s61
      refine wpList_nil ?_
      refine in_normal ?_
      refine then_normal ?_
      have s63 := St.drop (A := [_, _]) s62; clear s62
      exact hj1 (x5 ++ x6) x4.out v3 _ _ h16 (s63.sub (.cons rfl .nil))
    · replace h11 := ite_f hc3 h11
      have h17 := h11; clear h11
      refine wp_seq_k fun K15 hK15 => ?_
      refine wp_region_lit ?_
      refine seq_op s50 rfl rfl (of_decide_eq_true rfl) (ob_eql rfl (.tmp rfl) (opd_int rfl)) fun a64 w64 s64 => ?_; clear s50
      refine seq_op s64 rfl rfl (of_decide_eq_true rfl) (ob_assign rfl (.tmp rfl)) fun a65 w65 s65 => ?_; clear s64
      refine wpList_nil ?_
      refine then_normal ?_
      refine hK15 _ _ ?_
      have s66 := s65.sub (.cons (t := 0) rfl (.cons (t := 3) rfl (.cons (t := 5) rfl (.cons (t := 10) rfl (.cons (t := 48) rfl .nil))))); clear s65
      refine cond_split s66 (.tmp rfl) (fun hc4 => ?_) (fun hc4 => ?_)
      · replace h17 := ite_t hc4 h17
        have h18 := h17; clear h17
        refine wp_seq_k fun K16 hK16 => ?_
        refine wp_region_lit ?_
        refine seq_op s66 rfl rfl (of_decide_eq_true rfl) (ob_move rfl (.tmp rfl)) fun a67 w67 s67 => ?_; clear s66
        refine seq_op s67 rfl rfl (of_decide_eq_true rfl) (ob_fieldAddr (off' := 4) rfl Try.underlying65 rfl sz63 (by decide) (.tmp rfl) rfl) fun a68 w68 s68 => ?_; clear s67
        refine seq_op s68 rfl rfl (of_decide_eq_true rfl) (ob_load rfl tk63 (.tmp rfl) (.head _) (lg_caballaw10_Item_Keys p2)) fun a69 w69 s69 => ?_; clear s68
        obtain ⟨x7, e_x7, h19⟩ := bind_some h18; clear h18
        refine seq_opx (B' := (fun v4 : Value => [BF b00 59 (ko_wire_Writer_0 v4) (⟨[]⟩ : wire_Writer), RowF v4 5 (kint .u8) x7.out, BF b1 65 k_caballaw10_Item p2])) s69 rfl rfl (of_decide_eq_true rfl) (ob_callL (args := [_, _]) (L := [_, _]) rfl .direct hb57 (toFront [_] (toFront [_] (List.Perm.refl _))) (fun a w s fs gs hf hg => by obtain rfl := hf.unnil; obtain rfl := hg.unnil; exact c_wire_Writer_Keys k _ _ _ e_x7 _ _ _ _ _ _ (ownL s) (disL s) (nodL s) (s.arg (.tmp rfl)) (s.arg (.tmp rfl))) (by exact fun _ => rfl)) fun v4 a70 w70 s70 => ?_; clear s69
        refine wpList_nil ?_
        refine then_normal ?_
        refine hK16 _ _ ?_
        have s71 := s70.sub (.cons (t := 3) rfl (.cons (t := 5) rfl .nil)); clear s70
        refine wp_seq_k fun K17 hK17 => ?_
        refine wp_region_lit ?_
        refine seq_op s71 rfl rfl (of_decide_eq_true rfl) (ob_assign rfl (opd_int rfl)) fun a72 w72 s72 => ?_; clear s71
        refine wpList_nil ?_
        refine then_normal ?_
        refine hK17 _ _ ?_
        have s73 := s72.sub (.cons (t := 3) rfl (.cons (t := 5) rfl (.cons (t := 7) rfl .nil))); clear s72
        refine wp_block ?_
        have s74 := s73.perm (toFront [_, _] (toFront [] (toFront [] (List.Perm.refl _)))); clear s73
        refine wp_loop_fuel (fun m (q : (List Int) × Int) => caballaw10_write.l2 k p2 x7 m q.1 q.2) r (fun _ => rfl) (fun q a w => St ⟨88, w0, ok, (idsOf [BF b00 59 (ko_wire_Writer_0 w0_0) (⟨[]⟩ : wire_Writer), RowF w0_0 5 (kint .u8) p1.out])⟩ [BF b1 65 k_caballaw10_Item p2, BF b00 59 (ko_wire_Writer_0 v4) (⟨[]⟩ : wire_Writer), RowF v4 5 (kint .u8) x7.out] [(3, (ptrB b1 0)), (5, (kstr.V q.1)), (7, ((kint .i64).V q.2))] a w) ?_ k (([] : List Int), (0 : Int)) _ _ h19 (s74.sub (.cons rfl (.cons rfl (.cons rfl .nil))))
        rintro n2 ⟨y5, y6⟩ a75 w75 h20 s75 K18 hK18
        replace h20 : caballaw10_write.l2 k p2 x7 (n2 + 1) y5 y6 = some r := h20; rw [caballaw10_write.l2] at h20
        have h21 := h20; clear h20
        refine wp_seq_k fun K19 hK19 => ?_
        refine wp_seq_k fun K20 hK20 => ?_
        refine wp_region_lit ?_
        refine seq_op s75 rfl rfl (of_decide_eq_true rfl) (ob_move rfl (.tmp rfl)) fun a76 w76 s76 => ?_; clear s75
        refine seq_op s76 rfl rfl (of_decide_eq_true rfl) (ob_fieldAddr (off' := 4) rfl Try.underlying65 rfl sz63 (by decide) (.tmp rfl) rfl) fun a77 w77 s77 => ?_; clear s76
        refine seq_op s77 rfl rfl (of_decide_eq_true rfl) (ob_load rfl tk63 (.tmp rfl) (.head _) (lg_caballaw10_Item_Keys p2)) fun a78 w78 s78 => ?_; clear s77
        refine seq_op s78 rfl rfl (of_decide_eq_true rfl) (ob_lens rfl Try.underlying63 (.tmp rfl)) fun a79 w79 s79 => ?_; clear s78
        refine seq_op s79 rfl rfl (of_decide_eq_true rfl) (ob_lss rfl (.tmp rfl) (.tmp rfl)) fun a80 w80 s80 => ?_; clear s79
        refine wpList_nil ?_
        refine then_normal ?_
        refine hK20 _ _ ?_
        have s81 := s80.sub (.cons (t := 3) rfl (.cons (t := 5) rfl (.cons (t := 7) rfl (.cons (t := 58) rfl .nil)))); clear s80
        refine cond_split s81 (.tmp rfl) (fun hc5 => ?_) (fun hc5 => ?_)
        · replace h21 := ite_t hc5 h21
          have h22 := h21; clear h21
          refine wp_skip ?_
          refine then_normal ?_
          refine hK19 _ _ ?_
          have s82 := s81.sub (.cons (t := 3) rfl (.cons (t := 5) rfl (.cons (t := 7) rfl .nil))); clear s81
          refine wp_seq_k fun K21 hK21 => ?_
          refine wp_block ?_
          refine wp_region_lit ?_
          refine seq_op s82 rfl rfl (of_decide_eq_true rfl) (ob_move rfl (.tmp rfl)) fun a83 w83 s83 => ?_; clear s82
          refine seq_op s83 rfl rfl (of_decide_eq_true rfl) (ob_fieldAddr (off' := 4) rfl Try.underlying65 rfl sz63 (by decide) (.tmp rfl) rfl) fun a84 w84 s84 => ?_; clear s83
          refine seq_op s84 rfl rfl (of_decide_eq_true rfl) (ob_load rfl tk63 (.tmp rfl) (.head _) (lg_caballaw10_Item_Keys p2)) fun a85 w85 s85 => ?_; clear s84
          refine seq_op s85 rfl rfl (of_decide_eq_true rfl) (ob_move rfl (.tmp rfl)) fun a86 w86 s86 => ?_; clear s85
          obtain ⟨x8, e_x8, h23⟩ := bind_some h22; clear h22
          refine seq_op s86 rfl rfl (of_decide_eq_true rfl) (ob_indexAddrs rfl Try.underlying63 sz72 (.tmp rfl) (.tmp rfl) e_x8) fun a87 w87 s87 => ?_; clear s86
          obtain ⟨x9, e_x9, h24⟩ := bind_some h23; clear h23
          refine seq_op s87 rfl rfl (of_decide_eq_true rfl) (ob_sliceArrr rfl Try.underlying72 sz5 (.tmp rfl) (by decide) .none .none e_x9) fun a88 w88 s88 => ?_; clear s87
          refine seq_op s88 rfl rfl (of_decide_eq_true rfl) (ob_bytesToStr rfl Try.underlying23 Try.underlying9 Try.underlying5 (.tmp rfl)) fun a89 w89 s89 => ?_; clear s88
          obtain ⟨g3, h25⟩ := guard_some h24; clear h24
          refine seq_op s89 rfl rfl (of_decide_eq_true rfl) (ob_cat rfl (.tmp rfl) (.tmp rfl) g3) fun a90 w90 s90 => ?_; clear s89
          refine seq_op s90 rfl rfl (of_decide_eq_true rfl) (ob_assign rfl (.tmp rfl)) fun a91 w91 s91 => ?_; clear s90
          refine wpList_nil ?_
          refine in_normal ?_
          refine then_normal ?_
          refine hK21 _ _ ?_
          have s92 := s91.sub (.cons (t := 3) rfl (.cons (t := 5) rfl (.cons (t := 7) rfl .nil))); clear s91
          refine wp_region_lit ?_
          refine seq_op s92 rfl rfl (of_decide_eq_true rfl) (ob_move rfl (.tmp rfl)) fun a93 w93 s93 => ?_; clear s92
          refine seq_op s93 rfl rfl (of_decide_eq_true rfl) (ob_add rfl (.tmp rfl) (opd_int rfl)) fun a94 w94 s94 => ?_; clear s93
          refine seq_op s94 rfl rfl (of_decide_eq_true rfl) (ob_assign rfl (.tmp rfl)) fun a95 w95 s95 => ?_; clear s94
          refine wpList_nil ?_
          refine then_normal ?_
          exact hK18 ((y5 ++ x9), (iadd .i64 y6 (1 : Int))) _ _ h25 (s95.sub (.cons rfl (.cons rfl (.cons rfl .nil))))
        · replace h21 := ite_f hc5 h21
          have h26 := h21; clear h21
          refine wp_exit ?_
          refine (then_exit (then_exit (in_here ?_)))
          refine in_normal ?_
          refine then_normal ?_
          have s96 := St.drop (A := []) s81; clear s81
          exact hj1 y5 x7.out v4 _ _ h26 (s96.sub (.cons rfl .nil))
      · replace h17 := ite_f hc4 h17
        have h27 := h17; clear h17
        refine wp_seq_k fun K22 hK22 => ?_
        refine wp_region_lit ?_
        refine seq_op s66 rfl rfl (of_decide_eq_true rfl) (ob_eql rfl (.tmp rfl) (opd_int rfl)) fun a97 w97 s97 => ?_; clear s66
        refine seq_op s97 rfl rfl (of_decide_eq_true rfl) (ob_assign rfl (.tmp rfl)) fun a98 w98 s98 => ?_; clear s97
        refine wpList_nil ?_
        refine then_normal ?_
        refine hK22 _ _ ?_
        have s99 := s98.sub (.cons (t := 0) rfl (.cons (t := 3) rfl (.cons (t := 5) rfl (.cons (t := 10) rfl (.cons (t := 69) rfl .nil))))); clear s98
        refine cond_split s99 (.tmp rfl) (fun hc6 => ?_) (fun hc6 => ?_)
        · replace h27 := ite_t hc6 h27
          have h28 := h27; clear h27
          refine wp_seq_k fun K23 hK23 => ?_
          refine wp_region_lit ?_
          refine seq_op s99 rfl rfl (of_decide_eq_true rfl) (ob_move rfl (.tmp rfl)) fun a100 w100 s100 => ?_; clear s99
          refine seq_op s100 rfl rfl (of_decide_eq_true rfl) (ob_fieldAddr (off' := 4) rfl Try.underlying65 rfl sz63 (by decide) (.tmp rfl) rfl) fun a101 w101 s101 => ?_; clear s100
          refine seq_op s101 rfl rfl (of_decide_eq_true rfl) (ob_load rfl tk63 (.tmp rfl) (.head _) (lg_caballaw10_Item_Keys p2)) fun a102 w102 s102 => ?_; clear s101
          obtain ⟨x10, e_x10, h29⟩ := bind_some h28; clear h28
          refine seq_opx (B' := (fun v5 : Value => [BF b00 59 (ko_wire_Writer_0 v5) (⟨[]⟩ : wire_Writer), RowF v5 5 (kint .u8) x10.out, BF b1 65 k_caballaw10_Item p2])) s102 rfl rfl (of_decide_eq_true rfl) (ob_callL (args := [_, _]) (L := [_, _]) rfl .direct hb45 (toFront [_] (toFront [_] (List.Perm.refl _))) (fun a w s fs gs hf hg => by obtain rfl := hf.unnil; obtain rfl := hg.unnil; exact c_wire_Writer_KeyList k _ _ _ e_x10 _ _ _ _ _ _ (ownL s) (disL s) (nodL s) (s.arg (.tmp rfl)) (s.arg (.tmp rfl))) (by exact fun _ => rfl)) fun v5 a103 w103 s103 => ?_; clear s102
          refine wpList_nil ?_
          refine then_normal ?_
          refine hK23 _ _ ?_
          have s104 := s103.sub (.cons (t := 3) rfl .nil); clear s103
          refine wp_region_lit ?_
          refine seq_op s104 rfl rfl (of_decide_eq_true rfl) (ob_fieldAddr (off' := 4) rfl Try.underlying65 rfl sz63 (by decide) (.tmp rfl) rfl) fun a105 w105 s105 => ?_; clear s104
          refine seq_op s105 rfl rfl (of_decide_eq_true rfl) (ob_load rfl tk63 (.tmp rfl) (.tail _ (.tail _ (.head _))) (lg_caballaw10_Item_Keys p2)) fun a106 w106 s106 => ?_; clear s105
          obtain ⟨x11, e_x11, h30⟩ := bind_some h29; clear h29
          refine seq_op s106 rfl rfl (of_decide_eq_true rfl) (ob_callD (args := [_]) rfl .direct hb58 (fun a w s fs gs hf hg => by obtain rfl := hf.unnil; obtain rfl := hg.unnil; exact c_cabalref10_KeyList k _ _ e_x11 _ _ _ (s.arg (.tmp rfl)))) fun a107 w107 s107 => ?_; clear s106
          refine seq_op s107 rfl rfl (of_decide_eq_true rfl) (ob_assign rfl (.tmp rfl)) fun a108 w108 s108 => ?_; clear s107
          refine wpList_nil ?_
          refine in_normal ?_
          refine then_normal ?_
          have s109 := St.drop (A := [_, _]) s108; clear s108
          exact hj1 x11 x10.out v5 _ _ h30 (s109.sub (.cons rfl .nil))
        · replace h27 := ite_f hc6 h27
          have h31 := h27; clear h27
          refine wp_seq_k fun K24 hK24 => ?_
          refine wp_region_lit ?_
          refine seq_op s99 rfl rfl (of_decide_eq_true rfl) (ob_eql rfl (.tmp rfl) (opd_int rfl)) fun a110 w110 s110 => ?_; clear s99
          refine seq_op s110 rfl rfl (of_decide_eq_true rfl) (ob_assign rfl (.tmp rfl)) fun a111 w111 s111 => ?_; clear s110
          refine wpList_nil ?_
          refine then_normal ?_
          refine hK24 _ _ ?_
          have s112 := s111.sub (.cons (t := 0) rfl (.cons (t := 3) rfl (.cons (t := 5) rfl (.cons (t := 78) rfl .nil)))); clear s111
          refine cond_split s112 (.tmp rfl) (fun hc7 => ?_) (fun hc7 => ?_)
          · replace h31 := ite_t hc7 h31
            have h32 := h31; clear h31
            refine wp_seq_k fun K25 hK25 => ?_
            refine wp_region_lit ?_
            refine seq_op s112 rfl rfl (of_decide_eq_true rfl) (ob_move rfl (.tmp rfl)) fun a113 w113 s113 => ?_; clear s112
            refine seq_op s113 rfl rfl (of_decide_eq_true rfl) (ob_fieldAddr (off' := 2) rfl Try.underlying65 rfl sz62 (by decide) (.tmp rfl) rfl) fun a114 w114 s114 => ?_; clear s113
            refine seq_op s114 rfl rfl (of_decide_eq_true rfl) (ob_load rfl tk62 (.tmp rfl) (.head _) (lg_caballaw10_Item_Numbers p2)) fun a115 w115 s115 => ?_; clear s114
            obtain ⟨x12, e_x12, h33⟩ := bind_some h32; clear h32
            refine seq_opx (B' := (fun v6 : Value => [BF b00 59 (ko_wire_Writer_0 v6) (⟨[]⟩ : wire_Writer), RowF v6 5 (kint .u8) x12.out, BF b1 65 k_caballaw10_Item p2])) s115 rfl rfl (of_decide_eq_true rfl) (ob_callL (args := [_, _]) (L := [_, _]) rfl .direct hb46 (toFront [_] (toFront [_] (List.Perm.refl _))) (fun a w s fs gs hf hg => by obtain rfl := hf.unnil; obtain rfl := hg.unnil; exact c_wire_Writer_NumberList k _ _ _ e_x12 _ _ _ _ _ _ (ownL s) (disL s) (nodL s) (s.arg (.tmp rfl)) (s.arg (.tmp rfl))) (by exact fun _ => rfl)) fun v6 a116 w116 s116 => ?_; clear s115
            refine wpList_nil ?_
            refine then_normal ?_
            refine hK25 _ _ ?_
            have s117 := s116.sub (.cons (t := 3) rfl .nil); clear s116
            refine wp_region_lit ?_
            refine seq_op s117 rfl rfl (of_decide_eq_true rfl) (ob_fieldAddr (off' := 2) rfl Try.underlying65 rfl sz62 (by decide) (.tmp rfl) rfl) fun a118 w118 s118 => ?_; clear s117
            refine seq_op s118 rfl rfl (of_decide_eq_true rfl) (ob_load rfl tk62 (.tmp rfl) (.tail _ (.tail _ (.head _))) (lg_caballaw10_Item_Numbers p2)) fun a119 w119 s119 => ?_; clear s118
            obtain ⟨x13, e_x13, h34⟩ := bind_some h33; clear h33
            refine seq_op s119 rfl rfl (of_decide_eq_true rfl) (ob_callD (args := [_]) rfl .direct hb59 (fun a w s fs gs hf hg => by obtain rfl := hf.unnil; obtain rfl := hg.unnil; exact c_cabalref10_NumberList k _ _ e_x13 _ _ _ (s.arg (.tmp rfl)))) fun a120 w120 s120 => ?_; clear s119
            refine seq_op s120 rfl rfl (of_decide_eq_true rfl) (ob_assign rfl (.tmp rfl)) fun a121 w121 s121 => ?_; clear s120
            refine wpList_nil ?_
            refine in_normal ?_
            refine then_normal ?_
            have s122 := St.drop (A := [_, _]) s121; clear s121
            exact hj1 x13 x12.out v6 _ _ h34 (s122.sub (.cons rfl .nil))
          · replace h31 := ite_f hc7 h31
            have h35 := h31; clear h31
            refine wp_skip ?_
            refine in_normal ?_
            refine then_normal ?_
            have s123 := St.drop (A := []) s112; clear s112
            exact hj1 ([] : List Int) p1.out w0_0 _ _ h35 (s123.sub (.cons rfl .nil))

/- 7 cabal/caballaw10.WireWrites -/
theorem c_caballaw10_WireWrites (k : Nat) (p1 : (List caballaw10_Item)) (r : Bool) (h0 : caballaw10_WireWrites k p1 = some r) (ok : Ok) (w0 : World) (z0 : Value) (u0 : ((ksl k_caballaw10_Item).V p1).holds ok w0 z0) :
    Gives Try.prog 7 [z0] ok w0 (resFact [kbool.V r]) := by
  unfold caballaw10_WireWrites at h0
  refine enter (N := 33) Try.func7 rfl rfl (of_decide_eq_true rfl) (.cons u0 .nil) fun a1 s1 => ?_
  refine wp_seq_k fun K1 hK1 => ?_
  refine wp_region_lit ?_
  refine seq_op s1 rfl rfl (of_decide_eq_true rfl) (ob_assign rfl opd_bool) fun a2 w2 s2 => ?_; clear s1
  refine wpList_nil ?_
  refine then_normal ?_
  refine hK1 _ _ ?_
  have s3 := s2.sub (.cons (t := 0) rfl .nil); clear s2
  refine wp_seq_k fun K2 hK2 => ?_
  refine wp_seq_k fun K3 hK3 => ?_
  refine wp_region_lit ?_
  obtain ⟨x1, e_x1, h1⟩ := bind_some h0; clear h0
  refine seq_op s3 rfl rfl (of_decide_eq_true rfl) (ob_callD (args := []) rfl .direct hb29 (fun a w s fs gs hf hg => by obtain rfl := hf.unnil; obtain rfl := hg.unnil; exact c_caballaw10_alive k _ e_x1 _ _)) fun a4 w4 s4 => ?_; clear s3
  refine seq_op s4 rfl rfl (of_decide_eq_true rfl) (ob_not rfl (.tmp rfl)) fun a5 w5 s5 => ?_; clear s4
  refine wpList_nil ?_
  refine then_normal ?_
  refine hK3 _ _ ?_
  have s6 := s5.sub (.cons (t := 0) rfl (.cons (t := 7) rfl .nil)); clear s5
  refine cond_split s6 (.tmp rfl) (fun hc1 => ?_) (fun hc1 => ?_)
  · replace h1 := ite_t hc1 h1
    have h2 := h1; clear h1
    refine wp_seq_k fun K4 hK4 => ?_
    refine wp_region_lit ?_
    refine seq_op s6 rfl rfl (of_decide_eq_true rfl) (ob_assign rfl opd_bool) fun a7 w7 s7 => ?_; clear s6
    refine wpList_nil ?_
    refine then_normal ?_
    refine hK4 _ _ ?_
    have s8 := s7.sub (.cons (t := 2) rfl .nil); clear s7
    refine wp_ret ?_
    obtain rfl := Option.some.inj h2
    exact leave s8 (.inl rfl) rfl (.cons (.tmp rfl) .nil)
  · replace h1 := ite_f hc1 h1
    have h3 := h1; clear h1
    refine wp_skip ?_
    refine then_normal ?_
    refine hK2 _ _ ?_
    have s9 := s6.sub (.cons (t := 0) rfl .nil); clear s6
    refine wp_seq_k fun K5 hK5 => ?_
    refine wp_seq_k fun K6 hK6 => ?_
    refine wp_region_lit ?_
    refine seq_op s9 rfl rfl (of_decide_eq_true rfl) (ob_move rfl (.tmp rfl)) fun a10 w10 s10 => ?_; clear s9
    obtain ⟨x2, e_x2, h4⟩ := bind_some h3; clear h3
    refine seq_op s10 rfl rfl (of_decide_eq_true rfl) (ob_callD (args := [_]) rfl .direct hb30 (fun a w s fs gs hf hg => by obtain rfl := hf.unnil; obtain rfl := hg.unnil; exact c_caballaw10_great k _ _ e_x2 _ _ _ (s.arg (.tmp rfl)))) fun a11 w11 s11 => ?_; clear s10
    refine wpList_nil ?_
    refine then_normal ?_
    refine hK6 _ _ ?_
    have s12 := s11.sub (.cons (t := 0) rfl (.cons (t := 9) rfl .nil)); clear s11
    refine cond_split s12 (.tmp rfl) (fun hc2 => ?_) (fun hc2 => ?_)
    · replace h4 := ite_t hc2 h4
      have h5 := h4; clear h4
      refine wp_seq_k fun K7 hK7 => ?_
      refine wp_region_lit ?_
      obtain ⟨x3, e_x3, h6⟩ := bind_some h5; clear h5
      refine seq_op s12 rfl rfl (of_decide_eq_true rfl) (ob_callD (args := []) rfl .direct hb29 (fun a w s fs gs hf hg => by obtain rfl := hf.unnil; obtain rfl := hg.unnil; exact c_caballaw10_alive k _ e_x3 _ _)) fun a13 w13 s13 => ?_; clear s12
      refine seq_op s13 rfl rfl (of_decide_eq_true rfl) (ob_assign rfl (.tmp rfl)) fun a14 w14 s14 => ?_; clear s13
      refine wpList_nil ?_
      refine then_normal ?_
      refine hK7 _ _ ?_
      have s15 := s14.sub (.cons (t := 2) rfl .nil); clear s14
      refine wp_ret ?_
      obtain rfl := Option.some.inj h6
      exact leave s15 (.inl rfl) rfl (.cons (.tmp rfl) .nil)
    · replace h4 := ite_f hc2 h4
      have h7 := h4; clear h4
      refine wp_skip ?_
      refine then_normal ?_
      refine hK5 _ _ ?_
      have s16 := s12.sub (.cons (t := 0) rfl .nil); clear s12
      refine wp_seq_k fun K8 hK8 => ?_
      refine wp_region_lit ?_
      have s17 := St.adopt s16 (G := RowF (nilRow 2) 5 (kint .u8) []) rfl (rowNilN _ _ _ _ _); clear s16
      refine seq_opx (B' := (fun b1 : Nat => [BF b1 59 (ko_wire_Writer_0 (nilRow 2)) (⟨[]⟩ : wire_Writer), RowF (nilRow 2) 5 (kint .u8) ([] : (List Int))])) s17 rfl rfl (of_decide_eq_true rfl) (ob_new (k := (ko_wire_Writer_0 (nilRow 2))) rfl zz59 (Zr.iso (f := to_wire_Writer_0) (x := (⟨[]⟩ : wire_Writer)) (Zr.pair (Zr.kis 2) Zr.nil))) fun b1 a18 w18 s18 => ?_; clear s17
      refine wpList_nil ?_
      refine then_normal ?_
      refine hK8 _ _ ?_
      have s19 := s18.sub (.cons (t := 0) rfl (.cons (t := 3) rfl .nil)); clear s18
      refine wp_seq_k fun K9 hK9 => ?_
      refine wp_region_lit ?_
      refine seq_op s19 rfl rfl (of_decide_eq_true rfl) (ob_assign rfl (opd_str (by rfl) (by decide))) fun a20 w20 s20 => ?_; clear s19
      refine wpList_nil ?_
      refine then_normal ?_
      refine hK9 _ _ ?_
      have s21 := s20.sub (.cons (t := 0) rfl (.cons (t := 3) rfl (.cons (t := 4) rfl .nil))); clear s20
      refine wp_seq_k fun K10 hK10 => ?_
      refine wp_seq_k fun K11 hK11 => ?_
      refine wp_region_lit ?_
      refine seq_op s21 rfl rfl (of_decide_eq_true rfl) (ob_assign rfl (opd_int rfl)) fun a22 w22 s22 => ?_; clear s21
      refine wpList_nil ?_
      refine then_normal ?_
      refine hK11 _ _ ?_
      have s23 := s22.sub (.cons (t := 0) rfl (.cons (t := 3) rfl (.cons (t := 4) rfl (.cons (t := 5) rfl .nil)))); clear s22
      have hj1 : ∀ (y1 : (List Int)) (y2 : (List Int)) (v1 : Value) (a : Act) (w : World), (caballaw10_WireWrites.j1 k) y1 y2 = some r → St ⟨33, w0, ok, []⟩ [BF b1 59 (ko_wire_Writer_0 v1) (⟨[]⟩ : wire_Writer), RowF v1 5 (kint .u8) y2] [(3, (ptrB b1 0)), (4, (kstr.V y1))] a w → K10 a w := by
        intro y1 y2 v1 a24 w24 h8 s24
        unfold caballaw10_WireWrites.j1 at h8
        refine hK10 _ _ ?_
        refine wp_seq_k fun K12 hK12 => ?_
        refine wp_region_lit ?_
        obtain ⟨x4, e_x4, h9⟩ := bind_some h8; clear h8
        refine seq_op s24 rfl rfl (of_decide_eq_true rfl) (ob_callD (args := []) rfl .direct hb29 (fun a w s fs gs hf hg => by obtain rfl := hf.unnil; obtain rfl := hg.unnil; exact c_caballaw10_alive k _ e_x4 _ _)) fun a25 w25 s25 => ?_; clear s24
        refine seq_op s25 rfl rfl (of_decide_eq_true rfl) (ob_move rfl (.tmp rfl)) fun a26 w26 s26 => ?_; clear s25
        obtain ⟨x5, e_x5, h10⟩ := bind_some h9; clear h9
        refine seq_opg s26 rfl rfl rfl rfl (of_decide_eq_true rfl) (fun hb => (ob_lendG (L := [_, _]) (List.Perm.refl _) (.cons (t := 3) rfl (lendObj (K' := k_wire_Writer) (X' := (⟨y2⟩ : wire_Writer)) (.head _) rfl (upo_wire_Writer_0 rfl (.row (LetAll.row (.tail _ (.head _)))))) .nil) (Flat.res1 (Flat.V KFlat.str)) (fun _ => ob_callD (args := [_]) rfl .direct hb32 (fun a w s fs gs hf hg => by obtain rfl := hf.unnil; obtain rfl := hg.unnil; exact c_wire_Writer_String k _ _ (ite_t hb e_x5) _ _ _ (s.arg (.tmp rfl)))))) fun a27 w27 s27 => ?_; clear s26
        refine seq_opg s27 rfl rfl rfl rfl (of_decide_eq_true rfl) (fun hb => ob_move rfl (.tmp rfl)) fun a28 w28 s28 => ?_; clear s27
        refine seq_opg s28 rfl rfl rfl rfl (of_decide_eq_true rfl) (fun hb => (Ob.uncond (t := 30) hb rfl ((Ob.uncond (t := 29) hb rfl (ob_seql rfl (.tmp rfl) (.tmp rfl)))))) fun a29 w29 s29 => ?_; clear s28
        refine seq_op s29 rfl rfl (of_decide_eq_true rfl) (ob_and2 rfl (.tmp rfl) (.tmp rfl) opd_bool) fun a30 w30 s30 => ?_; clear s29
        refine seq_op s30 rfl rfl (of_decide_eq_true rfl) (ob_assign rfl (.tmp rfl)) fun a31 w31 s31 => ?_; clear s30
        refine wpList_nil ?_
        refine then_normal ?_
        refine hK12 _ _ ?_
        have s32 := s31.sub (.cons (t := 2) rfl .nil); clear s31
        have s33 := St.drop (A := []) s32; clear s32
        have s34 := St.drop (A := []) s33; clear s33
        refine wp_ret ?_
        obtain rfl := Option.some.inj h10
        exact leave s34 (.inl rfl) rfl (.cons (.tmp rfl) .nil)
      refine wp_block ?_
      refine wp_loop_fuel (fun m (q : (List Int) × Int × (List Int)) => caballaw10_WireWrites.l1 k p1 m q.1 q.2.1 q.2.2) r (fun _ => rfl) (fun q a w => ∃ (v2 : Value), St ⟨33, w0, ok, []⟩ [BF b1 59 (ko_wire_Writer_0 v2) (⟨[]⟩ : wire_Writer), RowF v2 5 (kint .u8) q.2.2] [(0, ((ksl k_caballaw10_Item).V p1)), (3, (ptrB b1 0)), (4, (kstr.V q.1)), (5, ((kint .i64).V q.2.1))] a w) ?_ k (([] : List Int), (0 : Int), ([] : (List Int))) _ _ h7 ⟨(nilRow 2), (s23.sub (.cons rfl (.cons rfl (.cons rfl (.cons rfl .nil)))))⟩
      rintro n1 ⟨y3, y4, y5⟩ a35 w35 h11 ⟨v2, s35⟩ K13 hK13
      replace h11 : caballaw10_WireWrites.l1 k p1 (n1 + 1) y3 y4 y5 = some r := h11; rw [caballaw10_WireWrites.l1] at h11
      have h12 := h11; clear h11
      refine wp_seq_k fun K14 hK14 => ?_
      refine wp_seq_k fun K15 hK15 => ?_
      refine wp_region_lit ?_
      refine seq_op s35 rfl rfl (of_decide_eq_true rfl) (ob_move rfl (.tmp rfl)) fun a36 w36 s36 => ?_; clear s35
      refine seq_op s36 rfl rfl (of_decide_eq_true rfl) (ob_move rfl (.tmp rfl)) fun a37 w37 s37 => ?_; clear s36
      refine seq_op s37 rfl rfl (of_decide_eq_true rfl) (ob_lens rfl Try.underlying56 (.tmp rfl)) fun a38 w38 s38 => ?_; clear s37
      refine seq_op s38 rfl rfl (of_decide_eq_true rfl) (ob_lss rfl (.tmp rfl) (.tmp rfl)) fun a39 w39 s39 => ?_; clear s38
      refine wpList_nil ?_
      refine then_normal ?_
      refine hK15 _ _ ?_
      have s40 := s39.sub (.cons (t := 0) rfl (.cons (t := 3) rfl (.cons (t := 4) rfl (.cons (t := 5) rfl (.cons (t := 14) rfl .nil))))); clear s39
      refine cond_split s40 (.tmp rfl) (fun hc3 => ?_) (fun hc3 => ?_)
      · replace h12 := ite_t hc3 h12
        have h13 := h12; clear h12
        refine wp_skip ?_
        refine then_normal ?_
        refine hK14 _ _ ?_
        have s41 := s40.sub (.cons (t := 0) rfl (.cons (t := 3) rfl (.cons (t := 4) rfl (.cons (t := 5) rfl .nil)))); clear s40
        refine wp_seq_k fun K16 hK16 => ?_
        refine wp_block ?_
        refine wp_seq_k fun K17 hK17 => ?_
        refine wp_region_lit ?_
        refine seq_op s41 rfl rfl (of_decide_eq_true rfl) (ob_move rfl (.tmp rfl)) fun a42 w42 s42 => ?_; clear s41
        refine seq_op s42 rfl rfl (of_decide_eq_true rfl) (ob_move rfl (.tmp rfl)) fun a43 w43 s43 => ?_; clear s42
        refine seq_op s43 rfl rfl (of_decide_eq_true rfl) (ob_move rfl (.tmp rfl)) fun a44 w44 s44 => ?_; clear s43
        obtain ⟨x6, e_x6, h14⟩ := bind_some h13; clear h13
        refine seq_op s44 rfl rfl (of_decide_eq_true rfl) (ob_indexAddrs rfl Try.underlying56 sz65 (.tmp rfl) (.tmp rfl) e_x6) fun a45 w45 s45 => ?_; clear s44
        refine seq_op s45 rfl rfl (of_decide_eq_true rfl) (ob_loadr rfl tk65 (.tmp rfl)) fun a46 w46 s46 => ?_; clear s45
        obtain ⟨x7, e_x7, h15⟩ := bind_some h14; clear h14
        refine seq_opx (B' := (fun v3 : Value => [BF b1 59 (ko_wire_Writer_0 v3) (⟨[]⟩ : wire_Writer), RowF v3 5 (kint .u8) x7.2.out])) s46 rfl rfl (of_decide_eq_true rfl) (ob_callL (args := [_, _]) (L := [_, _]) rfl .direct hb31 (List.Perm.refl _) (fun a w s fs gs hf hg => by obtain rfl := hf.unnil; obtain rfl := hg.unnil; exact c_caballaw10_write k _ _ _ e_x7 _ _ _ _ _ _ (ownL s) (disL s) (nodL s) (s.arg (.tmp rfl)) (s.arg (.tmp rfl))) (by exact fun _ => rfl)) fun v3 a47 w47 s47 => ?_; clear s46
        obtain ⟨g1, h16⟩ := guard_some h15; clear h15
        refine seq_op s47 rfl rfl (of_decide_eq_true rfl) (ob_cat rfl (.tmp rfl) (.tmp rfl) g1) fun a48 w48 s48 => ?_; clear s47
        refine seq_op s48 rfl rfl (of_decide_eq_true rfl) (ob_assign rfl (.tmp rfl)) fun a49 w49 s49 => ?_; clear s48
        refine wpList_nil ?_
        refine then_normal ?_
        refine hK17 _ _ ?_
        have s50 := s49.sub (.cons (t := 0) rfl (.cons (t := 3) rfl (.cons (t := 4) rfl (.cons (t := 5) rfl .nil)))); clear s49
        refine wp_seq_k fun K18 hK18 => ?_
        refine wp_region_lit ?_
        obtain ⟨x8, e_x8, h17⟩ := bind_some h16; clear h16
        refine seq_op s50 rfl rfl (of_decide_eq_true rfl) ((ob_lendG (L := [_, _]) (List.Perm.refl _) (.cons (t := 3) rfl (lendObj (K' := k_wire_Writer) (X' := x7.2) (.head _) rfl (upo_wire_Writer_0 rfl (.row (LetAll.row (.tail _ (.head _)))))) .nil) (Flat.res1 (Flat.V KFlat.str)) (fun _ => ob_callD (args := [_]) rfl .direct hb32 (fun a w s fs gs hf hg => by obtain rfl := hf.unnil; obtain rfl := hg.unnil; exact c_wire_Writer_String k _ _ e_x8 _ _ _ (s.arg (.tmp rfl)))))) fun a51 w51 s51 => ?_; clear s50
        refine seq_op s51 rfl rfl (of_decide_eq_true rfl) (ob_move rfl (.tmp rfl)) fun a52 w52 s52 => ?_; clear s51
        refine seq_op s52 rfl rfl (of_decide_eq_true rfl) (ob_sneq rfl (.tmp rfl) (.tmp rfl)) fun a53 w53 s53 => ?_; clear s52
        refine wpList_nil ?_
        refine then_normal ?_
        refine hK18 _ _ ?_
        have s54 := s53.sub (.cons (t := 0) rfl (.cons (t := 3) rfl (.cons (t := 4) rfl (.cons (t := 5) rfl (.cons (t := 26) rfl .nil))))); clear s53
        refine cond_split s54 (.tmp rfl) (fun hc4 => ?_) (fun hc4 => ?_)
        · replace h17 := ite_t hc4 h17
          have h18 := h17; clear h17
          refine wp_seq_k fun K19 hK19 => ?_
          refine wp_region_lit ?_
          refine seq_op s54 rfl rfl (of_decide_eq_true rfl) (ob_assign rfl opd_bool) fun a55 w55 s55 => ?_; clear s54
          refine wpList_nil ?_
          refine then_normal ?_
          refine hK19 _ _ ?_
          have s56 := s55.sub (.cons (t := 2) rfl .nil); clear s55
          have s57 := St.drop (A := []) s56; clear s56
          have s58 := St.drop (A := []) s57; clear s57
          refine wp_ret ?_
          obtain rfl := Option.some.inj h18
          exact leave s58 (.inl rfl) rfl (.cons (.tmp rfl) .nil)
        · replace h17 := ite_f hc4 h17
          have h19 := h17; clear h17
          refine wp_skip ?_
          refine in_normal ?_
          refine then_normal ?_
          refine hK16 _ _ ?_
          have s59 := s54.sub (.cons (t := 0) rfl (.cons (t := 3) rfl (.cons (t := 4) rfl (.cons (t := 5) rfl .nil)))); clear s54
          refine wp_region_lit ?_
          refine seq_op s59 rfl rfl (of_decide_eq_true rfl) (ob_move rfl (.tmp rfl)) fun a60 w60 s60 => ?_; clear s59
          refine seq_op s60 rfl rfl (of_decide_eq_true rfl) (ob_add rfl (.tmp rfl) (opd_int rfl)) fun a61 w61 s61 => ?_; clear s60
          refine seq_op s61 rfl rfl (of_decide_eq_true rfl) (ob_assign rfl (.tmp rfl)) fun a62 w62 s62 => ?_; clear s61
          refine wpList_nil ?_
          refine then_normal ?_
          exact hK13 ((y3 ++ x7.1), (iadd .i64 y4 (1 : Int)), x7.2.out) _ _ h19 ⟨v3, (s62.sub (.cons rfl (.cons rfl (.cons rfl (.cons rfl .nil)))))⟩
      · replace h12 := ite_f hc3 h12
        have h20 := h12; clear h12
        refine wp_exit ?_
        refine (then_exit (then_exit (in_here ?_)))
        refine then_normal ?_
        exact hj1 y3 y5 v2 _ _ h20 (s40.sub (.cons rfl (.cons rfl .nil)))

/- 36 (*cabal/wire.Reader).Key -/
theorem c_wire_Reader_Key (k : Nat) (p1 : wire_Reader) (r : ((List Int) × wire_Reader)) (h0 : wire_Reader_Key k p1 = some r) (ok : Ok) (w0 : World) (z0 : Value) (b00 : Nat) (l0 : ∀ q, q ∈ [BF b00 101 k_wire_Reader p1] → q.holds ok w0) (d0 : ∀ c, c ∈ idsOf [BF b00 101 k_wire_Reader p1] → ¬ ok c) (nd : (idsOf [BF b00 101 k_wire_Reader p1]).Nodup) (u0 : (ptrB b00 0).holds ok w0 z0) :
    GivesX Try.prog 36 [z0] ok w0 [BF b00 101 k_wire_Reader p1] (fun g : Unit => resFact [(karr 32 (kint .u8)).V r.1]) (fun g : Unit => [BF b00 101 k_wire_Reader r.2]) := by
  unfold wire_Reader_Key at h0
  refine enterX (N := 11) Try.func36 rfl rfl (of_decide_eq_true rfl) (.cons u0 .nil) nd l0 d0 fun a1 s1 => ?_
  refine wp_seq_k fun K1 hK1 => ?_
  refine wp_region_lit ?_
  refine seq_opx (B' := (fun b1 : Nat => [BF b1 72 (karr 32 (kint .u8)) (List.replicate 32 (0 : Int)), BF b00 101 k_wire_Reader p1])) s1 rfl rfl (of_decide_eq_true rfl) (ob_new (k := (karr 32 (kint .u8))) rfl zz72 (Zr.arr 32 (Zr.int .u8))) fun b1 a2 w2 s2 => ?_; clear s1
  refine wpList_nil ?_
  refine then_normal ?_
  refine hK1 _ _ ?_
  have s3 := s2.sub (.cons (t := 0) rfl (.cons (t := 2) rfl .nil)); clear s2
  refine wp_seq_k fun K2 hK2 => ?_
  refine wp_region_lit ?_
  refine seq_op s3 rfl rfl (of_decide_eq_true rfl) (ob_move rfl (.tmp rfl)) fun a4 w4 s4 => ?_; clear s3
  obtain ⟨x1, e_x1, h1⟩ := bind_some h0; clear h0
  refine seq_opx (B' := (fun _ : Unit => [BF b00 101 k_wire_Reader x1.2, BF b1 72 (karr 32 (kint .u8)) (List.replicate 32 (0 : Int))])) s4 rfl rfl (of_decide_eq_true rfl) (ob_callL (args := [_, _]) (L := [_]) rfl .direct hb61 (toFront [_] (List.Perm.refl _)) (fun a w s fs gs hf hg => by obtain rfl := hf.unnil; obtain rfl := hg.unnil; exact c_wire_Reader_take k _ _ _ e_x1 _ _ _ _ _ (ownL s) (disL s) (nodL s) (s.arg (.tmp rfl)) (s.arg (opd_int rfl))) (by exact fun _ => rfl)) fun _ a5 w5 s5 => ?_; clear s4
  refine seq_op s5 rfl rfl (of_decide_eq_true rfl) (ob_assign rfl (.tmp rfl)) fun a6 w6 s6 => ?_; clear s5
  refine wpList_nil ?_
  refine then_normal ?_
  refine hK2 _ _ ?_
  have s7 := s6.sub (.cons (t := 2) rfl (.cons (t := 3) rfl .nil)); clear s6
  refine wp_seq_k fun K3 hK3 => ?_
  refine wp_region_lit ?_
  refine seq_opx (B' := (fun b2 : Nat => [BF b2 72 (karr 32 (kint .u8)) (List.replicate 32 (0 : Int)), BF b00 101 k_wire_Reader x1.2, BF b1 72 (karr 32 (kint .u8)) (List.replicate 32 (0 : Int))])) s7 rfl rfl (of_decide_eq_true rfl) (ob_new (k := (karr 32 (kint .u8))) rfl zz72 (Zr.arr 32 (Zr.int .u8))) fun b2 a8 w8 s8 => ?_; clear s7
  refine wpList_nil ?_
  refine then_normal ?_
  refine hK3 _ _ ?_
  have s9 := s8.sub (.cons (t := 2) rfl (.cons (t := 3) rfl (.cons (t := 4) rfl .nil))); clear s8
  refine wp_seq_k fun K4 hK4 => ?_
  refine wp_region_lit ?_
  refine seq_op s9 rfl rfl (of_decide_eq_true rfl) (ob_sliceArr rfl Try.underlying72 sz5 (.tmp rfl) .none .none (show (0 : Int) ≤ (0 : Int) ∧ (0 : Int) ≤ (32 : Int) ∧ (32 : Int) ≤ ((32 : Nat) : Int) by decide)) fun a10 w10 s10 => ?_; clear s9
  refine seq_op s10 rfl rfl (of_decide_eq_true rfl) (ob_move rfl (.tmp rfl)) fun a11 w11 s11 => ?_; clear s10
  obtain ⟨g1, h2⟩ := guard_some h1; clear h1
  obtain ⟨x2, e_x2, h3⟩ := bind_some h2; clear h2; replace e_x2 := Option.some.inj e_x2
  refine seq_opx (B' := (fun _ : Unit => [BF b2 72 (karr 32 (kint .u8)) x2, BF b00 101 k_wire_Reader x1.2, BF b1 72 (karr 32 (kint .u8)) (List.replicate 32 (0 : Int))])) s11 rfl rfl (of_decide_eq_true rfl) (ob_copyB (A := []) rfl Try.underlying23 sz5 rfl (.tmp rfl) (srcStr (.tmp rfl)) rfl rfl (sl_fit (show (0 : Int) ≤ (0 : Int) ∧ (0 : Int) ≤ (32 : Int) ∧ (32 : Int) ≤ ((32 : Nat) : Int) by decide)) g1 (LG.refl _ _) (LS.to (LS.refl _ _ _) e_x2) rfl (by decide)) fun _ a12 w12 s12 => ?_; clear s11
  refine wpList_nil ?_
  refine then_normal ?_
  refine hK4 _ _ ?_
  have s13 := s12.sub (.cons (t := 2) rfl (.cons (t := 4) rfl .nil)); clear s12
  refine wp_seq_k fun K5 hK5 => ?_
  refine wp_region_lit ?_
  refine seq_op s13 rfl rfl (of_decide_eq_true rfl) (ob_load rfl tk72 (.tmp rfl) (.head _) (LG.refl _ _)) fun a14 w14 s14 => ?_; clear s13
  refine seq_opx0 (B' := (fun _ : Unit => [BF b2 72 (karr 32 (kint .u8)) x2, BF b00 101 k_wire_Reader x1.2, BF b1 72 (karr 32 (kint .u8)) x2])) s14 rfl rfl (ob_store (A := [_, _]) rfl tk72 (.tmp rfl) (.tmp rfl) rfl (LS.refl _ _ _) rfl) fun _ a15 w15 s15 => ?_; clear s14
  refine wpList_nil ?_
  refine then_normal ?_
  refine hK5 _ _ ?_
  have s16 := s15.sub (.cons (t := 2) rfl .nil); clear s15
  have s17 := St.drop (A := []) s16; clear s16
  refine wp_ret ?_
  obtain rfl := Option.some.inj h3
  exact leaveXD (D := [_]) () s17 rfl (.inl rfl) rfl (.cons (.cell rfl tk72 (.tail _ (.head _)) (LG.refl _ _)) .nil) rfl

/- 63 cabal/wire.list[cabal/api.Key] -/
theorem c_wire_list_api_Key_wire_Reader_Key (k : Nat) (p1 : wire_Reader) (p2 : Int) (r : ((List (List Int)) × wire_Reader)) (h0 : wire_list_api_Key_wire_Reader_Key k p1 p2 = some r) (ok : Ok) (w0 : World) (z0 : Value) (z1 : Value) (z2 : Value) (b00 : Nat) (l0 : ∀ q, q ∈ [BF b00 101 k_wire_Reader p1] → q.holds ok w0) (d0 : ∀ c, c ∈ idsOf [BF b00 101 k_wire_Reader p1] → ¬ ok c) (nd : (idsOf [BF b00 101 k_wire_Reader p1]).Nodup) (u0 : (ptrB b00 0).holds ok w0 z0) (u1 : ((kint .i64).V p2).holds ok w0 z1) (u2 : (cloF 36 [(ptrB b00 0)] []).holds ok w0 z2) :
    GivesX Try.prog 63 [z0, z1, z2] ok w0 [BF b00 101 k_wire_Reader p1] (fun g : Value => resFact [is g]) (fun g : Value => [RowF (g) 72 (karr 32 (kint .u8)) r.1, BF b00 101 k_wire_Reader r.2]) := by
  unfold wire_list_api_Key_wire_Reader_Key at h0
  refine enterX (N := 36) Try.func63 rfl rfl (of_decide_eq_true rfl) (.cons u0 (.cons u1 (.cons u2 .nil))) nd l0 d0 fun a1 s1 => ?_
  refine wp_seq_k fun K1 hK1 => ?_
  refine wp_region_lit ?_
  refine seq_op s1 rfl rfl (of_decide_eq_true rfl) (ob_assign rfl opd_is) fun a2 w2 s2 => ?_; clear s1
  have s3 := St.adopt s2 (G := RowF (nilRow 5) 72 (karr 32 (kint .u8)) []) rfl (rowNilN _ _ _ _ _); clear s2
  refine wpList_nil ?_
  refine then_normal ?_
  refine hK1 _ _ ?_
  have s4 := s3.sub (.cons (t := 0) rfl (.cons (t := 1) rfl (.cons (t := 2) rfl .nil))); clear s3
  have s5 := St.drop (A := []) s4; clear s4
  refine wp_seq_k fun K2 hK2 => ?_
  refine wp_region_lit ?_
  refine seq_op s5 rfl rfl (of_decide_eq_true rfl) (ob_move rfl (.tmp rfl)) fun a6 w6 s6 => ?_; clear s5
  refine seq_op s6 rfl rfl (of_decide_eq_true rfl) (ob_nilCheck rfl (.tmp rfl)) fun a7 w7 s7 => ?_; clear s6
  refine seq_op s7 rfl rfl (of_decide_eq_true rfl) (ob_fieldAddr (off' := 0) rfl Try.underlying101 rfl sz9 (by decide) (.tmp rfl) rfl) fun a8 w8 s8 => ?_; clear s7
  refine seq_op s8 rfl rfl (of_decide_eq_true rfl) (ob_load rfl tk9 (.tmp rfl) (.head _) (lg_wire_Reader_s p1)) fun a9 w9 s9 => ?_; clear s8
  refine seq_op s9 rfl rfl (of_decide_eq_true rfl) (ob_assign rfl (.tmp rfl)) fun a10 w10 s10 => ?_; clear s9
  refine wpList_nil ?_
  refine then_normal ?_
  refine hK2 _ _ ?_
  have s11 := s10.sub (.cons (t := 0) rfl (.cons (t := 1) rfl (.cons (t := 2) rfl (.cons (t := 7) rfl .nil)))); clear s10
  refine wp_seq_k fun K3 hK3 => ?_
  refine wp_region_lit ?_
  refine seq_op s11 rfl rfl (of_decide_eq_true rfl) (ob_assign rfl opd_is) fun a12 w12 s12 => ?_; clear s11
  have s13 := St.adopt s12 (G := RowF (nilRow 6) 72 (karr 32 (kint .u8)) []) rfl (rowNilN _ _ _ _ _); clear s12
  refine wpList_nil ?_
  refine then_normal ?_
  refine hK3 _ _ ?_
  have s14 := s13.sub (.cons (t := 0) rfl (.cons (t := 1) rfl (.cons (t := 2) rfl (.cons (t := 7) rfl (.cons (t := 8) rfl .nil))))); clear s13
  refine wp_seq_k fun K4 hK4 => ?_
  refine wp_seq_k fun K5 hK5 => ?_
  refine wp_region_lit ?_
  refine seq_op s14 rfl rfl (of_decide_eq_true rfl) (ob_move rfl (.tmp rfl)) fun a15 w15 s15 => ?_; clear s14
  refine seq_op s15 rfl rfl (of_decide_eq_true rfl) (ob_move rfl (.tmp rfl)) fun a16 w16 s16 => ?_; clear s15
  obtain ⟨x1, e_x1, h1⟩ := bind_some h0; clear h0
  refine seq_opx (B' := (fun _ : Unit => [BF b00 101 k_wire_Reader x1.2, RowF (nilRow 6) 72 (karr 32 (kint .u8)) ([] : (List (List Int)))])) s16 rfl rfl (of_decide_eq_true rfl) (ob_callL (args := [_, _]) (L := [_]) rfl .direct hb62 (toFront [_] (List.Perm.refl _)) (fun a w s fs gs hf hg => by obtain rfl := hf.unnil; obtain rfl := hg.unnil; exact c_wire_Reader_count k _ _ _ e_x1 _ _ _ _ _ (ownL s) (disL s) (nodL s) (s.arg (.tmp rfl)) (s.arg (.tmp rfl))) (by exact fun _ => rfl)) fun _ a17 w17 s17 => ?_; clear s16
  refine seq_op s17 rfl rfl (of_decide_eq_true rfl) (ob_move rfl (opd_int rfl)) fun a18 w18 s18 => ?_; clear s17
  refine wpList_nil ?_
  refine then_normal ?_
  refine hK5 _ _ ?_
  have s19 := s18.sub (.cons (t := 0) rfl (.cons (t := 2) rfl (.cons (t := 7) rfl (.cons (t := 8) rfl (.cons (t := 16) rfl (.cons (t := 17) rfl .nil)))))); clear s18
  have hj1 : ∀ (y1 : wire_Reader) (y2 : (List (List Int))) (v1 : Value) (a : Act) (w : World), (wire_list_api_Key_wire_Reader_Key.j1 k) y1 y2 = some r → St ⟨36, w0, ok, (idsOf [BF b00 101 k_wire_Reader p1])⟩ [BF b00 101 k_wire_Reader y1, RowF v1 72 (karr 32 (kint .u8)) y2] [(8, (is v1))] a w → K4 a w := by
    intro y1 y2 v1 a20 w20 h2 s20
    unfold wire_list_api_Key_wire_Reader_Key.j1 at h2
    refine hK4 _ _ ?_
    refine wp_seq_k fun K6 hK6 => ?_
    refine wp_region_lit ?_
    refine seq_op s20 rfl rfl (of_decide_eq_true rfl) (ob_move rfl (.tmp rfl)) fun a21 w21 s21 => ?_; clear s20
    refine seq_op s21 rfl rfl (of_decide_eq_true rfl) (ob_assign rfl (.tmp rfl)) fun a22 w22 s22 => ?_; clear s21
    refine wpList_nil ?_
    refine then_normal ?_
    refine hK6 _ _ ?_
    have s23 := s22.sub (.cons (t := 6) rfl .nil); clear s22
    refine wp_ret ?_
    have s24 := s23.perm (toFront [_] (toFront [] (List.Perm.refl _))); clear s23
    obtain rfl := Option.some.inj h2
    exact leaveXD (D := []) v1 s24 rfl (.inl rfl) rfl (.cons (.tmp rfl) .nil) rfl
  refine wp_block ?_
  refine wp_loop_fuel (fun m (q : Int × wire_Reader × (List (List Int))) => wire_list_api_Key_wire_Reader_Key.l1 k x1 p1 m q.1 q.2.1 q.2.2) r (fun _ => rfl) (fun q a w => ∃ (v2 : Value), St ⟨36, w0, ok, (idsOf [BF b00 101 k_wire_Reader p1])⟩ [BF b00 101 k_wire_Reader q.2.1, RowF v2 72 (karr 32 (kint .u8)) q.2.2] [(0, (ptrB b00 0)), (2, (cloF 36 [(ptrB b00 0)] [])), (7, (kstr.V p1.s)), (8, (is v2)), (16, ((kint .i64).V x1.1)), (17, ((kint .i64).V q.1))] a w) ?_ k ((0 : Int), x1.2, ([] : (List (List Int)))) _ _ h1 ⟨(nilRow 6), (s19.sub (.cons rfl (.cons rfl (.cons rfl (.cons rfl (.cons rfl (.cons rfl .nil)))))))⟩
  rintro n1 ⟨y3, y4, y5⟩ a25 w25 h3 ⟨v2, s25⟩ K7 hK7
  replace h3 : wire_list_api_Key_wire_Reader_Key.l1 k x1 p1 (n1 + 1) y3 y4 y5 = some r := h3; rw [wire_list_api_Key_wire_Reader_Key.l1] at h3
  have h4 := h3; clear h3
  refine wp_seq_k fun K8 hK8 => ?_
  refine wp_region_lit ?_
  refine seq_op s25 rfl rfl (of_decide_eq_true rfl) (ob_lss rfl (.tmp rfl) (.tmp rfl)) fun a26 w26 s26 => ?_; clear s25
  refine wpList_nil ?_
  refine then_normal ?_
  refine hK8 _ _ ?_
  have s27 := s26.sub (.cons (t := 0) rfl (.cons (t := 2) rfl (.cons (t := 7) rfl (.cons (t := 8) rfl (.cons (t := 16) rfl (.cons (t := 17) rfl (.cons (t := 18) rfl .nil))))))); clear s26
  refine wp_seq_k fun K9 hK9 => ?_
  refine cond_split s27 (.tmp rfl) (fun hc1 => ?_) (fun hc1 => ?_)
  · replace h4 := ite_t hc1 h4
    have h5 := h4; clear h4
    refine wp_skip ?_
    refine then_normal ?_
    refine hK9 _ _ ?_
    have s28 := s27.sub (.cons (t := 0) rfl (.cons (t := 2) rfl (.cons (t := 7) rfl (.cons (t := 8) rfl (.cons (t := 16) rfl (.cons (t := 17) rfl .nil)))))); clear s27
    refine wp_seq_k fun K10 hK10 => ?_
    refine wp_block ?_
    refine wp_seq_k fun K11 hK11 => ?_
    refine wp_region_lit ?_
    refine seq_op s28 rfl rfl (of_decide_eq_true rfl) (ob_move rfl (.tmp rfl)) fun a29 w29 s29 => ?_; clear s28
    obtain ⟨x2, e_x2, h6⟩ := bind_some h5; clear h5
    refine seq_opx (B' := (fun _ : Unit => [BF b00 101 k_wire_Reader x2.2, RowF v2 72 (karr 32 (kint .u8)) y5])) s29 rfl rfl (of_decide_eq_true rfl) (ob_callL (args := []) (L := [_]) rfl (.clo (.tmp rfl)) hb36 (List.Perm.refl _) (fun a w s fs gs hf hg => by obtain ⟨y0, _, rfl, fy0, hf⟩ := hf.uncons; obtain rfl := hf.unnil; obtain rfl := hg.unnil; exact c_wire_Reader_Key k _ _ e_x2 _ _ _ _ (ownL s) (disL s) (nodL s) fy0) (by exact fun _ => rfl)) fun _ a30 w30 s30 => ?_; clear s29
    refine seq_opx (B' := (fun b1 : Nat => [BF b1 72 (karr 32 (kint .u8)) (List.replicate 32 (0 : Int)), BF b00 101 k_wire_Reader x2.2, RowF v2 72 (karr 32 (kint .u8)) y5])) s30 rfl rfl (of_decide_eq_true rfl) (ob_new (k := (karr 32 (kint .u8))) rfl zz72 (Zr.arr 32 (Zr.int .u8))) fun b1 a31 w31 s31 => ?_; clear s30
    refine seq_opx0 (B' := (fun _ : Unit => [BF b1 72 (karr 32 (kint .u8)) x2.1, BF b00 101 k_wire_Reader x2.2, RowF v2 72 (karr 32 (kint .u8)) y5])) s31 rfl rfl (ob_store (A := []) rfl tk72 (.tmp rfl) (.tmp rfl) rfl (LS.refl _ _ _) rfl) fun _ a32 w32 s32 => ?_; clear s31
    refine wpList_nil ?_
    refine then_normal ?_
    refine hK11 _ _ ?_
    have s33 := s32.sub (.cons (t := 0) rfl (.cons (t := 2) rfl (.cons (t := 7) rfl (.cons (t := 8) rfl (.cons (t := 9) rfl (.cons (t := 16) rfl (.cons (t := 17) rfl .nil))))))); clear s32
    refine wp_seq_k fun K12 hK12 => ?_
    refine wp_seq_k fun K13 hK13 => ?_
    refine wp_region_lit ?_
    refine seq_op s33 rfl rfl (of_decide_eq_true rfl) (ob_move rfl (.tmp rfl)) fun a34 w34 s34 => ?_; clear s33
    refine seq_op s34 rfl rfl (of_decide_eq_true rfl) (ob_nilCheck rfl (.tmp rfl)) fun a35 w35 s35 => ?_; clear s34
    refine seq_op s35 rfl rfl (of_decide_eq_true rfl) (ob_fieldAddr (off' := 1) rfl Try.underlying101 rfl sz31 (by decide) (.tmp rfl) rfl) fun a36 w36 s36 => ?_; clear s35
    refine seq_op s36 rfl rfl (of_decide_eq_true rfl) (ob_load rfl tk31 (.tmp rfl) (.tail _ (.head _)) (lg_wire_Reader_err x2.2)) fun a37 w37 s37 => ?_; clear s36
    refine seq_op s37 rfl rfl (of_decide_eq_true rfl) (ob_neq rfl (.tmp rfl) (opd_int rfl)) fun a38 w38 s38 => ?_; clear s37
    refine wpList_nil ?_
    refine then_normal ?_
    refine hK13 _ _ ?_
    have s39 := s38.sub (.cons (t := 0) rfl (.cons (t := 2) rfl (.cons (t := 7) rfl (.cons (t := 8) rfl (.cons (t := 9) rfl (.cons (t := 16) rfl (.cons (t := 17) rfl (.cons (t := 25) rfl .nil)))))))); clear s38
    refine cond_split s39 (.tmp rfl) (fun hc2 => ?_) (fun hc2 => ?_)
    · replace h6 := ite_t hc2 h6
      have h7 := h6; clear h6
      refine wp_seq_k fun K14 hK14 => ?_
      refine wp_region_lit ?_
      refine seq_op s39 rfl rfl (of_decide_eq_true rfl) (ob_move rfl (.tmp rfl)) fun a40 w40 s40 => ?_; clear s39
      refine seq_op s40 rfl rfl (of_decide_eq_true rfl) (ob_move rfl (.tmp rfl)) fun a41 w41 s41 => ?_; clear s40
      refine seq_op s41 rfl rfl (of_decide_eq_true rfl) (ob_nilCheck rfl (.tmp rfl)) fun a42 w42 s42 => ?_; clear s41
      refine seq_op s42 rfl rfl (of_decide_eq_true rfl) (ob_fieldAddr (off' := 0) rfl Try.underlying101 rfl sz9 (by decide) (.tmp rfl) rfl) fun a43 w43 s43 => ?_; clear s42
      refine seq_opx0 (B' := (fun _ : Unit => [BF b1 72 (karr 32 (kint .u8)) x2.1, BF b00 101 k_wire_Reader ({ x2.2 with s := p1.s }), RowF v2 72 (karr 32 (kint .u8)) y5])) s43 rfl rfl (ob_store (A := [_]) rfl tk9 (.tmp rfl) (.tmp rfl) rfl (ls_wire_Reader_s x2.2 p1.s) rfl) fun _ a44 w44 s44 => ?_; clear s43
      refine wpList_nil ?_
      refine then_normal ?_
      refine hK14 _ _ ?_
      have s45 := s44.sub .nil; clear s44
      have s46 := St.drop (A := []) s45; clear s45
      have s47 := St.drop (A := [_]) s46; clear s46
      refine wp_seq_k fun K15 hK15 => ?_
      refine wp_region_lit ?_
      refine seq_op s47 rfl rfl (of_decide_eq_true rfl) (ob_assign rfl opd_is) fun a48 w48 s48 => ?_; clear s47
      have s49 := St.adopt s48 (G := RowF (nilRow 7) 72 (karr 32 (kint .u8)) []) rfl (rowNilN _ _ _ _ _); clear s48
      refine wpList_nil ?_
      refine then_normal ?_
      refine hK15 _ _ ?_
      have s50 := s49.sub (.cons (t := 6) rfl .nil); clear s49
      refine wp_ret ?_
      obtain rfl := Option.some.inj h7
      exact leaveXD (D := []) (nilRow 7) s50 rfl (.inl rfl) rfl (.cons (.tmp rfl) .nil) rfl
    · replace h6 := ite_f hc2 h6
      have h8 := h6; clear h6
      refine wp_skip ?_
      refine then_normal ?_
      refine hK12 _ _ ?_
      have s51 := s39.sub (.cons (t := 0) rfl (.cons (t := 2) rfl (.cons (t := 7) rfl (.cons (t := 8) rfl (.cons (t := 9) rfl (.cons (t := 16) rfl (.cons (t := 17) rfl .nil))))))); clear s39
      refine wp_region_lit ?_
      refine seq_op s51 rfl rfl (of_decide_eq_true rfl) (ob_move rfl (.tmp rfl)) fun a52 w52 s52 => ?_; clear s51
      refine seq_op s52 rfl rfl (of_decide_eq_true rfl) (ob_load rfl tk72 (.tmp rfl) (.head _) (LG.refl _ _)) fun a53 w53 s53 => ?_; clear s52
      refine seq_op s53 rfl rfl (of_decide_eq_true rfl) (ob_mkSlice (k := (karr 32 (kint .u8))) (xs := ([x2.1] : (List (List Int)))) rfl Try.underlying63 zz72 sz72 (Zr.arr 32 (Zr.int .u8)) (by decide) (by decide) (.cons (.tmp rfl) rfl (LS.arr' (i := 0) (ys := ([x2.1] : (List (List Int)))) (by simp) (by rfl)) (.nil _))) fun a54 w54 s54 => ?_; clear s53
      obtain ⟨g1, h9⟩ := guard_some h8; clear h8
      refine seq_opx (B' := (fun v3 : Value => [BF b1 72 (karr 32 (kint .u8)) x2.1, BF b00 101 k_wire_Reader x2.2, RowF v3 72 (karr 32 (kint .u8)) (y5 ++ ([x2.1] : (List (List Int))))])) s54 rfl rfl (of_decide_eq_true rfl) (ob_appendL2 (A := [_, _]) rfl Try.underlying63 ap72 (Zr.arr 32 (Zr.int .u8)) (by decide) (.tmp rfl) (.tmp rfl) rfl g1) fun v3 a55 w55 s55 => ?_; clear s54
      refine seq_op s55 rfl rfl (of_decide_eq_true rfl) (ob_assign rfl (.tmp rfl)) fun a56 w56 s56 => ?_; clear s55
      refine wpList_nil ?_
      refine in_normal ?_
      refine then_normal ?_
      refine hK10 _ _ ?_
      have s57 := s56.sub (.cons (t := 0) rfl (.cons (t := 2) rfl (.cons (t := 7) rfl (.cons (t := 8) rfl (.cons (t := 16) rfl (.cons (t := 17) rfl .nil)))))); clear s56
      have s58 := St.drop (A := []) s57; clear s57
      refine wp_region_lit ?_
      refine seq_op s58 rfl rfl (of_decide_eq_true rfl) (ob_add rfl (.tmp rfl) (opd_int rfl)) fun a59 w59 s59 => ?_; clear s58
      refine seq_op s59 rfl rfl (of_decide_eq_true rfl) (ob_move rfl (.tmp rfl)) fun a60 w60 s60 => ?_; clear s59
      refine wpList_nil ?_
      refine then_normal ?_
      exact hK7 ((iadd .i64 y3 (1 : Int)), x2.2, (y5 ++ ([x2.1] : (List (List Int))))) _ _ h9 ⟨v3, (s60.sub (.cons rfl (.cons rfl (.cons rfl (.cons rfl (.cons rfl (.cons rfl .nil)))))))⟩
  · replace h4 := ite_f hc1 h4
    have h10 := h4; clear h4
    refine wp_exit ?_
    refine (then_exit (then_exit (in_here ?_)))
    refine then_normal ?_
    exact hj1 y4 y5 v2 _ _ h10 (s27.sub (.cons rfl .nil))

/- 37 (*cabal/wire.Reader).KeyList -/
theorem c_wire_Reader_KeyList (k : Nat) (p1 : wire_Reader) (p2 : Int) (r : ((List (List Int)) × wire_Reader)) (h0 : wire_Reader_KeyList k p1 p2 = some r) (ok : Ok) (w0 : World) (z0 : Value) (z1 : Value) (b00 : Nat) (l0 : ∀ q, q ∈ [BF b00 101 k_wire_Reader p1] → q.holds ok w0) (d0 : ∀ c, c ∈ idsOf [BF b00 101 k_wire_Reader p1] → ¬ ok c) (nd : (idsOf [BF b00 101 k_wire_Reader p1]).Nodup) (u0 : (ptrB b00 0).holds ok w0 z0) (u1 : ((kint .i64).V p2).holds ok w0 z1) :
    GivesX Try.prog 37 [z0, z1] ok w0 [BF b00 101 k_wire_Reader p1] (fun g : Value => resFact [is g]) (fun g : Value => [RowF (g) 72 (karr 32 (kint .u8)) r.1, BF b00 101 k_wire_Reader r.2]) := by
  unfold wire_Reader_KeyList at h0
  refine enterX (N := 10) Try.func37 rfl rfl (of_decide_eq_true rfl) (.cons u0 (.cons u1 .nil)) nd l0 d0 fun a1 s1 => ?_
  refine wp_seq_k fun K1 hK1 => ?_
  refine wp_region_lit ?_
  refine seq_op s1 rfl rfl (of_decide_eq_true rfl) (ob_assign rfl opd_is) fun a2 w2 s2 => ?_; clear s1
  have s3 := St.adopt s2 (G := RowF (nilRow 4) 72 (karr 32 (kint .u8)) []) rfl (rowNilN _ _ _ _ _); clear s2
  refine wpList_nil ?_
  refine then_normal ?_
  refine hK1 _ _ ?_
  have s4 := s3.sub (.cons (t := 0) rfl (.cons (t := 1) rfl .nil)); clear s3
  have s5 := St.drop (A := []) s4; clear s4
  refine wp_seq_k fun K2 hK2 => ?_
  refine wp_region_lit ?_
  refine seq_op s5 rfl rfl (of_decide_eq_true rfl) (ob_move rfl (.tmp rfl)) fun a6 w6 s6 => ?_; clear s5
  refine seq_op s6 rfl rfl (of_decide_eq_true rfl) (ob_move rfl (.tmp rfl)) fun a7 w7 s7 => ?_; clear s6
  refine seq_op s7 rfl rfl (of_decide_eq_true rfl) (ob_move rfl (.tmp rfl)) fun a8 w8 s8 => ?_; clear s7
  refine seq_op s8 rfl rfl (of_decide_eq_true rfl) (ob_makeFn (xs := [_]) (ys := []) rfl (.cons (.tmp rfl) .nil) .nil) fun a9 w9 s9 => ?_; clear s8
  obtain ⟨x1, e_x1, h1⟩ := bind_some h0; clear h0
  refine seq_opx (B' := (fun v1 : Value => [RowF v1 72 (karr 32 (kint .u8)) x1.1, BF b00 101 k_wire_Reader x1.2])) s9 rfl rfl (of_decide_eq_true rfl) (ob_callL (args := [_, _, _]) (L := [_]) rfl .direct hb63 (List.Perm.refl _) (fun a w s fs gs hf hg => by obtain rfl := hf.unnil; obtain rfl := hg.unnil; exact c_wire_list_api_Key_wire_Reader_Key k _ _ _ e_x1 _ _ _ _ _ _ (ownL s) (disL s) (nodL s) (s.arg (.tmp rfl)) (s.arg (.tmp rfl)) (s.arg (.tmp rfl))) (by exact fun _ => rfl)) fun v1 a10 w10 s10 => ?_; clear s9
  refine seq_op s10 rfl rfl (of_decide_eq_true rfl) (ob_assign rfl (.tmp rfl)) fun a11 w11 s11 => ?_; clear s10
  refine wpList_nil ?_
  refine then_normal ?_
  refine hK2 _ _ ?_
  have s12 := s11.sub (.cons (t := 4) rfl .nil); clear s11
  refine wp_ret ?_
  obtain rfl := Option.some.inj h1
  exact leaveXD (D := []) v1 s12 rfl (.inl rfl) rfl (.cons (.tmp rfl) .nil) rfl

end Go.Proofs.Ytlcddcamnkgeeaa
