/- Each function's code comes to what its plain function answers. No condition. -/
import Derived.Test.YtlcddcamnkgeeaaDWalk1
namespace Go.Proofs.Ytlcddcamnkgeeaa
open Go Go.RowKit Go.Proofs.Kit Go.Proofs.Pure
set_option linter.unusedVariables false
set_option linter.unusedSimpArgs false
set_option maxRecDepth 100000
set_option maxHeartbeats 2000000

/- 5 cabal/caballaw12.DiskPlays -/
theorem c_caballaw12_DiskPlays (k : Nat) (p1 : Int) (p2 : (List caballaw12_Act)) (r : Bool) (h0 : caballaw12_DiskPlays k p1 p2 = some r) (ok : Ok) (w0 : World) (z0 : Value) (z1 : Value) (u0 : ((kint .i64).V p1).holds ok w0 z0) (u1 : ((ksl k_caballaw12_Act).V p2).holds ok w0 z1) :
    Gives Try.prog 5 [z0, z1] ok w0 (resFact [kbool.V r]) := by
  unfold caballaw12_DiskPlays at h0
  refine enter (N := 161) Try.func5 rfl rfl (of_decide_eq_true rfl) (.cons u0 (.cons u1 .nil)) fun a1 s1 => ?_
  refine wp_seq_k fun K1 hK1 => ?_
  refine wp_region_lit ?_
  refine seq_op s1 rfl rfl (of_decide_eq_true rfl) (ob_assign rfl opd_bool) fun a2 w2 s2 => ?_; clear s1
  refine wpList_nil ?_
  refine then_normal ?_
  refine hK1 _ _ ?_
  have s3 := s2.sub (.cons (t := 0) rfl (.cons (t := 1) rfl .nil)); clear s2
  refine wp_seq_k fun K2 hK2 => ?_
  refine wp_seq_k fun K3 hK3 => ?_
  refine wp_region_lit ?_
  obtain ⟨x1, e_x1, h1⟩ := bind_some h0; clear h0
  refine seq_op s3 rfl rfl (of_decide_eq_true rfl) (ob_callD (args := []) rfl .direct hb11 (fun a w s fs gs hf hg => by obtain rfl := hf.unnil; obtain rfl := hg.unnil; exact c_caballaw12_alive k _ e_x1 _ _)) fun a4 w4 s4 => ?_; clear s3
  refine seq_op s4 rfl rfl (of_decide_eq_true rfl) (ob_not rfl (.tmp rfl)) fun a5 w5 s5 => ?_; clear s4
  refine wpList_nil ?_
  refine then_normal ?_
  refine hK3 _ _ ?_
  have s6 := s5.sub (.cons (t := 0) rfl (.cons (t := 1) rfl (.cons (t := 14) rfl .nil))); clear s5
  refine cond_split s6 (.tmp rfl) (fun hc1 => ?_) (fun hc1 => ?_)
  · replace h1 := ite_t hc1 h1
    have h2 := h1; clear h1
    refine wp_seq_k fun K4 hK4 => ?_
    refine wp_region_lit ?_
    refine seq_op s6 rfl rfl (of_decide_eq_true rfl) (ob_assign rfl opd_bool) fun a7 w7 s7 => ?_; clear s6
    refine wpList_nil ?_
    refine then_normal ?_
    refine hK4 _ _ ?_
    have s8 := s7.sub (.cons (t := 4) rfl .nil); clear s7
    refine wp_ret ?_
    obtain rfl := Option.some.inj h2
    exact leave s8 (.inl rfl) rfl (.cons (.tmp rfl) .nil)
  · replace h1 := ite_f hc1 h1
    have h3 := h1; clear h1
    refine wp_skip ?_
    refine then_normal ?_
    refine hK2 _ _ ?_
    have s9 := s6.sub (.cons (t := 0) rfl (.cons (t := 1) rfl .nil)); clear s6
    refine wp_seq_k fun K5 hK5 => ?_
    refine wp_seq_k fun K6 hK6 => ?_
    refine wp_region_lit ?_
    refine seq_op s9 rfl rfl (of_decide_eq_true rfl) (ob_move rfl (.tmp rfl)) fun a10 w10 s10 => ?_; clear s9
    refine seq_op s10 rfl rfl (of_decide_eq_true rfl) (ob_gtr rfl (.tmp rfl) (opd_int rfl)) fun a11 w11 s11 => ?_; clear s10
    refine wpList_nil ?_
    refine then_normal ?_
    refine hK6 _ _ ?_
    have s12 := s11.sub (.cons (t := 0) rfl (.cons (t := 1) rfl (.cons (t := 16) rfl .nil))); clear s11
    have hj1 : ∀ (y1 : Int) (a : Act) (w : World), (caballaw12_DiskPlays.j1 k p2) y1 = some r → St ⟨161, w0, ok, []⟩ [] [(0, ((kint .i64).V y1)), (1, ((ksl k_caballaw12_Act).V p2))] a w → K5 a w := by
      intro y1 a13 w13 h4 s13
      unfold caballaw12_DiskPlays.j1 at h4
      refine hK5 _ _ ?_
      refine wp_seq_k fun K7 hK7 => ?_
      refine wp_region_lit ?_
      refine seq_op s13 rfl rfl (of_decide_eq_true rfl) (ob_move rfl (.tmp rfl)) fun a14 w14 s14 => ?_; clear s13
      obtain ⟨x2, e_x2, h5⟩ := bind_some h4; clear h4
      refine seq_opx (B' := (fun gg : Nat × Value × Value => [BF gg.1 87 (ko_disk_Disk_0_1 gg.2.1 gg.2.2) (⟨[], [], x2.fuse, x2.dead⟩ : disk_Disk), RowF gg.2.1 91 (karr 256 (kint .u8)) x2.firm, RowF gg.2.2 93 k_disk_write x2.loose])) s14 rfl rfl (of_decide_eq_true rfl) (ob_callL (args := [_]) (L := []) rfl .direct hb12 (List.Perm.refl _) (fun a w s fs gs hf hg => by obtain rfl := hf.unnil; obtain rfl := hg.unnil; exact c_disk_New k _ _ e_x2 _ _ _ (s.arg (.tmp rfl))) (by exact fun _ => rfl)) fun gg15 a15 w15 s15 => ?_; clear s14
      obtain ⟨b1, v1, v2⟩ := gg15
      refine seq_op s15 rfl rfl (of_decide_eq_true rfl) (ob_move rfl (.tmp rfl)) fun a16 w16 s16 => ?_; clear s15
      obtain ⟨x3, e_x3, h6⟩ := bind_some h5; clear h5
      refine seq_opx (B' := (fun gg : Nat × Value × Value × Value => [BF gg.1 52 (ko_cabalref12_Disk_0_1_2 gg.2.1 gg.2.2.1 gg.2.2.2) (⟨[], [], [], x3.Fuse, x3.Dead⟩ : cabalref12_Disk), RowF gg.2.1 9 kstr x3.Firm, RowF gg.2.2.1 3 (kint .i64) x3.At, RowF gg.2.2.2 9 kstr x3.Data, BF b1 87 (ko_disk_Disk_0_1 v1 v2) (⟨[], [], x2.fuse, x2.dead⟩ : disk_Disk), RowF v1 91 (karr 256 (kint .u8)) x2.firm, RowF v2 93 k_disk_write x2.loose])) s16 rfl rfl (of_decide_eq_true rfl) (ob_callL (args := [_]) (L := []) rfl .direct hb19 (List.Perm.refl _) (fun a w s fs gs hf hg => by obtain rfl := hf.unnil; obtain rfl := hg.unnil; exact c_cabalref12_New k _ _ e_x3 _ _ _ (s.arg (.tmp rfl))) (by exact fun _ => rfl)) fun gg17 a17 w17 s17 => ?_; clear s16
      obtain ⟨b2, v3, v4, v5⟩ := gg17
      refine seq_op s17 rfl rfl (of_decide_eq_true rfl) (ob_assign rfl (.tmp rfl)) fun a18 w18 s18 => ?_; clear s17
      refine seq_op s18 rfl rfl (of_decide_eq_true rfl) (ob_assign rfl (.tmp rfl)) fun a19 w19 s19 => ?_; clear s18
      refine wpList_nil ?_
      refine then_normal ?_
      refine hK7 _ _ ?_
      have s20 := s19.sub (.cons (t := 1) rfl (.cons (t := 5) rfl (.cons (t := 6) rfl .nil))); clear s19
      refine wp_seq_k fun K8 hK8 => ?_
      refine wp_seq_k fun K9 hK9 => ?_
      refine wp_region_lit ?_
      refine seq_op s20 rfl rfl (of_decide_eq_true rfl) (ob_assign rfl (opd_int rfl)) fun a21 w21 s21 => ?_; clear s20
      refine wpList_nil ?_
      refine then_normal ?_
      refine hK9 _ _ ?_
      have s22 := s21.sub (.cons (t := 1) rfl (.cons (t := 5) rfl (.cons (t := 6) rfl (.cons (t := 7) rfl .nil)))); clear s21
      have hj2 : ∀ (a : Act) (w : World), (caballaw12_DiskPlays.j2 k) = some r → St ⟨161, w0, ok, []⟩ [] [] a w → K8 a w := by
        intro a23 w23 h7 s23
        unfold caballaw12_DiskPlays.j2 at h7
        refine hK8 _ _ ?_
        refine wp_seq_k fun K10 hK10 => ?_
        refine wp_region_lit ?_
        obtain ⟨x4, e_x4, h8⟩ := bind_some h7; clear h7
        refine seq_op s23 rfl rfl (of_decide_eq_true rfl) (ob_callD (args := []) rfl .direct hb11 (fun a w s fs gs hf hg => by obtain rfl := hf.unnil; obtain rfl := hg.unnil; exact c_caballaw12_alive k _ e_x4 _ _)) fun a24 w24 s24 => ?_; clear s23
        refine seq_op s24 rfl rfl (of_decide_eq_true rfl) (ob_assign rfl (.tmp rfl)) fun a25 w25 s25 => ?_; clear s24
        refine wpList_nil ?_
        refine then_normal ?_
        refine hK10 _ _ ?_
        have s26 := s25.sub (.cons (t := 4) rfl .nil); clear s25
        refine wp_ret ?_
        obtain rfl := Option.some.inj h8
        exact leave s26 (.inl rfl) rfl (.cons (.tmp rfl) .nil)
      refine wp_block ?_
      have s27 := s22.perm (toFront [_, _, _, _] (toFront [] (toFront [_, _, _] (toFront [_, _, _] (toFront [] (toFront [] (toFront [] (List.Perm.refl _)))))))); clear s22
      refine wp_loop_fuel (fun m (q : Int × Int × Bool × Int × Bool × (List (List Int)) × (List disk_write) × (List (List Int)) × (List Int) × (List (List Int))) => caballaw12_DiskPlays.l1 k p2 m q.1 q.2.1 q.2.2.1 q.2.2.2.1 q.2.2.2.2.1 q.2.2.2.2.2.1 q.2.2.2.2.2.2.1 q.2.2.2.2.2.2.2.1 q.2.2.2.2.2.2.2.2.1 q.2.2.2.2.2.2.2.2.2) r (fun _ => rfl) (fun q a w => ∃ (v6 : Value) (v7 : Value) (v8 : Value) (v9 : Value) (v10 : Value), St ⟨161, w0, ok, []⟩ [BF b1 87 (ko_disk_Disk_0_1 v6 v7) (⟨[], [], q.2.1, q.2.2.1⟩ : disk_Disk), BF b2 52 (ko_cabalref12_Disk_0_1_2 v8 v9 v10) (⟨[], [], [], q.2.2.2.1, q.2.2.2.2.1⟩ : cabalref12_Disk), RowF v6 91 (karr 256 (kint .u8)) q.2.2.2.2.2.1, RowF v7 93 k_disk_write q.2.2.2.2.2.2.1, RowF v8 9 kstr q.2.2.2.2.2.2.2.1, RowF v9 3 (kint .i64) q.2.2.2.2.2.2.2.2.1, RowF v10 9 kstr q.2.2.2.2.2.2.2.2.2] [(1, ((ksl k_caballaw12_Act).V p2)), (5, (ptrB b1 0)), (6, (ptrB b2 0)), (7, ((kint .i64).V q.1))] a w) ?_ k ((0 : Int), x2.fuse, x2.dead, x3.Fuse, x3.Dead, x2.firm, x2.loose, x3.Firm, x3.At, x3.Data) _ _ h6 ⟨v1, v2, v3, v4, v5, (s27.sub (.cons rfl (.cons rfl (.cons rfl (.cons rfl .nil)))))⟩
      rintro n1 ⟨y2, y3, y4, y5, y6, y7, y8, y9, y10, y11⟩ a28 w28 h9 ⟨v6, v7, v8, v9, v10, s28⟩ K11 hK11
      replace h9 : caballaw12_DiskPlays.l1 k p2 (n1 + 1) y2 y3 y4 y5 y6 y7 y8 y9 y10 y11 = some r := h9; rw [caballaw12_DiskPlays.l1] at h9
      have h10 := h9; clear h9
      refine wp_seq_k fun K12 hK12 => ?_
      refine wp_seq_k fun K13 hK13 => ?_
      refine wp_region_lit ?_
      refine seq_op s28 rfl rfl (of_decide_eq_true rfl) (ob_move rfl (.tmp rfl)) fun a29 w29 s29 => ?_; clear s28
      refine seq_op s29 rfl rfl (of_decide_eq_true rfl) (ob_move rfl (.tmp rfl)) fun a30 w30 s30 => ?_; clear s29
      refine seq_op s30 rfl rfl (of_decide_eq_true rfl) (ob_lens rfl Try.underlying22 (.tmp rfl)) fun a31 w31 s31 => ?_; clear s30
      refine seq_op s31 rfl rfl (of_decide_eq_true rfl) (ob_lss rfl (.tmp rfl) (.tmp rfl)) fun a32 w32 s32 => ?_; clear s31
      refine seq_op s32 rfl rfl (of_decide_eq_true rfl) (ob_move rfl (.tmp rfl)) fun a33 w33 s33 => ?_; clear s32
      refine seq_opg s33 rfl rfl rfl rfl (of_decide_eq_true rfl) (fun hb => ob_move rfl (.tmp rfl)) fun a34 w34 s34 => ?_; clear s33
      refine seq_opg s34 rfl rfl rfl rfl (of_decide_eq_true rfl) (fun hb => (Ob.uncond (t := 26) hb rfl (ob_lss rfl (.tmp rfl) (opd_int rfl)))) fun a35 w35 s35 => ?_; clear s34
      obtain ⟨x5, e_x5, h11⟩ := bind_some h10; clear h10; replace e_x5 := Option.some.inj e_x5
      refine seq_op s35 rfl rfl (of_decide_eq_true rfl) ((ob_and2 rfl (.tmp rfl) (.tmp rfl) opd_bool).nm e_x5) fun a36 w36 s36 => ?_; clear s35
      refine wpList_nil ?_
      refine then_normal ?_
      refine hK13 _ _ ?_
      have s37 := s36.sub (.cons (t := 1) rfl (.cons (t := 5) rfl (.cons (t := 6) rfl (.cons (t := 7) rfl (.cons (t := 28) rfl .nil))))); clear s36
      refine cond_split s37 (.tmp rfl) (fun hc2 => ?_) (fun hc2 => ?_)
      · replace h11 := ite_t hc2 h11
        have h12 := h11; clear h11
        refine wp_skip ?_
        refine then_normal ?_
        refine hK12 _ _ ?_
        have s38 := s37.sub (.cons (t := 1) rfl (.cons (t := 5) rfl (.cons (t := 6) rfl (.cons (t := 7) rfl .nil)))); clear s37
        refine wp_seq_k fun K14 hK14 => ?_
        have hj3 : ∀ (y12 : Int) (y13 : Bool) (y14 : Int) (y15 : Bool) (y16 : (List (List Int))) (y17 : (List disk_write)) (y18 : (List (List Int))) (y19 : (List Int)) (y20 : (List (List Int))) (v11 : Value) (v12 : Value) (v13 : Value) (v14 : Value) (v15 : Value) (a : Act) (w : World), (caballaw12_DiskPlays.j3 k y2 (caballaw12_DiskPlays.l1 k p2 n1)) y12 y13 y14 y15 y16 y17 y18 y19 y20 = some r → St ⟨161, w0, ok, []⟩ [BF b1 87 (ko_disk_Disk_0_1 v11 v12) (⟨[], [], y12, y13⟩ : disk_Disk), BF b2 52 (ko_cabalref12_Disk_0_1_2 v13 v14 v15) (⟨[], [], [], y14, y15⟩ : cabalref12_Disk), RowF v11 91 (karr 256 (kint .u8)) y16, RowF v12 93 k_disk_write y17, RowF v13 9 kstr y18, RowF v14 3 (kint .i64) y19, RowF v15 9 kstr y20] [(1, ((ksl k_caballaw12_Act).V p2)), (5, (ptrB b1 0)), (6, (ptrB b2 0)), (7, ((kint .i64).V y2))] a w → K14 a w := by
          intro y12 y13 y14 y15 y16 y17 y18 y19 y20 v11 v12 v13 v14 v15 a39 w39 h13 s39
          unfold caballaw12_DiskPlays.j3 at h13
          refine hK14 _ _ ?_
          refine wp_region_lit ?_
          refine seq_op s39 rfl rfl (of_decide_eq_true rfl) (ob_move rfl (.tmp rfl)) fun a40 w40 s40 => ?_; clear s39
          refine seq_op s40 rfl rfl (of_decide_eq_true rfl) (ob_add rfl (.tmp rfl) (opd_int rfl)) fun a41 w41 s41 => ?_; clear s40
          refine seq_op s41 rfl rfl (of_decide_eq_true rfl) (ob_assign rfl (.tmp rfl)) fun a42 w42 s42 => ?_; clear s41
          refine wpList_nil ?_
          refine then_normal ?_
          exact hK11 ((iadd .i64 y2 (1 : Int)), y12, y13, y14, y15, y16, y17, y18, y19, y20) _ _ h13 ⟨v11, v12, v13, v14, v15, (s42.sub (.cons rfl (.cons rfl (.cons rfl (.cons rfl .nil)))))⟩
        refine wp_block ?_
        refine wp_seq_k fun K15 hK15 => ?_
        refine wp_region_lit ?_
        refine seq_op s38 rfl rfl (of_decide_eq_true rfl) (ob_move rfl (.tmp rfl)) fun a43 w43 s43 => ?_; clear s38
        refine seq_op s43 rfl rfl (of_decide_eq_true rfl) (ob_move rfl (.tmp rfl)) fun a44 w44 s44 => ?_; clear s43
        obtain ⟨x6, e_x6, h14⟩ := bind_some h12; clear h12
        refine seq_op s44 rfl rfl (of_decide_eq_true rfl) (ob_indexAddrs rfl Try.underlying22 sz30 (.tmp rfl) (.tmp rfl) e_x6) fun a45 w45 s45 => ?_; clear s44
        refine seq_op s45 rfl rfl (of_decide_eq_true rfl) (ob_loadr rfl tk30 (.tmp rfl)) fun a46 w46 s46 => ?_; clear s45
        refine seq_opx (B' := (fun b3 : Nat => [BF b3 30 k_caballaw12_Act (⟨(0 : Int), (0 : Int), (0 : Int), (0 : Int), (0 : Int), []⟩ : caballaw12_Act), BF b1 87 (ko_disk_Disk_0_1 v6 v7) (⟨[], [], y3, y4⟩ : disk_Disk), BF b2 52 (ko_cabalref12_Disk_0_1_2 v8 v9 v10) (⟨[], [], [], y5, y6⟩ : cabalref12_Disk), RowF v6 91 (karr 256 (kint .u8)) y7, RowF v7 93 k_disk_write y8, RowF v8 9 kstr y9, RowF v9 3 (kint .i64) y10, RowF v10 9 kstr y11])) s46 rfl rfl (of_decide_eq_true rfl) (ob_new (k := k_caballaw12_Act) rfl zz30 (Zr.iso (f := t_caballaw12_Act) (x := (⟨(0 : Int), (0 : Int), (0 : Int), (0 : Int), (0 : Int), []⟩ : caballaw12_Act)) (Zr.pair (Zr.int .i64) (Zr.pair (Zr.int .i64) (Zr.pair (Zr.int .i64) (Zr.pair (Zr.int .u8) (Zr.pair (Zr.int .i8) (Zr.pair (Zr.sl _) Zr.nil)))))))) fun b3 a47 w47 s47 => ?_; clear s46
        refine seq_opx0 (B' := (fun _ : Unit => [BF b3 30 k_caballaw12_Act x6, BF b1 87 (ko_disk_Disk_0_1 v6 v7) (⟨[], [], y3, y4⟩ : disk_Disk), BF b2 52 (ko_cabalref12_Disk_0_1_2 v8 v9 v10) (⟨[], [], [], y5, y6⟩ : cabalref12_Disk), RowF v6 91 (karr 256 (kint .u8)) y7, RowF v7 93 k_disk_write y8, RowF v8 9 kstr y9, RowF v9 3 (kint .i64) y10, RowF v10 9 kstr y11])) s47 rfl rfl (ob_store (A := []) rfl tk30 (.tmp rfl) (.tmp rfl) rfl (LS.refl _ _ _) rfl) fun _ a48 w48 s48 => ?_; clear s47
        refine wpList_nil ?_
        refine then_normal ?_
        refine hK15 _ _ ?_
        have s49 := s48.sub (.cons (t := 1) rfl (.cons (t := 5) rfl (.cons (t := 6) rfl (.cons (t := 7) rfl (.cons (t := 8) rfl .nil))))); clear s48
        refine wp_seq_k fun K16 hK16 => ?_
        refine wp_region_lit ?_
        refine seq_op s49 rfl rfl (of_decide_eq_true rfl) (ob_assign rfl opd_bool) fun a50 w50 s50 => ?_; clear s49
        refine wpList_nil ?_
        refine then_normal ?_
        refine hK16 _ _ ?_
        have s51 := s50.sub (.cons (t := 1) rfl (.cons (t := 5) rfl (.cons (t := 6) rfl (.cons (t := 7) rfl (.cons (t := 8) rfl (.cons (t := 9) rfl .nil)))))); clear s50
        refine wp_seq_k fun K17 hK17 => ?_
        refine wp_seq_k fun K18 hK18 => ?_
        refine wp_region_lit ?_
        refine seq_op s51 rfl rfl (of_decide_eq_true rfl) (ob_fieldAddr (off' := 0) rfl Try.underlying30 rfl sz3 (by decide) (.tmp rfl) rfl) fun a52 w52 s52 => ?_; clear s51
        refine seq_op s52 rfl rfl (of_decide_eq_true rfl) (ob_load rfl tk3 (.tmp rfl) (.head _) (lg_caballaw12_Act_Kind x6)) fun a53 w53 s53 => ?_; clear s52
        refine seq_op s53 rfl rfl (of_decide_eq_true rfl) (ob_rem rfl (.tmp rfl) (opd_int rfl) (by decide)) fun a54 w54 s54 => ?_; clear s53
        refine wpList_nil ?_
        refine then_normal ?_
        refine hK18 _ _ ?_
        have s55 := s54.sub (.cons (t := 1) rfl (.cons (t := 5) rfl (.cons (t := 6) rfl (.cons (t := 7) rfl (.cons (t := 8) rfl (.cons (t := 9) rfl (.cons (t := 37) rfl .nil))))))); clear s54
        have hj4 : ∀ (y21 : Bool) (y22 : Int) (y23 : Bool) (y24 : Int) (y25 : Bool) (y26 : (List (List Int))) (y27 : (List disk_write)) (y28 : (List (List Int))) (y29 : (List Int)) (y30 : (List (List Int))) (v11 : Value) (v12 : Value) (v13 : Value) (v14 : Value) (v15 : Value) (a : Act) (w : World), (caballaw12_DiskPlays.j4 k y2 (caballaw12_DiskPlays.l1 k p2 n1)) y21 y22 y23 y24 y25 y26 y27 y28 y29 y30 = some r → St ⟨161, w0, ok, []⟩ [BF b1 87 (ko_disk_Disk_0_1 v11 v12) (⟨[], [], y22, y23⟩ : disk_Disk), BF b2 52 (ko_cabalref12_Disk_0_1_2 v13 v14 v15) (⟨[], [], [], y24, y25⟩ : cabalref12_Disk), RowF v11 91 (karr 256 (kint .u8)) y26, RowF v12 93 k_disk_write y27, RowF v13 9 kstr y28, RowF v14 3 (kint .i64) y29, RowF v15 9 kstr y30] [(1, ((ksl k_caballaw12_Act).V p2)), (5, (ptrB b1 0)), (6, (ptrB b2 0)), (7, ((kint .i64).V y2)), (9, (kbool.V y21))] a w → K17 a w := by
          intro y21 y22 y23 y24 y25 y26 y27 y28 y29 y30 v11 v12 v13 v14 v15 a56 w56 h15 s56
          unfold caballaw12_DiskPlays.j4 at h15
          refine hK17 _ _ ?_
          refine wp_seq_k fun K19 hK19 => ?_
          refine wp_seq_k fun K20 hK20 => ?_
          obtain ⟨x7, e_x7, h16⟩ := bind_some h15; clear h15
          obtain ⟨x8, e_x8, h17⟩ := bind_some h16; clear h16
          refine wp_goes (Fs := [(kbool.V y21), (kbool.V (!y21)), (kbool.V (!y21)), (Fact.when ((!y21) == false) (ptrB b1 0)), (Fact.when ((!y21) == false) (kbool.V x7)), (Fact.when ((!y21) == false) (ptrB b2 0)), (Fact.when ((!y21) == false) (ptrB b2 0)), (Fact.when ((!y21) == false) (ptrB b2 4)), (Fact.when ((!y21) == false) (kbool.V y25)), (Fact.when ((!y21) == false) (kbool.V (!decide (x7 = y25)))), (kbool.V (if (!y21) then true else (!decide (x7 = y25)))), (kbool.V (if (!y21) then true else (!decide (x7 = y25)))), (Fact.when ((if (!y21) then true else (!decide (x7 = y25))) == false) (ptrB b1 0)), (Fact.when ((if (!y21) then true else (!decide (x7 = y25))) == false) ((kint .i64).V x8)), (Fact.when ((if (!y21) then true else (!decide (x7 = y25))) == false) (ptrB b2 0)), (Fact.when ((if (!y21) then true else (!decide (x7 = y25))) == false) (ptrB b2 0)), (Fact.when ((if (!y21) then true else (!decide (x7 = y25))) == false) (ptrB b2 0)), (Fact.when ((if (!y21) then true else (!decide (x7 = y25))) == false) (is v13)), (Fact.when ((if (!y21) then true else (!decide (x7 = y25))) == false) ((kint .i64).V (y28.length : Int)))]) (bits := [0, 1, 3, 7, 15, 7, 39, 103, 231, 511, 1023, 2047, 4095, 8191, 4095, 20479, 53247, 118783, 249855, 524287, 1048575]) (m := 19) (todo := 0) mx s56 ?_; clear s56
          refine goes_last (by kernel_rfl) rfl (opsS_cons (.plain _ (Av.old (t := 9) rfl rfl Av.nil) rfl rfl (ob_move rfl (.tmp rfl))) (opsS_cons (.plain _ (Av.new (j := 0) rfl rfl rfl Av.nil) rfl rfl (ob_not rfl (.tmp rfl))) (opsS_cons (.plain _ (Av.new (j := 1) rfl rfl rfl Av.nil) rfl rfl (ob_move rfl (.tmp rfl))) (opsS_cons (.guarded _ (Av.old (t := 5) rfl rfl (Av.new (j := 2) rfl rfl rfl Av.nil)) rfl rfl rfl rfl (fun hb => ob_move rfl (.tmp rfl))) (opsS_cons (.guarded _ (Av.new (j := 2) rfl rfl rfl (Av.new (j := 3) rfl rfl rfl Av.nil)) rfl rfl rfl rfl (fun hb => (Ob.uncond (t := 89) hb rfl ((ob_lendG (L := [_, _, _]) (toFront [] (toFront [_] (toFront [_] (List.Perm.refl _)))) (.cons (t := 89) rfl (lendObj (K' := k_disk_Disk) (X' := (⟨y26, y27, y22, y23⟩ : disk_Disk)) (.head _) rfl (upo_disk_Disk_0_1 rfl (.row (LetAll.row (.tail _ (.head _)))) (.row (LetAll.row (.tail _ (.tail _ (.head _))))))) .nil) (Flat.res1 (Flat.V KFlat.bool)) (fun _ => ob_callD (args := [_]) rfl .direct hb25 (fun a w s fs gs hf hg => by obtain rfl := hf.unnil; obtain rfl := hg.unnil; exact c_disk_Disk_Dead k _ _ (ite_t hb e_x7) _ _ _ (s.arg (.tmp rfl))))))))) (opsS_cons (.guarded _ (Av.old (t := 6) rfl rfl (Av.new (j := 2) rfl rfl rfl Av.nil)) rfl rfl rfl rfl (fun hb => ob_move rfl (.tmp rfl))) (opsS_cons (.guarded _ (Av.new (j := 2) rfl rfl rfl (Av.new (j := 5) rfl rfl rfl Av.nil)) rfl rfl rfl rfl (fun hb => (Ob.uncond (t := 91) hb rfl (ob_nilCheck rfl (.tmp rfl))))) (opsS_cons (.guarded _ (Av.new (j := 2) rfl rfl rfl (Av.new (j := 6) rfl rfl rfl Av.nil)) rfl rfl rfl rfl (fun hb => (Ob.uncond (t := 92) hb rfl (ob_fieldAddr (off' := 4) rfl Try.underlying52 rfl sz4 (by decide) (.tmp rfl) rfl)))) (opsS_cons (.guarded _ (Av.new (j := 2) rfl rfl rfl (Av.new (j := 7) rfl rfl rfl Av.nil)) rfl rfl rfl rfl (fun hb => (Ob.uncond (t := 93) hb rfl (ob_load rfl tk4 (.tmp rfl) (.tail _ (.head _)) (lgo_cabalref12_Disk_0_1_2_Dead (⟨[], [], [], y24, y25⟩ : cabalref12_Disk)))))) (opsS_cons (.guarded _ (Av.new (j := 2) rfl rfl rfl (Av.new (j := 4) rfl rfl rfl (Av.new (j := 8) rfl rfl rfl Av.nil))) rfl rfl rfl rfl (fun hb => (Ob.uncond (t := 94) hb rfl ((Ob.uncond (t := 90) hb rfl (ob_bneq rfl Try.underlying4 (.tmp rfl) (.tmp rfl))))))) (opsS_cons (.plain _ (Av.new (j := 2) rfl rfl rfl (Av.new (j := 9) rfl rfl rfl Av.nil)) rfl rfl (ob_or2 rfl (.tmp rfl) opd_bool (.tmp rfl))) (opsS_cons (.plain _ (Av.new (j := 10) rfl rfl rfl Av.nil) rfl rfl (ob_move rfl (.tmp rfl))) (opsS_cons (.guarded _ (Av.old (t := 5) rfl rfl (Av.new (j := 11) rfl rfl rfl Av.nil)) rfl rfl rfl rfl (fun hb => ob_move rfl (.tmp rfl))) (opsS_cons (.guarded _ (Av.new (j := 11) rfl rfl rfl (Av.new (j := 12) rfl rfl rfl Av.nil)) rfl rfl rfl rfl (fun hb => (Ob.uncond (t := 98) hb rfl ((ob_lendG (L := [_, _, _]) (toFront [] (toFront [_] (toFront [_] (List.Perm.refl _)))) (.cons (t := 98) rfl (lendObj (K' := k_disk_Disk) (X' := (⟨y26, y27, y22, y23⟩ : disk_Disk)) (.head _) rfl (upo_disk_Disk_0_1 rfl (.row (LetAll.row (.tail _ (.head _)))) (.row (LetAll.row (.tail _ (.tail _ (.head _))))))) .nil) (Flat.res1 (Flat.V (KFlat.int _))) (fun _ => ob_callD (args := [_]) rfl .direct hb26 (fun a w s fs gs hf hg => by obtain rfl := hf.unnil; obtain rfl := hg.unnil; exact c_disk_Disk_Blocks k _ _ (ite_t hb e_x8) _ _ _ (s.arg (.tmp rfl))))))))) (opsS_cons (.guarded _ (Av.old (t := 6) rfl rfl (Av.new (j := 11) rfl rfl rfl Av.nil)) rfl rfl rfl rfl (fun hb => ob_move rfl (.tmp rfl))) (opsS_cons (.guarded _ (Av.new (j := 11) rfl rfl rfl (Av.new (j := 14) rfl rfl rfl Av.nil)) rfl rfl rfl rfl (fun hb => (Ob.uncond (t := 100) hb rfl (ob_nilCheck rfl (.tmp rfl))))) (opsS_cons (.guarded _ (Av.new (j := 11) rfl rfl rfl (Av.new (j := 15) rfl rfl rfl Av.nil)) rfl rfl rfl rfl (fun hb => (Ob.uncond (t := 101) hb rfl (ob_fieldAddr (off' := 0) rfl Try.underlying52 rfl sz49 (by decide) (.tmp rfl) rfl)))) (opsS_cons (.guarded _ (Av.new (j := 11) rfl rfl rfl (Av.new (j := 16) rfl rfl rfl Av.nil)) rfl rfl rfl rfl (fun hb => (Ob.uncond (t := 102) hb rfl (ob_loadRowV rfl (tkr49 _) (.tmp rfl) (.tail _ (.head _)) (lgo_cabalref12_Disk_0_1_2_Firm (⟨[], [], [], y24, y25⟩ : cabalref12_Disk)))))) (opsS_cons (.guarded _ (Av.new (j := 11) rfl rfl rfl (Av.new (j := 17) rfl rfl rfl Av.nil)) rfl rfl rfl rfl (fun hb => (Ob.uncond (t := 103) hb rfl (ob_lenRow rfl Try.underlying49 (.tmp rfl) (.tail _ (.tail _ (.tail _ (.tail _ (.head _))))))))) opsS_nil))))))))))))))))))) (out_old (t := 1) rfl rfl (out_old (t := 5) rfl rfl (out_old (t := 6) rfl rfl (out_old (t := 7) rfl rfl (out_new (i := 11) (by decide) rfl rfl (out_new (i := 13) (by decide) rfl rfl (out_new (i := 18) (by decide) rfl rfl out_nil))))))) fun a57 w57 s57 => ?_
          refine seq_opg s57 rfl rfl rfl rfl (of_decide_eq_true rfl) (fun hb => (Ob.uncond (t := 104) hb rfl ((Ob.uncond (t := 99) hb rfl (ob_neq rfl (.tmp rfl) (.tmp rfl)))))) fun a58 w58 s58 => ?_; clear s57
          obtain ⟨x9, e_x9, h18⟩ := bind_some h17; clear h17; replace e_x9 := Option.some.inj e_x9
          refine seq_op s58 rfl rfl (of_decide_eq_true rfl) ((ob_or2 rfl (.tmp rfl) opd_bool (.tmp rfl)).nm e_x9) fun a59 w59 s59 => ?_; clear s58
          refine wpList_nil ?_
          refine then_normal ?_
          refine hK20 _ _ ?_
          have s60 := s59.sub (.cons (t := 1) rfl (.cons (t := 5) rfl (.cons (t := 6) rfl (.cons (t := 7) rfl (.cons (t := 106) rfl .nil))))); clear s59
          refine cond_split s60 (.tmp rfl) (fun hc3 => ?_) (fun hc3 => ?_)
          · replace h18 := ite_t hc3 h18
            have h19 := h18; clear h18
            refine wp_seq_k fun K21 hK21 => ?_
            refine wp_region_lit ?_
            refine seq_op s60 rfl rfl (of_decide_eq_true rfl) (ob_assign rfl opd_bool) fun a61 w61 s61 => ?_; clear s60
            refine wpList_nil ?_
            refine then_normal ?_
            refine hK21 _ _ ?_
            have s62 := s61.sub (.cons (t := 4) rfl .nil); clear s61
            have s63 := St.drop (A := []) s62; clear s62
            have s64 := St.drop (A := []) s63; clear s63
            have s65 := St.drop (A := []) s64; clear s64
            have s66 := St.drop (A := []) s65; clear s65
            have s67 := St.drop (A := []) s66; clear s66
            have s68 := St.drop (A := []) s67; clear s67
            have s69 := St.drop (A := []) s68; clear s68
            refine wp_ret ?_
            obtain rfl := Option.some.inj h19
            exact leave s69 (.inl rfl) rfl (.cons (.tmp rfl) .nil)
          · replace h18 := ite_f hc3 h18
            have h20 := h18; clear h18
            refine wp_skip ?_
            refine then_normal ?_
            refine hK19 _ _ ?_
            have s70 := s60.sub (.cons (t := 1) rfl (.cons (t := 5) rfl (.cons (t := 6) rfl (.cons (t := 7) rfl .nil)))); clear s60
            refine wp_seq_k fun K22 hK22 => ?_
            refine wp_region_lit ?_
            refine seq_op s70 rfl rfl (of_decide_eq_true rfl) (ob_assign rfl (opd_int rfl)) fun a71 w71 s71 => ?_; clear s70
            refine wpList_nil ?_
            refine then_normal ?_
            refine hK22 _ _ ?_
            have s72 := s71.sub (.cons (t := 1) rfl (.cons (t := 5) rfl (.cons (t := 6) rfl (.cons (t := 7) rfl (.cons (t := 10) rfl .nil))))); clear s71
            refine wp_block ?_
            refine wp_loop_fuel (fun m (q : Int) => caballaw12_DiskPlays.l2 k y28 y26 y27 y22 y23 y29 y30 y24 y25 y2 (caballaw12_DiskPlays.l1 k p2 n1) m q) r (fun _ => rfl) (fun q a w => St ⟨161, w0, ok, []⟩ [BF b1 87 (ko_disk_Disk_0_1 v11 v12) (⟨[], [], y22, y23⟩ : disk_Disk), BF b2 52 (ko_cabalref12_Disk_0_1_2 v13 v14 v15) (⟨[], [], [], y24, y25⟩ : cabalref12_Disk), RowF v11 91 (karr 256 (kint .u8)) y26, RowF v12 93 k_disk_write y27, RowF v13 9 kstr y28, RowF v14 3 (kint .i64) y29, RowF v15 9 kstr y30] [(1, ((ksl k_caballaw12_Act).V p2)), (5, (ptrB b1 0)), (6, (ptrB b2 0)), (7, ((kint .i64).V y2)), (10, ((kint .i64).V q))] a w) ?_ k (-1 : Int) _ _ h20 (s72.sub (.cons rfl (.cons rfl (.cons rfl (.cons rfl (.cons rfl .nil))))))
            rintro n2 y31 a73 w73 h21 s73 K23 hK23
            replace h21 : caballaw12_DiskPlays.l2 k y28 y26 y27 y22 y23 y29 y30 y24 y25 y2 (caballaw12_DiskPlays.l1 k p2 n1) (n2 + 1) y31 = some r := h21; rw [caballaw12_DiskPlays.l2] at h21
            have h22 := h21; clear h21
            refine wp_seq_k fun K24 hK24 => ?_
            refine wp_seq_k fun K25 hK25 => ?_
            refine wp_region_lit ?_
            refine seq_op s73 rfl rfl (of_decide_eq_true rfl) (ob_move rfl (.tmp rfl)) fun a74 w74 s74 => ?_; clear s73
            refine seq_op s74 rfl rfl (of_decide_eq_true rfl) (ob_move rfl (.tmp rfl)) fun a75 w75 s75 => ?_; clear s74
            refine seq_op s75 rfl rfl (of_decide_eq_true rfl) (ob_nilCheck rfl (.tmp rfl)) fun a76 w76 s76 => ?_; clear s75
            refine seq_op s76 rfl rfl (of_decide_eq_true rfl) (ob_fieldAddr (off' := 0) rfl Try.underlying52 rfl sz49 (by decide) (.tmp rfl) rfl) fun a77 w77 s77 => ?_; clear s76
            refine seq_op s77 rfl rfl (of_decide_eq_true rfl) (ob_loadRowV rfl (tkr49 _) (.tmp rfl) (.tail _ (.head _)) (lgo_cabalref12_Disk_0_1_2_Firm (⟨[], [], [], y24, y25⟩ : cabalref12_Disk))) fun a78 w78 s78 => ?_; clear s77
            refine seq_op s78 rfl rfl (of_decide_eq_true rfl) (ob_lenRow rfl Try.underlying49 (.tmp rfl) (.tail _ (.tail _ (.tail _ (.tail _ (.head _)))))) fun a79 w79 s79 => ?_; clear s78
            refine seq_op s79 rfl rfl (of_decide_eq_true rfl) (ob_leq rfl (.tmp rfl) (.tmp rfl)) fun a80 w80 s80 => ?_; clear s79
            refine wpList_nil ?_
            refine then_normal ?_
            refine hK25 _ _ ?_
            have s81 := s80.sub (.cons (t := 1) rfl (.cons (t := 5) rfl (.cons (t := 6) rfl (.cons (t := 7) rfl (.cons (t := 10) rfl (.cons (t := 113) rfl .nil)))))); clear s80
            refine cond_split s81 (.tmp rfl) (fun hc4 => ?_) (fun hc4 => ?_)
            · replace h22 := ite_t hc4 h22
              have h23 := h22; clear h22
              refine wp_skip ?_
              refine then_normal ?_
              refine hK24 _ _ ?_
              have s82 := s81.sub (.cons (t := 1) rfl (.cons (t := 5) rfl (.cons (t := 6) rfl (.cons (t := 7) rfl (.cons (t := 10) rfl .nil))))); clear s81
              refine wp_seq_k fun K26 hK26 => ?_
              have hj5 : ∀ (a : Act) (w : World), (caballaw12_DiskPlays.j5 k y31 (caballaw12_DiskPlays.l2 k y28 y26 y27 y22 y23 y29 y30 y24 y25 y2 (caballaw12_DiskPlays.l1 k p2 n1) n2)) = some r → St ⟨161, w0, ok, []⟩ [BF b1 87 (ko_disk_Disk_0_1 v11 v12) (⟨[], [], y22, y23⟩ : disk_Disk), BF b2 52 (ko_cabalref12_Disk_0_1_2 v13 v14 v15) (⟨[], [], [], y24, y25⟩ : cabalref12_Disk), RowF v11 91 (karr 256 (kint .u8)) y26, RowF v12 93 k_disk_write y27, RowF v13 9 kstr y28, RowF v14 3 (kint .i64) y29, RowF v15 9 kstr y30] [(1, ((ksl k_caballaw12_Act).V p2)), (5, (ptrB b1 0)), (6, (ptrB b2 0)), (7, ((kint .i64).V y2)), (10, ((kint .i64).V y31))] a w → K26 a w := by
                intro a83 w83 h24 s83
                unfold caballaw12_DiskPlays.j5 at h24
                refine hK26 _ _ ?_
                refine wp_region_lit ?_
                refine seq_op s83 rfl rfl (of_decide_eq_true rfl) (ob_move rfl (.tmp rfl)) fun a84 w84 s84 => ?_; clear s83
                refine seq_op s84 rfl rfl (of_decide_eq_true rfl) (ob_add rfl (.tmp rfl) (opd_int rfl)) fun a85 w85 s85 => ?_; clear s84
                refine seq_op s85 rfl rfl (of_decide_eq_true rfl) (ob_assign rfl (.tmp rfl)) fun a86 w86 s86 => ?_; clear s85
                refine wpList_nil ?_
                refine then_normal ?_
                exact hK23 (iadd .i64 y31 (1 : Int)) _ _ h24 (s86.sub (.cons rfl (.cons rfl (.cons rfl (.cons rfl (.cons rfl .nil))))))
              refine wp_block ?_
              refine wp_seq_k fun K27 hK27 => ?_
              refine wp_region_lit ?_
              refine seq_op s82 rfl rfl (of_decide_eq_true rfl) (ob_move rfl (.tmp rfl)) fun a87 w87 s87 => ?_; clear s82
              refine seq_op s87 rfl rfl (of_decide_eq_true rfl) (ob_move rfl (.tmp rfl)) fun a88 w88 s88 => ?_; clear s87
              obtain ⟨x10, e_x10, h25⟩ := bind_some h23; clear h23
              refine seq_op s88 rfl rfl (of_decide_eq_true rfl) ((ob_lendG (L := [_, _, _]) (toFront [] (toFront [_] (toFront [_] (List.Perm.refl _)))) (.cons (t := 117) rfl (lendObj (K' := k_disk_Disk) (X' := (⟨y26, y27, y22, y23⟩ : disk_Disk)) (.head _) rfl (upo_disk_Disk_0_1 rfl (.row (LetAll.row (.tail _ (.head _)))) (.row (LetAll.row (.tail _ (.tail _ (.head _))))))) .nil) (Flat.res2 (Flat.V KFlat.str) (Flat.V (KFlat.int _))) (fun _ => ob_callD (args := [_, _]) rfl .direct hb14 (fun a w s fs gs hf hg => by obtain rfl := hf.unnil; obtain rfl := hg.unnil; exact c_disk_Disk_Read k _ _ _ e_x10 _ _ _ _ (s.arg (.tmp rfl)) (s.arg (.tmp rfl)))))) fun a89 w89 s89 => ?_; clear s88
              refine seq_op s89 rfl rfl (of_decide_eq_true rfl) (ob_move rfl (.tmp rfl)) fun a90 w90 s90 => ?_; clear s89
              refine seq_op s90 rfl rfl (of_decide_eq_true rfl) (ob_extract rfl (.tmp rfl) rfl) fun a91 w91 s91 => ?_; clear s90
              refine seq_op s91 rfl rfl (of_decide_eq_true rfl) (ob_extract rfl (.tmp rfl) rfl) fun a92 w92 s92 => ?_; clear s91
              refine seq_op s92 rfl rfl (of_decide_eq_true rfl) (ob_assign rfl (.tmp rfl)) fun a93 w93 s93 => ?_; clear s92
              refine seq_op s93 rfl rfl (of_decide_eq_true rfl) (ob_assign rfl (.tmp rfl)) fun a94 w94 s94 => ?_; clear s93
              refine wpList_nil ?_
              refine then_normal ?_
              refine hK27 _ _ ?_
              have s95 := s94.sub (.cons (t := 1) rfl (.cons (t := 5) rfl (.cons (t := 6) rfl (.cons (t := 7) rfl (.cons (t := 10) rfl (.cons (t := 11) rfl (.cons (t := 12) rfl .nil))))))); clear s94
              refine wp_seq_k fun K28 hK28 => ?_
              refine wp_seq_k fun K29 hK29 => ?_
              refine wp_region_lit ?_
              refine seq_op s95 rfl rfl (of_decide_eq_true rfl) (ob_move rfl (.tmp rfl)) fun a96 w96 s96 => ?_; clear s95
              refine seq_op s96 rfl rfl (of_decide_eq_true rfl) (ob_move rfl (.tmp rfl)) fun a97 w97 s97 => ?_; clear s96
              obtain ⟨x11, e_x11, h26⟩ := bind_some h25; clear h25
              refine seq_op s97 rfl rfl (of_decide_eq_true rfl) ((ob_lendG (L := [_, _, _, _]) (toFront [_] (toFront [_, _, _] (toFront [_, _, _] (toFront [_, _, _] (List.Perm.refl _))))) (.cons (t := 122) rfl (lendObj (K' := k_cabalref12_Disk) (X' := (⟨y28, y29, y30, y24, y25⟩ : cabalref12_Disk)) (.head _) rfl (upo_cabalref12_Disk_0_1_2 rfl (.row (LetAll.row (.tail _ (.head _)))) (.row (LetAll.row (.tail _ (.tail _ (.head _))))) (.row (LetAll.row (.tail _ (.tail _ (.tail _ (.head _)))))))) .nil) (Flat.res1 (Flat.V KFlat.bool)) (fun _ => ob_callD (args := [_, _]) rfl .direct hb27 (fun a w s fs gs hf hg => by obtain rfl := hf.unnil; obtain rfl := hg.unnil; exact c_cabalref12_Disk_Has k _ _ _ e_x11 _ _ _ _ (s.arg (.tmp rfl)) (s.arg (.tmp rfl)))))) fun a98 w98 s98 => ?_; clear s97
              refine seq_op s98 rfl rfl (of_decide_eq_true rfl) (ob_not rfl (.tmp rfl)) fun a99 w99 s99 => ?_; clear s98
              refine wpList_nil ?_
              refine then_normal ?_
              refine hK29 _ _ ?_
              have s100 := s99.sub (.cons (t := 1) rfl (.cons (t := 5) rfl (.cons (t := 6) rfl (.cons (t := 7) rfl (.cons (t := 10) rfl (.cons (t := 11) rfl (.cons (t := 12) rfl (.cons (t := 125) rfl .nil)))))))); clear s99
              refine cond_split s100 (.tmp rfl) (fun hc5 => ?_) (fun hc5 => ?_)
              · replace h26 := ite_t hc5 h26
                have h27 := h26; clear h26
                refine wp_seq_k fun K30 hK30 => ?_
                refine wp_seq_k fun K31 hK31 => ?_
                refine wp_region_lit ?_
                refine seq_op s100 rfl rfl (of_decide_eq_true rfl) (ob_move rfl (.tmp rfl)) fun a101 w101 s101 => ?_; clear s100
                refine seq_op s101 rfl rfl (of_decide_eq_true rfl) (ob_sneq rfl (.tmp rfl) (opd_str (by rfl) (by decide))) fun a102 w102 s102 => ?_; clear s101
                refine seq_op s102 rfl rfl (of_decide_eq_true rfl) (ob_move rfl (.tmp rfl)) fun a103 w103 s103 => ?_; clear s102
                refine seq_opg s103 rfl rfl rfl rfl (of_decide_eq_true rfl) (fun hb => ob_move rfl (.tmp rfl)) fun a104 w104 s104 => ?_; clear s103
                refine seq_opg s104 rfl rfl rfl rfl (of_decide_eq_true rfl) (fun hb => (Ob.uncond (t := 129) hb rfl (ob_neq rfl (.tmp rfl) (opd_int rfl)))) fun a105 w105 s105 => ?_; clear s104
                obtain ⟨x12, e_x12, h28⟩ := bind_some h27; clear h27; replace e_x12 := Option.some.inj e_x12
                refine seq_op s105 rfl rfl (of_decide_eq_true rfl) ((ob_or2 rfl (.tmp rfl) opd_bool (.tmp rfl)).nm e_x12) fun a106 w106 s106 => ?_; clear s105
                refine seq_op s106 rfl rfl (of_decide_eq_true rfl) (ob_move rfl (.tmp rfl)) fun a107 w107 s107 => ?_; clear s106
                refine seq_opg s107 rfl rfl rfl rfl (of_decide_eq_true rfl) (fun hb => ob_move rfl (.tmp rfl)) fun a108 w108 s108 => ?_; clear s107
                refine seq_opg s108 rfl rfl rfl rfl (of_decide_eq_true rfl) (fun hb => ob_move rfl (.tmp rfl)) fun a109 w109 s109 => ?_; clear s108
                obtain ⟨x13, e_x13, h29⟩ := bind_some h28; clear h28
                refine seq_opg s109 rfl rfl rfl rfl (of_decide_eq_true rfl) (fun hb => (Ob.uncond (t := 134) hb rfl ((Ob.uncond (t := 133) hb rfl ((ob_lendG (L := [_, _, _]) (toFront [] (toFront [_] (toFront [_] (List.Perm.refl _)))) (.cons (t := 133) rfl (lendObj (K' := k_disk_Disk) (X' := (⟨y26, y27, y22, y23⟩ : disk_Disk)) (.head _) rfl (upo_disk_Disk_0_1 rfl (.row (LetAll.row (.tail _ (.head _)))) (.row (LetAll.row (.tail _ (.tail _ (.head _))))))) .nil) (Flat.res1 (Flat.V KFlat.str)) (fun _ => ob_callD (args := [_, _]) rfl .direct hb18 (fun a w s fs gs hf hg => by obtain rfl := hf.unnil; obtain rfl := hg.unnil; exact c_disk_Disk_Settled k _ _ _ (ite_t hb e_x13) _ _ _ _ (s.arg (.tmp rfl)) (s.arg (.tmp rfl)))))))))) fun a110 w110 s110 => ?_; clear s109
                refine seq_opg s110 rfl rfl rfl rfl (of_decide_eq_true rfl) (fun hb => (Ob.uncond (t := 135) hb rfl (ob_sneq rfl (.tmp rfl) (opd_str (by rfl) (by decide))))) fun a111 w111 s111 => ?_; clear s110
                refine seq_op s111 rfl rfl (of_decide_eq_true rfl) (ob_or2 rfl (.tmp rfl) opd_bool (.tmp rfl)) fun a112 w112 s112 => ?_; clear s111
                refine wpList_nil ?_
                refine then_normal ?_
                refine hK31 _ _ ?_
                have s113 := s112.sub (.cons (t := 1) rfl (.cons (t := 5) rfl (.cons (t := 6) rfl (.cons (t := 7) rfl (.cons (t := 10) rfl (.cons (t := 137) rfl .nil)))))); clear s112
                refine cond_split s113 (.tmp rfl) (fun hc6 => ?_) (fun hc6 => ?_)
                · replace h29 := ite_t hc6 h29
                  have h30 := h29; clear h29
                  refine wp_seq_k fun K32 hK32 => ?_
                  refine wp_region_lit ?_
                  refine seq_op s113 rfl rfl (of_decide_eq_true rfl) (ob_assign rfl opd_bool) fun a114 w114 s114 => ?_; clear s113
                  refine wpList_nil ?_
                  refine then_normal ?_
                  refine hK32 _ _ ?_
                  have s115 := s114.sub (.cons (t := 4) rfl .nil); clear s114
                  have s116 := St.drop (A := []) s115; clear s115
                  have s117 := St.drop (A := []) s116; clear s116
                  have s118 := St.drop (A := []) s117; clear s117
                  have s119 := St.drop (A := []) s118; clear s118
                  have s120 := St.drop (A := []) s119; clear s119
                  have s121 := St.drop (A := []) s120; clear s120
                  have s122 := St.drop (A := []) s121; clear s121
                  refine wp_ret ?_
                  obtain rfl := Option.some.inj h30
                  exact leave s122 (.inl rfl) rfl (.cons (.tmp rfl) .nil)
                · replace h29 := ite_f hc6 h29
                  have h31 := h29; clear h29
                  refine wp_skip ?_
                  refine then_normal ?_
                  refine hK30 _ _ ?_
                  have s123 := s113.sub (.cons (t := 1) rfl (.cons (t := 5) rfl (.cons (t := 6) rfl (.cons (t := 7) rfl (.cons (t := 10) rfl (.cons (t := 137) rfl .nil)))))); clear s113
                  refine wp_exit ?_
                  refine (then_exit (in_here ?_))
                  refine then_normal ?_
                  exact hj5 _ _ h31 (s123.sub (.cons rfl (.cons rfl (.cons rfl (.cons rfl (.cons rfl .nil))))))
              · replace h26 := ite_f hc5 h26
                have h32 := h26; clear h26
                refine wp_skip ?_
                refine then_normal ?_
                refine hK28 _ _ ?_
                have s124 := s100.sub (.cons (t := 1) rfl (.cons (t := 5) rfl (.cons (t := 6) rfl (.cons (t := 7) rfl (.cons (t := 10) rfl (.cons (t := 11) rfl (.cons (t := 12) rfl .nil))))))); clear s100
                refine wp_seq_k fun K33 hK33 => ?_
                obtain ⟨x14, e_x14, h33⟩ := bind_some h32; clear h32
                obtain ⟨x15, e_x15, h34⟩ := bind_some h33; clear h33
                obtain ⟨g1, h35⟩ := guard_some h34; clear h34
                obtain ⟨x16, e_x16, h36⟩ := bind_some h35; clear h35
                refine wp_goes (Fs := [((kint .i64).V x10.2), (kbool.V (x10.2 != (0 : Int))), (kbool.V (x10.2 != (0 : Int))), (Fact.when ((x10.2 != (0 : Int)) == false) (kstr.V x10.1)), (Fact.when ((x10.2 != (0 : Int)) == false) (ptrB b2 0)), (Fact.when ((x10.2 != (0 : Int)) == false) ((kint .i64).V y31)), (Fact.when ((x10.2 != (0 : Int)) == false) (kstr.V x14)), (Fact.when ((x10.2 != (0 : Int)) == false) (kbool.V (!decide (x10.1 = x14)))), (kbool.V (if (x10.2 != (0 : Int)) then true else (!decide (x10.1 = x14)))), (kbool.V (if (x10.2 != (0 : Int)) then true else (!decide (x10.1 = x14)))), (Fact.when ((if (x10.2 != (0 : Int)) then true else (!decide (x10.1 = x14))) == false) (ptrB b1 0)), (Fact.when ((if (x10.2 != (0 : Int)) then true else (!decide (x10.1 = x14))) == false) ((kint .i64).V y31)), (Fact.when ((if (x10.2 != (0 : Int)) then true else (!decide (x10.1 = x14))) == false) (kstr.V x15)), (Fact.when ((if (x10.2 != (0 : Int)) then true else (!decide (x10.1 = x14))) == false) (ptrB b2 0)), (Fact.when ((if (x10.2 != (0 : Int)) then true else (!decide (x10.1 = x14))) == false) (ptrB b2 0)), (Fact.when ((if (x10.2 != (0 : Int)) then true else (!decide (x10.1 = x14))) == false) (ptrB b2 0)), (Fact.when ((if (x10.2 != (0 : Int)) then true else (!decide (x10.1 = x14))) == false) (is v13)), (Fact.when ((if (x10.2 != (0 : Int)) then true else (!decide (x10.1 = x14))) == false) ((kint .i64).V y31)), (Fact.when ((if (x10.2 != (0 : Int)) then true else (!decide (x10.1 = x14))) == false) (ptrR v13 (y31.toNat * 1))), (Fact.when ((if (x10.2 != (0 : Int)) then true else (!decide (x10.1 = x14))) == false) (kstr.V x16))]) (bits := [0, 1, 3, 7, 7, 7, 55, 127, 255, 511, 1023, 1023, 4095, 1023, 9215, 25599, 58367, 1023, 254975, 517119, 1048575, 2097151]) (m := 20) (todo := 0) mx s124 ?_; clear s124
                refine goes_last (by kernel_rfl) rfl (opsS_cons (.plain _ (Av.old (t := 12) rfl rfl Av.nil) rfl rfl (ob_move rfl (.tmp rfl))) (opsS_cons (.plain _ (Av.new (j := 0) rfl rfl rfl Av.nil) rfl rfl (ob_neq rfl (.tmp rfl) (opd_int rfl))) (opsS_cons (.plain _ (Av.new (j := 1) rfl rfl rfl Av.nil) rfl rfl (ob_move rfl (.tmp rfl))) (opsS_cons (.guarded _ (Av.old (t := 11) rfl rfl (Av.new (j := 2) rfl rfl rfl Av.nil)) rfl rfl rfl rfl (fun hb => ob_move rfl (.tmp rfl))) (opsS_cons (.guarded _ (Av.old (t := 6) rfl rfl (Av.new (j := 2) rfl rfl rfl Av.nil)) rfl rfl rfl rfl (fun hb => ob_move rfl (.tmp rfl))) (opsS_cons (.guarded _ (Av.old (t := 10) rfl rfl (Av.new (j := 2) rfl rfl rfl Av.nil)) rfl rfl rfl rfl (fun hb => ob_move rfl (.tmp rfl))) (opsS_cons (.guarded _ (Av.new (j := 2) rfl rfl rfl (Av.new (j := 4) rfl rfl rfl (Av.new (j := 5) rfl rfl rfl Av.nil))) rfl rfl rfl rfl (fun hb => (Ob.uncond (t := 143) hb rfl ((Ob.uncond (t := 142) hb rfl ((ob_lendG (L := [_, _, _, _]) (toFront [_] (toFront [_, _, _] (toFront [_, _, _] (toFront [_, _, _] (List.Perm.refl _))))) (.cons (t := 142) rfl (lendObj (K' := k_cabalref12_Disk) (X' := (⟨y28, y29, y30, y24, y25⟩ : cabalref12_Disk)) (.head _) rfl (upo_cabalref12_Disk_0_1_2 rfl (.row (LetAll.row (.tail _ (.head _)))) (.row (LetAll.row (.tail _ (.tail _ (.head _))))) (.row (LetAll.row (.tail _ (.tail _ (.tail _ (.head _)))))))) .nil) (Flat.res1 (Flat.V KFlat.str)) (fun _ => ob_callD (args := [_, _]) rfl .direct hb28 (fun a w s fs gs hf hg => by obtain rfl := hf.unnil; obtain rfl := hg.unnil; exact c_cabalref12_Disk_Read k _ _ _ (ite_t hb e_x14) _ _ _ _ (s.arg (.tmp rfl)) (s.arg (.tmp rfl))))))))))) (opsS_cons (.guarded _ (Av.new (j := 2) rfl rfl rfl (Av.new (j := 3) rfl rfl rfl (Av.new (j := 6) rfl rfl rfl Av.nil))) rfl rfl rfl rfl (fun hb => (Ob.uncond (t := 144) hb rfl ((Ob.uncond (t := 141) hb rfl (ob_sneq rfl (.tmp rfl) (.tmp rfl))))))) (opsS_cons (.plain _ (Av.new (j := 2) rfl rfl rfl (Av.new (j := 7) rfl rfl rfl Av.nil)) rfl rfl (ob_or2 rfl (.tmp rfl) opd_bool (.tmp rfl))) (opsS_cons (.plain _ (Av.new (j := 8) rfl rfl rfl Av.nil) rfl rfl (ob_move rfl (.tmp rfl))) (opsS_cons (.guarded _ (Av.old (t := 5) rfl rfl (Av.new (j := 9) rfl rfl rfl Av.nil)) rfl rfl rfl rfl (fun hb => ob_move rfl (.tmp rfl))) (opsS_cons (.guarded _ (Av.old (t := 10) rfl rfl (Av.new (j := 9) rfl rfl rfl Av.nil)) rfl rfl rfl rfl (fun hb => ob_move rfl (.tmp rfl))) (opsS_cons (.guarded _ (Av.new (j := 9) rfl rfl rfl (Av.new (j := 10) rfl rfl rfl (Av.new (j := 11) rfl rfl rfl Av.nil))) rfl rfl rfl rfl (fun hb => (Ob.uncond (t := 149) hb rfl ((Ob.uncond (t := 148) hb rfl ((ob_lendG (L := [_, _, _]) (toFront [] (toFront [_] (toFront [_] (List.Perm.refl _)))) (.cons (t := 148) rfl (lendObj (K' := k_disk_Disk) (X' := (⟨y26, y27, y22, y23⟩ : disk_Disk)) (.head _) rfl (upo_disk_Disk_0_1 rfl (.row (LetAll.row (.tail _ (.head _)))) (.row (LetAll.row (.tail _ (.tail _ (.head _))))))) .nil) (Flat.res1 (Flat.V KFlat.str)) (fun _ => ob_callD (args := [_, _]) rfl .direct hb18 (fun a w s fs gs hf hg => by obtain rfl := hf.unnil; obtain rfl := hg.unnil; exact c_disk_Disk_Settled k _ _ _ (ite_t hb e_x15) _ _ _ _ (s.arg (.tmp rfl)) (s.arg (.tmp rfl))))))))))) (opsS_cons (.guarded _ (Av.old (t := 6) rfl rfl (Av.new (j := 9) rfl rfl rfl Av.nil)) rfl rfl rfl rfl (fun hb => ob_move rfl (.tmp rfl))) (opsS_cons (.guarded _ (Av.new (j := 9) rfl rfl rfl (Av.new (j := 13) rfl rfl rfl Av.nil)) rfl rfl rfl rfl (fun hb => (Ob.uncond (t := 151) hb rfl (ob_nilCheck rfl (.tmp rfl))))) (opsS_cons (.guarded _ (Av.new (j := 9) rfl rfl rfl (Av.new (j := 14) rfl rfl rfl Av.nil)) rfl rfl rfl rfl (fun hb => (Ob.uncond (t := 152) hb rfl (ob_fieldAddr (off' := 0) rfl Try.underlying52 rfl sz49 (by decide) (.tmp rfl) rfl)))) (opsS_cons (.guarded _ (Av.new (j := 9) rfl rfl rfl (Av.new (j := 15) rfl rfl rfl Av.nil)) rfl rfl rfl rfl (fun hb => (Ob.uncond (t := 153) hb rfl (ob_loadRowV rfl (tkr49 _) (.tmp rfl) (.tail _ (.head _)) (lgo_cabalref12_Disk_0_1_2_Firm (⟨[], [], [], y24, y25⟩ : cabalref12_Disk)))))) (opsS_cons (.guarded _ (Av.old (t := 10) rfl rfl (Av.new (j := 9) rfl rfl rfl Av.nil)) rfl rfl rfl rfl (fun hb => ob_move rfl (.tmp rfl))) (opsS_cons (.guarded _ (Av.new (j := 9) rfl rfl rfl (Av.new (j := 16) rfl rfl rfl (Av.new (j := 17) rfl rfl rfl Av.nil))) rfl rfl rfl rfl (fun hb => (Ob.uncond (t := 155) hb rfl ((Ob.uncond (t := 154) hb rfl (ob_rowAt rfl Try.underlying49 sz9 (.tmp rfl) (.tail _ (.tail _ (.tail _ (.tail _ (.head _))))) (.tmp rfl) (g1 hb))))))) (opsS_cons (.guarded _ (Av.new (j := 9) rfl rfl rfl (Av.new (j := 18) rfl rfl rfl Av.nil)) rfl rfl rfl rfl (fun hb => (Ob.uncond (t := 156) hb rfl (ob_rowLoad rfl tk9 (.tmp rfl) (.tail _ (.tail _ (.tail _ (.tail _ (.head _))))) (LG.arrA (ite_t hb e_x16)))))) opsS_nil)))))))))))))))))))) (out_old (t := 1) rfl rfl (out_old (t := 5) rfl rfl (out_old (t := 6) rfl rfl (out_old (t := 7) rfl rfl (out_old (t := 10) rfl rfl (out_new (i := 9) (by decide) rfl rfl (out_new (i := 12) (by decide) rfl rfl (out_new (i := 19) (by decide) rfl rfl out_nil)))))))) fun a125 w125 s125 => ?_
                refine seq_opg s125 rfl rfl rfl rfl (of_decide_eq_true rfl) (fun hb => (Ob.uncond (t := 157) hb rfl ((Ob.uncond (t := 150) hb rfl (ob_sneq rfl (.tmp rfl) (.tmp rfl)))))) fun a126 w126 s126 => ?_; clear s125
                obtain ⟨x17, e_x17, h37⟩ := bind_some h36; clear h36; replace e_x17 := Option.some.inj e_x17
                refine seq_op s126 rfl rfl (of_decide_eq_true rfl) ((ob_or2 rfl (.tmp rfl) opd_bool (.tmp rfl)).nm e_x17) fun a127 w127 s127 => ?_; clear s126
                refine wpList_nil ?_
                refine then_normal ?_
                refine hK33 _ _ ?_
                have s128 := s127.sub (.cons (t := 1) rfl (.cons (t := 5) rfl (.cons (t := 6) rfl (.cons (t := 7) rfl (.cons (t := 10) rfl (.cons (t := 159) rfl .nil)))))); clear s127
                refine cond_split s128 (.tmp rfl) (fun hc7 => ?_) (fun hc7 => ?_)
                · replace h37 := ite_t hc7 h37
                  have h38 := h37; clear h37
                  refine wp_seq_k fun K34 hK34 => ?_
                  refine wp_region_lit ?_
                  refine seq_op s128 rfl rfl (of_decide_eq_true rfl) (ob_assign rfl opd_bool) fun a129 w129 s129 => ?_; clear s128
                  refine wpList_nil ?_
                  refine then_normal ?_
                  refine hK34 _ _ ?_
                  have s130 := s129.sub (.cons (t := 4) rfl .nil); clear s129
                  have s131 := St.drop (A := []) s130; clear s130
                  have s132 := St.drop (A := []) s131; clear s131
                  have s133 := St.drop (A := []) s132; clear s132
                  have s134 := St.drop (A := []) s133; clear s133
                  have s135 := St.drop (A := []) s134; clear s134
                  have s136 := St.drop (A := []) s135; clear s135
                  have s137 := St.drop (A := []) s136; clear s136
                  refine wp_ret ?_
                  obtain rfl := Option.some.inj h38
                  exact leave s137 (.inl rfl) rfl (.cons (.tmp rfl) .nil)
                · replace h37 := ite_f hc7 h37
                  have h39 := h37; clear h37
                  refine wp_skip ?_
                  refine in_normal ?_
                  refine then_normal ?_
                  exact hj5 _ _ h39 (s128.sub (.cons rfl (.cons rfl (.cons rfl (.cons rfl (.cons rfl .nil))))))
            · replace h22 := ite_f hc4 h22
              have h40 := h22; clear h22
              refine wp_exit ?_
              refine (then_exit (then_exit (in_here ?_)))
              refine in_normal ?_
              refine then_normal ?_
              exact hj3 y22 y23 y24 y25 y26 y27 y28 y29 y30 v11 v12 v13 v14 v15 _ _ h40 (s81.sub (.cons rfl (.cons rfl (.cons rfl (.cons rfl .nil)))))
        refine wp_block ?_
        refine wp_seq_k fun K35 hK35 => ?_
        refine wp_region_lit ?_
        refine seq_op s55 rfl rfl (of_decide_eq_true rfl) (ob_eql rfl (.tmp rfl) (opd_int rfl)) fun a138 w138 s138 => ?_; clear s55
        refine seq_op s138 rfl rfl (of_decide_eq_true rfl) (ob_assign rfl (.tmp rfl)) fun a139 w139 s139 => ?_; clear s138
        refine wpList_nil ?_
        refine then_normal ?_
        refine hK35 _ _ ?_
        have s140 := s139.sub (.cons (t := 1) rfl (.cons (t := 5) rfl (.cons (t := 6) rfl (.cons (t := 7) rfl (.cons (t := 8) rfl (.cons (t := 9) rfl (.cons (t := 37) rfl (.cons (t := 38) rfl .nil)))))))); clear s139
        refine cond_split s140 (.tmp rfl) (fun hc8 => ?_) (fun hc8 => ?_)
        · replace h14 := ite_t hc8 h14
          have h41 := h14; clear h14
          obtain ⟨x18, e_x18, h42⟩ := bind_some h41; clear h41
          obtain ⟨x19, e_x19, h43⟩ := bind_some h42; clear h42
          obtain ⟨x20, e_x20, h44⟩ := bind_some h43; clear h43
          refine wp_goes (Fs := [(ptrB b1 0), (ptrB b3 1), ((kint .i64).V x6.At), (ptrB b3 3), ((kint .u8).V x6.B), (ptrB b3 4), ((kint .i8).V x6.Long), (kstr.V x18), nofact, (ptrB b2 0), (ptrB b3 1), ((kint .i64).V x6.At), (ptrB b3 3), ((kint .u8).V x6.B), (ptrB b3 4), ((kint .i8).V x6.Long), nofact]) (bits := [0, 0, 2, 0, 8, 0, 32, 120, 255, 0, 0, 1024, 0, 4096, 0, 16384, 61951, 131071, 262143, 524287]) (m := 17) (todo := 256) mx s140 ?_; clear s140
          refine goes_turn (B' := (fun gg : Value × Value => [BF b1 87 (ko_disk_Disk_0_1 gg.1 gg.2) (⟨[], [], x19.2.fuse, x19.2.dead⟩ : disk_Disk), RowF gg.1 91 (karr 256 (kint .u8)) x19.2.firm, RowF gg.2 93 k_disk_write x19.2.loose, BF b3 30 k_caballaw12_Act x6, BF b2 52 (ko_cabalref12_Disk_0_1_2 v8 v9 v10) (⟨[], [], [], y5, y6⟩ : cabalref12_Disk), RowF v8 9 kstr y9, RowF v9 3 (kint .i64) y10, RowF v10 9 kstr y11])) (Fs' := (fun gg : Value × Value => setAll ([(ptrB b1 0), (ptrB b3 1), ((kint .i64).V x6.At), (ptrB b3 3), ((kint .u8).V x6.B), (ptrB b3 4), ((kint .i8).V x6.Long), (kstr.V x18), nofact, (ptrB b2 0), (ptrB b3 1), ((kint .i64).V x6.At), (ptrB b3 3), ((kint .u8).V x6.B), (ptrB b3 4), ((kint .i8).V x6.Long), nofact]) [(8, ((kint .i64).V x19.1)), (16, (kstr.V x20))])) 8 65792 511 0 (by kernel_rfl) rfl rfl rfl (opsS_cons (.plain _ (Av.old (t := 5) rfl rfl Av.nil) rfl rfl (ob_move rfl (.tmp rfl))) (opsS_cons (.plain _ (Av.old (t := 8) rfl rfl Av.nil) rfl rfl (ob_fieldAddr (off' := 1) rfl Try.underlying30 rfl sz3 (by decide) (.tmp rfl) rfl)) (opsS_cons (.plain _ (Av.new (j := 1) rfl rfl rfl Av.nil) rfl rfl (ob_load rfl tk3 (.tmp rfl) (.head _) (lg_caballaw12_Act_At x6))) (opsS_cons (.plain _ (Av.old (t := 8) rfl rfl Av.nil) rfl rfl (ob_fieldAddr (off' := 3) rfl Try.underlying30 rfl sz5 (by decide) (.tmp rfl) rfl)) (opsS_cons (.plain _ (Av.new (j := 3) rfl rfl rfl Av.nil) rfl rfl (ob_load rfl tk5 (.tmp rfl) (.head _) (lg_caballaw12_Act_B x6))) (opsS_cons (.plain _ (Av.old (t := 8) rfl rfl Av.nil) rfl rfl (ob_fieldAddr (off' := 4) rfl Try.underlying30 rfl sz28 (by decide) (.tmp rfl) rfl)) (opsS_cons (.plain _ (Av.new (j := 5) rfl rfl rfl Av.nil) rfl rfl (ob_load rfl tk28 (.tmp rfl) (.head _) (lg_caballaw12_Act_Long x6))) (opsS_cons (.plain _ (Av.new (j := 4) rfl rfl rfl (Av.new (j := 6) rfl rfl rfl Av.nil)) rfl rfl (ob_callD (args := [_, _]) rfl .direct hb16 (fun a w s fs gs hf hg => by obtain rfl := hf.unnil; obtain rfl := hg.unnil; exact c_caballaw12_data k _ _ _ e_x18 _ _ _ _ (s.arg (.tmp rfl)) (s.arg (.tmp rfl))))) (opsS_skip (by rfl) (opsS_cons (.plain _ (Av.old (t := 6) rfl rfl Av.nil) rfl rfl (ob_move rfl (.tmp rfl))) (opsS_cons (.plain _ (Av.old (t := 8) rfl rfl Av.nil) rfl rfl (ob_fieldAddr (off' := 1) rfl Try.underlying30 rfl sz3 (by decide) (.tmp rfl) rfl)) (opsS_cons (.plain _ (Av.new (j := 10) rfl rfl rfl Av.nil) rfl rfl (ob_load rfl tk3 (.tmp rfl) (.head _) (lg_caballaw12_Act_At x6))) (opsS_cons (.plain _ (Av.old (t := 8) rfl rfl Av.nil) rfl rfl (ob_fieldAddr (off' := 3) rfl Try.underlying30 rfl sz5 (by decide) (.tmp rfl) rfl)) (opsS_cons (.plain _ (Av.new (j := 12) rfl rfl rfl Av.nil) rfl rfl (ob_load rfl tk5 (.tmp rfl) (.head _) (lg_caballaw12_Act_B x6))) (opsS_cons (.plain _ (Av.old (t := 8) rfl rfl Av.nil) rfl rfl (ob_fieldAddr (off' := 4) rfl Try.underlying30 rfl sz28 (by decide) (.tmp rfl) rfl)) (opsS_cons (.plain _ (Av.new (j := 14) rfl rfl rfl Av.nil) rfl rfl (ob_load rfl tk28 (.tmp rfl) (.head _) (lg_caballaw12_Act_Long x6))) (opsS_skip (by rfl) opsS_nil))))))))))))))))) (.plain _ (Av.new (j := 0) rfl rfl rfl (Av.new (j := 2) rfl rfl rfl (Av.new (j := 7) rfl rfl rfl Av.nil))) rfl (fun _ => rfl) (fun R => ob_callL (args := [_, _, _]) (L := [_, _, _]) rfl .direct hb15 (toFront [_] (toFront [_, _] (toFront [_, _] (List.Perm.refl _)))) (fun a w s fs gs hf hg => by obtain rfl := hf.unnil; obtain rfl := hg.unnil; exact c_disk_Disk_Write k _ _ _ _ e_x19 _ _ _ _ _ _ _ _ (ownL s) (disL s) (nodL s) (s.arg (.tmp rfl)) (s.arg (.tmp rfl)) (s.arg (.tmp rfl))) (by exact fun _ => rfl))) (setAll_same (us := (fun gg : Value × Value => [(8, ((kint .i64).V x19.1)), (16, (kstr.V x20))])) fun _ => by kernel_rfl) fun gg142 => ?_
          obtain ⟨v16, v17⟩ := gg142
          refine goes_last (by kernel_rfl) rfl (opsS_skip (by rfl) (opsS_skip (by rfl) (opsS_skip (by rfl) (opsS_skip (by rfl) (opsS_skip (by rfl) (opsS_skip (by rfl) (opsS_skip (by rfl) (opsS_skip (by rfl) (opsS_skip (by rfl) (opsS_cons (.plain _ (Av.old (t := 6) rfl rfl Av.nil) rfl rfl (ob_move rfl (.tmp rfl))) (opsS_cons (.plain _ (Av.old (t := 8) rfl rfl Av.nil) rfl rfl (ob_fieldAddr (off' := 1) rfl Try.underlying30 rfl sz3 (by decide) (.tmp rfl) rfl)) (opsS_cons (.plain _ (Av.new (j := 10) rfl rfl rfl Av.nil) rfl rfl (ob_load rfl tk3 (.tmp rfl) (.tail _ (.tail _ (.tail _ (.head _)))) (lg_caballaw12_Act_At x6))) (opsS_cons (.plain _ (Av.old (t := 8) rfl rfl Av.nil) rfl rfl (ob_fieldAddr (off' := 3) rfl Try.underlying30 rfl sz5 (by decide) (.tmp rfl) rfl)) (opsS_cons (.plain _ (Av.new (j := 12) rfl rfl rfl Av.nil) rfl rfl (ob_load rfl tk5 (.tmp rfl) (.tail _ (.tail _ (.tail _ (.head _)))) (lg_caballaw12_Act_B x6))) (opsS_cons (.plain _ (Av.old (t := 8) rfl rfl Av.nil) rfl rfl (ob_fieldAddr (off' := 4) rfl Try.underlying30 rfl sz28 (by decide) (.tmp rfl) rfl)) (opsS_cons (.plain _ (Av.new (j := 14) rfl rfl rfl Av.nil) rfl rfl (ob_load rfl tk28 (.tmp rfl) (.tail _ (.tail _ (.tail _ (.head _)))) (lg_caballaw12_Act_Long x6))) (opsS_cons (.plain _ (Av.new (j := 13) rfl rfl rfl (Av.new (j := 15) rfl rfl rfl Av.nil)) rfl rfl (ob_callD (args := [_, _]) rfl .direct hb16 (fun a w s fs gs hf hg => by obtain rfl := hf.unnil; obtain rfl := hg.unnil; exact c_caballaw12_data k _ _ _ e_x20 _ _ _ _ (s.arg (.tmp rfl)) (s.arg (.tmp rfl))))) opsS_nil))))))))))))))))) (out_old (t := 1) rfl rfl (out_old (t := 5) rfl rfl (out_old (t := 6) rfl rfl (out_old (t := 7) rfl rfl (out_old (t := 9) rfl rfl (out_new (i := 8) (by decide) rfl rfl (out_new (i := 9) (by decide) rfl rfl (out_new (i := 11) (by decide) rfl rfl (out_new (i := 16) (by decide) rfl rfl out_nil))))))))) fun a141 w141 s141 => ?_
          obtain ⟨x21, e_x21, h45⟩ := bind_some h44; clear h44
          refine seq_opx (B' := (fun gg : Value × Value × Value => [BF b2 52 (ko_cabalref12_Disk_0_1_2 gg.1 gg.2.1 gg.2.2) (⟨[], [], [], x21.2.Fuse, x21.2.Dead⟩ : cabalref12_Disk), RowF gg.1 9 kstr x21.2.Firm, RowF gg.2.1 3 (kint .i64) x21.2.At, RowF gg.2.2 9 kstr x21.2.Data, BF b1 87 (ko_disk_Disk_0_1 v16 v17) (⟨[], [], x19.2.fuse, x19.2.dead⟩ : disk_Disk), RowF v16 91 (karr 256 (kint .u8)) x19.2.firm, RowF v17 93 k_disk_write x19.2.loose, BF b3 30 k_caballaw12_Act x6])) s141 rfl rfl (of_decide_eq_true rfl) (ob_callL (args := [_, _, _]) (L := [_, _, _, _]) rfl .direct hb20 (toFront [_, _, _, _] (toFront [_, _, _, _] (toFront [_, _, _, _] (toFront [_, _, _, _] (List.Perm.refl _))))) (fun a w s fs gs hf hg => by obtain rfl := hf.unnil; obtain rfl := hg.unnil; exact c_cabalref12_Disk_Write k _ _ _ _ e_x21 _ _ _ _ _ _ _ _ _ (ownL s) (disL s) (nodL s) (s.arg (.tmp rfl)) (s.arg (.tmp rfl)) (s.arg (.tmp rfl))) (by exact fun _ => rfl)) fun gg143 a143 w143 s143 => ?_; clear s141
          obtain ⟨v18, v19, v20⟩ := gg143
          refine seq_op s143 rfl rfl (of_decide_eq_true rfl) (ob_eql rfl (.tmp rfl) (.tmp rfl)) fun a144 w144 s144 => ?_; clear s143
          refine seq_op s144 rfl rfl (of_decide_eq_true rfl) (ob_assign rfl (.tmp rfl)) fun a145 w145 s145 => ?_; clear s144
          refine wpList_nil ?_
          refine in_normal ?_
          refine then_normal ?_
          have s146 := St.drop (A := [_, _, _, _, _, _, _]) s145; clear s145
          have s147 := s146.perm (toFront [_, _, _, _] (toFront [] (toFront [_, _, _] (toFront [_, _, _] (toFront [] (toFront [] (toFront [] (List.Perm.refl _)))))))); clear s146
          exact hj4 (x19.1 == x21.1) x19.2.fuse x19.2.dead x21.2.Fuse x21.2.Dead x19.2.firm x19.2.loose x21.2.Firm x21.2.At x21.2.Data v16 v17 v18 v19 v20 _ _ h45 (s147.sub (.cons rfl (.cons rfl (.cons rfl (.cons rfl (.cons rfl .nil))))))
        · replace h14 := ite_f hc8 h14
          have h46 := h14; clear h14
          refine wp_seq_k fun K36 hK36 => ?_
          refine wp_region_lit ?_
          refine seq_op s140 rfl rfl (of_decide_eq_true rfl) (ob_eql rfl (.tmp rfl) (opd_int rfl)) fun a148 w148 s148 => ?_; clear s140
          refine seq_op s148 rfl rfl (of_decide_eq_true rfl) (ob_assign rfl (.tmp rfl)) fun a149 w149 s149 => ?_; clear s148
          refine wpList_nil ?_
          refine then_normal ?_
          refine hK36 _ _ ?_
          have s150 := s149.sub (.cons (t := 1) rfl (.cons (t := 5) rfl (.cons (t := 6) rfl (.cons (t := 7) rfl (.cons (t := 8) rfl (.cons (t := 9) rfl (.cons (t := 37) rfl (.cons (t := 59) rfl .nil)))))))); clear s149
          refine cond_split s150 (.tmp rfl) (fun hc9 => ?_) (fun hc9 => ?_)
          · replace h46 := ite_t hc9 h46
            have h47 := h46; clear h46
            refine wp_region_lit ?_
            refine seq_op s150 rfl rfl (of_decide_eq_true rfl) (ob_move rfl (.tmp rfl)) fun a151 w151 s151 => ?_; clear s150
            obtain ⟨x22, e_x22, h48⟩ := bind_some h47; clear h47
            refine seq_opx (B' := (fun gg : Value × Value => [BF b1 87 (ko_disk_Disk_0_1 gg.1 gg.2) (⟨[], [], x22.2.fuse, x22.2.dead⟩ : disk_Disk), RowF gg.1 91 (karr 256 (kint .u8)) x22.2.firm, RowF gg.2 93 k_disk_write x22.2.loose, BF b3 30 k_caballaw12_Act x6, BF b2 52 (ko_cabalref12_Disk_0_1_2 v8 v9 v10) (⟨[], [], [], y5, y6⟩ : cabalref12_Disk), RowF v8 9 kstr y9, RowF v9 3 (kint .i64) y10, RowF v10 9 kstr y11])) s151 rfl rfl (of_decide_eq_true rfl) (ob_callL (args := [_]) (L := [_, _, _]) rfl .direct hb13 (toFront [_] (toFront [_, _] (toFront [_, _] (List.Perm.refl _)))) (fun a w s fs gs hf hg => by obtain rfl := hf.unnil; obtain rfl := hg.unnil; exact c_disk_Disk_Sync k _ _ e_x22 _ _ _ _ _ _ (ownL s) (disL s) (nodL s) (s.arg (.tmp rfl))) (by exact fun _ => rfl)) fun gg152 a152 w152 s152 => ?_; clear s151
            obtain ⟨v21, v22⟩ := gg152
            refine seq_op s152 rfl rfl (of_decide_eq_true rfl) (ob_move rfl (.tmp rfl)) fun a153 w153 s153 => ?_; clear s152
            obtain ⟨x23, e_x23, h49⟩ := bind_some h48; clear h48
            refine seq_opx (B' := (fun gg : Value × Value × Value => [BF b2 52 (ko_cabalref12_Disk_0_1_2 gg.1 gg.2.1 gg.2.2) (⟨[], [], [], x23.2.Fuse, x23.2.Dead⟩ : cabalref12_Disk), RowF gg.1 9 kstr x23.2.Firm, RowF gg.2.1 3 (kint .i64) x23.2.At, RowF gg.2.2 9 kstr x23.2.Data, BF b1 87 (ko_disk_Disk_0_1 v21 v22) (⟨[], [], x22.2.fuse, x22.2.dead⟩ : disk_Disk), RowF v21 91 (karr 256 (kint .u8)) x22.2.firm, RowF v22 93 k_disk_write x22.2.loose, BF b3 30 k_caballaw12_Act x6])) s153 rfl rfl (of_decide_eq_true rfl) (ob_callL (args := [_]) (L := [_, _, _, _]) rfl .direct hb21 (toFront [_, _, _, _] (toFront [_, _, _, _] (toFront [_, _, _, _] (toFront [_, _, _, _] (List.Perm.refl _))))) (fun a w s fs gs hf hg => by obtain rfl := hf.unnil; obtain rfl := hg.unnil; exact c_cabalref12_Disk_Sync k _ _ e_x23 _ _ _ _ _ _ _ (ownL s) (disL s) (nodL s) (s.arg (.tmp rfl))) (by exact fun _ => rfl)) fun gg154 a154 w154 s154 => ?_; clear s153
            obtain ⟨v23, v24, v25⟩ := gg154
            refine seq_op s154 rfl rfl (of_decide_eq_true rfl) (ob_eql rfl (.tmp rfl) (.tmp rfl)) fun a155 w155 s155 => ?_; clear s154
            refine seq_op s155 rfl rfl (of_decide_eq_true rfl) (ob_assign rfl (.tmp rfl)) fun a156 w156 s156 => ?_; clear s155
            refine wpList_nil ?_
            refine in_normal ?_
            refine then_normal ?_
            have s157 := St.drop (A := [_, _, _, _, _, _, _]) s156; clear s156
            have s158 := s157.perm (toFront [_, _, _, _] (toFront [] (toFront [_, _, _] (toFront [_, _, _] (toFront [] (toFront [] (toFront [] (List.Perm.refl _)))))))); clear s157
            exact hj4 (x22.1 == x23.1) x22.2.fuse x22.2.dead x23.2.Fuse x23.2.Dead x22.2.firm x22.2.loose x23.2.Firm x23.2.At x23.2.Data v21 v22 v23 v24 v25 _ _ h49 (s158.sub (.cons rfl (.cons rfl (.cons rfl (.cons rfl (.cons rfl .nil))))))
          · replace h46 := ite_f hc9 h46
            have h50 := h46; clear h46
            refine wp_seq_k fun K37 hK37 => ?_
            refine wp_region_lit ?_
            refine seq_op s150 rfl rfl (of_decide_eq_true rfl) (ob_eql rfl (.tmp rfl) (opd_int rfl)) fun a159 w159 s159 => ?_; clear s150
            refine seq_op s159 rfl rfl (of_decide_eq_true rfl) (ob_assign rfl (.tmp rfl)) fun a160 w160 s160 => ?_; clear s159
            refine wpList_nil ?_
            refine then_normal ?_
            refine hK37 _ _ ?_
            have s161 := s160.sub (.cons (t := 1) rfl (.cons (t := 5) rfl (.cons (t := 6) rfl (.cons (t := 7) rfl (.cons (t := 8) rfl (.cons (t := 9) rfl (.cons (t := 37) rfl (.cons (t := 59) rfl (.cons (t := 66) rfl .nil))))))))); clear s160
            refine cond_split s161 (.tmp rfl) (fun hc10 => ?_) (fun hc10 => ?_)
            · replace h50 := ite_t hc10 h50
              have h51 := h50; clear h50
              refine wp_seq_k fun K38 hK38 => ?_
              refine wp_region_lit ?_
              refine seq_op s161 rfl rfl (of_decide_eq_true rfl) (ob_move rfl (.tmp rfl)) fun a162 w162 s162 => ?_; clear s161
              refine seq_op s162 rfl rfl (of_decide_eq_true rfl) (ob_fieldAddr (off' := 2) rfl Try.underlying30 rfl sz3 (by decide) (.tmp rfl) rfl) fun a163 w163 s163 => ?_; clear s162
              refine seq_op s163 rfl rfl (of_decide_eq_true rfl) (ob_load rfl tk3 (.tmp rfl) (.head _) (lg_caballaw12_Act_N x6)) fun a164 w164 s164 => ?_; clear s163
              obtain ⟨x24, e_x24, h52⟩ := bind_some h51; clear h51
              refine seq_opx (B' := (fun gg : Value × Value => [BF b1 87 (ko_disk_Disk_0_1 gg.1 gg.2) (⟨[], [], x24.fuse, x24.dead⟩ : disk_Disk), RowF gg.1 91 (karr 256 (kint .u8)) x24.firm, RowF gg.2 93 k_disk_write x24.loose, BF b3 30 k_caballaw12_Act x6, BF b2 52 (ko_cabalref12_Disk_0_1_2 v8 v9 v10) (⟨[], [], [], y5, y6⟩ : cabalref12_Disk), RowF v8 9 kstr y9, RowF v9 3 (kint .i64) y10, RowF v10 9 kstr y11])) s164 rfl rfl (of_decide_eq_true rfl) (ob_callL (args := [_, _]) (L := [_, _, _]) rfl .direct hb22 (toFront [_] (toFront [_, _] (toFront [_, _] (List.Perm.refl _)))) (fun a w s fs gs hf hg => by obtain rfl := hf.unnil; obtain rfl := hg.unnil; exact c_disk_Disk_Fuse k _ _ _ e_x24 _ _ _ _ _ _ _ (ownL s) (disL s) (nodL s) (s.arg (.tmp rfl)) (s.arg (.tmp rfl))) (by exact fun _ => rfl)) fun gg165 a165 w165 s165 => ?_; clear s164
              obtain ⟨v26, v27⟩ := gg165
              refine wpList_nil ?_
              refine then_normal ?_
              refine hK38 _ _ ?_
              have s166 := s165.sub (.cons (t := 1) rfl (.cons (t := 5) rfl (.cons (t := 6) rfl (.cons (t := 7) rfl (.cons (t := 8) rfl (.cons (t := 9) rfl (.cons (t := 59) rfl (.cons (t := 66) rfl .nil)))))))); clear s165
              refine wp_region_lit ?_
              refine seq_op s166 rfl rfl (of_decide_eq_true rfl) (ob_move rfl (.tmp rfl)) fun a167 w167 s167 => ?_; clear s166
              refine seq_op s167 rfl rfl (of_decide_eq_true rfl) (ob_fieldAddr (off' := 2) rfl Try.underlying30 rfl sz3 (by decide) (.tmp rfl) rfl) fun a168 w168 s168 => ?_; clear s167
              refine seq_op s168 rfl rfl (of_decide_eq_true rfl) (ob_load rfl tk3 (.tmp rfl) (.tail _ (.tail _ (.tail _ (.head _)))) (lg_caballaw12_Act_N x6)) fun a169 w169 s169 => ?_; clear s168
              obtain ⟨x25, e_x25, h53⟩ := bind_some h52; clear h52
              refine seq_opx (B' := (fun gg : Value × Value × Value => [BF b2 52 (ko_cabalref12_Disk_0_1_2 gg.1 gg.2.1 gg.2.2) (⟨[], [], [], x25.Fuse, x25.Dead⟩ : cabalref12_Disk), RowF gg.1 9 kstr x25.Firm, RowF gg.2.1 3 (kint .i64) x25.At, RowF gg.2.2 9 kstr x25.Data, BF b1 87 (ko_disk_Disk_0_1 v26 v27) (⟨[], [], x24.fuse, x24.dead⟩ : disk_Disk), RowF v26 91 (karr 256 (kint .u8)) x24.firm, RowF v27 93 k_disk_write x24.loose, BF b3 30 k_caballaw12_Act x6])) s169 rfl rfl (of_decide_eq_true rfl) (ob_callL (args := [_, _]) (L := [_, _, _, _]) rfl .direct hb23 (toFront [_, _, _, _] (toFront [_, _, _, _] (toFront [_, _, _, _] (toFront [_, _, _, _] (List.Perm.refl _))))) (fun a w s fs gs hf hg => by obtain rfl := hf.unnil; obtain rfl := hg.unnil; exact c_cabalref12_Disk_Light k _ _ _ e_x25 _ _ _ _ _ _ _ _ (ownL s) (disL s) (nodL s) (s.arg (.tmp rfl)) (s.arg (.tmp rfl))) (by exact fun _ => rfl)) fun gg170 a170 w170 s170 => ?_; clear s169
              obtain ⟨v28, v29, v30⟩ := gg170
              refine wpList_nil ?_
              refine in_normal ?_
              refine then_normal ?_
              have s171 := St.drop (A := [_, _, _, _, _, _, _]) s170; clear s170
              have s172 := s171.perm (toFront [_, _, _, _] (toFront [] (toFront [_, _, _] (toFront [_, _, _] (toFront [] (toFront [] (toFront [] (List.Perm.refl _)))))))); clear s171
              exact hj4 true x24.fuse x24.dead x25.Fuse x25.Dead x24.firm x24.loose x25.Firm x25.At x25.Data v26 v27 v28 v29 v30 _ _ h53 (s172.sub (.cons rfl (.cons rfl (.cons rfl (.cons rfl (.cons rfl .nil))))))
            · replace h50 := ite_f hc10 h50
              have h54 := h50; clear h50
              refine wp_seq_k fun K39 hK39 => ?_
              refine wp_region_lit ?_
              refine seq_op s161 rfl rfl (of_decide_eq_true rfl) (ob_eql rfl (.tmp rfl) (opd_int rfl)) fun a173 w173 s173 => ?_; clear s161
              refine seq_op s173 rfl rfl (of_decide_eq_true rfl) (ob_assign rfl (.tmp rfl)) fun a174 w174 s174 => ?_; clear s173
              refine wpList_nil ?_
              refine then_normal ?_
              refine hK39 _ _ ?_
              have s175 := s174.sub (.cons (t := 1) rfl (.cons (t := 5) rfl (.cons (t := 6) rfl (.cons (t := 7) rfl (.cons (t := 8) rfl (.cons (t := 9) rfl (.cons (t := 59) rfl (.cons (t := 66) rfl (.cons (t := 76) rfl .nil))))))))); clear s174
              refine cond_split s175 (.tmp rfl) (fun hc11 => ?_) (fun hc11 => ?_)
              · replace h54 := ite_t hc11 h54
                have h55 := h54; clear h54
                refine wp_seq_k fun K40 hK40 => ?_
                refine wp_region_lit ?_
                refine seq_op s175 rfl rfl (of_decide_eq_true rfl) (ob_move rfl (.tmp rfl)) fun a176 w176 s176 => ?_; clear s175
                refine seq_op s176 rfl rfl (of_decide_eq_true rfl) (ob_fieldAddr (off' := 5) rfl Try.underlying30 rfl sz23 (by decide) (.tmp rfl) rfl) fun a177 w177 s177 => ?_; clear s176
                refine seq_op s177 rfl rfl (of_decide_eq_true rfl) (ob_load rfl tk23 (.tmp rfl) (.head _) (lg_caballaw12_Act_Keep x6)) fun a178 w178 s178 => ?_; clear s177
                obtain ⟨x26, e_x26, h56⟩ := bind_some h55; clear h55
                refine seq_opx (B' := (fun gg : Value × Value => [BF b1 87 (ko_disk_Disk_0_1 gg.1 gg.2) (⟨[], [], x26.fuse, x26.dead⟩ : disk_Disk), RowF gg.1 91 (karr 256 (kint .u8)) x26.firm, RowF gg.2 93 k_disk_write x26.loose, BF b3 30 k_caballaw12_Act x6, BF b2 52 (ko_cabalref12_Disk_0_1_2 v8 v9 v10) (⟨[], [], [], y5, y6⟩ : cabalref12_Disk), RowF v8 9 kstr y9, RowF v9 3 (kint .i64) y10, RowF v10 9 kstr y11])) s178 rfl rfl (of_decide_eq_true rfl) (ob_callL (args := [_, _]) (L := [_, _, _]) rfl .direct hb17 (toFront [_] (toFront [_, _] (toFront [_, _] (List.Perm.refl _)))) (fun a w s fs gs hf hg => by obtain rfl := hf.unnil; obtain rfl := hg.unnil; exact c_disk_Disk_Crash k _ _ _ e_x26 _ _ _ _ _ _ _ (ownL s) (disL s) (nodL s) (s.arg (.tmp rfl)) (s.arg (.tmp rfl))) (by exact fun _ => rfl)) fun gg179 a179 w179 s179 => ?_; clear s178
                obtain ⟨v31, v32⟩ := gg179
                refine wpList_nil ?_
                refine then_normal ?_
                refine hK40 _ _ ?_
                have s180 := s179.sub (.cons (t := 1) rfl (.cons (t := 5) rfl (.cons (t := 6) rfl (.cons (t := 7) rfl (.cons (t := 8) rfl (.cons (t := 9) rfl (.cons (t := 59) rfl (.cons (t := 66) rfl (.cons (t := 76) rfl .nil))))))))); clear s179
                refine wp_region_lit ?_
                refine seq_op s180 rfl rfl (of_decide_eq_true rfl) (ob_move rfl (.tmp rfl)) fun a181 w181 s181 => ?_; clear s180
                refine seq_op s181 rfl rfl (of_decide_eq_true rfl) (ob_fieldAddr (off' := 5) rfl Try.underlying30 rfl sz23 (by decide) (.tmp rfl) rfl) fun a182 w182 s182 => ?_; clear s181
                refine seq_op s182 rfl rfl (of_decide_eq_true rfl) (ob_load rfl tk23 (.tmp rfl) (.tail _ (.tail _ (.tail _ (.head _)))) (lg_caballaw12_Act_Keep x6)) fun a183 w183 s183 => ?_; clear s182
                obtain ⟨x27, e_x27, h57⟩ := bind_some h56; clear h56
                refine seq_opx (B' := (fun gg : Value × Value × Value => [BF b2 52 (ko_cabalref12_Disk_0_1_2 gg.1 gg.2.1 gg.2.2) (⟨[], [], [], x27.Fuse, x27.Dead⟩ : cabalref12_Disk), RowF gg.1 9 kstr x27.Firm, RowF gg.2.1 3 (kint .i64) x27.At, RowF gg.2.2 9 kstr x27.Data, BF b1 87 (ko_disk_Disk_0_1 v31 v32) (⟨[], [], x26.fuse, x26.dead⟩ : disk_Disk), RowF v31 91 (karr 256 (kint .u8)) x26.firm, RowF v32 93 k_disk_write x26.loose, BF b3 30 k_caballaw12_Act x6])) s183 rfl rfl (of_decide_eq_true rfl) (ob_callL (args := [_, _]) (L := [_, _, _, _]) rfl .direct hb24 (toFront [_, _, _, _] (toFront [_, _, _, _] (toFront [_, _, _, _] (toFront [_, _, _, _] (List.Perm.refl _))))) (fun a w s fs gs hf hg => by obtain rfl := hf.unnil; obtain rfl := hg.unnil; exact c_cabalref12_Disk_Crash k _ _ _ e_x27 _ _ _ _ _ _ _ _ (ownL s) (disL s) (nodL s) (s.arg (.tmp rfl)) (s.arg (.tmp rfl))) (by exact fun _ => rfl)) fun gg184 a184 w184 s184 => ?_; clear s183
                obtain ⟨v33, v34, v35⟩ := gg184
                refine wpList_nil ?_
                refine in_normal ?_
                refine then_normal ?_
                have s185 := St.drop (A := [_, _, _, _, _, _, _]) s184; clear s184
                have s186 := s185.perm (toFront [_, _, _, _] (toFront [] (toFront [_, _, _] (toFront [_, _, _] (toFront [] (toFront [] (toFront [] (List.Perm.refl _)))))))); clear s185
                exact hj4 true x26.fuse x26.dead x27.Fuse x27.Dead x26.firm x26.loose x27.Firm x27.At x27.Data v31 v32 v33 v34 v35 _ _ h57 (s186.sub (.cons rfl (.cons rfl (.cons rfl (.cons rfl (.cons rfl .nil))))))
              · replace h54 := ite_f hc11 h54
                have h58 := h54; clear h54
                refine wp_skip ?_
                refine in_normal ?_
                refine then_normal ?_
                have s187 := St.drop (A := []) s175; clear s175
                exact hj4 true y3 y4 y5 y6 y7 y8 y9 y10 y11 v6 v7 v8 v9 v10 _ _ h58 (s187.sub (.cons rfl (.cons rfl (.cons rfl (.cons rfl (.cons rfl .nil))))))
      · replace h11 := ite_f hc2 h11
        have h59 := h11; clear h11
        refine wp_exit ?_
        refine (then_exit (then_exit (in_here ?_)))
        refine then_normal ?_
        have s188 := St.drop (A := []) s37; clear s37
        have s189 := St.drop (A := []) s188; clear s188
        have s190 := St.drop (A := []) s189; clear s189
        have s191 := St.drop (A := []) s190; clear s190
        have s192 := St.drop (A := []) s191; clear s191
        have s193 := St.drop (A := []) s192; clear s192
        have s194 := St.drop (A := []) s193; clear s193
        exact hj2 _ _ h59 (s194.sub .nil)
    refine cond_split s12 (.tmp rfl) (fun hc12 => ?_) (fun hc12 => ?_)
    · replace h3 := ite_t hc12 h3
      have h60 := h3; clear h3
      refine wp_region_lit ?_
      refine seq_op s12 rfl rfl (of_decide_eq_true rfl) (ob_assign rfl (opd_int rfl)) fun a195 w195 s195 => ?_; clear s12
      refine wpList_nil ?_
      refine then_normal ?_
      exact hj1 (10 : Int) _ _ h60 (s195.sub (.cons rfl (.cons rfl .nil)))
    · replace h3 := ite_f hc12 h3
      have h61 := h3; clear h3
      refine wp_skip ?_
      refine then_normal ?_
      exact hj1 p1 _ _ h61 (s12.sub (.cons rfl (.cons rfl .nil)))

/- 4 cabal/caballaw12.DiskAll -/
theorem c_caballaw12_DiskAll (k : Nat) (p1 : (List caballaw12_Act)) (r : Bool) (h0 : caballaw12_DiskAll k p1 = some r) (ok : Ok) (w0 : World) (z0 : Value) (u0 : ((ksl k_caballaw12_Act).V p1).holds ok w0 z0) :
    Gives Try.prog 4 [z0] ok w0 (resFact [kbool.V r]) := by
  unfold caballaw12_DiskAll at h0
  refine enter (N := 149) Try.func4 rfl rfl (of_decide_eq_true rfl) (.cons u0 .nil) fun a1 s1 => ?_
  refine wp_seq_k fun K1 hK1 => ?_
  refine wp_region_lit ?_
  refine seq_op s1 rfl rfl (of_decide_eq_true rfl) (ob_assign rfl opd_bool) fun a2 w2 s2 => ?_; clear s1
  refine wpList_nil ?_
  refine then_normal ?_
  refine hK1 _ _ ?_
  have s3 := s2.sub (.cons (t := 0) rfl .nil); clear s2
  refine wp_seq_k fun K2 hK2 => ?_
  refine wp_seq_k fun K3 hK3 => ?_
  refine wp_region_lit ?_
  obtain ⟨x1, e_x1, h1⟩ := bind_some h0; clear h0
  refine seq_op s3 rfl rfl (of_decide_eq_true rfl) (ob_callD (args := []) rfl .direct hb11 (fun a w s fs gs hf hg => by obtain rfl := hf.unnil; obtain rfl := hg.unnil; exact c_caballaw12_alive k _ e_x1 _ _)) fun a4 w4 s4 => ?_; clear s3
  refine seq_op s4 rfl rfl (of_decide_eq_true rfl) (ob_not rfl (.tmp rfl)) fun a5 w5 s5 => ?_; clear s4
  refine wpList_nil ?_
  refine then_normal ?_
  refine hK3 _ _ ?_
  have s6 := s5.sub (.cons (t := 0) rfl (.cons (t := 18) rfl .nil)); clear s5
  refine cond_split s6 (.tmp rfl) (fun hc1 => ?_) (fun hc1 => ?_)
  · replace h1 := ite_t hc1 h1
    have h2 := h1; clear h1
    refine wp_seq_k fun K4 hK4 => ?_
    refine wp_region_lit ?_
    refine seq_op s6 rfl rfl (of_decide_eq_true rfl) (ob_assign rfl opd_bool) fun a7 w7 s7 => ?_; clear s6
    refine wpList_nil ?_
    refine then_normal ?_
    refine hK4 _ _ ?_
    have s8 := s7.sub (.cons (t := 2) rfl .nil); clear s7
    refine wp_ret ?_
    obtain rfl := Option.some.inj h2
    exact leave s8 (.inl rfl) rfl (.cons (.tmp rfl) .nil)
  · replace h1 := ite_f hc1 h1
    have h3 := h1; clear h1
    refine wp_skip ?_
    refine then_normal ?_
    refine hK2 _ _ ?_
    have s9 := s6.sub (.cons (t := 0) rfl .nil); clear s6
    refine wp_seq_k fun K5 hK5 => ?_
    refine wp_region_lit ?_
    obtain ⟨x2, e_x2, h4⟩ := bind_some h3; clear h3
    refine seq_opx (B' := (fun gg : Nat × Value × Value => [BF gg.1 87 (ko_disk_Disk_0_1 gg.2.1 gg.2.2) (⟨[], [], x2.fuse, x2.dead⟩ : disk_Disk), RowF gg.2.1 91 (karr 256 (kint .u8)) x2.firm, RowF gg.2.2 93 k_disk_write x2.loose])) s9 rfl rfl (of_decide_eq_true rfl) (ob_callL (args := [_]) (L := []) rfl .direct hb12 (List.Perm.refl _) (fun a w s fs gs hf hg => by obtain rfl := hf.unnil; obtain rfl := hg.unnil; exact c_disk_New k _ _ e_x2 _ _ _ (s.arg (opd_int rfl))) (by exact fun _ => rfl)) fun gg10 a10 w10 s10 => ?_; clear s9
    obtain ⟨b1, v1, v2⟩ := gg10
    obtain ⟨x3, e_x3, h5⟩ := bind_some h4; clear h4
    refine seq_opx (B' := (fun gg : Nat × Value × Value => [BF gg.1 87 (ko_disk_Disk_0_1 gg.2.1 gg.2.2) (⟨[], [], x3.fuse, x3.dead⟩ : disk_Disk), RowF gg.2.1 91 (karr 256 (kint .u8)) x3.firm, RowF gg.2.2 93 k_disk_write x3.loose, BF b1 87 (ko_disk_Disk_0_1 v1 v2) (⟨[], [], x2.fuse, x2.dead⟩ : disk_Disk), RowF v1 91 (karr 256 (kint .u8)) x2.firm, RowF v2 93 k_disk_write x2.loose])) s10 rfl rfl (of_decide_eq_true rfl) (ob_callL (args := [_]) (L := []) rfl .direct hb12 (List.Perm.refl _) (fun a w s fs gs hf hg => by obtain rfl := hf.unnil; obtain rfl := hg.unnil; exact c_disk_New k _ _ e_x3 _ _ _ (s.arg (opd_int rfl))) (by exact fun _ => rfl)) fun gg11 a11 w11 s11 => ?_; clear s10
    obtain ⟨b2, v3, v4⟩ := gg11
    obtain ⟨x4, e_x4, h6⟩ := bind_some h5; clear h5
    refine seq_opx (B' := (fun gg : Nat × Value × Value => [BF gg.1 87 (ko_disk_Disk_0_1 gg.2.1 gg.2.2) (⟨[], [], x4.fuse, x4.dead⟩ : disk_Disk), RowF gg.2.1 91 (karr 256 (kint .u8)) x4.firm, RowF gg.2.2 93 k_disk_write x4.loose, BF b2 87 (ko_disk_Disk_0_1 v3 v4) (⟨[], [], x3.fuse, x3.dead⟩ : disk_Disk), RowF v3 91 (karr 256 (kint .u8)) x3.firm, RowF v4 93 k_disk_write x3.loose, BF b1 87 (ko_disk_Disk_0_1 v1 v2) (⟨[], [], x2.fuse, x2.dead⟩ : disk_Disk), RowF v1 91 (karr 256 (kint .u8)) x2.firm, RowF v2 93 k_disk_write x2.loose])) s11 rfl rfl (of_decide_eq_true rfl) (ob_callL (args := [_]) (L := []) rfl .direct hb12 (List.Perm.refl _) (fun a w s fs gs hf hg => by obtain rfl := hf.unnil; obtain rfl := hg.unnil; exact c_disk_New k _ _ e_x4 _ _ _ (s.arg (opd_int rfl))) (by exact fun _ => rfl)) fun gg12 a12 w12 s12 => ?_; clear s11
    obtain ⟨b3, v5, v6⟩ := gg12
    refine seq_op s12 rfl rfl (of_decide_eq_true rfl) (ob_assign rfl (.tmp rfl)) fun a13 w13 s13 => ?_; clear s12
    refine seq_op s13 rfl rfl (of_decide_eq_true rfl) (ob_assign rfl (.tmp rfl)) fun a14 w14 s14 => ?_; clear s13
    refine seq_op s14 rfl rfl (of_decide_eq_true rfl) (ob_assign rfl (.tmp rfl)) fun a15 w15 s15 => ?_; clear s14
    refine wpList_nil ?_
    refine then_normal ?_
    refine hK5 _ _ ?_
    have s16 := s15.sub (.cons (t := 0) rfl (.cons (t := 3) rfl (.cons (t := 4) rfl (.cons (t := 5) rfl .nil)))); clear s15
    refine wp_seq_k fun K6 hK6 => ?_
    refine wp_region_lit ?_
    refine seq_op s16 rfl rfl (of_decide_eq_true rfl) (ob_assign rfl opd_is) fun a17 w17 s17 => ?_; clear s16
    have s18 := St.adopt s17 (G := RowF (nilRow 10) 5 (kint .u8) []) rfl (rowNilN _ _ _ _ _); clear s17
    refine wpList_nil ?_
    refine then_normal ?_
    refine hK6 _ _ ?_
    have s19 := s18.sub (.cons (t := 0) rfl (.cons (t := 3) rfl (.cons (t := 4) rfl (.cons (t := 5) rfl (.cons (t := 6) rfl .nil))))); clear s18
    refine wp_seq_k fun K7 hK7 => ?_
    refine wp_seq_k fun K8 hK8 => ?_
    refine wp_region_lit ?_
    refine seq_op s19 rfl rfl (of_decide_eq_true rfl) (ob_assign rfl (opd_int rfl)) fun a20 w20 s20 => ?_; clear s19
    refine wpList_nil ?_
    refine then_normal ?_
    refine hK8 _ _ ?_
    have s21 := s20.sub (.cons (t := 0) rfl (.cons (t := 3) rfl (.cons (t := 4) rfl (.cons (t := 5) rfl (.cons (t := 6) rfl (.cons (t := 7) rfl .nil)))))); clear s20
    have hj1 : ∀ (y1 : Int) (y2 : Bool) (y3 : Int) (y4 : Bool) (y5 : Int) (y6 : Bool) (y7 : (List Int)) (y8 : (List (List Int))) (y9 : (List disk_write)) (y10 : (List (List Int))) (y11 : (List disk_write)) (y12 : (List (List Int))) (y13 : (List disk_write)) (v7 : Value) (v8 : Value) (v9 : Value) (v10 : Value) (v11 : Value) (v12 : Value) (v13 : Value) (a : Act) (w : World), (caballaw12_DiskAll.j1 k p1) y1 y2 y3 y4 y5 y6 y7 y8 y9 y10 y11 y12 y13 = some r → St ⟨149, w0, ok, []⟩ [BF b1 87 (ko_disk_Disk_0_1 v8 v9) (⟨[], [], y1, y2⟩ : disk_Disk), BF b2 87 (ko_disk_Disk_0_1 v10 v11) (⟨[], [], y3, y4⟩ : disk_Disk), BF b3 87 (ko_disk_Disk_0_1 v12 v13) (⟨[], [], y5, y6⟩ : disk_Disk), RowF v7 5 (kint .u8) y7, RowF v8 91 (karr 256 (kint .u8)) y8, RowF v9 93 k_disk_write y9, RowF v10 91 (karr 256 (kint .u8)) y10, RowF v11 93 k_disk_write y11, RowF v12 91 (karr 256 (kint .u8)) y12, RowF v13 93 k_disk_write y13] [(0, ((ksl k_caballaw12_Act).V p1)), (3, (ptrB b1 0)), (4, (ptrB b2 0)), (5, (ptrB b3 0)), (6, (is v7))] a w → K7 a w := by
      intro y1 y2 y3 y4 y5 y6 y7 y8 y9 y10 y11 y12 y13 v7 v8 v9 v10 v11 v12 v13 a22 w22 h7 s22
      unfold caballaw12_DiskAll.j1 at h7
      refine hK7 _ _ ?_
      refine wp_seq_k fun K9 hK9 => ?_
      refine wp_region_lit ?_
      refine seq_op s22 rfl rfl (of_decide_eq_true rfl) (ob_move rfl (.tmp rfl)) fun a23 w23 s23 => ?_; clear s22
      obtain ⟨x5, e_x5, h8⟩ := bind_some h7; clear h7
      refine seq_opx (B' := (fun gg : Value × Value => [BF b2 87 (ko_disk_Disk_0_1 gg.1 gg.2) (⟨[], [], x5.2.fuse, x5.2.dead⟩ : disk_Disk), RowF gg.1 91 (karr 256 (kint .u8)) x5.2.firm, RowF gg.2 93 k_disk_write x5.2.loose, BF b1 87 (ko_disk_Disk_0_1 v8 v9) (⟨[], [], y1, y2⟩ : disk_Disk), BF b3 87 (ko_disk_Disk_0_1 v12 v13) (⟨[], [], y5, y6⟩ : disk_Disk), RowF v7 5 (kint .u8) y7, RowF v8 91 (karr 256 (kint .u8)) y8, RowF v9 93 k_disk_write y9, RowF v12 91 (karr 256 (kint .u8)) y12, RowF v13 93 k_disk_write y13])) s23 rfl rfl (of_decide_eq_true rfl) (ob_callL (args := [_]) (L := [_, _, _]) rfl .direct hb13 (toFront [_] (toFront [_, _, _, _, _] (toFront [_, _, _, _, _] (List.Perm.refl _)))) (fun a w s fs gs hf hg => by obtain rfl := hf.unnil; obtain rfl := hg.unnil; exact c_disk_Disk_Sync k _ _ e_x5 _ _ _ _ _ _ (ownL s) (disL s) (nodL s) (s.arg (.tmp rfl))) (by exact fun _ => rfl)) fun gg24 a24 w24 s24 => ?_; clear s23
      obtain ⟨v14, v15⟩ := gg24
      refine seq_op s24 rfl rfl (of_decide_eq_true rfl) (ob_assign rfl (.tmp rfl)) fun a25 w25 s25 => ?_; clear s24
      refine wpList_nil ?_
      refine then_normal ?_
      refine hK9 _ _ ?_
      have s26 := s25.sub (.cons (t := 0) rfl (.cons (t := 3) rfl (.cons (t := 4) rfl (.cons (t := 5) rfl (.cons (t := 6) rfl (.cons (t := 10) rfl .nil)))))); clear s25
      refine wp_seq_k fun K10 hK10 => ?_
      refine wp_region_lit ?_
      refine seq_op s26 rfl rfl (of_decide_eq_true rfl) (ob_move rfl (.tmp rfl)) fun a27 w27 s27 => ?_; clear s26
      obtain ⟨x6, e_x6, h9⟩ := bind_some h8; clear h8
      refine seq_opx (B' := (fun gg : Value × Value => [BF b3 87 (ko_disk_Disk_0_1 gg.1 gg.2) (⟨[], [], x6.2.fuse, x6.2.dead⟩ : disk_Disk), RowF gg.1 91 (karr 256 (kint .u8)) x6.2.firm, RowF gg.2 93 k_disk_write x6.2.loose, BF b2 87 (ko_disk_Disk_0_1 v14 v15) (⟨[], [], x5.2.fuse, x5.2.dead⟩ : disk_Disk), RowF v14 91 (karr 256 (kint .u8)) x5.2.firm, RowF v15 93 k_disk_write x5.2.loose, BF b1 87 (ko_disk_Disk_0_1 v8 v9) (⟨[], [], y1, y2⟩ : disk_Disk), RowF v7 5 (kint .u8) y7, RowF v8 91 (karr 256 (kint .u8)) y8, RowF v9 93 k_disk_write y9])) s27 rfl rfl (of_decide_eq_true rfl) (ob_callL (args := [_]) (L := [_, _, _]) rfl .direct hb13 (toFront [_, _, _, _] (toFront [_, _, _, _, _, _, _] (toFront [_, _, _, _, _, _, _] (List.Perm.refl _)))) (fun a w s fs gs hf hg => by obtain rfl := hf.unnil; obtain rfl := hg.unnil; exact c_disk_Disk_Sync k _ _ e_x6 _ _ _ _ _ _ (ownL s) (disL s) (nodL s) (s.arg (.tmp rfl))) (by exact fun _ => rfl)) fun gg28 a28 w28 s28 => ?_; clear s27
      obtain ⟨v16, v17⟩ := gg28
      refine wpList_nil ?_
      refine then_normal ?_
      refine hK10 _ _ ?_
      have s29 := s28.sub (.cons (t := 0) rfl (.cons (t := 3) rfl (.cons (t := 4) rfl (.cons (t := 5) rfl (.cons (t := 6) rfl (.cons (t := 10) rfl .nil)))))); clear s28
      refine wp_seq_k fun K11 hK11 => ?_
      refine wp_seq_k fun K12 hK12 => ?_
      refine wp_region_lit ?_
      refine seq_op s29 rfl rfl (of_decide_eq_true rfl) (ob_assign rfl (opd_int rfl)) fun a30 w30 s30 => ?_; clear s29
      refine wpList_nil ?_
      refine then_normal ?_
      refine hK12 _ _ ?_
      have s31 := s30.sub (.cons (t := 0) rfl (.cons (t := 3) rfl (.cons (t := 4) rfl (.cons (t := 5) rfl (.cons (t := 6) rfl (.cons (t := 10) rfl (.cons (t := 11) rfl .nil))))))); clear s30
      have hj2 : ∀ (y14 : Int) (y15 : Bool) (y16 : (List (List Int))) (y17 : (List disk_write)) (v18 : Value) (v19 : Value) (a : Act) (w : World), (caballaw12_DiskAll.j2 k y8 y9 y1 y2 y7 x5) y14 y15 y16 y17 = some r → St ⟨149, w0, ok, []⟩ [BF b1 87 (ko_disk_Disk_0_1 v8 v9) (⟨[], [], y1, y2⟩ : disk_Disk), BF b2 87 (ko_disk_Disk_0_1 v14 v15) (⟨[], [], x5.2.fuse, x5.2.dead⟩ : disk_Disk), BF b3 87 (ko_disk_Disk_0_1 v18 v19) (⟨[], [], y14, y15⟩ : disk_Disk), RowF v7 5 (kint .u8) y7, RowF v8 91 (karr 256 (kint .u8)) y8, RowF v9 93 k_disk_write y9, RowF v14 91 (karr 256 (kint .u8)) x5.2.firm, RowF v15 93 k_disk_write x5.2.loose, RowF v18 91 (karr 256 (kint .u8)) y16, RowF v19 93 k_disk_write y17] [(3, (ptrB b1 0)), (4, (ptrB b2 0)), (5, (ptrB b3 0)), (6, (is v7)), (10, ((kint .i64).V x5.1))] a w → K11 a w := by
        intro y14 y15 y16 y17 v18 v19 a32 w32 h10 s32
        unfold caballaw12_DiskAll.j2 at h10
        refine hK11 _ _ ?_
        refine wp_seq_k fun K13 hK13 => ?_
        refine wp_region_lit ?_
        refine seq_opx (B' := (fun b4 : Nat => [BF b4 41 (karr 3 kstr) (List.replicate 3 []), BF b1 87 (ko_disk_Disk_0_1 v8 v9) (⟨[], [], y1, y2⟩ : disk_Disk), BF b2 87 (ko_disk_Disk_0_1 v14 v15) (⟨[], [], x5.2.fuse, x5.2.dead⟩ : disk_Disk), BF b3 87 (ko_disk_Disk_0_1 v18 v19) (⟨[], [], y14, y15⟩ : disk_Disk), RowF v7 5 (kint .u8) y7, RowF v8 91 (karr 256 (kint .u8)) y8, RowF v9 93 k_disk_write y9, RowF v14 91 (karr 256 (kint .u8)) x5.2.firm, RowF v15 93 k_disk_write x5.2.loose, RowF v18 91 (karr 256 (kint .u8)) y16, RowF v19 93 k_disk_write y17])) s32 rfl rfl (of_decide_eq_true rfl) (ob_new (k := (karr 3 kstr)) rfl zz41 (Zr.arr 3 Zr.str)) fun b4 a33 w33 s33 => ?_; clear s32
        refine wpList_nil ?_
        refine then_normal ?_
        refine hK13 _ _ ?_
        have s34 := s33.sub (.cons (t := 3) rfl (.cons (t := 4) rfl (.cons (t := 5) rfl (.cons (t := 6) rfl (.cons (t := 10) rfl (.cons (t := 12) rfl .nil)))))); clear s33
        refine wp_seq_k fun K14 hK14 => ?_
        refine wp_seq_k fun K15 hK15 => ?_
        refine wp_region_lit ?_
        refine seq_op s34 rfl rfl (of_decide_eq_true rfl) (ob_assign rfl (opd_int rfl)) fun a35 w35 s35 => ?_; clear s34
        refine wpList_nil ?_
        refine then_normal ?_
        refine hK15 _ _ ?_
        have s36 := s35.sub (.cons (t := 3) rfl (.cons (t := 4) rfl (.cons (t := 5) rfl (.cons (t := 6) rfl (.cons (t := 10) rfl (.cons (t := 12) rfl (.cons (t := 13) rfl .nil))))))); clear s35
        have hj3 : ∀ (y18 : (List (List Int))) (a : Act) (w : World), (caballaw12_DiskAll.j3 k y8 y9 y1 y2 y7 y16 y17 y14 y15 x5) y18 = some r → St ⟨149, w0, ok, []⟩ [BF b1 87 (ko_disk_Disk_0_1 v8 v9) (⟨[], [], y1, y2⟩ : disk_Disk), BF b2 87 (ko_disk_Disk_0_1 v14 v15) (⟨[], [], x5.2.fuse, x5.2.dead⟩ : disk_Disk), BF b3 87 (ko_disk_Disk_0_1 v18 v19) (⟨[], [], y14, y15⟩ : disk_Disk), BF b4 41 (karr 3 kstr) y18, RowF v7 5 (kint .u8) y7, RowF v8 91 (karr 256 (kint .u8)) y8, RowF v9 93 k_disk_write y9, RowF v14 91 (karr 256 (kint .u8)) x5.2.firm, RowF v15 93 k_disk_write x5.2.loose, RowF v18 91 (karr 256 (kint .u8)) y16, RowF v19 93 k_disk_write y17] [(3, (ptrB b1 0)), (4, (ptrB b2 0)), (5, (ptrB b3 0)), (6, (is v7)), (10, ((kint .i64).V x5.1)), (12, (ptrB b4 0))] a w → K14 a w := by
          intro y18 a37 w37 h11 s37
          unfold caballaw12_DiskAll.j3 at h11
          refine hK14 _ _ ?_
          refine wp_seq_k fun K16 hK16 => ?_
          refine wp_region_lit ?_
          refine seq_op s37 rfl rfl (of_decide_eq_true rfl) (ob_move rfl (.tmp rfl)) fun a38 w38 s38 => ?_; clear s37
          refine seq_op s38 rfl rfl (of_decide_eq_true rfl) (ob_move rfl (.tmp rfl)) fun a39 w39 s39 => ?_; clear s38
          obtain ⟨x7, e_x7, h12⟩ := bind_some h11; clear h11
          refine seq_opx (B' := (fun gg : Value × Value => [RowF v7 5 (kint .u8) y7, BF b2 87 (ko_disk_Disk_0_1 v14 v15) (⟨[], [], x5.2.fuse, x5.2.dead⟩ : disk_Disk), BF b3 87 (ko_disk_Disk_0_1 v18 v19) (⟨[], [], y14, y15⟩ : disk_Disk), BF b4 41 (karr 3 kstr) y18, RowF v14 91 (karr 256 (kint .u8)) x5.2.firm, RowF v15 93 k_disk_write x5.2.loose, RowF v18 91 (karr 256 (kint .u8)) y16, RowF v19 93 k_disk_write y17, BF b1 87 (ko_disk_Disk_0_1 gg.1 gg.2) (⟨[], [], x7.fuse, x7.dead⟩ : disk_Disk), RowF gg.1 91 (karr 256 (kint .u8)) x7.firm, RowF gg.2 93 k_disk_write x7.loose])) s39 rfl rfl (of_decide_eq_true rfl) ((ob_lendX (L := [_, _, _, _, _, _, _, _]) (toFront [_, _, _, _] (toFront [_] (toFront [_] (toFront [_] (toFront [_, _, _] (toFront [_, _, _] (toFront [_, _, _] (toFront [_, _, _] (List.Perm.refl _))))))))) (.cons (t := 103) rfl (lendRow (.head _)) .nil) (fun _ => (Flat.res0)) (fun _ => (.cons (FlatO.bf (KFlat.iso (KFlat.pair (KFlat.kis _) (KFlat.pair (KFlat.kis _) (KFlat.pair (KFlat.int _) (KFlat.pair KFlat.bool KFlat.nil)))))) (.cons (FlatO.row (KFlat.arr (KFlat.int _))) (.cons (FlatO.row kf_disk_write) FlatL.nil)))) (fun _ _ => ob_callL (args := [_, _]) (L := [_, _, _]) (D := []) rfl .direct hb17 (List.Perm.refl _) (fun a w s fs gs hf hg => by obtain rfl := hf.unnil; obtain rfl := hg.unnil; exact c_disk_Disk_Crash k _ _ _ e_x7 _ _ _ _ _ _ _ (ownL s) (disL s) (nodL s) (s.arg (.tmp rfl)) (s.arg (.tmp rfl))) (by exact fun _ => rfl)))) fun gg40 a40 w40 s40 => ?_; clear s39
          obtain ⟨v20, v21⟩ := gg40
          refine wpList_nil ?_
          refine then_normal ?_
          refine hK16 _ _ ?_
          have s41 := s40.sub (.cons (t := 3) rfl (.cons (t := 4) rfl (.cons (t := 5) rfl (.cons (t := 10) rfl (.cons (t := 12) rfl .nil))))); clear s40
          have s42 := St.drop (A := []) s41; clear s41
          refine wp_seq_k fun K17 hK17 => ?_
          refine wp_region_lit ?_
          refine seq_op s42 rfl rfl (of_decide_eq_true rfl) (ob_move rfl (.tmp rfl)) fun a43 w43 s43 => ?_; clear s42
          obtain ⟨x8, e_x8, h13⟩ := bind_some h12; clear h12
          refine seq_opx (B' := (fun gg : Value × Value => [BF b3 87 (ko_disk_Disk_0_1 gg.1 gg.2) (⟨[], [], x8.fuse, x8.dead⟩ : disk_Disk), RowF gg.1 91 (karr 256 (kint .u8)) x8.firm, RowF gg.2 93 k_disk_write x8.loose, BF b2 87 (ko_disk_Disk_0_1 v14 v15) (⟨[], [], x5.2.fuse, x5.2.dead⟩ : disk_Disk), BF b4 41 (karr 3 kstr) y18, RowF v14 91 (karr 256 (kint .u8)) x5.2.firm, RowF v15 93 k_disk_write x5.2.loose, BF b1 87 (ko_disk_Disk_0_1 v20 v21) (⟨[], [], x7.fuse, x7.dead⟩ : disk_Disk), RowF v20 91 (karr 256 (kint .u8)) x7.firm, RowF v21 93 k_disk_write x7.loose])) s43 rfl rfl (of_decide_eq_true rfl) (ob_callL (args := [_, _]) (L := [_, _, _]) rfl .direct hb17 (toFront [_] (toFront [_, _, _, _] (toFront [_, _, _, _] (List.Perm.refl _)))) (fun a w s fs gs hf hg => by obtain rfl := hf.unnil; obtain rfl := hg.unnil; exact c_disk_Disk_Crash k _ _ _ e_x8 _ _ _ _ _ _ _ (ownL s) (disL s) (nodL s) (s.arg (.tmp rfl)) (s.arg opd_nil)) (by exact fun _ => rfl)) fun gg44 a44 w44 s44 => ?_; clear s43
          obtain ⟨v22, v23⟩ := gg44
          refine wpList_nil ?_
          refine then_normal ?_
          refine hK17 _ _ ?_
          have s45 := s44.sub (.cons (t := 3) rfl (.cons (t := 4) rfl (.cons (t := 5) rfl (.cons (t := 10) rfl (.cons (t := 12) rfl .nil))))); clear s44
          refine wp_seq_k fun K18 hK18 => ?_
          refine wp_seq_k fun K19 hK19 => ?_
          refine wp_region_lit ?_
          refine seq_op s45 rfl rfl (of_decide_eq_true rfl) (ob_assign rfl (opd_int rfl)) fun a46 w46 s46 => ?_; clear s45
          refine wpList_nil ?_
          refine then_normal ?_
          refine hK19 _ _ ?_
          have s47 := s46.sub (.cons (t := 3) rfl (.cons (t := 4) rfl (.cons (t := 5) rfl (.cons (t := 10) rfl (.cons (t := 12) rfl (.cons (t := 14) rfl .nil)))))); clear s46
          have hj4 : ∀ (a : Act) (w : World), (caballaw12_DiskAll.j4 k x5) = some r → St ⟨149, w0, ok, []⟩ [] [(10, ((kint .i64).V x5.1))] a w → K18 a w := by
            intro a48 w48 h14 s48
            unfold caballaw12_DiskAll.j4 at h14
            refine hK18 _ _ ?_
            refine wp_seq_k fun K20 hK20 => ?_
            refine wp_region_lit ?_
            obtain ⟨x9, e_x9, h15⟩ := bind_some h14; clear h14
            refine seq_op s48 rfl rfl (of_decide_eq_true rfl) (ob_callD (args := []) rfl .direct hb11 (fun a w s fs gs hf hg => by obtain rfl := hf.unnil; obtain rfl := hg.unnil; exact c_caballaw12_alive k _ e_x9 _ _)) fun a49 w49 s49 => ?_; clear s48
            refine seq_op s49 rfl rfl (of_decide_eq_true rfl) (ob_move rfl (.tmp rfl)) fun a50 w50 s50 => ?_; clear s49
            refine seq_opg s50 rfl rfl rfl rfl (of_decide_eq_true rfl) (fun hb => ob_move rfl (.tmp rfl)) fun a51 w51 s51 => ?_; clear s50
            refine seq_opg s51 rfl rfl rfl rfl (of_decide_eq_true rfl) (fun hb => (Ob.uncond (t := 146) hb rfl (ob_eql rfl (.tmp rfl) (opd_int rfl)))) fun a52 w52 s52 => ?_; clear s51
            refine seq_op s52 rfl rfl (of_decide_eq_true rfl) (ob_and2 rfl (.tmp rfl) (.tmp rfl) opd_bool) fun a53 w53 s53 => ?_; clear s52
            refine seq_op s53 rfl rfl (of_decide_eq_true rfl) (ob_assign rfl (.tmp rfl)) fun a54 w54 s54 => ?_; clear s53
            refine wpList_nil ?_
            refine then_normal ?_
            refine hK20 _ _ ?_
            have s55 := s54.sub (.cons (t := 2) rfl .nil); clear s54
            refine wp_ret ?_
            obtain rfl := Option.some.inj h15
            exact leave s55 (.inl rfl) rfl (.cons (.tmp rfl) .nil)
          refine wp_block ?_
          have s56 := s47.perm (toFront [_, _, _, _, _, _, _] (toFront [_, _, _] (toFront [] (toFront [_, _] (toFront [_, _, _, _] (toFront [_, _, _, _] (toFront [_, _] (toFront [_, _] (toFront [] (toFront [] (List.Perm.refl _))))))))))); clear s47
          refine wp_loop_fuel (fun m (q : Int) => caballaw12_DiskAll.l1 k x8 x7 x5 y18 m q) r (fun _ => rfl) (fun q a w => St ⟨149, w0, ok, []⟩ [BF b1 87 (ko_disk_Disk_0_1 v20 v21) (⟨[], [], x7.fuse, x7.dead⟩ : disk_Disk), BF b2 87 (ko_disk_Disk_0_1 v14 v15) (⟨[], [], x5.2.fuse, x5.2.dead⟩ : disk_Disk), BF b3 87 (ko_disk_Disk_0_1 v22 v23) (⟨[], [], x8.fuse, x8.dead⟩ : disk_Disk), BF b4 41 (karr 3 kstr) y18, RowF v20 91 (karr 256 (kint .u8)) x7.firm, RowF v21 93 k_disk_write x7.loose, RowF v14 91 (karr 256 (kint .u8)) x5.2.firm, RowF v15 93 k_disk_write x5.2.loose, RowF v22 91 (karr 256 (kint .u8)) x8.firm, RowF v23 93 k_disk_write x8.loose] [(3, (ptrB b1 0)), (4, (ptrB b2 0)), (5, (ptrB b3 0)), (10, ((kint .i64).V x5.1)), (12, (ptrB b4 0)), (14, ((kint .i64).V q))] a w) ?_ k (0 : Int) _ _ h13 (s56.sub (.cons rfl (.cons rfl (.cons rfl (.cons rfl (.cons rfl (.cons rfl .nil)))))))
          rintro n1 y19 a57 w57 h16 s57 K21 hK21
          replace h16 : caballaw12_DiskAll.l1 k x8 x7 x5 y18 (n1 + 1) y19 = some r := h16; rw [caballaw12_DiskAll.l1] at h16
          have h17 := h16; clear h16
          refine wp_seq_k fun K22 hK22 => ?_
          refine wp_seq_k fun K23 hK23 => ?_
          refine wp_region_lit ?_
          refine seq_op s57 rfl rfl (of_decide_eq_true rfl) (ob_move rfl (.tmp rfl)) fun a58 w58 s58 => ?_; clear s57
          refine seq_op s58 rfl rfl (of_decide_eq_true rfl) (ob_lss rfl (.tmp rfl) (opd_int rfl)) fun a59 w59 s59 => ?_; clear s58
          refine wpList_nil ?_
          refine then_normal ?_
          refine hK23 _ _ ?_
          have s60 := s59.sub (.cons (t := 3) rfl (.cons (t := 4) rfl (.cons (t := 5) rfl (.cons (t := 10) rfl (.cons (t := 12) rfl (.cons (t := 14) rfl (.cons (t := 108) rfl .nil))))))); clear s59
          refine cond_split s60 (.tmp rfl) (fun hc2 => ?_) (fun hc2 => ?_)
          · replace h17 := ite_t hc2 h17
            have h18 := h17; clear h17
            refine wp_skip ?_
            refine then_normal ?_
            refine hK22 _ _ ?_
            have s61 := s60.sub (.cons (t := 3) rfl (.cons (t := 4) rfl (.cons (t := 5) rfl (.cons (t := 10) rfl (.cons (t := 12) rfl (.cons (t := 14) rfl .nil)))))); clear s60
            refine wp_seq_k fun K24 hK24 => ?_
            refine wp_block ?_
            refine wp_seq_k fun K25 hK25 => ?_
            refine wp_region_lit ?_
            refine seq_op s61 rfl rfl (of_decide_eq_true rfl) (ob_move rfl (.tmp rfl)) fun a62 w62 s62 => ?_; clear s61
            refine seq_op s62 rfl rfl (of_decide_eq_true rfl) (ob_move rfl (.tmp rfl)) fun a63 w63 s63 => ?_; clear s62
            obtain ⟨x10, e_x10, h19⟩ := bind_some h18; clear h18
            refine seq_op s63 rfl rfl (of_decide_eq_true rfl) ((ob_lendG (L := [_, _, _]) (toFront [_, _] (toFront [_, _, _, _, _, _, _] (toFront [_, _, _, _, _, _, _] (List.Perm.refl _)))) (.cons (t := 112) rfl (lendObj (K' := k_disk_Disk) (X' := x8) (.head _) rfl (upo_disk_Disk_0_1 rfl (.row (LetAll.row (.tail _ (.head _)))) (.row (LetAll.row (.tail _ (.tail _ (.head _))))))) .nil) (Flat.res2 (Flat.V KFlat.str) (Flat.V (KFlat.int _))) (fun _ => ob_callD (args := [_, _]) rfl .direct hb14 (fun a w s fs gs hf hg => by obtain rfl := hf.unnil; obtain rfl := hg.unnil; exact c_disk_Disk_Read k _ _ _ e_x10 _ _ _ _ (s.arg (.tmp rfl)) (s.arg (.tmp rfl)))))) fun a64 w64 s64 => ?_; clear s63
            refine seq_op s64 rfl rfl (of_decide_eq_true rfl) (ob_move rfl (.tmp rfl)) fun a65 w65 s65 => ?_; clear s64
            refine seq_op s65 rfl rfl (of_decide_eq_true rfl) (ob_extract rfl (.tmp rfl) rfl) fun a66 w66 s66 => ?_; clear s65
            refine seq_op s66 rfl rfl (of_decide_eq_true rfl) (ob_extract rfl (.tmp rfl) rfl) fun a67 w67 s67 => ?_; clear s66
            refine seq_op s67 rfl rfl (of_decide_eq_true rfl) (ob_assign rfl (.tmp rfl)) fun a68 w68 s68 => ?_; clear s67
            refine seq_op s68 rfl rfl (of_decide_eq_true rfl) (ob_assign rfl (.tmp rfl)) fun a69 w69 s69 => ?_; clear s68
            refine wpList_nil ?_
            refine then_normal ?_
            refine hK25 _ _ ?_
            have s70 := s69.sub (.cons (t := 3) rfl (.cons (t := 4) rfl (.cons (t := 5) rfl (.cons (t := 10) rfl (.cons (t := 12) rfl (.cons (t := 14) rfl (.cons (t := 15) rfl (.cons (t := 16) rfl .nil)))))))); clear s69
            refine wp_seq_k fun K26 hK26 => ?_
            obtain ⟨x11, e_x11, h20⟩ := bind_some h19; clear h19
            obtain ⟨x12, e_x12, h21⟩ := bind_some h20; clear h20
            obtain ⟨x13, e_x13, h22⟩ := bind_some h21; clear h21
            obtain ⟨g1, h23⟩ := guard_some h22; clear h22
            obtain ⟨x14, e_x14, h24⟩ := bind_some h23; clear h23
            obtain ⟨g2, h25⟩ := guard_some h24; clear h24
            obtain ⟨x15, e_x15, h26⟩ := bind_some h25; clear h25
            refine wp_goes (Fs := [(ptrB b1 0), ((kint .i64).V y19), (kstr.V x11), (ptrB b2 0), ((kint .i64).V y19), (kstr.V x12), (kbool.V (!decide (x11 = x12))), (kbool.V (!decide (x11 = x12))), (Fact.when ((!decide (x11 = x12)) == false) (ptrB b3 0)), (Fact.when ((!decide (x11 = x12)) == false) ((kint .i64).V y19)), (Fact.when ((!decide (x11 = x12)) == false) (kstr.V x13)), (Fact.when ((!decide (x11 = x12)) == false) ((kint .i64).V y19)), (Fact.when ((!decide (x11 = x12)) == false) (ptrB b4 (y19.toNat * 1))), (Fact.when ((!decide (x11 = x12)) == false) (kstr.V x14)), (Fact.when ((!decide (x11 = x12)) == false) (kbool.V (!decide (x13 = x14)))), (kbool.V (if (!decide (x11 = x12)) then true else (!decide (x13 = x14)))), (kbool.V (if (!decide (x11 = x12)) then true else (!decide (x13 = x14)))), (Fact.when ((if (!decide (x11 = x12)) then true else (!decide (x13 = x14))) == false) (kstr.V x10.1)), (Fact.when ((if (!decide (x11 = x12)) then true else (!decide (x13 = x14))) == false) ((kint .i64).V y19)), (Fact.when ((if (!decide (x11 = x12)) then true else (!decide (x13 = x14))) == false) (ptrB b4 (y19.toNat * 1))), (Fact.when ((if (!decide (x11 = x12)) then true else (!decide (x13 = x14))) == false) (kstr.V x15))]) (bits := [0, 0, 3, 0, 0, 31, 63, 127, 255, 255, 1023, 255, 2303, 6399, 16383, 32767, 65535, 131071, 131071, 393215, 917503, 2097151, 4194303, 8388607, 16777215, 33554431, 67108863]) (m := 21) (todo := 0) mx s70 ?_; clear s70
            refine goes_last (by kernel_rfl) rfl (opsS_cons (.plain _ (Av.old (t := 3) rfl rfl Av.nil) rfl rfl (ob_move rfl (.tmp rfl))) (opsS_cons (.plain _ (Av.old (t := 14) rfl rfl Av.nil) rfl rfl (ob_move rfl (.tmp rfl))) (opsS_cons (.plain _ (Av.new (j := 0) rfl rfl rfl (Av.new (j := 1) rfl rfl rfl Av.nil)) rfl rfl ((ob_lendG (L := [_, _, _]) (toFront [] (toFront [_, _, _] (toFront [_, _, _] (List.Perm.refl _)))) (.cons (t := 117) rfl (lendObj (K' := k_disk_Disk) (X' := x7) (.head _) rfl (upo_disk_Disk_0_1 rfl (.row (LetAll.row (.tail _ (.head _)))) (.row (LetAll.row (.tail _ (.tail _ (.head _))))))) .nil) (Flat.res1 (Flat.V KFlat.str)) (fun _ => ob_callD (args := [_, _]) rfl .direct hb18 (fun a w s fs gs hf hg => by obtain rfl := hf.unnil; obtain rfl := hg.unnil; exact c_disk_Disk_Settled k _ _ _ e_x11 _ _ _ _ (s.arg (.tmp rfl)) (s.arg (.tmp rfl))))))) (opsS_cons (.plain _ (Av.old (t := 4) rfl rfl Av.nil) rfl rfl (ob_move rfl (.tmp rfl))) (opsS_cons (.plain _ (Av.old (t := 14) rfl rfl Av.nil) rfl rfl (ob_move rfl (.tmp rfl))) (opsS_cons (.plain _ (Av.new (j := 3) rfl rfl rfl (Av.new (j := 4) rfl rfl rfl Av.nil)) rfl rfl ((ob_lendG (L := [_, _, _]) (toFront [_] (toFront [_, _, _, _, _] (toFront [_, _, _, _, _] (List.Perm.refl _)))) (.cons (t := 120) rfl (lendObj (K' := k_disk_Disk) (X' := x5.2) (.head _) rfl (upo_disk_Disk_0_1 rfl (.row (LetAll.row (.tail _ (.head _)))) (.row (LetAll.row (.tail _ (.tail _ (.head _))))))) .nil) (Flat.res1 (Flat.V KFlat.str)) (fun _ => ob_callD (args := [_, _]) rfl .direct hb18 (fun a w s fs gs hf hg => by obtain rfl := hf.unnil; obtain rfl := hg.unnil; exact c_disk_Disk_Settled k _ _ _ e_x12 _ _ _ _ (s.arg (.tmp rfl)) (s.arg (.tmp rfl))))))) (opsS_cons (.plain _ (Av.new (j := 2) rfl rfl rfl (Av.new (j := 5) rfl rfl rfl Av.nil)) rfl rfl (ob_sneq rfl (.tmp rfl) (.tmp rfl))) (opsS_cons (.plain _ (Av.new (j := 6) rfl rfl rfl Av.nil) rfl rfl (ob_move rfl (.tmp rfl))) (opsS_cons (.guarded _ (Av.old (t := 5) rfl rfl (Av.new (j := 7) rfl rfl rfl Av.nil)) rfl rfl rfl rfl (fun hb => ob_move rfl (.tmp rfl))) (opsS_cons (.guarded _ (Av.old (t := 14) rfl rfl (Av.new (j := 7) rfl rfl rfl Av.nil)) rfl rfl rfl rfl (fun hb => ob_move rfl (.tmp rfl))) (opsS_cons (.guarded _ (Av.new (j := 7) rfl rfl rfl (Av.new (j := 8) rfl rfl rfl (Av.new (j := 9) rfl rfl rfl Av.nil))) rfl rfl rfl rfl (fun hb => (Ob.uncond (t := 126) hb rfl ((Ob.uncond (t := 125) hb rfl ((ob_lendG (L := [_, _, _]) (toFront [_, _] (toFront [_, _, _, _, _, _, _] (toFront [_, _, _, _, _, _, _] (List.Perm.refl _)))) (.cons (t := 125) rfl (lendObj (K' := k_disk_Disk) (X' := x8) (.head _) rfl (upo_disk_Disk_0_1 rfl (.row (LetAll.row (.tail _ (.head _)))) (.row (LetAll.row (.tail _ (.tail _ (.head _))))))) .nil) (Flat.res1 (Flat.V KFlat.str)) (fun _ => ob_callD (args := [_, _]) rfl .direct hb18 (fun a w s fs gs hf hg => by obtain rfl := hf.unnil; obtain rfl := hg.unnil; exact c_disk_Disk_Settled k _ _ _ (ite_t hb e_x13) _ _ _ _ (s.arg (.tmp rfl)) (s.arg (.tmp rfl))))))))))) (opsS_cons (.guarded _ (Av.old (t := 14) rfl rfl (Av.new (j := 7) rfl rfl rfl Av.nil)) rfl rfl rfl rfl (fun hb => ob_move rfl (.tmp rfl))) (opsS_cons (.guarded _ (Av.old (t := 12) rfl rfl (Av.new (j := 7) rfl rfl rfl (Av.new (j := 11) rfl rfl rfl Av.nil))) rfl rfl rfl rfl (fun hb => (Ob.uncond (t := 128) hb rfl (ob_indexAddr rfl Try.underlying41 sz9 (.tmp rfl) (.tmp rfl) (g1 hb).1 (g1 hb).2 (Nat.zero_add _))))) (opsS_cons (.guarded _ (Av.new (j := 7) rfl rfl rfl (Av.new (j := 12) rfl rfl rfl Av.nil)) rfl rfl rfl rfl (fun hb => (Ob.uncond (t := 129) hb rfl (ob_load rfl tk9 (.tmp rfl) (.tail _ (.tail _ (.tail _ (.head _)))) (LG.arrA (ite_t hb e_x14)))))) (opsS_cons (.guarded _ (Av.new (j := 7) rfl rfl rfl (Av.new (j := 10) rfl rfl rfl (Av.new (j := 13) rfl rfl rfl Av.nil))) rfl rfl rfl rfl (fun hb => (Ob.uncond (t := 130) hb rfl ((Ob.uncond (t := 127) hb rfl (ob_sneq rfl (.tmp rfl) (.tmp rfl))))))) (opsS_cons (.plain _ (Av.new (j := 7) rfl rfl rfl (Av.new (j := 14) rfl rfl rfl Av.nil)) rfl rfl (ob_or2 rfl (.tmp rfl) opd_bool (.tmp rfl))) (opsS_cons (.plain _ (Av.new (j := 15) rfl rfl rfl Av.nil) rfl rfl (ob_move rfl (.tmp rfl))) (opsS_cons (.guarded _ (Av.old (t := 15) rfl rfl (Av.new (j := 16) rfl rfl rfl Av.nil)) rfl rfl rfl rfl (fun hb => ob_move rfl (.tmp rfl))) (opsS_cons (.guarded _ (Av.old (t := 14) rfl rfl (Av.new (j := 16) rfl rfl rfl Av.nil)) rfl rfl rfl rfl (fun hb => ob_move rfl (.tmp rfl))) (opsS_cons (.guarded _ (Av.old (t := 12) rfl rfl (Av.new (j := 16) rfl rfl rfl (Av.new (j := 18) rfl rfl rfl Av.nil))) rfl rfl rfl rfl (fun hb => (Ob.uncond (t := 135) hb rfl (ob_indexAddr rfl Try.underlying41 sz9 (.tmp rfl) (.tmp rfl) (g2 hb).1 (g2 hb).2 (Nat.zero_add _))))) (opsS_cons (.guarded _ (Av.new (j := 16) rfl rfl rfl (Av.new (j := 19) rfl rfl rfl Av.nil)) rfl rfl rfl rfl (fun hb => (Ob.uncond (t := 136) hb rfl (ob_load rfl tk9 (.tmp rfl) (.tail _ (.tail _ (.tail _ (.head _)))) (LG.arrA (ite_t hb e_x15)))))) opsS_nil))))))))))))))))))))) (out_old (t := 3) rfl rfl (out_old (t := 4) rfl rfl (out_old (t := 5) rfl rfl (out_old (t := 10) rfl rfl (out_old (t := 12) rfl rfl (out_old (t := 14) rfl rfl (out_old (t := 16) rfl rfl (out_new (i := 16) (by decide) rfl rfl (out_new (i := 17) (by decide) rfl rfl (out_new (i := 20) (by decide) rfl rfl out_nil)))))))))) fun a71 w71 s71 => ?_
            refine seq_opg s71 rfl rfl rfl rfl (of_decide_eq_true rfl) (fun hb => (Ob.uncond (t := 137) hb rfl ((Ob.uncond (t := 134) hb rfl (ob_sneq rfl (.tmp rfl) (.tmp rfl)))))) fun a72 w72 s72 => ?_; clear s71
            obtain ⟨x16, e_x16, h27⟩ := bind_some h26; clear h26; replace e_x16 := Option.some.inj e_x16
            refine seq_op s72 rfl rfl (of_decide_eq_true rfl) ((ob_or2 rfl (.tmp rfl) opd_bool (.tmp rfl)).nm e_x16) fun a73 w73 s73 => ?_; clear s72
            refine seq_op s73 rfl rfl (of_decide_eq_true rfl) (ob_move rfl (.tmp rfl)) fun a74 w74 s74 => ?_; clear s73
            refine seq_opg s74 rfl rfl rfl rfl (of_decide_eq_true rfl) (fun hb => ob_move rfl (.tmp rfl)) fun a75 w75 s75 => ?_; clear s74
            refine seq_opg s75 rfl rfl rfl rfl (of_decide_eq_true rfl) (fun hb => (Ob.uncond (t := 141) hb rfl (ob_neq rfl (.tmp rfl) (opd_int rfl)))) fun a76 w76 s76 => ?_; clear s75
            refine seq_op s76 rfl rfl (of_decide_eq_true rfl) (ob_or2 rfl (.tmp rfl) opd_bool (.tmp rfl)) fun a77 w77 s77 => ?_; clear s76
            refine wpList_nil ?_
            refine then_normal ?_
            refine hK26 _ _ ?_
            have s78 := s77.sub (.cons (t := 3) rfl (.cons (t := 4) rfl (.cons (t := 5) rfl (.cons (t := 10) rfl (.cons (t := 12) rfl (.cons (t := 14) rfl (.cons (t := 143) rfl .nil))))))); clear s77
            refine cond_split s78 (.tmp rfl) (fun hc3 => ?_) (fun hc3 => ?_)
            · replace h27 := ite_t hc3 h27
              have h28 := h27; clear h27
              refine wp_seq_k fun K27 hK27 => ?_
              refine wp_region_lit ?_
              refine seq_op s78 rfl rfl (of_decide_eq_true rfl) (ob_assign rfl opd_bool) fun a79 w79 s79 => ?_; clear s78
              refine wpList_nil ?_
              refine then_normal ?_
              refine hK27 _ _ ?_
              have s80 := s79.sub (.cons (t := 2) rfl .nil); clear s79
              have s81 := St.drop (A := []) s80; clear s80
              have s82 := St.drop (A := []) s81; clear s81
              have s83 := St.drop (A := []) s82; clear s82
              have s84 := St.drop (A := []) s83; clear s83
              have s85 := St.drop (A := []) s84; clear s84
              have s86 := St.drop (A := []) s85; clear s85
              have s87 := St.drop (A := []) s86; clear s86
              have s88 := St.drop (A := []) s87; clear s87
              have s89 := St.drop (A := []) s88; clear s88
              have s90 := St.drop (A := []) s89; clear s89
              refine wp_ret ?_
              obtain rfl := Option.some.inj h28
              exact leave s90 (.inl rfl) rfl (.cons (.tmp rfl) .nil)
            · replace h27 := ite_f hc3 h27
              have h29 := h27; clear h27
              refine wp_skip ?_
              refine in_normal ?_
              refine then_normal ?_
              refine hK24 _ _ ?_
              have s91 := s78.sub (.cons (t := 3) rfl (.cons (t := 4) rfl (.cons (t := 5) rfl (.cons (t := 10) rfl (.cons (t := 12) rfl (.cons (t := 14) rfl .nil)))))); clear s78
              refine wp_region_lit ?_
              refine seq_op s91 rfl rfl (of_decide_eq_true rfl) (ob_move rfl (.tmp rfl)) fun a92 w92 s92 => ?_; clear s91
              refine seq_op s92 rfl rfl (of_decide_eq_true rfl) (ob_add rfl (.tmp rfl) (opd_int rfl)) fun a93 w93 s93 => ?_; clear s92
              refine seq_op s93 rfl rfl (of_decide_eq_true rfl) (ob_assign rfl (.tmp rfl)) fun a94 w94 s94 => ?_; clear s93
              refine wpList_nil ?_
              refine then_normal ?_
              exact hK21 (iadd .i64 y19 (1 : Int)) _ _ h29 (s94.sub (.cons rfl (.cons rfl (.cons rfl (.cons rfl (.cons rfl (.cons rfl .nil)))))))
          · replace h17 := ite_f hc2 h17
            have h30 := h17; clear h17
            refine wp_exit ?_
            refine (then_exit (then_exit (in_here ?_)))
            refine then_normal ?_
            have s95 := St.drop (A := []) s60; clear s60
            have s96 := St.drop (A := []) s95; clear s95
            have s97 := St.drop (A := []) s96; clear s96
            have s98 := St.drop (A := []) s97; clear s97
            have s99 := St.drop (A := []) s98; clear s98
            have s100 := St.drop (A := []) s99; clear s99
            have s101 := St.drop (A := []) s100; clear s100
            have s102 := St.drop (A := []) s101; clear s101
            have s103 := St.drop (A := []) s102; clear s102
            have s104 := St.drop (A := []) s103; clear s103
            exact hj4 _ _ h30 (s104.sub (.cons rfl .nil))
        refine wp_block ?_
        have s105 := s36.perm (toFront [_] (toFront [_] (toFront [_] (toFront [] (toFront [] (toFront [] (toFront [] (toFront [] (toFront [] (toFront [] (toFront [] (List.Perm.refl _)))))))))))); clear s36
        refine wp_loop_fuel (fun m (q : Int × (List (List Int))) => caballaw12_DiskAll.l2 k y16 y17 y14 y15 y8 y9 y1 y2 y7 x5 m q.1 q.2) r (fun _ => rfl) (fun q a w => St ⟨149, w0, ok, []⟩ [BF b1 87 (ko_disk_Disk_0_1 v8 v9) (⟨[], [], y1, y2⟩ : disk_Disk), BF b2 87 (ko_disk_Disk_0_1 v14 v15) (⟨[], [], x5.2.fuse, x5.2.dead⟩ : disk_Disk), BF b3 87 (ko_disk_Disk_0_1 v18 v19) (⟨[], [], y14, y15⟩ : disk_Disk), BF b4 41 (karr 3 kstr) q.2, RowF v7 5 (kint .u8) y7, RowF v8 91 (karr 256 (kint .u8)) y8, RowF v9 93 k_disk_write y9, RowF v14 91 (karr 256 (kint .u8)) x5.2.firm, RowF v15 93 k_disk_write x5.2.loose, RowF v18 91 (karr 256 (kint .u8)) y16, RowF v19 93 k_disk_write y17] [(3, (ptrB b1 0)), (4, (ptrB b2 0)), (5, (ptrB b3 0)), (6, (is v7)), (10, ((kint .i64).V x5.1)), (12, (ptrB b4 0)), (13, ((kint .i64).V q.1))] a w) ?_ k ((0 : Int), (List.replicate 3 [])) _ _ h10 (s105.sub (.cons rfl (.cons rfl (.cons rfl (.cons rfl (.cons rfl (.cons rfl (.cons rfl .nil))))))))
        rintro n2 ⟨y20, y21⟩ a106 w106 h31 s106 K28 hK28
        replace h31 : caballaw12_DiskAll.l2 k y16 y17 y14 y15 y8 y9 y1 y2 y7 x5 (n2 + 1) y20 y21 = some r := h31; rw [caballaw12_DiskAll.l2] at h31
        have h32 := h31; clear h31
        refine wp_seq_k fun K29 hK29 => ?_
        refine wp_seq_k fun K30 hK30 => ?_
        refine wp_region_lit ?_
        refine seq_op s106 rfl rfl (of_decide_eq_true rfl) (ob_move rfl (.tmp rfl)) fun a107 w107 s107 => ?_; clear s106
        refine seq_op s107 rfl rfl (of_decide_eq_true rfl) (ob_lss rfl (.tmp rfl) (opd_int rfl)) fun a108 w108 s108 => ?_; clear s107
        refine wpList_nil ?_
        refine then_normal ?_
        refine hK30 _ _ ?_
        have s109 := s108.sub (.cons (t := 3) rfl (.cons (t := 4) rfl (.cons (t := 5) rfl (.cons (t := 6) rfl (.cons (t := 10) rfl (.cons (t := 12) rfl (.cons (t := 13) rfl (.cons (t := 94) rfl .nil)))))))); clear s108
        refine cond_split s109 (.tmp rfl) (fun hc4 => ?_) (fun hc4 => ?_)
        · replace h32 := ite_t hc4 h32
          have h33 := h32; clear h32
          refine wp_skip ?_
          refine then_normal ?_
          refine hK29 _ _ ?_
          have s110 := s109.sub (.cons (t := 3) rfl (.cons (t := 4) rfl (.cons (t := 5) rfl (.cons (t := 6) rfl (.cons (t := 10) rfl (.cons (t := 12) rfl (.cons (t := 13) rfl .nil))))))); clear s109
          refine wp_seq_k fun K31 hK31 => ?_
          refine wp_block ?_
          refine wp_region_lit ?_
          refine seq_op s110 rfl rfl (of_decide_eq_true rfl) (ob_move rfl (.tmp rfl)) fun a111 w111 s111 => ?_; clear s110
          refine seq_op s111 rfl rfl (of_decide_eq_true rfl) (ob_move rfl (.tmp rfl)) fun a112 w112 s112 => ?_; clear s111
          refine seq_op s112 rfl rfl (of_decide_eq_true rfl) (ob_move rfl (.tmp rfl)) fun a113 w113 s113 => ?_; clear s112
          obtain ⟨x17, e_x17, h34⟩ := bind_some h33; clear h33
          refine seq_op s113 rfl rfl (of_decide_eq_true rfl) ((ob_lendG (L := [_, _, _]) (toFront [_, _] (toFront [_, _, _, _, _, _, _, _] (toFront [_, _, _, _, _, _, _, _] (List.Perm.refl _)))) (.cons (t := 98) rfl (lendObj (K' := k_disk_Disk) (X' := (⟨y16, y17, y14, y15⟩ : disk_Disk)) (.head _) rfl (upo_disk_Disk_0_1 rfl (.row (LetAll.row (.tail _ (.head _)))) (.row (LetAll.row (.tail _ (.tail _ (.head _))))))) .nil) (Flat.res1 (Flat.V KFlat.str)) (fun _ => ob_callD (args := [_, _]) rfl .direct hb18 (fun a w s fs gs hf hg => by obtain rfl := hf.unnil; obtain rfl := hg.unnil; exact c_disk_Disk_Settled k _ _ _ e_x17 _ _ _ _ (s.arg (.tmp rfl)) (s.arg (.tmp rfl)))))) fun a114 w114 s114 => ?_; clear s113
          obtain ⟨g3, h35⟩ := guard_some h34; clear h34
          refine seq_op s114 rfl rfl (of_decide_eq_true rfl) (ob_indexAddr rfl Try.underlying41 sz9 (.tmp rfl) (.tmp rfl) g3.1 g3.2 (Nat.zero_add _)) fun a115 w115 s115 => ?_; clear s114
          obtain ⟨x18, e_x18, h36⟩ := bind_some h35; clear h35
          refine seq_opx0 (B' := (fun _ : Unit => [BF b1 87 (ko_disk_Disk_0_1 v8 v9) (⟨[], [], y1, y2⟩ : disk_Disk), BF b2 87 (ko_disk_Disk_0_1 v14 v15) (⟨[], [], x5.2.fuse, x5.2.dead⟩ : disk_Disk), BF b3 87 (ko_disk_Disk_0_1 v18 v19) (⟨[], [], y14, y15⟩ : disk_Disk), BF b4 41 (karr 3 kstr) x18, RowF v7 5 (kint .u8) y7, RowF v8 91 (karr 256 (kint .u8)) y8, RowF v9 93 k_disk_write y9, RowF v14 91 (karr 256 (kint .u8)) x5.2.firm, RowF v15 93 k_disk_write x5.2.loose, RowF v18 91 (karr 256 (kint .u8)) y16, RowF v19 93 k_disk_write y17])) s115 rfl rfl (ob_store (A := [_, _, _]) rfl tk9 (.tmp rfl) (.tmp rfl) rfl (LS.arrS e_x18) rfl) fun _ a116 w116 s116 => ?_; clear s115
          refine wpList_nil ?_
          refine in_normal ?_
          refine then_normal ?_
          refine hK31 _ _ ?_
          have s117 := s116.sub (.cons (t := 3) rfl (.cons (t := 4) rfl (.cons (t := 5) rfl (.cons (t := 6) rfl (.cons (t := 10) rfl (.cons (t := 12) rfl (.cons (t := 13) rfl .nil))))))); clear s116
          refine wp_region_lit ?_
          refine seq_op s117 rfl rfl (of_decide_eq_true rfl) (ob_move rfl (.tmp rfl)) fun a118 w118 s118 => ?_; clear s117
          refine seq_op s118 rfl rfl (of_decide_eq_true rfl) (ob_add rfl (.tmp rfl) (opd_int rfl)) fun a119 w119 s119 => ?_; clear s118
          refine seq_op s119 rfl rfl (of_decide_eq_true rfl) (ob_assign rfl (.tmp rfl)) fun a120 w120 s120 => ?_; clear s119
          refine wpList_nil ?_
          refine then_normal ?_
          exact hK28 ((iadd .i64 y20 (1 : Int)), x18) _ _ h36 (s120.sub (.cons rfl (.cons rfl (.cons rfl (.cons rfl (.cons rfl (.cons rfl (.cons rfl .nil))))))))
        · replace h32 := ite_f hc4 h32
          have h37 := h32; clear h32
          refine wp_exit ?_
          refine (then_exit (then_exit (in_here ?_)))
          refine then_normal ?_
          exact hj3 y21 _ _ h37 (s109.sub (.cons rfl (.cons rfl (.cons rfl (.cons rfl (.cons rfl (.cons rfl .nil)))))))
      refine wp_block ?_
      have s121 := s31.perm (toFront [_, _, _, _, _, _] (toFront [_, _, _] (toFront [] (toFront [_, _, _, _] (toFront [_, _, _, _] (toFront [_, _, _, _] (toFront [_, _] (toFront [_, _] (toFront [] (toFront [] (List.Perm.refl _))))))))))); clear s31
      refine wp_loop_fuel (fun m (q : Int × Int × Bool × (List (List Int)) × (List disk_write)) => caballaw12_DiskAll.l3 k p1 y8 y9 y1 y2 y7 x5 m q.1 q.2.1 q.2.2.1 q.2.2.2.1 q.2.2.2.2) r (fun _ => rfl) (fun q a w => ∃ (v24 : Value) (v25 : Value), St ⟨149, w0, ok, []⟩ [BF b1 87 (ko_disk_Disk_0_1 v8 v9) (⟨[], [], y1, y2⟩ : disk_Disk), BF b2 87 (ko_disk_Disk_0_1 v14 v15) (⟨[], [], x5.2.fuse, x5.2.dead⟩ : disk_Disk), BF b3 87 (ko_disk_Disk_0_1 v24 v25) (⟨[], [], q.2.1, q.2.2.1⟩ : disk_Disk), RowF v7 5 (kint .u8) y7, RowF v8 91 (karr 256 (kint .u8)) y8, RowF v9 93 k_disk_write y9, RowF v14 91 (karr 256 (kint .u8)) x5.2.firm, RowF v15 93 k_disk_write x5.2.loose, RowF v24 91 (karr 256 (kint .u8)) q.2.2.2.1, RowF v25 93 k_disk_write q.2.2.2.2] [(0, ((ksl k_caballaw12_Act).V p1)), (3, (ptrB b1 0)), (4, (ptrB b2 0)), (5, (ptrB b3 0)), (6, (is v7)), (10, ((kint .i64).V x5.1)), (11, ((kint .i64).V q.1))] a w) ?_ k ((20 : Int), x6.2.fuse, x6.2.dead, x6.2.firm, x6.2.loose) _ _ h9 ⟨v16, v17, (s121.sub (.cons rfl (.cons rfl (.cons rfl (.cons rfl (.cons rfl (.cons rfl (.cons rfl .nil))))))))⟩
      rintro n3 ⟨y22, y23, y24, y25, y26⟩ a122 w122 h38 ⟨v24, v25, s122⟩ K32 hK32
      replace h38 : caballaw12_DiskAll.l3 k p1 y8 y9 y1 y2 y7 x5 (n3 + 1) y22 y23 y24 y25 y26 = some r := h38; rw [caballaw12_DiskAll.l3] at h38
      have h39 := h38; clear h38
      refine wp_seq_k fun K33 hK33 => ?_
      refine wp_seq_k fun K34 hK34 => ?_
      refine wp_region_lit ?_
      refine seq_op s122 rfl rfl (of_decide_eq_true rfl) (ob_move rfl (.tmp rfl)) fun a123 w123 s123 => ?_; clear s122
      refine seq_op s123 rfl rfl (of_decide_eq_true rfl) (ob_move rfl (.tmp rfl)) fun a124 w124 s124 => ?_; clear s123
      refine seq_op s124 rfl rfl (of_decide_eq_true rfl) (ob_lens rfl Try.underlying22 (.tmp rfl)) fun a125 w125 s125 => ?_; clear s124
      refine seq_op s125 rfl rfl (of_decide_eq_true rfl) (ob_lss rfl (.tmp rfl) (.tmp rfl)) fun a126 w126 s126 => ?_; clear s125
      refine seq_op s126 rfl rfl (of_decide_eq_true rfl) (ob_move rfl (.tmp rfl)) fun a127 w127 s127 => ?_; clear s126
      refine seq_opg s127 rfl rfl rfl rfl (of_decide_eq_true rfl) (fun hb => ob_move rfl (.tmp rfl)) fun a128 w128 s128 => ?_; clear s127
      refine seq_opg s128 rfl rfl rfl rfl (of_decide_eq_true rfl) (fun hb => (Ob.uncond (t := 72) hb rfl (ob_lss rfl (.tmp rfl) (opd_int rfl)))) fun a129 w129 s129 => ?_; clear s128
      obtain ⟨x19, e_x19, h40⟩ := bind_some h39; clear h39; replace e_x19 := Option.some.inj e_x19
      refine seq_op s129 rfl rfl (of_decide_eq_true rfl) ((ob_and2 rfl (.tmp rfl) (.tmp rfl) opd_bool).nm e_x19) fun a130 w130 s130 => ?_; clear s129
      refine wpList_nil ?_
      refine then_normal ?_
      refine hK34 _ _ ?_
      have s131 := s130.sub (.cons (t := 0) rfl (.cons (t := 3) rfl (.cons (t := 4) rfl (.cons (t := 5) rfl (.cons (t := 6) rfl (.cons (t := 10) rfl (.cons (t := 11) rfl (.cons (t := 74) rfl .nil)))))))); clear s130
      refine cond_split s131 (.tmp rfl) (fun hc5 => ?_) (fun hc5 => ?_)
      · replace h40 := ite_t hc5 h40
        have h41 := h40; clear h40
        refine wp_skip ?_
        refine then_normal ?_
        refine hK33 _ _ ?_
        have s132 := s131.sub (.cons (t := 0) rfl (.cons (t := 3) rfl (.cons (t := 4) rfl (.cons (t := 5) rfl (.cons (t := 6) rfl (.cons (t := 10) rfl (.cons (t := 11) rfl .nil))))))); clear s131
        refine wp_seq_k fun K35 hK35 => ?_
        refine wp_block ?_
        obtain ⟨x20, e_x20, h42⟩ := bind_some h41; clear h41
        obtain ⟨x21, e_x21, h43⟩ := bind_some h42; clear h42
        obtain ⟨x22, e_x22, h44⟩ := bind_some h43; clear h43
        refine wp_goes (Fs := [(ptrB b3 0), ((ksl k_caballaw12_Act).V p1), ((kint .i64).V y22), (ptrTo k_caballaw12_Act x20), (ptrTo (kint .i64) x20.At), ((kint .i64).V x20.At), ((kint .u64).V (IntKind.wrap .u64 x20.At)), ((kint .u64).V (irem (IntKind.wrap .u64 x20.At) (3 : Int))), ((kint .i64).V (IntKind.wrap .i64 (irem (IntKind.wrap .u64 x20.At) (3 : Int)))), ((ksl k_caballaw12_Act).V p1), ((kint .i64).V y22), (ptrTo k_caballaw12_Act x21), (ptrTo (kint .u8) x21.B), ((kint .u8).V x21.B), (kstr.V x22)]) (bits := [0, 0, 0, 6, 14, 30, 62, 126, 254, 0, 0, 1536, 3584, 7680, 15872, 32767]) (m := 15) (todo := 0) mx s132 ?_; clear s132
        refine goes_last (by kernel_rfl) rfl (opsS_cons (.plain _ (Av.old (t := 5) rfl rfl Av.nil) rfl rfl (ob_move rfl (.tmp rfl))) (opsS_cons (.plain _ (Av.old (t := 0) rfl rfl Av.nil) rfl rfl (ob_move rfl (.tmp rfl))) (opsS_cons (.plain _ (Av.old (t := 11) rfl rfl Av.nil) rfl rfl (ob_move rfl (.tmp rfl))) (opsS_cons (.plain _ (Av.new (j := 1) rfl rfl rfl (Av.new (j := 2) rfl rfl rfl Av.nil)) rfl rfl (ob_indexAddrs rfl Try.underlying22 sz30 (.tmp rfl) (.tmp rfl) e_x20)) (opsS_cons (.plain _ (Av.new (j := 3) rfl rfl rfl Av.nil) rfl rfl (ob_fieldAddrr rfl Try.underlying30 rfl sz3 (by decide) (.tmp rfl) (lg_caballaw12_Act_At x20))) (opsS_cons (.plain _ (Av.new (j := 4) rfl rfl rfl Av.nil) rfl rfl (ob_loadr rfl tk3 (.tmp rfl))) (opsS_cons (.plain _ (Av.new (j := 5) rfl rfl rfl Av.nil) rfl rfl (ob_conv rfl _ Try.underlying3 Try.underlying35 (.tmp rfl))) (opsS_cons (.plain _ (Av.new (j := 6) rfl rfl rfl Av.nil) rfl rfl (ob_rem rfl (.tmp rfl) (opd_int rfl) (by decide))) (opsS_cons (.plain _ (Av.new (j := 7) rfl rfl rfl Av.nil) rfl rfl (ob_conv rfl _ Try.underlying35 Try.underlying3 (.tmp rfl))) (opsS_cons (.plain _ (Av.old (t := 0) rfl rfl Av.nil) rfl rfl (ob_move rfl (.tmp rfl))) (opsS_cons (.plain _ (Av.old (t := 11) rfl rfl Av.nil) rfl rfl (ob_move rfl (.tmp rfl))) (opsS_cons (.plain _ (Av.new (j := 9) rfl rfl rfl (Av.new (j := 10) rfl rfl rfl Av.nil)) rfl rfl (ob_indexAddrs rfl Try.underlying22 sz30 (.tmp rfl) (.tmp rfl) e_x21)) (opsS_cons (.plain _ (Av.new (j := 11) rfl rfl rfl Av.nil) rfl rfl (ob_fieldAddrr rfl Try.underlying30 rfl sz5 (by decide) (.tmp rfl) (lg_caballaw12_Act_B x21))) (opsS_cons (.plain _ (Av.new (j := 12) rfl rfl rfl Av.nil) rfl rfl (ob_loadr rfl tk5 (.tmp rfl))) (opsS_cons (.plain _ (Av.new (j := 13) rfl rfl rfl Av.nil) rfl rfl (ob_callD (args := [_, _]) rfl .direct hb16 (fun a w s fs gs hf hg => by obtain rfl := hf.unnil; obtain rfl := hg.unnil; exact c_caballaw12_data k _ _ _ e_x22 _ _ _ _ (s.arg (.tmp rfl)) (s.arg (opd_int rfl))))) opsS_nil))))))))))))))) (out_old (t := 0) rfl rfl (out_old (t := 3) rfl rfl (out_old (t := 4) rfl rfl (out_old (t := 5) rfl rfl (out_old (t := 6) rfl rfl (out_old (t := 10) rfl rfl (out_old (t := 11) rfl rfl (out_new (i := 0) (by decide) rfl rfl (out_new (i := 8) (by decide) rfl rfl (out_new (i := 14) (by decide) rfl rfl out_nil)))))))))) fun a133 w133 s133 => ?_
        obtain ⟨x23, e_x23, h45⟩ := bind_some h44; clear h44
        refine seq_opx (B' := (fun gg : Value × Value => [BF b3 87 (ko_disk_Disk_0_1 gg.1 gg.2) (⟨[], [], x23.2.fuse, x23.2.dead⟩ : disk_Disk), RowF gg.1 91 (karr 256 (kint .u8)) x23.2.firm, RowF gg.2 93 k_disk_write x23.2.loose, BF b1 87 (ko_disk_Disk_0_1 v8 v9) (⟨[], [], y1, y2⟩ : disk_Disk), BF b2 87 (ko_disk_Disk_0_1 v14 v15) (⟨[], [], x5.2.fuse, x5.2.dead⟩ : disk_Disk), RowF v7 5 (kint .u8) y7, RowF v8 91 (karr 256 (kint .u8)) y8, RowF v9 93 k_disk_write y9, RowF v14 91 (karr 256 (kint .u8)) x5.2.firm, RowF v15 93 k_disk_write x5.2.loose])) s133 rfl rfl (of_decide_eq_true rfl) (ob_callL (args := [_, _, _]) (L := [_, _, _]) rfl .direct hb15 (toFront [_, _] (toFront [_, _, _, _, _, _, _] (toFront [_, _, _, _, _, _, _] (List.Perm.refl _)))) (fun a w s fs gs hf hg => by obtain rfl := hf.unnil; obtain rfl := hg.unnil; exact c_disk_Disk_Write k _ _ _ _ e_x23 _ _ _ _ _ _ _ _ (ownL s) (disL s) (nodL s) (s.arg (.tmp rfl)) (s.arg (.tmp rfl)) (s.arg (.tmp rfl))) (by exact fun _ => rfl)) fun gg134 a134 w134 s134 => ?_; clear s133
        obtain ⟨v26, v27⟩ := gg134
        refine wpList_nil ?_
        refine in_normal ?_
        refine then_normal ?_
        refine hK35 _ _ ?_
        have s135 := s134.sub (.cons (t := 0) rfl (.cons (t := 3) rfl (.cons (t := 4) rfl (.cons (t := 5) rfl (.cons (t := 6) rfl (.cons (t := 10) rfl (.cons (t := 11) rfl .nil))))))); clear s134
        refine wp_region_lit ?_
        refine seq_op s135 rfl rfl (of_decide_eq_true rfl) (ob_move rfl (.tmp rfl)) fun a136 w136 s136 => ?_; clear s135
        refine seq_op s136 rfl rfl (of_decide_eq_true rfl) (ob_add rfl (.tmp rfl) (opd_int rfl)) fun a137 w137 s137 => ?_; clear s136
        refine seq_op s137 rfl rfl (of_decide_eq_true rfl) (ob_assign rfl (.tmp rfl)) fun a138 w138 s138 => ?_; clear s137
        refine wpList_nil ?_
        refine then_normal ?_
        have s139 := s138.perm (toFront [_, _, _] (toFront [_, _, _] (toFront [] (toFront [_, _] (toFront [_, _] (toFront [_, _] (toFront [_, _] (toFront [_, _] (toFront [] (toFront [] (List.Perm.refl _))))))))))); clear s138
        exact hK32 ((iadd .i64 y22 (1 : Int)), x23.2.fuse, x23.2.dead, x23.2.firm, x23.2.loose) _ _ h45 ⟨v26, v27, (s139.sub (.cons rfl (.cons rfl (.cons rfl (.cons rfl (.cons rfl (.cons rfl (.cons rfl .nil))))))))⟩
      · replace h40 := ite_f hc5 h40
        have h46 := h40; clear h40
        refine wp_exit ?_
        refine (then_exit (then_exit (in_here ?_)))
        refine then_normal ?_
        exact hj2 y23 y24 y25 y26 v24 v25 _ _ h46 (s131.sub (.cons rfl (.cons rfl (.cons rfl (.cons rfl (.cons rfl .nil))))))
    refine wp_block ?_
    have s140 := s21.perm (toFront [_, _, _, _, _, _, _] (toFront [_, _, _, _] (toFront [_] (toFront [] (toFront [_, _, _, _] (toFront [_, _, _, _] (toFront [_, _] (toFront [_, _] (toFront [] (toFront [] (List.Perm.refl _))))))))))); clear s21
    refine wp_loop_fuel (fun m (q : Int × Int × Bool × Int × Bool × Int × Bool × (List Int) × (List (List Int)) × (List disk_write) × (List (List Int)) × (List disk_write) × (List (List Int)) × (List disk_write)) => caballaw12_DiskAll.l4 k p1 m q.1 q.2.1 q.2.2.1 q.2.2.2.1 q.2.2.2.2.1 q.2.2.2.2.2.1 q.2.2.2.2.2.2.1 q.2.2.2.2.2.2.2.1 q.2.2.2.2.2.2.2.2.1 q.2.2.2.2.2.2.2.2.2.1 q.2.2.2.2.2.2.2.2.2.2.1 q.2.2.2.2.2.2.2.2.2.2.2.1 q.2.2.2.2.2.2.2.2.2.2.2.2.1 q.2.2.2.2.2.2.2.2.2.2.2.2.2) r (fun _ => rfl) (fun q a w => ∃ (v28 : Value) (v29 : Value) (v30 : Value) (v31 : Value) (v32 : Value) (v33 : Value) (v34 : Value), St ⟨149, w0, ok, []⟩ [BF b1 87 (ko_disk_Disk_0_1 v29 v30) (⟨[], [], q.2.1, q.2.2.1⟩ : disk_Disk), BF b2 87 (ko_disk_Disk_0_1 v31 v32) (⟨[], [], q.2.2.2.1, q.2.2.2.2.1⟩ : disk_Disk), BF b3 87 (ko_disk_Disk_0_1 v33 v34) (⟨[], [], q.2.2.2.2.2.1, q.2.2.2.2.2.2.1⟩ : disk_Disk), RowF v28 5 (kint .u8) q.2.2.2.2.2.2.2.1, RowF v29 91 (karr 256 (kint .u8)) q.2.2.2.2.2.2.2.2.1, RowF v30 93 k_disk_write q.2.2.2.2.2.2.2.2.2.1, RowF v31 91 (karr 256 (kint .u8)) q.2.2.2.2.2.2.2.2.2.2.1, RowF v32 93 k_disk_write q.2.2.2.2.2.2.2.2.2.2.2.1, RowF v33 91 (karr 256 (kint .u8)) q.2.2.2.2.2.2.2.2.2.2.2.2.1, RowF v34 93 k_disk_write q.2.2.2.2.2.2.2.2.2.2.2.2.2] [(0, ((ksl k_caballaw12_Act).V p1)), (3, (ptrB b1 0)), (4, (ptrB b2 0)), (5, (ptrB b3 0)), (6, (is v28)), (7, ((kint .i64).V q.1))] a w) ?_ k ((0 : Int), x2.fuse, x2.dead, x3.fuse, x3.dead, x4.fuse, x4.dead, ([] : (List Int)), x2.firm, x2.loose, x3.firm, x3.loose, x4.firm, x4.loose) _ _ h6 ⟨(nilRow 10), v1, v2, v3, v4, v5, v6, (s140.sub (.cons rfl (.cons rfl (.cons rfl (.cons rfl (.cons rfl (.cons rfl .nil)))))))⟩
    rintro n4 ⟨y27, y28, y29, y30, y31, y32, y33, y34, y35, y36, y37, y38, y39, y40⟩ a141 w141 h47 ⟨v28, v29, v30, v31, v32, v33, v34, s141⟩ K36 hK36
    replace h47 : caballaw12_DiskAll.l4 k p1 (n4 + 1) y27 y28 y29 y30 y31 y32 y33 y34 y35 y36 y37 y38 y39 y40 = some r := h47; rw [caballaw12_DiskAll.l4] at h47
    have h48 := h47; clear h47
    refine wp_seq_k fun K37 hK37 => ?_
    refine wp_seq_k fun K38 hK38 => ?_
    refine wp_region_lit ?_
    refine seq_op s141 rfl rfl (of_decide_eq_true rfl) (ob_move rfl (.tmp rfl)) fun a142 w142 s142 => ?_; clear s141
    refine seq_op s142 rfl rfl (of_decide_eq_true rfl) (ob_move rfl (.tmp rfl)) fun a143 w143 s143 => ?_; clear s142
    refine seq_op s143 rfl rfl (of_decide_eq_true rfl) (ob_lens rfl Try.underlying22 (.tmp rfl)) fun a144 w144 s144 => ?_; clear s143
    refine seq_op s144 rfl rfl (of_decide_eq_true rfl) (ob_lss rfl (.tmp rfl) (.tmp rfl)) fun a145 w145 s145 => ?_; clear s144
    refine seq_op s145 rfl rfl (of_decide_eq_true rfl) (ob_move rfl (.tmp rfl)) fun a146 w146 s146 => ?_; clear s145
    refine seq_opg s146 rfl rfl rfl rfl (of_decide_eq_true rfl) (fun hb => ob_move rfl (.tmp rfl)) fun a147 w147 s147 => ?_; clear s146
    refine seq_opg s147 rfl rfl rfl rfl (of_decide_eq_true rfl) (fun hb => (Ob.uncond (t := 27) hb rfl (ob_lss rfl (.tmp rfl) (opd_int rfl)))) fun a148 w148 s148 => ?_; clear s147
    obtain ⟨x24, e_x24, h49⟩ := bind_some h48; clear h48; replace e_x24 := Option.some.inj e_x24
    refine seq_op s148 rfl rfl (of_decide_eq_true rfl) ((ob_and2 rfl (.tmp rfl) (.tmp rfl) opd_bool).nm e_x24) fun a149 w149 s149 => ?_; clear s148
    refine wpList_nil ?_
    refine then_normal ?_
    refine hK38 _ _ ?_
    have s150 := s149.sub (.cons (t := 0) rfl (.cons (t := 3) rfl (.cons (t := 4) rfl (.cons (t := 5) rfl (.cons (t := 6) rfl (.cons (t := 7) rfl (.cons (t := 29) rfl .nil))))))); clear s149
    refine cond_split s150 (.tmp rfl) (fun hc6 => ?_) (fun hc6 => ?_)
    · replace h49 := ite_t hc6 h49
      have h50 := h49; clear h49
      refine wp_skip ?_
      refine then_normal ?_
      refine hK37 _ _ ?_
      have s151 := s150.sub (.cons (t := 0) rfl (.cons (t := 3) rfl (.cons (t := 4) rfl (.cons (t := 5) rfl (.cons (t := 6) rfl (.cons (t := 7) rfl .nil)))))); clear s150
      refine wp_seq_k fun K39 hK39 => ?_
      refine wp_block ?_
      refine wp_seq_k fun K40 hK40 => ?_
      refine wp_region_lit ?_
      refine seq_op s151 rfl rfl (of_decide_eq_true rfl) (ob_move rfl (.tmp rfl)) fun a152 w152 s152 => ?_; clear s151
      refine seq_op s152 rfl rfl (of_decide_eq_true rfl) (ob_move rfl (.tmp rfl)) fun a153 w153 s153 => ?_; clear s152
      obtain ⟨x25, e_x25, h51⟩ := bind_some h50; clear h50
      refine seq_op s153 rfl rfl (of_decide_eq_true rfl) (ob_indexAddrs rfl Try.underlying22 sz30 (.tmp rfl) (.tmp rfl) e_x25) fun a154 w154 s154 => ?_; clear s153
      refine seq_op s154 rfl rfl (of_decide_eq_true rfl) (ob_fieldAddrr rfl Try.underlying30 rfl sz3 (by decide) (.tmp rfl) (lg_caballaw12_Act_At x25)) fun a155 w155 s155 => ?_; clear s154
      refine seq_op s155 rfl rfl (of_decide_eq_true rfl) (ob_loadr rfl tk3 (.tmp rfl)) fun a156 w156 s156 => ?_; clear s155
      refine seq_op s156 rfl rfl (of_decide_eq_true rfl) (ob_conv rfl _ Try.underlying3 Try.underlying35 (.tmp rfl)) fun a157 w157 s157 => ?_; clear s156
      refine seq_op s157 rfl rfl (of_decide_eq_true rfl) (ob_rem rfl (.tmp rfl) (opd_int rfl) (by decide)) fun a158 w158 s158 => ?_; clear s157
      refine seq_op s158 rfl rfl (of_decide_eq_true rfl) (ob_conv rfl _ Try.underlying35 Try.underlying3 (.tmp rfl)) fun a159 w159 s159 => ?_; clear s158
      refine seq_op s159 rfl rfl (of_decide_eq_true rfl) (ob_assign rfl (.tmp rfl)) fun a160 w160 s160 => ?_; clear s159
      refine wpList_nil ?_
      refine then_normal ?_
      refine hK40 _ _ ?_
      have s161 := s160.sub (.cons (t := 0) rfl (.cons (t := 3) rfl (.cons (t := 4) rfl (.cons (t := 5) rfl (.cons (t := 6) rfl (.cons (t := 7) rfl (.cons (t := 8) rfl .nil))))))); clear s160
      refine wp_seq_k fun K41 hK41 => ?_
      refine wp_region_lit ?_
      refine seq_op s161 rfl rfl (of_decide_eq_true rfl) (ob_move rfl (.tmp rfl)) fun a162 w162 s162 => ?_; clear s161
      refine seq_op s162 rfl rfl (of_decide_eq_true rfl) (ob_move rfl (.tmp rfl)) fun a163 w163 s163 => ?_; clear s162
      obtain ⟨x26, e_x26, h52⟩ := bind_some h51; clear h51
      refine seq_op s163 rfl rfl (of_decide_eq_true rfl) (ob_indexAddrs rfl Try.underlying22 sz30 (.tmp rfl) (.tmp rfl) e_x26) fun a164 w164 s164 => ?_; clear s163
      refine seq_op s164 rfl rfl (of_decide_eq_true rfl) (ob_fieldAddrr rfl Try.underlying30 rfl sz5 (by decide) (.tmp rfl) (lg_caballaw12_Act_B x26)) fun a165 w165 s165 => ?_; clear s164
      refine seq_op s165 rfl rfl (of_decide_eq_true rfl) (ob_loadr rfl tk5 (.tmp rfl)) fun a166 w166 s166 => ?_; clear s165
      obtain ⟨x27, e_x27, h53⟩ := bind_some h52; clear h52
      refine seq_op s166 rfl rfl (of_decide_eq_true rfl) (ob_callD (args := [_, _]) rfl .direct hb16 (fun a w s fs gs hf hg => by obtain rfl := hf.unnil; obtain rfl := hg.unnil; exact c_caballaw12_data k _ _ _ e_x27 _ _ _ _ (s.arg (.tmp rfl)) (s.arg (opd_int rfl)))) fun a167 w167 s167 => ?_; clear s166
      refine seq_op s167 rfl rfl (of_decide_eq_true rfl) (ob_assign rfl (.tmp rfl)) fun a168 w168 s168 => ?_; clear s167
      refine wpList_nil ?_
      refine then_normal ?_
      refine hK41 _ _ ?_
      have s169 := s168.sub (.cons (t := 0) rfl (.cons (t := 3) rfl (.cons (t := 4) rfl (.cons (t := 5) rfl (.cons (t := 6) rfl (.cons (t := 7) rfl (.cons (t := 8) rfl (.cons (t := 9) rfl .nil)))))))); clear s168
      refine wp_seq_k fun K42 hK42 => ?_
      refine wp_region_lit ?_
      refine seq_op s169 rfl rfl (of_decide_eq_true rfl) (ob_move rfl (.tmp rfl)) fun a170 w170 s170 => ?_; clear s169
      refine seq_op s170 rfl rfl (of_decide_eq_true rfl) (ob_move rfl (.tmp rfl)) fun a171 w171 s171 => ?_; clear s170
      refine seq_op s171 rfl rfl (of_decide_eq_true rfl) (ob_move rfl (.tmp rfl)) fun a172 w172 s172 => ?_; clear s171
      obtain ⟨x28, e_x28, h54⟩ := bind_some h53; clear h53
      refine seq_opx (B' := (fun gg : Value × Value => [BF b1 87 (ko_disk_Disk_0_1 gg.1 gg.2) (⟨[], [], x28.2.fuse, x28.2.dead⟩ : disk_Disk), RowF gg.1 91 (karr 256 (kint .u8)) x28.2.firm, RowF gg.2 93 k_disk_write x28.2.loose, BF b2 87 (ko_disk_Disk_0_1 v31 v32) (⟨[], [], y30, y31⟩ : disk_Disk), BF b3 87 (ko_disk_Disk_0_1 v33 v34) (⟨[], [], y32, y33⟩ : disk_Disk), RowF v28 5 (kint .u8) y34, RowF v31 91 (karr 256 (kint .u8)) y37, RowF v32 93 k_disk_write y38, RowF v33 91 (karr 256 (kint .u8)) y39, RowF v34 93 k_disk_write y40])) s172 rfl rfl (of_decide_eq_true rfl) (ob_callL (args := [_, _, _]) (L := [_, _, _]) rfl .direct hb15 (toFront [] (toFront [_, _, _] (toFront [_, _, _] (List.Perm.refl _)))) (fun a w s fs gs hf hg => by obtain rfl := hf.unnil; obtain rfl := hg.unnil; exact c_disk_Disk_Write k _ _ _ _ e_x28 _ _ _ _ _ _ _ _ (ownL s) (disL s) (nodL s) (s.arg (.tmp rfl)) (s.arg (.tmp rfl)) (s.arg (.tmp rfl))) (by exact fun _ => rfl)) fun gg173 a173 w173 s173 => ?_; clear s172
      obtain ⟨v35, v36⟩ := gg173
      refine wpList_nil ?_
      refine then_normal ?_
      refine hK42 _ _ ?_
      have s174 := s173.sub (.cons (t := 0) rfl (.cons (t := 3) rfl (.cons (t := 4) rfl (.cons (t := 5) rfl (.cons (t := 6) rfl (.cons (t := 7) rfl (.cons (t := 8) rfl (.cons (t := 9) rfl .nil)))))))); clear s173
      refine wp_seq_k fun K43 hK43 => ?_
      refine wp_region_lit ?_
      refine seq_op s174 rfl rfl (of_decide_eq_true rfl) (ob_move rfl (.tmp rfl)) fun a175 w175 s175 => ?_; clear s174
      refine seq_op s175 rfl rfl (of_decide_eq_true rfl) (ob_move rfl (.tmp rfl)) fun a176 w176 s176 => ?_; clear s175
      refine seq_op s176 rfl rfl (of_decide_eq_true rfl) (ob_move rfl (.tmp rfl)) fun a177 w177 s177 => ?_; clear s176
      obtain ⟨x29, e_x29, h55⟩ := bind_some h54; clear h54
      refine seq_opx (B' := (fun gg : Value × Value => [BF b2 87 (ko_disk_Disk_0_1 gg.1 gg.2) (⟨[], [], x29.2.fuse, x29.2.dead⟩ : disk_Disk), RowF gg.1 91 (karr 256 (kint .u8)) x29.2.firm, RowF gg.2 93 k_disk_write x29.2.loose, BF b1 87 (ko_disk_Disk_0_1 v35 v36) (⟨[], [], x28.2.fuse, x28.2.dead⟩ : disk_Disk), RowF v35 91 (karr 256 (kint .u8)) x28.2.firm, RowF v36 93 k_disk_write x28.2.loose, BF b3 87 (ko_disk_Disk_0_1 v33 v34) (⟨[], [], y32, y33⟩ : disk_Disk), RowF v28 5 (kint .u8) y34, RowF v33 91 (karr 256 (kint .u8)) y39, RowF v34 93 k_disk_write y40])) s177 rfl rfl (of_decide_eq_true rfl) (ob_callL (args := [_, _, _]) (L := [_, _, _]) rfl .direct hb15 (toFront [_, _, _] (toFront [_, _, _, _, _] (toFront [_, _, _, _, _] (List.Perm.refl _)))) (fun a w s fs gs hf hg => by obtain rfl := hf.unnil; obtain rfl := hg.unnil; exact c_disk_Disk_Write k _ _ _ _ e_x29 _ _ _ _ _ _ _ _ (ownL s) (disL s) (nodL s) (s.arg (.tmp rfl)) (s.arg (.tmp rfl)) (s.arg (.tmp rfl))) (by exact fun _ => rfl)) fun gg178 a178 w178 s178 => ?_; clear s177
      obtain ⟨v37, v38⟩ := gg178
      refine wpList_nil ?_
      refine then_normal ?_
      refine hK43 _ _ ?_
      have s179 := s178.sub (.cons (t := 0) rfl (.cons (t := 3) rfl (.cons (t := 4) rfl (.cons (t := 5) rfl (.cons (t := 6) rfl (.cons (t := 7) rfl (.cons (t := 8) rfl (.cons (t := 9) rfl .nil)))))))); clear s178
      refine wp_seq_k fun K44 hK44 => ?_
      refine wp_seq_k fun K45 hK45 => ?_
      refine wp_region_lit ?_
      refine seq_op s179 rfl rfl (of_decide_eq_true rfl) (ob_move rfl (.tmp rfl)) fun a180 w180 s180 => ?_; clear s179
      refine seq_op s180 rfl rfl (of_decide_eq_true rfl) (ob_lss rfl (.tmp rfl) (opd_int rfl)) fun a181 w181 s181 => ?_; clear s180
      refine wpList_nil ?_
      refine then_normal ?_
      refine hK45 _ _ ?_
      have s182 := s181.sub (.cons (t := 0) rfl (.cons (t := 3) rfl (.cons (t := 4) rfl (.cons (t := 5) rfl (.cons (t := 6) rfl (.cons (t := 7) rfl (.cons (t := 8) rfl (.cons (t := 9) rfl (.cons (t := 55) rfl .nil))))))))); clear s181
      have hj5 : ∀ (y41 : Int) (y42 : Bool) (y43 : (List (List Int))) (y44 : (List disk_write)) (v39 : Value) (v40 : Value) (a : Act) (w : World), (caballaw12_DiskAll.j5 k y34 y27 x28 x29 (caballaw12_DiskAll.l4 k p1 n4)) y41 y42 y43 y44 = some r → St ⟨149, w0, ok, []⟩ [BF b1 87 (ko_disk_Disk_0_1 v35 v36) (⟨[], [], x28.2.fuse, x28.2.dead⟩ : disk_Disk), BF b2 87 (ko_disk_Disk_0_1 v37 v38) (⟨[], [], x29.2.fuse, x29.2.dead⟩ : disk_Disk), BF b3 87 (ko_disk_Disk_0_1 v39 v40) (⟨[], [], y41, y42⟩ : disk_Disk), RowF v28 5 (kint .u8) y34, RowF v35 91 (karr 256 (kint .u8)) x28.2.firm, RowF v36 93 k_disk_write x28.2.loose, RowF v37 91 (karr 256 (kint .u8)) x29.2.firm, RowF v38 93 k_disk_write x29.2.loose, RowF v39 91 (karr 256 (kint .u8)) y43, RowF v40 93 k_disk_write y44] [(0, ((ksl k_caballaw12_Act).V p1)), (3, (ptrB b1 0)), (4, (ptrB b2 0)), (5, (ptrB b3 0)), (6, (is v28)), (7, ((kint .i64).V y27))] a w → K44 a w := by
        intro y41 y42 y43 y44 v39 v40 a183 w183 h56 s183
        unfold caballaw12_DiskAll.j5 at h56
        refine hK44 _ _ ?_
        refine wp_region_lit ?_
        refine seq_op s183 rfl rfl (of_decide_eq_true rfl) (ob_move rfl (.tmp rfl)) fun a184 w184 s184 => ?_; clear s183
        refine seq_op s184 rfl rfl (of_decide_eq_true rfl) (ob_mkSlice (k := (kint .u8)) (xs := ([(4 : Int)] : (List Int))) rfl Try.underlying23 zz5 sz5 (Zr.int .u8) (by decide) (by decide) (.cons (opd_int rfl) rfl (LS.arr' (i := 0) (ys := ([(4 : Int)] : (List Int))) (by simp) (by rfl)) (.nil _))) fun a185 w185 s185 => ?_; clear s184
        obtain ⟨g4, h57⟩ := guard_some h56; clear h56
        refine seq_opx (B' := (fun v41 : Value => [BF b1 87 (ko_disk_Disk_0_1 v35 v36) (⟨[], [], x28.2.fuse, x28.2.dead⟩ : disk_Disk), BF b2 87 (ko_disk_Disk_0_1 v37 v38) (⟨[], [], x29.2.fuse, x29.2.dead⟩ : disk_Disk), BF b3 87 (ko_disk_Disk_0_1 v39 v40) (⟨[], [], y41, y42⟩ : disk_Disk), RowF v41 5 (kint .u8) (y34 ++ ([(4 : Int)] : (List Int))), RowF v35 91 (karr 256 (kint .u8)) x28.2.firm, RowF v36 93 k_disk_write x28.2.loose, RowF v37 91 (karr 256 (kint .u8)) x29.2.firm, RowF v38 93 k_disk_write x29.2.loose, RowF v39 91 (karr 256 (kint .u8)) y43, RowF v40 93 k_disk_write y44])) s185 rfl rfl (of_decide_eq_true rfl) (ob_appendL2 (A := [_, _, _]) rfl Try.underlying23 ap5 (Zr.int .u8) (by decide) (.tmp rfl) (.tmp rfl) rfl g4) fun v41 a186 w186 s186 => ?_; clear s185
        refine seq_op s186 rfl rfl (of_decide_eq_true rfl) (ob_assign rfl (.tmp rfl)) fun a187 w187 s187 => ?_; clear s186
        refine wpList_nil ?_
        refine in_normal ?_
        refine then_normal ?_
        refine hK39 _ _ ?_
        have s188 := s187.sub (.cons (t := 0) rfl (.cons (t := 3) rfl (.cons (t := 4) rfl (.cons (t := 5) rfl (.cons (t := 6) rfl (.cons (t := 7) rfl .nil)))))); clear s187
        refine wp_region_lit ?_
        refine seq_op s188 rfl rfl (of_decide_eq_true rfl) (ob_move rfl (.tmp rfl)) fun a189 w189 s189 => ?_; clear s188
        refine seq_op s189 rfl rfl (of_decide_eq_true rfl) (ob_add rfl (.tmp rfl) (opd_int rfl)) fun a190 w190 s190 => ?_; clear s189
        refine seq_op s190 rfl rfl (of_decide_eq_true rfl) (ob_assign rfl (.tmp rfl)) fun a191 w191 s191 => ?_; clear s190
        refine wpList_nil ?_
        refine then_normal ?_
        exact hK36 ((iadd .i64 y27 (1 : Int)), x28.2.fuse, x28.2.dead, x29.2.fuse, x29.2.dead, y41, y42, (y34 ++ ([(4 : Int)] : (List Int))), x28.2.firm, x28.2.loose, x29.2.firm, x29.2.loose, y43, y44) _ _ h57 ⟨v41, v35, v36, v37, v38, v39, v40, (s191.sub (.cons rfl (.cons rfl (.cons rfl (.cons rfl (.cons rfl (.cons rfl .nil)))))))⟩
      refine cond_split s182 (.tmp rfl) (fun hc7 => ?_) (fun hc7 => ?_)
      · replace h55 := ite_t hc7 h55
        have h58 := h55; clear h55
        refine wp_region_lit ?_
        refine seq_op s182 rfl rfl (of_decide_eq_true rfl) (ob_move rfl (.tmp rfl)) fun a192 w192 s192 => ?_; clear s182
        refine seq_op s192 rfl rfl (of_decide_eq_true rfl) (ob_move rfl (.tmp rfl)) fun a193 w193 s193 => ?_; clear s192
        refine seq_op s193 rfl rfl (of_decide_eq_true rfl) (ob_move rfl (.tmp rfl)) fun a194 w194 s194 => ?_; clear s193
        obtain ⟨x30, e_x30, h59⟩ := bind_some h58; clear h58
        refine seq_opx (B' := (fun gg : Value × Value => [BF b3 87 (ko_disk_Disk_0_1 gg.1 gg.2) (⟨[], [], x30.2.fuse, x30.2.dead⟩ : disk_Disk), RowF gg.1 91 (karr 256 (kint .u8)) x30.2.firm, RowF gg.2 93 k_disk_write x30.2.loose, BF b2 87 (ko_disk_Disk_0_1 v37 v38) (⟨[], [], x29.2.fuse, x29.2.dead⟩ : disk_Disk), RowF v37 91 (karr 256 (kint .u8)) x29.2.firm, RowF v38 93 k_disk_write x29.2.loose, BF b1 87 (ko_disk_Disk_0_1 v35 v36) (⟨[], [], x28.2.fuse, x28.2.dead⟩ : disk_Disk), RowF v35 91 (karr 256 (kint .u8)) x28.2.firm, RowF v36 93 k_disk_write x28.2.loose, RowF v28 5 (kint .u8) y34])) s194 rfl rfl (of_decide_eq_true rfl) (ob_callL (args := [_, _, _]) (L := [_, _, _]) rfl .direct hb15 (toFront [_, _, _, _, _, _] (toFront [_, _, _, _, _, _, _] (toFront [_, _, _, _, _, _, _] (List.Perm.refl _)))) (fun a w s fs gs hf hg => by obtain rfl := hf.unnil; obtain rfl := hg.unnil; exact c_disk_Disk_Write k _ _ _ _ e_x30 _ _ _ _ _ _ _ _ (ownL s) (disL s) (nodL s) (s.arg (.tmp rfl)) (s.arg (.tmp rfl)) (s.arg (.tmp rfl))) (by exact fun _ => rfl)) fun gg195 a195 w195 s195 => ?_; clear s194
        obtain ⟨v42, v43⟩ := gg195
        refine wpList_nil ?_
        refine then_normal ?_
        have s196 := s195.perm (toFront [_, _, _, _, _, _] (toFront [_, _, _] (toFront [] (toFront [_, _, _, _, _, _] (toFront [_, _, _, _] (toFront [_, _, _, _] (toFront [_, _] (toFront [_, _] (toFront [] (toFront [] (List.Perm.refl _))))))))))); clear s195
        exact hj5 x30.2.fuse x30.2.dead x30.2.firm x30.2.loose v42 v43 _ _ h59 (s196.sub (.cons rfl (.cons rfl (.cons rfl (.cons rfl (.cons rfl (.cons rfl .nil)))))))
      · replace h55 := ite_f hc7 h55
        have h60 := h55; clear h55
        refine wp_skip ?_
        refine then_normal ?_
        have s197 := s182.perm (toFront [_, _, _] (toFront [] (toFront [_, _, _, _] (toFront [_, _, _, _] (toFront [_, _] (toFront [_, _] (toFront [] (toFront [] (toFront [] (toFront [] (List.Perm.refl _))))))))))); clear s182
        exact hj5 y32 y33 y39 y40 v33 v34 _ _ h60 (s197.sub (.cons rfl (.cons rfl (.cons rfl (.cons rfl (.cons rfl (.cons rfl .nil)))))))
    · replace h49 := ite_f hc6 h49
      have h61 := h49; clear h49
      refine wp_exit ?_
      refine (then_exit (then_exit (in_here ?_)))
      refine then_normal ?_
      exact hj1 y28 y29 y30 y31 y32 y33 y34 y35 y36 y37 y38 y39 y40 v28 v29 v30 v31 v32 v33 v34 _ _ h61 (s150.sub (.cons rfl (.cons rfl (.cons rfl (.cons rfl (.cons rfl .nil))))))

end Go.Proofs.Ytlcddcamnkgeeaa
