/- Each function's code comes to what its plain function answers. No condition. -/
import Derived.Test.YtdlnfgpcnfbjiaaQWalk2
namespace Go.Proofs.Ytdlnfgpcnfbjiaa
open Go Go.RowKit Go.Proofs.Kit Go.Proofs.Pure
set_option linter.unusedVariables false
set_option linter.unusedSimpArgs false
set_option maxRecDepth 100000
set_option maxHeartbeats 2000000

/- 43 cabal/graph.Add -/
theorem c_graph_Add_w2 (k : Nat) (p1 : (List api_Node)) (p2 : (List Int)) (p3 : api_Op) (r : ((List api_Node) × Int)) (h0 : graph_Add_w2 k p1 p2 p3 = some r) (ok : Ok) (w0 : World) (z0 : Value) (z1 : Value) (z2 : Value) (u0 : ((ksl k_api_Node).V p1).holds ok w0 z0) (u1 : ((karr 32 (kint .u8)).V p2).holds ok w0 z1) (u2 : (k_api_Op.V p3).holds ok w0 z2) :
    Gives Try.prog 43 [z0, z1, z2] ok w0 (resFact [(ksl k_api_Node).V r.1, (kint .i64).V r.2]) := by
  unfold graph_Add_w2 at h0
  refine enter (N := 74) Try.func43 rfl rfl (of_decide_eq_true rfl) (.cons u0 (.cons u1 (.cons u2 .nil))) fun a1 s1 => ?_
  refine wp_seq_k fun K1 hK1 => ?_
  refine wp_region_lit ?_
  refine seq_opx (B' := (fun b1 : Nat => [BF b1 39 (karr 32 (kint .u8)) p2])) s1 rfl rfl (of_decide_eq_true rfl) (ob_box rfl (.tmp rfl)) fun b1 a2 w2 s2 => ?_; clear s1
  refine seq_opx (B' := (fun b2 : Nat => [BF b2 44 k_api_Op p3, BF b1 39 (karr 32 (kint .u8)) p2])) s2 rfl rfl (of_decide_eq_true rfl) (ob_box rfl (.tmp rfl)) fun b2 a3 w3 s3 => ?_; clear s2
  refine seq_op s3 rfl rfl (of_decide_eq_true rfl) (ob_assign rfl opd_is) fun a4 w4 s4 => ?_; clear s3
  have s5 := St.adopt s4 (G := RowF (nilRow 26) 46 k_api_Node []) rfl (rowNilN _ _ _ _ _); clear s4
  refine seq_op s5 rfl rfl (of_decide_eq_true rfl) (ob_assign rfl (opd_int rfl)) fun a6 w6 s6 => ?_; clear s5
  refine wpList_nil ?_
  refine then_normal ?_
  refine hK1 _ _ ?_
  have s7 := s6.sub (.cons (t := 0) rfl (.cons (t := 4) rfl (.cons (t := 5) rfl .nil))); clear s6
  have s8 := St.drop (A := []) s7; clear s7
  refine wp_seq_k fun K2 hK2 => ?_
  refine wp_seq_k fun K3 hK3 => ?_
  refine wp_region_lit ?_
  refine seq_op s8 rfl rfl (of_decide_eq_true rfl) (ob_move rfl (.tmp rfl)) fun a9 w9 s9 => ?_; clear s8
  obtain ⟨x1, e_x1, h1⟩ := bind_some h0; clear h0
  refine seq_op s9 rfl rfl (of_decide_eq_true rfl) (ob_callD (args := [_]) rfl .direct hb24 (fun a w s fs gs hf hg => by obtain rfl := hf.unnil; obtain rfl := hg.unnil; exact c_graph_Right k _ _ e_x1 _ _ _ (s.arg (.tmp rfl)))) fun a10 w10 s10 => ?_; clear s9
  refine seq_op s10 rfl rfl (of_decide_eq_true rfl) (ob_not rfl (.tmp rfl)) fun a11 w11 s11 => ?_; clear s10
  refine seq_op s11 rfl rfl (of_decide_eq_true rfl) (ob_move rfl (.tmp rfl)) fun a12 w12 s12 => ?_; clear s11
  refine seq_opg s12 rfl rfl rfl rfl (of_decide_eq_true rfl) (fun hb => ob_load rfl tk44 (.tmp rfl) (.head _) (LG.refl _ _)) fun a13 w13 s13 => ?_; clear s12
  obtain ⟨x2, e_x2, h2⟩ := bind_some h1; clear h1
  refine seq_opg s13 rfl rfl rfl rfl (of_decide_eq_true rfl) (fun hb => (Ob.uncond (t := 17) hb rfl (ob_callD (args := [_]) rfl .direct hb91 (fun a w s fs gs hf hg => by obtain rfl := hf.unnil; obtain rfl := hg.unnil; exact c_frame_Right k _ _ (ite_t hb e_x2) _ _ _ (s.arg (.tmp rfl)))))) fun a14 w14 s14 => ?_; clear s13
  refine seq_opg s14 rfl rfl rfl rfl (of_decide_eq_true rfl) (fun hb => (Ob.uncond (t := 18) hb rfl (ob_not rfl (.tmp rfl)))) fun a15 w15 s15 => ?_; clear s14
  refine seq_op s15 rfl rfl (of_decide_eq_true rfl) (ob_or2 rfl (.tmp rfl) opd_bool (.tmp rfl)) fun a16 w16 s16 => ?_; clear s15
  refine wpList_nil ?_
  refine then_normal ?_
  refine hK3 _ _ ?_
  have s17 := s16.sub (.cons (t := 0) rfl (.cons (t := 4) rfl (.cons (t := 5) rfl (.cons (t := 20) rfl .nil)))); clear s16
  refine cond_split s17 (.tmp rfl) (fun hc1 => ?_) (fun hc1 => ?_)
  · replace h2 := ite_t hc1 h2
    have h3 := h2; clear h2
    refine wp_seq_k fun K4 hK4 => ?_
    refine wp_region_lit ?_
    refine seq_op s17 rfl rfl (of_decide_eq_true rfl) (ob_assign rfl opd_is) fun a18 w18 s18 => ?_; clear s17
    have s19 := St.adopt s18 (G := RowF (nilRow 27) 46 k_api_Node []) rfl (rowNilN _ _ _ _ _); clear s18
    refine seq_op s19 rfl rfl (of_decide_eq_true rfl) (ob_assign rfl (opd_int rfl)) fun a20 w20 s20 => ?_; clear s19
    refine wpList_nil ?_
    refine then_normal ?_
    refine hK4 _ _ ?_
    have s21 := s20.sub (.cons (t := 6) rfl (.cons (t := 7) rfl .nil)); clear s20
    have s22 := St.drop (A := [_]) s21; clear s21
    have s23 := St.drop (A := [_]) s22; clear s22
    refine wp_ret ?_
    have s24 := St.freezeAllM (A := []) s23 (ts := [6]) (.cons rfl .nil); clear s23
    obtain rfl := Option.some.inj h3
    exact leave s24 (.inl rfl) rfl (.cons (.tmp rfl) (.cons (.tmp rfl) .nil))
  · replace h2 := ite_f hc1 h2
    have h4 := h2; clear h2
    refine wp_skip ?_
    refine then_normal ?_
    refine hK2 _ _ ?_
    have s25 := s17.sub (.cons (t := 0) rfl (.cons (t := 4) rfl (.cons (t := 5) rfl .nil))); clear s17
    refine wp_seq_k fun K5 hK5 => ?_
    refine wp_block ?_
    refine wp_seq_k fun K6 hK6 => ?_
    refine wp_region_lit ?_
    refine seq_op s25 rfl rfl (of_decide_eq_true rfl) (ob_move rfl (.tmp rfl)) fun a26 w26 s26 => ?_; clear s25
    refine seq_op s26 rfl rfl (of_decide_eq_true rfl) (ob_load rfl tk39 (.tmp rfl) (.tail _ (.head _)) (LG.refl _ _)) fun a27 w27 s27 => ?_; clear s26
    obtain ⟨x3, e_x3, h5⟩ := bind_some h4; clear h4
    refine seq_op s27 rfl rfl (of_decide_eq_true rfl) (ob_callD (args := [_, _]) rfl .direct hb48 (fun a w s fs gs hf hg => by obtain rfl := hf.unnil; obtain rfl := hg.unnil; exact c_graph_Find k _ _ _ e_x3 _ _ _ _ (s.arg (.tmp rfl)) (s.arg (.tmp rfl)))) fun a28 w28 s28 => ?_; clear s27
    refine seq_op s28 rfl rfl (of_decide_eq_true rfl) (ob_geq rfl (.tmp rfl) (opd_int rfl)) fun a29 w29 s29 => ?_; clear s28
    refine seq_op s29 rfl rfl (of_decide_eq_true rfl) (ob_assign rfl (.tmp rfl)) fun a30 w30 s30 => ?_; clear s29
    refine wpList_nil ?_
    refine then_normal ?_
    refine hK6 _ _ ?_
    have s31 := s30.sub (.cons (t := 0) rfl (.cons (t := 4) rfl (.cons (t := 5) rfl (.cons (t := 21) rfl .nil)))); clear s30
    refine cond_split s31 (.tmp rfl) (fun hc2 => ?_) (fun hc2 => ?_)
    · replace h5 := ite_t hc2 h5
      have h6 := h5; clear h5
      refine wp_seq_k fun K7 hK7 => ?_
      refine wp_region_lit ?_
      refine seq_op s31 rfl rfl (of_decide_eq_true rfl) (ob_assign rfl opd_is) fun a32 w32 s32 => ?_; clear s31
      have s33 := St.adopt s32 (G := RowF (nilRow 28) 46 k_api_Node []) rfl (rowNilN _ _ _ _ _); clear s32
      refine seq_op s33 rfl rfl (of_decide_eq_true rfl) (ob_assign rfl (opd_int rfl)) fun a34 w34 s34 => ?_; clear s33
      refine wpList_nil ?_
      refine then_normal ?_
      refine hK7 _ _ ?_
      have s35 := s34.sub (.cons (t := 6) rfl (.cons (t := 7) rfl .nil)); clear s34
      have s36 := St.drop (A := [_]) s35; clear s35
      have s37 := St.drop (A := [_]) s36; clear s36
      refine wp_ret ?_
      have s38 := St.freezeAllM (A := []) s37 (ts := [6]) (.cons rfl .nil); clear s37
      obtain rfl := Option.some.inj h6
      exact leave s38 (.inl rfl) rfl (.cons (.tmp rfl) (.cons (.tmp rfl) .nil))
    · replace h5 := ite_f hc2 h5
      have h7 := h5; clear h5
      refine wp_seq_k fun K8 hK8 => ?_
      refine wp_region_lit ?_
      refine seq_op s31 rfl rfl (of_decide_eq_true rfl) (ob_move rfl (.tmp rfl)) fun a39 w39 s39 => ?_; clear s31
      refine seq_op s39 rfl rfl (of_decide_eq_true rfl) (ob_lens rfl Try.underlying22 (.tmp rfl)) fun a40 w40 s40 => ?_; clear s39
      refine seq_op s40 rfl rfl (of_decide_eq_true rfl) (ob_eql rfl (.tmp rfl) (opd_int rfl)) fun a41 w41 s41 => ?_; clear s40
      refine seq_op s41 rfl rfl (of_decide_eq_true rfl) (ob_assign rfl (.tmp rfl)) fun a42 w42 s42 => ?_; clear s41
      refine wpList_nil ?_
      refine then_normal ?_
      refine hK8 _ _ ?_
      have s43 := s42.sub (.cons (t := 0) rfl (.cons (t := 4) rfl (.cons (t := 5) rfl (.cons (t := 26) rfl .nil)))); clear s42
      refine cond_split s43 (.tmp rfl) (fun hc3 => ?_) (fun hc3 => ?_)
      · replace h7 := ite_t hc3 h7
        have h8 := h7; clear h7
        refine wp_seq_k fun K9 hK9 => ?_
        refine wp_region_lit ?_
        refine seq_op s43 rfl rfl (of_decide_eq_true rfl) (ob_assign rfl opd_is) fun a44 w44 s44 => ?_; clear s43
        have s45 := St.adopt s44 (G := RowF (nilRow 29) 46 k_api_Node []) rfl (rowNilN _ _ _ _ _); clear s44
        refine seq_op s45 rfl rfl (of_decide_eq_true rfl) (ob_assign rfl (opd_int rfl)) fun a46 w46 s46 => ?_; clear s45
        refine wpList_nil ?_
        refine then_normal ?_
        refine hK9 _ _ ?_
        have s47 := s46.sub (.cons (t := 6) rfl (.cons (t := 7) rfl .nil)); clear s46
        have s48 := St.drop (A := [_]) s47; clear s47
        have s49 := St.drop (A := [_]) s48; clear s48
        refine wp_ret ?_
        have s50 := St.freezeAllM (A := []) s49 (ts := [6]) (.cons rfl .nil); clear s49
        obtain rfl := Option.some.inj h8
        exact leave s50 (.inl rfl) rfl (.cons (.tmp rfl) (.cons (.tmp rfl) .nil))
      · replace h7 := ite_f hc3 h7
        have h9 := h7; clear h7
        refine wp_skip ?_
        refine in_normal ?_
        refine then_normal ?_
        refine hK5 _ _ ?_
        have s51 := s43.sub (.cons (t := 0) rfl (.cons (t := 4) rfl (.cons (t := 5) rfl .nil))); clear s43
        refine wp_seq_k fun K10 hK10 => ?_
        refine wp_region_lit ?_
        refine seq_op s51 rfl rfl (of_decide_eq_true rfl) (ob_move rfl (.tmp rfl)) fun a52 w52 s52 => ?_; clear s51
        refine seq_op s52 rfl rfl (of_decide_eq_true rfl) (ob_fieldAddr (off' := 2) rfl Try.underlying44 rfl sz40 (by decide) (.tmp rfl) rfl) fun a53 w53 s53 => ?_; clear s52
        refine seq_op s53 rfl rfl (of_decide_eq_true rfl) (ob_load rfl tk40 (.tmp rfl) (.head _) (lg_api_Op_Parents p3)) fun a54 w54 s54 => ?_; clear s53
        obtain ⟨x4, e_x4, h10⟩ := bind_some h9; clear h9
        refine seq_opx (B' := (fun v1 : Value => [RowF v1 3 (kint .i64) x4.1, BF b2 44 k_api_Op p3, BF b1 39 (karr 32 (kint .u8)) p2])) s54 rfl rfl (of_decide_eq_true rfl) (ob_callL (args := [_, _]) (L := []) rfl .direct hb92 (List.Perm.refl _) (fun a w s fs gs hf hg => by obtain rfl := hf.unnil; obtain rfl := hg.unnil; exact c_graph_past k _ _ _ e_x4 _ _ _ _ (s.arg (.tmp rfl)) (s.arg (.tmp rfl))) (by exact fun _ => rfl)) fun v1 a55 w55 s55 => ?_; clear s54
        refine seq_op s55 rfl rfl (of_decide_eq_true rfl) (ob_move rfl (.tmp rfl)) fun a56 w56 s56 => ?_; clear s55
        refine seq_op s56 rfl rfl (of_decide_eq_true rfl) (ob_extract rfl (.tmp rfl) rfl) fun a57 w57 s57 => ?_; clear s56
        refine seq_op s57 rfl rfl (of_decide_eq_true rfl) (ob_extract rfl (.tmp rfl) rfl) fun a58 w58 s58 => ?_; clear s57
        refine seq_op s58 rfl rfl (of_decide_eq_true rfl) (ob_assign rfl (.tmp rfl)) fun a59 w59 s59 => ?_; clear s58
        refine seq_op s59 rfl rfl (of_decide_eq_true rfl) (ob_assign rfl (.tmp rfl)) fun a60 w60 s60 => ?_; clear s59
        refine wpList_nil ?_
        refine then_normal ?_
        refine hK10 _ _ ?_
        have s61 := s60.sub (.cons (t := 0) rfl (.cons (t := 4) rfl (.cons (t := 5) rfl (.cons (t := 8) rfl (.cons (t := 9) rfl .nil))))); clear s60
        refine wp_seq_k fun K11 hK11 => ?_
        refine wp_block ?_
        refine wp_seq_k fun K12 hK12 => ?_
        refine wp_region_lit ?_
        refine seq_op s61 rfl rfl (of_decide_eq_true rfl) (ob_move rfl (.tmp rfl)) fun a62 w62 s62 => ?_; clear s61
        refine seq_op s62 rfl rfl (of_decide_eq_true rfl) (ob_neq rfl (.tmp rfl) (opd_int rfl)) fun a63 w63 s63 => ?_; clear s62
        refine seq_op s63 rfl rfl (of_decide_eq_true rfl) (ob_assign rfl (.tmp rfl)) fun a64 w64 s64 => ?_; clear s63
        refine wpList_nil ?_
        refine then_normal ?_
        refine hK12 _ _ ?_
        have s65 := s64.sub (.cons (t := 0) rfl (.cons (t := 4) rfl (.cons (t := 5) rfl (.cons (t := 8) rfl (.cons (t := 9) rfl (.cons (t := 37) rfl .nil)))))); clear s64
        refine cond_split s65 (.tmp rfl) (fun hc4 => ?_) (fun hc4 => ?_)
        · replace h10 := ite_t hc4 h10
          have h11 := h10; clear h10
          refine wp_seq_k fun K13 hK13 => ?_
          refine wp_region_lit ?_
          refine seq_op s65 rfl rfl (of_decide_eq_true rfl) (ob_move rfl (.tmp rfl)) fun a66 w66 s66 => ?_; clear s65
          refine seq_op s66 rfl rfl (of_decide_eq_true rfl) (ob_assign rfl opd_is) fun a67 w67 s67 => ?_; clear s66
          have s68 := St.adopt s67 (G := RowF (nilRow 30) 46 k_api_Node []) rfl (rowNilN _ _ _ _ _); clear s67
          refine seq_op s68 rfl rfl (of_decide_eq_true rfl) (ob_assign rfl (.tmp rfl)) fun a69 w69 s69 => ?_; clear s68
          refine wpList_nil ?_
          refine then_normal ?_
          refine hK13 _ _ ?_
          have s70 := s69.sub (.cons (t := 6) rfl (.cons (t := 7) rfl .nil)); clear s69
          have s71 := St.drop (A := [_]) s70; clear s70
          have s72 := St.drop (A := [_]) s71; clear s71
          have s73 := St.drop (A := [_]) s72; clear s72
          refine wp_ret ?_
          have s74 := St.freezeAllM (A := []) s73 (ts := [6]) (.cons rfl .nil); clear s73
          obtain rfl := Option.some.inj h11
          exact leave s74 (.inl rfl) rfl (.cons (.tmp rfl) (.cons (.tmp rfl) .nil))
        · replace h10 := ite_f hc4 h10
          have h12 := h10; clear h10
          refine wp_seq_k fun K14 hK14 => ?_
          refine wp_region_lit ?_
          refine seq_op s65 rfl rfl (of_decide_eq_true rfl) (ob_move rfl (.tmp rfl)) fun a75 w75 s75 => ?_; clear s65
          refine seq_op s75 rfl rfl (of_decide_eq_true rfl) (ob_load rfl tk44 (.tmp rfl) (.tail _ (.head _)) (LG.refl _ _)) fun a76 w76 s76 => ?_; clear s75
          refine seq_op s76 rfl rfl (of_decide_eq_true rfl) (ob_move rfl (.tmp rfl)) fun a77 w77 s77 => ?_; clear s76
          obtain ⟨x5, e_x5, h13⟩ := bind_some h12; clear h12
          refine seq_op s77 rfl rfl (of_decide_eq_true rfl) ((ob_lendG (L := [_]) (List.Perm.refl _) (.cons (t := 44) rfl (lendRow (.head _)) .nil) (Flat.res1 (Flat.V KFlat.bool)) (fun _ => ob_callD (args := [_, _, _]) rfl .direct hb93 (fun a w s fs gs hf hg => by obtain rfl := hf.unnil; obtain rfl := hg.unnil; exact c_graph_turn k _ _ _ _ e_x5 _ _ _ _ _ (s.arg (.tmp rfl)) (s.arg (.tmp rfl)) (s.arg (.tmp rfl)))))) fun a78 w78 s78 => ?_; clear s77
          refine seq_op s78 rfl rfl (of_decide_eq_true rfl) (ob_not rfl (.tmp rfl)) fun a79 w79 s79 => ?_; clear s78
          refine seq_op s79 rfl rfl (of_decide_eq_true rfl) (ob_assign rfl (.tmp rfl)) fun a80 w80 s80 => ?_; clear s79
          refine wpList_nil ?_
          refine then_normal ?_
          refine hK14 _ _ ?_
          have s81 := s80.sub (.cons (t := 0) rfl (.cons (t := 4) rfl (.cons (t := 5) rfl (.cons (t := 8) rfl (.cons (t := 41) rfl .nil))))); clear s80
          refine cond_split s81 (.tmp rfl) (fun hc5 => ?_) (fun hc5 => ?_)
          · replace h13 := ite_t hc5 h13
            have h14 := h13; clear h13
            refine wp_seq_k fun K15 hK15 => ?_
            refine wp_region_lit ?_
            refine seq_op s81 rfl rfl (of_decide_eq_true rfl) (ob_assign rfl opd_is) fun a82 w82 s82 => ?_; clear s81
            have s83 := St.adopt s82 (G := RowF (nilRow 31) 46 k_api_Node []) rfl (rowNilN _ _ _ _ _); clear s82
            refine seq_op s83 rfl rfl (of_decide_eq_true rfl) (ob_assign rfl (opd_int rfl)) fun a84 w84 s84 => ?_; clear s83
            refine wpList_nil ?_
            refine then_normal ?_
            refine hK15 _ _ ?_
            have s85 := s84.sub (.cons (t := 6) rfl (.cons (t := 7) rfl .nil)); clear s84
            have s86 := St.drop (A := [_]) s85; clear s85
            have s87 := St.drop (A := [_]) s86; clear s86
            have s88 := St.drop (A := [_]) s87; clear s87
            refine wp_ret ?_
            have s89 := St.freezeAllM (A := []) s88 (ts := [6]) (.cons rfl .nil); clear s88
            obtain rfl := Option.some.inj h14
            exact leave s89 (.inl rfl) rfl (.cons (.tmp rfl) (.cons (.tmp rfl) .nil))
          · replace h13 := ite_f hc5 h13
            have h15 := h13; clear h13
            refine wp_skip ?_
            refine in_normal ?_
            refine then_normal ?_
            refine hK11 _ _ ?_
            have s90 := s81.sub (.cons (t := 0) rfl (.cons (t := 4) rfl (.cons (t := 5) rfl (.cons (t := 8) rfl .nil)))); clear s81
            refine wp_seq_k fun K16 hK16 => ?_
            refine wp_region_lit ?_
            refine seq_op s90 rfl rfl (of_decide_eq_true rfl) (ob_assign rfl opd_is) fun a91 w91 s91 => ?_; clear s90
            have s92 := St.adopt s91 (G := RowF (nilRow 32) 46 k_api_Node []) rfl (rowNilN _ _ _ _ _); clear s91
            refine wpList_nil ?_
            refine then_normal ?_
            refine hK16 _ _ ?_
            have s93 := s92.sub (.cons (t := 0) rfl (.cons (t := 4) rfl (.cons (t := 5) rfl (.cons (t := 8) rfl (.cons (t := 10) rfl .nil))))); clear s92
            refine wp_seq_k fun K17 hK17 => ?_
            refine wp_seq_k fun K18 hK18 => ?_
            refine wp_region_lit ?_
            refine seq_op s93 rfl rfl (of_decide_eq_true rfl) (ob_move rfl (.tmp rfl)) fun a94 w94 s94 => ?_; clear s93
            refine seq_op s94 rfl rfl (of_decide_eq_true rfl) (ob_lens rfl Try.underlying22 (.tmp rfl)) fun a95 w95 s95 => ?_; clear s94
            refine seq_op s95 rfl rfl (of_decide_eq_true rfl) (ob_move rfl (opd_int rfl)) fun a96 w96 s96 => ?_; clear s95
            refine wpList_nil ?_
            refine then_normal ?_
            refine hK18 _ _ ?_
            have s97 := s96.sub (.cons (t := 4) rfl (.cons (t := 5) rfl (.cons (t := 8) rfl (.cons (t := 10) rfl (.cons (t := 47) rfl (.cons (t := 48) rfl (.cons (t := 49) rfl .nil))))))); clear s96
            have hj1 : ∀ (y1 : (List api_Node)) (v2 : Value) (a : Act) (w : World), (graph_Add_w2.j1 k p3 p2 x4) y1 = some r → St ⟨74, w0, ok, []⟩ [BF b1 39 (karr 32 (kint .u8)) p2, BF b2 44 k_api_Op p3, RowF v1 3 (kint .i64) x4.1, RowF v2 46 k_api_Node y1] [(4, (ptrB b1 0)), (5, (ptrB b2 0)), (8, (is v1)), (10, (is v2))] a w → K17 a w := by
              intro y1 v2 a98 w98 h16 s98
              unfold graph_Add_w2.j1 at h16
              refine hK17 _ _ ?_
              refine wp_seq_k fun K19 hK19 => ?_
              have s99 := St.freezeAllM (A := [_, _]) s98 (ts := [8]) (.cons rfl .nil); clear s98
              obtain ⟨x6, e_x6, h17⟩ := bind_some h16; clear h16
              refine wp_goes (Fs := [(is v2), ((karr 32 (kint .u8)).V p2), (k_api_Op.V p3), (k_api_Op.V x6), ((ksl (kint .i64)).V x4.1), (k_api_Node.V (⟨p2, x6, x4.1⟩ : api_Node)), ((ksl k_api_Node).V ([(⟨p2, x6, x4.1⟩ : api_Node)] : (List api_Node)))]) (bits := [0, 0, 0, 4, 0, 30, 62, 127, 255, 511]) (m := 7) (todo := 0) mx s99 ?_; clear s99
              refine goes_last (by kernel_rfl) rfl (opsS_cons (.plain _ (Av.old (t := 10) rfl rfl Av.nil) rfl rfl (ob_move rfl (.tmp rfl))) (opsS_cons (.plain _ (Av.old (t := 4) rfl rfl Av.nil) rfl rfl (ob_load rfl tk39 (.tmp rfl) (.head _) (LG.refl _ _))) (opsS_cons (.plain _ (Av.old (t := 5) rfl rfl Av.nil) rfl rfl (ob_load rfl tk44 (.tmp rfl) (.tail _ (.head _)) (LG.refl _ _))) (opsS_cons (.plain _ (Av.new (j := 2) rfl rfl rfl Av.nil) rfl rfl (ob_callD (args := [_]) rfl .direct hb94 (fun a w s fs gs hf hg => by obtain rfl := hf.unnil; obtain rfl := hg.unnil; exact c_graph_clone k _ _ e_x6 _ _ _ (s.arg (.tmp rfl))))) (opsS_cons (.plain _ (Av.old (t := 8) rfl rfl Av.nil) rfl rfl (ob_move rfl (.tmp rfl))) (opsS_cons (.plain _ (Av.new (j := 1) rfl rfl rfl (Av.new (j := 3) rfl rfl rfl (Av.new (j := 4) rfl rfl rfl Av.nil))) rfl rfl (ob_mkStruct (K := k_api_Node) (X0 := (⟨(List.replicate 32 (0 : Int)), (⟨(0 : Int), (0 : Int), [], (0 : Int), [], (List.replicate 32 (0 : Int)), (List.replicate 32 (0 : Int)), [], []⟩ : api_Op), []⟩ : api_Node)) rfl Try.underlying46 zz46 rfl pl46 (Zr.iso (f := t_api_Node) (x := (⟨(List.replicate 32 (0 : Int)), (⟨(0 : Int), (0 : Int), [], (0 : Int), [], (List.replicate 32 (0 : Int)), (List.replicate 32 (0 : Int)), [], []⟩ : api_Op), []⟩ : api_Node)) (Zr.pair (Zr.arr 32 (Zr.int .u8)) (Zr.pair (Zr.iso (f := t_api_Op) (x := (⟨(0 : Int), (0 : Int), [], (0 : Int), [], (List.replicate 32 (0 : Int)), (List.replicate 32 (0 : Int)), [], []⟩ : api_Op)) (Zr.pair (Zr.int .i64) (Zr.pair (Zr.int .u32) (Zr.pair (Zr.sl _) (Zr.pair (Zr.int .i64) (Zr.pair (Zr.sl _) (Zr.pair (Zr.arr 32 (Zr.int .u8)) (Zr.pair (Zr.arr 32 (Zr.int .u8)) (Zr.pair Zr.str (Zr.pair (Zr.sl _) Zr.nil)))))))))) (Zr.pair (Zr.sl _) Zr.nil)))) (.cons (.tmp rfl) rfl (ls_api_Node_Id (⟨(List.replicate 32 (0 : Int)), (⟨(0 : Int), (0 : Int), [], (0 : Int), [], (List.replicate 32 (0 : Int)), (List.replicate 32 (0 : Int)), [], []⟩ : api_Op), []⟩ : api_Node) p2) (.cons (.tmp rfl) rfl (ls_api_Node_Op (⟨p2, (⟨(0 : Int), (0 : Int), [], (0 : Int), [], (List.replicate 32 (0 : Int)), (List.replicate 32 (0 : Int)), [], []⟩ : api_Op), []⟩ : api_Node) x6) (.cons (.tmp rfl) rfl (ls_api_Node_Past (⟨p2, x6, []⟩ : api_Node) x4.1) (.nil _)))))) (opsS_cons (.plain _ (Av.new (j := 5) rfl rfl rfl Av.nil) rfl rfl (ob_mkSlice (k := k_api_Node) (xs := ([(⟨p2, x6, x4.1⟩ : api_Node)] : (List api_Node))) rfl Try.underlying22 zz46 sz46 (Zr.iso (f := t_api_Node) (x := (⟨(List.replicate 32 (0 : Int)), (⟨(0 : Int), (0 : Int), [], (0 : Int), [], (List.replicate 32 (0 : Int)), (List.replicate 32 (0 : Int)), [], []⟩ : api_Op), []⟩ : api_Node)) (Zr.pair (Zr.arr 32 (Zr.int .u8)) (Zr.pair (Zr.iso (f := t_api_Op) (x := (⟨(0 : Int), (0 : Int), [], (0 : Int), [], (List.replicate 32 (0 : Int)), (List.replicate 32 (0 : Int)), [], []⟩ : api_Op)) (Zr.pair (Zr.int .i64) (Zr.pair (Zr.int .u32) (Zr.pair (Zr.sl _) (Zr.pair (Zr.int .i64) (Zr.pair (Zr.sl _) (Zr.pair (Zr.arr 32 (Zr.int .u8)) (Zr.pair (Zr.arr 32 (Zr.int .u8)) (Zr.pair Zr.str (Zr.pair (Zr.sl _) Zr.nil)))))))))) (Zr.pair (Zr.sl _) Zr.nil)))) (by decide) (by decide) (.cons (.tmp rfl) rfl (LS.arr' (i := 0) (ys := ([(⟨p2, x6, x4.1⟩ : api_Node)] : (List api_Node))) (by simp) (by rfl)) (.nil _)))) opsS_nil))))))) (out_new (i := 0) (by decide) rfl rfl (out_new (i := 6) (by decide) rfl rfl out_nil)) fun a100 w100 s100 => ?_
              obtain ⟨g1, h18⟩ := guard_some h17; clear h17
              refine seq_opx (B' := (fun v3 : Value => [BF b1 39 (karr 32 (kint .u8)) p2, BF b2 44 k_api_Op p3, RowF v3 46 k_api_Node (y1 ++ ([(⟨p2, x6, x4.1⟩ : api_Node)] : (List api_Node)))])) s100 rfl rfl (of_decide_eq_true rfl) (ob_appendL2 (A := [_, _]) rfl Try.underlying22 ap46 (Zr.iso (f := t_api_Node) (x := (⟨(List.replicate 32 (0 : Int)), (⟨(0 : Int), (0 : Int), [], (0 : Int), [], (List.replicate 32 (0 : Int)), (List.replicate 32 (0 : Int)), [], []⟩ : api_Op), []⟩ : api_Node)) (Zr.pair (Zr.arr 32 (Zr.int .u8)) (Zr.pair (Zr.iso (f := t_api_Op) (x := (⟨(0 : Int), (0 : Int), [], (0 : Int), [], (List.replicate 32 (0 : Int)), (List.replicate 32 (0 : Int)), [], []⟩ : api_Op)) (Zr.pair (Zr.int .i64) (Zr.pair (Zr.int .u32) (Zr.pair (Zr.sl _) (Zr.pair (Zr.int .i64) (Zr.pair (Zr.sl _) (Zr.pair (Zr.arr 32 (Zr.int .u8)) (Zr.pair (Zr.arr 32 (Zr.int .u8)) (Zr.pair Zr.str (Zr.pair (Zr.sl _) Zr.nil)))))))))) (Zr.pair (Zr.sl _) Zr.nil)))) (by decide) (.tmp rfl) (.tmp rfl) rfl g1) fun v3 a101 w101 s101 => ?_; clear s100
              refine seq_op s101 rfl rfl (of_decide_eq_true rfl) (ob_assign rfl (.tmp rfl)) fun a102 w102 s102 => ?_; clear s101
              refine seq_op s102 rfl rfl (of_decide_eq_true rfl) (ob_assign rfl (opd_int rfl)) fun a103 w103 s103 => ?_; clear s102
              refine wpList_nil ?_
              refine then_normal ?_
              refine hK19 _ _ ?_
              have s104 := s103.sub (.cons (t := 6) rfl (.cons (t := 7) rfl .nil)); clear s103
              have s105 := St.drop (A := []) s104; clear s104
              have s106 := St.drop (A := []) s105; clear s105
              refine wp_ret ?_
              have s107 := St.freezeAllM (A := []) s106 (ts := [6]) (.cons rfl .nil); clear s106
              obtain rfl := Option.some.inj h18
              exact leave s107 (.inl rfl) rfl (.cons (.tmp rfl) (.cons (.tmp rfl) .nil))
            refine wp_block ?_
            have s108 := s97.perm (toFront [_, _, _] (toFront [_, _] (toFront [_] (toFront [] (List.Perm.refl _))))); clear s97
            refine wp_loop_fuel (fun m (q : Int × (List api_Node)) => graph_Add_w2.l1 k p1 p3 p2 x4 m q.1 q.2) r (fun _ => rfl) (fun q a w => ∃ (v4 : Value), St ⟨74, w0, ok, []⟩ [BF b1 39 (karr 32 (kint .u8)) p2, BF b2 44 k_api_Op p3, RowF v1 3 (kint .i64) x4.1, RowF v4 46 k_api_Node q.2] [(4, (ptrB b1 0)), (5, (ptrB b2 0)), (8, (is v1)), (10, (is v4)), (47, ((ksl k_api_Node).V p1)), (48, ((kint .i64).V (p1.length : Int))), (49, ((kint .i64).V q.1))] a w) ?_ k ((0 : Int), ([] : (List api_Node))) _ _ h15 ⟨(nilRow 32), (s108.sub (.cons rfl (.cons rfl (.cons rfl (.cons rfl (.cons rfl (.cons rfl (.cons rfl .nil))))))))⟩
            rintro n1 ⟨y2, y3⟩ a109 w109 h19 ⟨v4, s109⟩ K20 hK20
            replace h19 : graph_Add_w2.l1 k p1 p3 p2 x4 (n1 + 1) y2 y3 = some r := h19; rw [graph_Add_w2.l1] at h19
            have h20 := h19; clear h19
            refine wp_seq_k fun K21 hK21 => ?_
            refine wp_region_lit ?_
            refine seq_op s109 rfl rfl (of_decide_eq_true rfl) (ob_lss rfl (.tmp rfl) (.tmp rfl)) fun a110 w110 s110 => ?_; clear s109
            refine wpList_nil ?_
            refine then_normal ?_
            refine hK21 _ _ ?_
            have s111 := s110.sub (.cons (t := 4) rfl (.cons (t := 5) rfl (.cons (t := 8) rfl (.cons (t := 10) rfl (.cons (t := 47) rfl (.cons (t := 48) rfl (.cons (t := 49) rfl (.cons (t := 50) rfl .nil)))))))); clear s110
            refine wp_seq_k fun K22 hK22 => ?_
            refine cond_split s111 (.tmp rfl) (fun hc6 => ?_) (fun hc6 => ?_)
            · replace h20 := ite_t hc6 h20
              have h21 := h20; clear h20
              refine wp_skip ?_
              refine then_normal ?_
              refine hK22 _ _ ?_
              have s112 := s111.sub (.cons (t := 4) rfl (.cons (t := 5) rfl (.cons (t := 8) rfl (.cons (t := 10) rfl (.cons (t := 47) rfl (.cons (t := 48) rfl (.cons (t := 49) rfl .nil))))))); clear s111
              refine wp_seq_k fun K23 hK23 => ?_
              refine wp_block ?_
              refine wp_seq_k fun K24 hK24 => ?_
              refine wp_region_lit ?_
              obtain ⟨x7, e_x7, h22⟩ := bind_some h21; clear h21
              refine seq_op s112 rfl rfl (of_decide_eq_true rfl) (ob_indexAddrs rfl Try.underlying22 sz46 (.tmp rfl) (.tmp rfl) e_x7) fun a113 w113 s113 => ?_; clear s112
              refine seq_op s113 rfl rfl (of_decide_eq_true rfl) (ob_loadr rfl tk46 (.tmp rfl)) fun a114 w114 s114 => ?_; clear s113
              refine seq_opx (B' := (fun b3 : Nat => [BF b3 46 k_api_Node (⟨(List.replicate 32 (0 : Int)), (⟨(0 : Int), (0 : Int), [], (0 : Int), [], (List.replicate 32 (0 : Int)), (List.replicate 32 (0 : Int)), [], []⟩ : api_Op), []⟩ : api_Node), BF b1 39 (karr 32 (kint .u8)) p2, BF b2 44 k_api_Op p3, RowF v1 3 (kint .i64) x4.1, RowF v4 46 k_api_Node y3])) s114 rfl rfl (of_decide_eq_true rfl) (ob_new (k := k_api_Node) rfl zz46 (Zr.iso (f := t_api_Node) (x := (⟨(List.replicate 32 (0 : Int)), (⟨(0 : Int), (0 : Int), [], (0 : Int), [], (List.replicate 32 (0 : Int)), (List.replicate 32 (0 : Int)), [], []⟩ : api_Op), []⟩ : api_Node)) (Zr.pair (Zr.arr 32 (Zr.int .u8)) (Zr.pair (Zr.iso (f := t_api_Op) (x := (⟨(0 : Int), (0 : Int), [], (0 : Int), [], (List.replicate 32 (0 : Int)), (List.replicate 32 (0 : Int)), [], []⟩ : api_Op)) (Zr.pair (Zr.int .i64) (Zr.pair (Zr.int .u32) (Zr.pair (Zr.sl _) (Zr.pair (Zr.int .i64) (Zr.pair (Zr.sl _) (Zr.pair (Zr.arr 32 (Zr.int .u8)) (Zr.pair (Zr.arr 32 (Zr.int .u8)) (Zr.pair Zr.str (Zr.pair (Zr.sl _) Zr.nil)))))))))) (Zr.pair (Zr.sl _) Zr.nil))))) fun b3 a115 w115 s115 => ?_; clear s114
              refine seq_opx0 (B' := (fun _ : Unit => [BF b3 46 k_api_Node x7, BF b1 39 (karr 32 (kint .u8)) p2, BF b2 44 k_api_Op p3, RowF v1 3 (kint .i64) x4.1, RowF v4 46 k_api_Node y3])) s115 rfl rfl (ob_store (A := []) rfl tk46 (.tmp rfl) (.tmp rfl) rfl (LS.refl _ _ _) rfl) fun _ a116 w116 s116 => ?_; clear s115
              refine wpList_nil ?_
              refine then_normal ?_
              refine hK24 _ _ ?_
              have s117 := s116.sub (.cons (t := 4) rfl (.cons (t := 5) rfl (.cons (t := 8) rfl (.cons (t := 10) rfl (.cons (t := 12) rfl (.cons (t := 47) rfl (.cons (t := 48) rfl (.cons (t := 49) rfl .nil)))))))); clear s116
              obtain ⟨x8, e_x8, h23⟩ := bind_some h22; clear h22
              obtain ⟨x9, e_x9, h24⟩ := bind_some h23; clear h23
              refine wp_goes (Fs := [(is v4), (ptrB b3 0), ((karr 32 (kint .u8)).V x7.Id), (ptrB b3 32), (k_api_Op.V x7.Op), (k_api_Op.V x8), (ptrB b3 103), ((ksl (kint .i64)).V x7.Past), ((ksl (kint .i64)).V x9), (k_api_Node.V (⟨x7.Id, x8, x9⟩ : api_Node)), ((ksl k_api_Node).V ([(⟨x7.Id, x8, x9⟩ : api_Node)] : (List api_Node)))]) (bits := [0, 0, 2, 0, 8, 24, 0, 64, 248, 510, 1022, 2047, 4095]) (m := 11) (todo := 0) mx s117 ?_; clear s117
              refine goes_last (by kernel_rfl) rfl (opsS_cons (.plain _ (Av.old (t := 10) rfl rfl Av.nil) rfl rfl (ob_move rfl (.tmp rfl))) (opsS_cons (.plain _ (Av.old (t := 12) rfl rfl Av.nil) rfl rfl (ob_fieldAddr (off' := 0) rfl Try.underlying46 rfl sz39 (by decide) (.tmp rfl) rfl)) (opsS_cons (.plain _ (Av.new (j := 1) rfl rfl rfl Av.nil) rfl rfl (ob_load rfl tk39 (.tmp rfl) (.head _) (lg_api_Node_Id x7))) (opsS_cons (.plain _ (Av.old (t := 12) rfl rfl Av.nil) rfl rfl (ob_fieldAddr (off' := 32) rfl Try.underlying46 rfl sz44 (by decide) (.tmp rfl) rfl)) (opsS_cons (.plain _ (Av.new (j := 3) rfl rfl rfl Av.nil) rfl rfl (ob_load rfl tk44 (.tmp rfl) (.head _) (lg_api_Node_Op x7))) (opsS_cons (.plain _ (Av.new (j := 4) rfl rfl rfl Av.nil) rfl rfl (ob_callD (args := [_]) rfl .direct hb94 (fun a w s fs gs hf hg => by obtain rfl := hf.unnil; obtain rfl := hg.unnil; exact c_graph_clone k _ _ e_x8 _ _ _ (s.arg (.tmp rfl))))) (opsS_cons (.plain _ (Av.old (t := 12) rfl rfl Av.nil) rfl rfl (ob_fieldAddr (off' := 103) rfl Try.underlying46 rfl sz41 (by decide) (.tmp rfl) rfl)) (opsS_cons (.plain _ (Av.new (j := 6) rfl rfl rfl Av.nil) rfl rfl (ob_load rfl tk41 (.tmp rfl) (.head _) (lg_api_Node_Past x7))) (opsS_cons (.plain _ (Av.new (j := 7) rfl rfl rfl Av.nil) rfl rfl ((ObF.ob (ob_callF (F := resFact [((ksl (kint .i64)).V x9)]) (args := [_]) rfl .direct hb80 (fun a w s fs gs hf hg => by obtain rfl := hf.unnil; obtain rfl := hg.unnil; exact c_slices_Clone_int_int k _ _ e_x9 _ _ _ (s.arg (.tmp rfl))) (by exact fun g => ResF.all (.row (.head _) (KFlat.int _) .nil)))))) (opsS_cons (.plain _ (Av.new (j := 2) rfl rfl rfl (Av.new (j := 5) rfl rfl rfl (Av.new (j := 8) rfl rfl rfl Av.nil))) rfl rfl (ob_mkStruct (K := k_api_Node) (X0 := (⟨(List.replicate 32 (0 : Int)), (⟨(0 : Int), (0 : Int), [], (0 : Int), [], (List.replicate 32 (0 : Int)), (List.replicate 32 (0 : Int)), [], []⟩ : api_Op), []⟩ : api_Node)) rfl Try.underlying46 zz46 rfl pl46 (Zr.iso (f := t_api_Node) (x := (⟨(List.replicate 32 (0 : Int)), (⟨(0 : Int), (0 : Int), [], (0 : Int), [], (List.replicate 32 (0 : Int)), (List.replicate 32 (0 : Int)), [], []⟩ : api_Op), []⟩ : api_Node)) (Zr.pair (Zr.arr 32 (Zr.int .u8)) (Zr.pair (Zr.iso (f := t_api_Op) (x := (⟨(0 : Int), (0 : Int), [], (0 : Int), [], (List.replicate 32 (0 : Int)), (List.replicate 32 (0 : Int)), [], []⟩ : api_Op)) (Zr.pair (Zr.int .i64) (Zr.pair (Zr.int .u32) (Zr.pair (Zr.sl _) (Zr.pair (Zr.int .i64) (Zr.pair (Zr.sl _) (Zr.pair (Zr.arr 32 (Zr.int .u8)) (Zr.pair (Zr.arr 32 (Zr.int .u8)) (Zr.pair Zr.str (Zr.pair (Zr.sl _) Zr.nil)))))))))) (Zr.pair (Zr.sl _) Zr.nil)))) (.cons (.tmp rfl) rfl (ls_api_Node_Id (⟨(List.replicate 32 (0 : Int)), (⟨(0 : Int), (0 : Int), [], (0 : Int), [], (List.replicate 32 (0 : Int)), (List.replicate 32 (0 : Int)), [], []⟩ : api_Op), []⟩ : api_Node) x7.Id) (.cons (.tmp rfl) rfl (ls_api_Node_Op (⟨x7.Id, (⟨(0 : Int), (0 : Int), [], (0 : Int), [], (List.replicate 32 (0 : Int)), (List.replicate 32 (0 : Int)), [], []⟩ : api_Op), []⟩ : api_Node) x8) (.cons (.tmp rfl) rfl (ls_api_Node_Past (⟨x7.Id, x8, []⟩ : api_Node) x9) (.nil _)))))) (opsS_cons (.plain _ (Av.new (j := 9) rfl rfl rfl Av.nil) rfl rfl (ob_mkSlice (k := k_api_Node) (xs := ([(⟨x7.Id, x8, x9⟩ : api_Node)] : (List api_Node))) rfl Try.underlying22 zz46 sz46 (Zr.iso (f := t_api_Node) (x := (⟨(List.replicate 32 (0 : Int)), (⟨(0 : Int), (0 : Int), [], (0 : Int), [], (List.replicate 32 (0 : Int)), (List.replicate 32 (0 : Int)), [], []⟩ : api_Op), []⟩ : api_Node)) (Zr.pair (Zr.arr 32 (Zr.int .u8)) (Zr.pair (Zr.iso (f := t_api_Op) (x := (⟨(0 : Int), (0 : Int), [], (0 : Int), [], (List.replicate 32 (0 : Int)), (List.replicate 32 (0 : Int)), [], []⟩ : api_Op)) (Zr.pair (Zr.int .i64) (Zr.pair (Zr.int .u32) (Zr.pair (Zr.sl _) (Zr.pair (Zr.int .i64) (Zr.pair (Zr.sl _) (Zr.pair (Zr.arr 32 (Zr.int .u8)) (Zr.pair (Zr.arr 32 (Zr.int .u8)) (Zr.pair Zr.str (Zr.pair (Zr.sl _) Zr.nil)))))))))) (Zr.pair (Zr.sl _) Zr.nil)))) (by decide) (by decide) (.cons (.tmp rfl) rfl (LS.arr' (i := 0) (ys := ([(⟨x7.Id, x8, x9⟩ : api_Node)] : (List api_Node))) (by simp) (by rfl)) (.nil _)))) opsS_nil))))))))))) (out_old (t := 4) rfl rfl (out_old (t := 5) rfl rfl (out_old (t := 8) rfl rfl (out_old (t := 10) rfl rfl (out_old (t := 47) rfl rfl (out_old (t := 48) rfl rfl (out_old (t := 49) rfl rfl (out_new (i := 0) (by decide) rfl rfl (out_new (i := 10) (by decide) rfl rfl out_nil))))))))) fun a118 w118 s118 => ?_
              obtain ⟨g2, h25⟩ := guard_some h24; clear h24
              refine seq_opx (B' := (fun v5 : Value => [BF b3 46 k_api_Node x7, BF b1 39 (karr 32 (kint .u8)) p2, BF b2 44 k_api_Op p3, RowF v1 3 (kint .i64) x4.1, RowF v5 46 k_api_Node (y3 ++ ([(⟨x7.Id, x8, x9⟩ : api_Node)] : (List api_Node)))])) s118 rfl rfl (of_decide_eq_true rfl) (ob_appendL2 (A := [_, _, _, _]) rfl Try.underlying22 ap46 (Zr.iso (f := t_api_Node) (x := (⟨(List.replicate 32 (0 : Int)), (⟨(0 : Int), (0 : Int), [], (0 : Int), [], (List.replicate 32 (0 : Int)), (List.replicate 32 (0 : Int)), [], []⟩ : api_Op), []⟩ : api_Node)) (Zr.pair (Zr.arr 32 (Zr.int .u8)) (Zr.pair (Zr.iso (f := t_api_Op) (x := (⟨(0 : Int), (0 : Int), [], (0 : Int), [], (List.replicate 32 (0 : Int)), (List.replicate 32 (0 : Int)), [], []⟩ : api_Op)) (Zr.pair (Zr.int .i64) (Zr.pair (Zr.int .u32) (Zr.pair (Zr.sl _) (Zr.pair (Zr.int .i64) (Zr.pair (Zr.sl _) (Zr.pair (Zr.arr 32 (Zr.int .u8)) (Zr.pair (Zr.arr 32 (Zr.int .u8)) (Zr.pair Zr.str (Zr.pair (Zr.sl _) Zr.nil)))))))))) (Zr.pair (Zr.sl _) Zr.nil)))) (by decide) (.tmp rfl) (.tmp rfl) rfl g2) fun v5 a119 w119 s119 => ?_; clear s118
              refine seq_op s119 rfl rfl (of_decide_eq_true rfl) (ob_assign rfl (.tmp rfl)) fun a120 w120 s120 => ?_; clear s119
              refine wpList_nil ?_
              refine in_normal ?_
              refine then_normal ?_
              refine hK23 _ _ ?_
              have s121 := s120.sub (.cons (t := 4) rfl (.cons (t := 5) rfl (.cons (t := 8) rfl (.cons (t := 10) rfl (.cons (t := 47) rfl (.cons (t := 48) rfl (.cons (t := 49) rfl .nil))))))); clear s120
              have s122 := St.drop (A := []) s121; clear s121
              refine wp_region_lit ?_
              refine seq_op s122 rfl rfl (of_decide_eq_true rfl) (ob_add rfl (.tmp rfl) (opd_int rfl)) fun a123 w123 s123 => ?_; clear s122
              refine seq_op s123 rfl rfl (of_decide_eq_true rfl) (ob_move rfl (.tmp rfl)) fun a124 w124 s124 => ?_; clear s123
              refine wpList_nil ?_
              refine then_normal ?_
              exact hK20 ((iadd .i64 y2 (1 : Int)), (y3 ++ ([(⟨x7.Id, x8, x9⟩ : api_Node)] : (List api_Node)))) _ _ h25 ⟨v5, (s124.sub (.cons rfl (.cons rfl (.cons rfl (.cons rfl (.cons rfl (.cons rfl (.cons rfl .nil))))))))⟩
            · replace h20 := ite_f hc6 h20
              have h26 := h20; clear h20
              refine wp_exit ?_
              refine (then_exit (then_exit (in_here ?_)))
              refine then_normal ?_
              exact hj1 y3 v4 _ _ h26 (s111.sub (.cons rfl (.cons rfl (.cons rfl (.cons rfl .nil)))))

/- 8 cabal/caballaw16.RosterStill -/
theorem c_caballaw16_RosterStill (k : Nat) (p1 : (List api_Node)) (r : Bool) (h0 : caballaw16_RosterStill k p1 = some r) (ok : Ok) (w0 : World) (z0 : Value) (u0 : ((ksl k_api_Node).V p1).holds ok w0 z0) :
    Gives Try.prog 8 [z0] ok w0 (resFact [kbool.V r]) := by
  unfold caballaw16_RosterStill at h0
  refine enter (N := 62) Try.func8 rfl rfl (of_decide_eq_true rfl) (.cons u0 .nil) fun a1 s1 => ?_
  refine wp_seq_k fun K1 hK1 => ?_
  refine wp_region_lit ?_
  refine seq_op s1 rfl rfl (of_decide_eq_true rfl) (ob_assign rfl opd_bool) fun a2 w2 s2 => ?_; clear s1
  refine wpList_nil ?_
  refine then_normal ?_
  refine hK1 _ _ ?_
  have s3 := s2.sub (.cons (t := 0) rfl .nil); clear s2
  refine wp_seq_k fun K2 hK2 => ?_
  refine wp_seq_k fun K3 hK3 => ?_
  refine wp_region_lit ?_
  obtain ⟨x1, e_x1, h1⟩ := bind_some h0; clear h0
  refine seq_op s3 rfl rfl (of_decide_eq_true rfl) (ob_callD (args := []) rfl .direct hb35 (fun a w s fs gs hf hg => by obtain rfl := hf.unnil; obtain rfl := hg.unnil; exact c_caballaw16_alive k _ e_x1 _ _)) fun a4 w4 s4 => ?_; clear s3
  refine seq_op s4 rfl rfl (of_decide_eq_true rfl) (ob_not rfl (.tmp rfl)) fun a5 w5 s5 => ?_; clear s4
  refine wpList_nil ?_
  refine then_normal ?_
  refine hK3 _ _ ?_
  have s6 := s5.sub (.cons (t := 0) rfl (.cons (t := 8) rfl .nil)); clear s5
  refine cond_split s6 (.tmp rfl) (fun hc1 => ?_) (fun hc1 => ?_)
  · replace h1 := ite_t hc1 h1
    have h2 := h1; clear h1
    refine wp_seq_k fun K4 hK4 => ?_
    refine wp_region_lit ?_
    refine seq_op s6 rfl rfl (of_decide_eq_true rfl) (ob_assign rfl opd_bool) fun a7 w7 s7 => ?_; clear s6
    refine wpList_nil ?_
    refine then_normal ?_
    refine hK4 _ _ ?_
    have s8 := s7.sub (.cons (t := 2) rfl .nil); clear s7
    refine wp_ret ?_
    obtain rfl := Option.some.inj h2
    exact leave s8 (.inl rfl) rfl (.cons (.tmp rfl) .nil)
  · replace h1 := ite_f hc1 h1
    have h3 := h1; clear h1
    refine wp_skip ?_
    refine then_normal ?_
    refine hK2 _ _ ?_
    have s9 := s6.sub (.cons (t := 0) rfl .nil); clear s6
    refine wp_seq_k fun K5 hK5 => ?_
    refine wp_seq_k fun K6 hK6 => ?_
    refine wp_region_lit ?_
    refine seq_op s9 rfl rfl (of_decide_eq_true rfl) (ob_move rfl (.tmp rfl)) fun a10 w10 s10 => ?_; clear s9
    obtain ⟨x2, e_x2, h4⟩ := bind_some h3; clear h3
    refine seq_op s10 rfl rfl (of_decide_eq_true rfl) (ob_callD (args := [_]) rfl .direct hb23 (fun a w s fs gs hf hg => by obtain rfl := hf.unnil; obtain rfl := hg.unnil; exact c_cabalref15_Great k _ _ e_x2 _ _ _ (s.arg (.tmp rfl)))) fun a11 w11 s11 => ?_; clear s10
    refine seq_op s11 rfl rfl (of_decide_eq_true rfl) (ob_move rfl (.tmp rfl)) fun a12 w12 s12 => ?_; clear s11
    refine seq_opg s12 rfl rfl rfl rfl (of_decide_eq_true rfl) (fun hb => ob_move rfl (.tmp rfl)) fun a13 w13 s13 => ?_; clear s12
    refine seq_opg s13 rfl rfl rfl rfl (of_decide_eq_true rfl) (fun hb => (Ob.uncond (t := 12) hb rfl (ob_lens rfl Try.underlying22 (.tmp rfl)))) fun a14 w14 s14 => ?_; clear s13
    refine seq_opg s14 rfl rfl rfl rfl (of_decide_eq_true rfl) (fun hb => (Ob.uncond (t := 13) hb rfl (ob_gtr rfl (.tmp rfl) (opd_int rfl)))) fun a15 w15 s15 => ?_; clear s14
    refine seq_op s15 rfl rfl (of_decide_eq_true rfl) (ob_or2 rfl (.tmp rfl) opd_bool (.tmp rfl)) fun a16 w16 s16 => ?_; clear s15
    refine seq_op s16 rfl rfl (of_decide_eq_true rfl) (ob_move rfl (.tmp rfl)) fun a17 w17 s17 => ?_; clear s16
    refine seq_opg s17 rfl rfl rfl rfl (of_decide_eq_true rfl) (fun hb => ob_move rfl (.tmp rfl)) fun a18 w18 s18 => ?_; clear s17
    obtain ⟨x3, e_x3, h5⟩ := bind_some h4; clear h4
    refine seq_opg s18 rfl rfl rfl rfl (of_decide_eq_true rfl) (fun hb => (Ob.uncond (t := 17) hb rfl (ob_callD (args := [_]) rfl .direct hb24 (fun a w s fs gs hf hg => by obtain rfl := hf.unnil; obtain rfl := hg.unnil; exact c_graph_Right k _ _ (ite_t hb e_x3) _ _ _ (s.arg (.tmp rfl)))))) fun a19 w19 s19 => ?_; clear s18
    refine seq_opg s19 rfl rfl rfl rfl (of_decide_eq_true rfl) (fun hb => (Ob.uncond (t := 18) hb rfl (ob_not rfl (.tmp rfl)))) fun a20 w20 s20 => ?_; clear s19
    obtain ⟨x4, e_x4, h6⟩ := bind_some h5; clear h5; replace e_x4 := Option.some.inj e_x4
    refine seq_op s20 rfl rfl (of_decide_eq_true rfl) ((ob_or2 rfl (.tmp rfl) opd_bool (.tmp rfl)).nm e_x4) fun a21 w21 s21 => ?_; clear s20
    refine wpList_nil ?_
    refine then_normal ?_
    refine hK6 _ _ ?_
    have s22 := s21.sub (.cons (t := 0) rfl (.cons (t := 20) rfl .nil)); clear s21
    refine cond_split s22 (.tmp rfl) (fun hc2 => ?_) (fun hc2 => ?_)
    · replace h6 := ite_t hc2 h6
      have h7 := h6; clear h6
      refine wp_seq_k fun K7 hK7 => ?_
      refine wp_region_lit ?_
      obtain ⟨x5, e_x5, h8⟩ := bind_some h7; clear h7
      refine seq_op s22 rfl rfl (of_decide_eq_true rfl) (ob_callD (args := []) rfl .direct hb35 (fun a w s fs gs hf hg => by obtain rfl := hf.unnil; obtain rfl := hg.unnil; exact c_caballaw16_alive k _ e_x5 _ _)) fun a23 w23 s23 => ?_; clear s22
      refine seq_op s23 rfl rfl (of_decide_eq_true rfl) (ob_assign rfl (.tmp rfl)) fun a24 w24 s24 => ?_; clear s23
      refine wpList_nil ?_
      refine then_normal ?_
      refine hK7 _ _ ?_
      have s25 := s24.sub (.cons (t := 2) rfl .nil); clear s24
      refine wp_ret ?_
      obtain rfl := Option.some.inj h8
      exact leave s25 (.inl rfl) rfl (.cons (.tmp rfl) .nil)
    · replace h6 := ite_f hc2 h6
      have h9 := h6; clear h6
      refine wp_skip ?_
      refine then_normal ?_
      refine hK5 _ _ ?_
      have s26 := s22.sub (.cons (t := 0) rfl .nil); clear s22
      refine wp_seq_k fun K8 hK8 => ?_
      refine wp_region_lit ?_
      refine seq_op s26 rfl rfl (of_decide_eq_true rfl) (ob_assign rfl opd_is) fun a27 w27 s27 => ?_; clear s26
      have s28 := St.adopt s27 (G := RowF (nilRow 25) 46 k_api_Node []) rfl (rowNilN _ _ _ _ _); clear s27
      refine wpList_nil ?_
      refine then_normal ?_
      refine hK8 _ _ ?_
      have s29 := s28.sub (.cons (t := 0) rfl (.cons (t := 3) rfl .nil)); clear s28
      refine wp_seq_k fun K9 hK9 => ?_
      refine wp_seq_k fun K10 hK10 => ?_
      refine wp_region_lit ?_
      refine seq_op s29 rfl rfl (of_decide_eq_true rfl) (ob_assign rfl (opd_int rfl)) fun a30 w30 s30 => ?_; clear s29
      refine wpList_nil ?_
      refine then_normal ?_
      refine hK10 _ _ ?_
      have s31 := s30.sub (.cons (t := 0) rfl (.cons (t := 3) rfl (.cons (t := 4) rfl .nil))); clear s30
      have hj1 : ∀ (a : Act) (w : World), (caballaw16_RosterStill.j1 k) = some r → St ⟨62, w0, ok, []⟩ [] [] a w → K9 a w := by
        intro a32 w32 h10 s32
        unfold caballaw16_RosterStill.j1 at h10
        refine hK9 _ _ ?_
        refine wp_seq_k fun K11 hK11 => ?_
        refine wp_region_lit ?_
        obtain ⟨x6, e_x6, h11⟩ := bind_some h10; clear h10
        refine seq_op s32 rfl rfl (of_decide_eq_true rfl) (ob_callD (args := []) rfl .direct hb35 (fun a w s fs gs hf hg => by obtain rfl := hf.unnil; obtain rfl := hg.unnil; exact c_caballaw16_alive k _ e_x6 _ _)) fun a33 w33 s33 => ?_; clear s32
        refine seq_op s33 rfl rfl (of_decide_eq_true rfl) (ob_assign rfl (.tmp rfl)) fun a34 w34 s34 => ?_; clear s33
        refine wpList_nil ?_
        refine then_normal ?_
        refine hK11 _ _ ?_
        have s35 := s34.sub (.cons (t := 2) rfl .nil); clear s34
        refine wp_ret ?_
        obtain rfl := Option.some.inj h11
        exact leave s35 (.inl rfl) rfl (.cons (.tmp rfl) .nil)
      refine wp_block ?_
      have s36 := St.freezeAllM (A := []) s31 (ts := [3]) (.cons rfl .nil); clear s31
      refine wp_loop_fuel (fun m (q : (List api_Node) × Int) => caballaw16_RosterStill.l1 k p1 m q.1 q.2) r (fun _ => rfl) (fun q a w => St ⟨62, w0, ok, []⟩ [] [(0, ((ksl k_api_Node).V p1)), (3, ((ksl k_api_Node).V q.1)), (4, ((kint .i64).V q.2))] a w) ?_ k (([] : (List api_Node)), (0 : Int)) _ _ h9 (s36.sub (.cons rfl (.cons rfl (.cons rfl .nil))))
      rintro n1 ⟨y1, y2⟩ a37 w37 h12 s37 K12 hK12
      replace h12 : caballaw16_RosterStill.l1 k p1 (n1 + 1) y1 y2 = some r := h12; rw [caballaw16_RosterStill.l1] at h12
      have h13 := h12; clear h12
      refine wp_seq_k fun K13 hK13 => ?_
      refine wp_seq_k fun K14 hK14 => ?_
      refine wp_region_lit ?_
      refine seq_op s37 rfl rfl (of_decide_eq_true rfl) (ob_move rfl (.tmp rfl)) fun a38 w38 s38 => ?_; clear s37
      refine seq_op s38 rfl rfl (of_decide_eq_true rfl) (ob_move rfl (.tmp rfl)) fun a39 w39 s39 => ?_; clear s38
      refine seq_op s39 rfl rfl (of_decide_eq_true rfl) (ob_lens rfl Try.underlying22 (.tmp rfl)) fun a40 w40 s40 => ?_; clear s39
      refine seq_op s40 rfl rfl (of_decide_eq_true rfl) (ob_lss rfl (.tmp rfl) (.tmp rfl)) fun a41 w41 s41 => ?_; clear s40
      refine wpList_nil ?_
      refine then_normal ?_
      refine hK14 _ _ ?_
      have s42 := s41.sub (.cons (t := 0) rfl (.cons (t := 3) rfl (.cons (t := 4) rfl (.cons (t := 25) rfl .nil)))); clear s41
      refine cond_split s42 (.tmp rfl) (fun hc3 => ?_) (fun hc3 => ?_)
      · replace h13 := ite_t hc3 h13
        have h14 := h13; clear h13
        refine wp_skip ?_
        refine then_normal ?_
        refine hK13 _ _ ?_
        have s43 := s42.sub (.cons (t := 0) rfl (.cons (t := 3) rfl (.cons (t := 4) rfl .nil))); clear s42
        refine wp_seq_k fun K15 hK15 => ?_
        refine wp_block ?_
        refine wp_seq_k fun K16 hK16 => ?_
        obtain ⟨x7, e_x7, h15⟩ := bind_some h14; clear h14
        obtain ⟨x8, e_x8, h16⟩ := bind_some h15; clear h15
        obtain ⟨x9, e_x9, h17⟩ := bind_some h16; clear h16
        refine wp_goes (Fs := [((ksl k_api_Node).V y1), ((ksl k_api_Node).V p1), ((kint .i64).V y2), (ptrTo k_api_Node x7), (ptrTo (karr 32 (kint .u8)) x7.Id), ((karr 32 (kint .u8)).V x7.Id), ((ksl k_api_Node).V p1), ((kint .i64).V y2), (ptrTo k_api_Node x8), (ptrTo k_api_Op x8.Op), (k_api_Op.V x8.Op), (tup [((ksl k_api_Node).V x9.1), ((kint .i64).V x9.2)]), (tup [((ksl k_api_Node).V x9.1), ((kint .i64).V x9.2)]), ((ksl k_api_Node).V x9.1), ((kint .i64).V x9.2), ((ksl k_api_Node).V x9.1)]) (bits := [0, 0, 0, 6, 14, 30, 0, 0, 192, 448, 960, 2047, 4095, 8191, 8191, 16383, 65535]) (m := 16) (todo := 0) mx s43 ?_; clear s43
        refine goes_last (by kernel_rfl) rfl (opsS_cons (.plain _ (Av.old (t := 3) rfl rfl Av.nil) rfl rfl (ob_move rfl (.tmp rfl))) (opsS_cons (.plain _ (Av.old (t := 0) rfl rfl Av.nil) rfl rfl (ob_move rfl (.tmp rfl))) (opsS_cons (.plain _ (Av.old (t := 4) rfl rfl Av.nil) rfl rfl (ob_move rfl (.tmp rfl))) (opsS_cons (.plain _ (Av.new (j := 1) rfl rfl rfl (Av.new (j := 2) rfl rfl rfl Av.nil)) rfl rfl (ob_indexAddrs rfl Try.underlying22 sz46 (.tmp rfl) (.tmp rfl) e_x7)) (opsS_cons (.plain _ (Av.new (j := 3) rfl rfl rfl Av.nil) rfl rfl (ob_fieldAddrr rfl Try.underlying46 rfl sz39 (by decide) (.tmp rfl) (lg_api_Node_Id x7))) (opsS_cons (.plain _ (Av.new (j := 4) rfl rfl rfl Av.nil) rfl rfl (ob_loadr rfl tk39 (.tmp rfl))) (opsS_cons (.plain _ (Av.old (t := 0) rfl rfl Av.nil) rfl rfl (ob_move rfl (.tmp rfl))) (opsS_cons (.plain _ (Av.old (t := 4) rfl rfl Av.nil) rfl rfl (ob_move rfl (.tmp rfl))) (opsS_cons (.plain _ (Av.new (j := 6) rfl rfl rfl (Av.new (j := 7) rfl rfl rfl Av.nil)) rfl rfl (ob_indexAddrs rfl Try.underlying22 sz46 (.tmp rfl) (.tmp rfl) e_x8)) (opsS_cons (.plain _ (Av.new (j := 8) rfl rfl rfl Av.nil) rfl rfl (ob_fieldAddrr rfl Try.underlying46 rfl sz44 (by decide) (.tmp rfl) (lg_api_Node_Op x8))) (opsS_cons (.plain _ (Av.new (j := 9) rfl rfl rfl Av.nil) rfl rfl (ob_loadr rfl tk44 (.tmp rfl))) (opsS_cons (.plain _ (Av.new (j := 0) rfl rfl rfl (Av.new (j := 5) rfl rfl rfl (Av.new (j := 10) rfl rfl rfl Av.nil))) rfl rfl (ob_callD (args := [_, _, _]) rfl .direct hb43 (fun a w s fs gs hf hg => by obtain rfl := hf.unnil; obtain rfl := hg.unnil; exact c_graph_Add_w2 k _ _ _ _ e_x9 _ _ _ _ _ (s.arg (.tmp rfl)) (s.arg (.tmp rfl)) (s.arg (.tmp rfl))))) (opsS_cons (.plain _ (Av.new (j := 11) rfl rfl rfl Av.nil) rfl rfl (ob_move rfl (.tmp rfl))) (opsS_cons (.plain _ (Av.new (j := 12) rfl rfl rfl Av.nil) rfl rfl (ob_extract rfl (.tmp rfl) rfl)) (opsS_cons (.plain _ (Av.new (j := 12) rfl rfl rfl Av.nil) rfl rfl (ob_extract rfl (.tmp rfl) rfl)) (opsS_cons (.plain _ (Av.new (j := 13) rfl rfl rfl Av.nil) rfl rfl (ob_assign rfl (.tmp rfl))) opsS_nil)))))))))))))))) (out_old (t := 0) rfl rfl (out_old (t := 3) rfl rfl (out_old (t := 4) rfl rfl (out_new (i := 15) (by decide) rfl rfl (out_new (i := 14) (by decide) rfl rfl out_nil))))) fun a44 w44 s44 => ?_
        refine seq_op s44 rfl rfl (of_decide_eq_true rfl) (ob_assign rfl (.tmp rfl)) fun a45 w45 s45 => ?_; clear s44
        refine wpList_nil ?_
        refine then_normal ?_
        refine hK16 _ _ ?_
        have s46 := s45.sub (.cons (t := 0) rfl (.cons (t := 3) rfl (.cons (t := 4) rfl (.cons (t := 5) rfl (.cons (t := 6) rfl .nil))))); clear s45
        refine wp_seq_k fun K17 hK17 => ?_
        refine wp_seq_k fun K18 hK18 => ?_
        refine wp_region_lit ?_
        refine seq_op s46 rfl rfl (of_decide_eq_true rfl) (ob_move rfl (.tmp rfl)) fun a47 w47 s47 => ?_; clear s46
        refine seq_op s47 rfl rfl (of_decide_eq_true rfl) (ob_neq rfl (.tmp rfl) (opd_int rfl)) fun a48 w48 s48 => ?_; clear s47
        refine wpList_nil ?_
        refine then_normal ?_
        refine hK18 _ _ ?_
        have s49 := s48.sub (.cons (t := 0) rfl (.cons (t := 3) rfl (.cons (t := 4) rfl (.cons (t := 5) rfl (.cons (t := 44) rfl .nil))))); clear s48
        refine cond_split s49 (.tmp rfl) (fun hc4 => ?_) (fun hc4 => ?_)
        · replace h17 := ite_t hc4 h17
          have h18 := h17; clear h17
          refine wp_seq_k fun K19 hK19 => ?_
          refine wp_region_lit ?_
          refine seq_op s49 rfl rfl (of_decide_eq_true rfl) (ob_assign rfl opd_bool) fun a50 w50 s50 => ?_; clear s49
          refine wpList_nil ?_
          refine then_normal ?_
          refine hK19 _ _ ?_
          have s51 := s50.sub (.cons (t := 2) rfl .nil); clear s50
          refine wp_ret ?_
          obtain rfl := Option.some.inj h18
          exact leave s51 (.inl rfl) rfl (.cons (.tmp rfl) .nil)
        · replace h17 := ite_f hc4 h17
          have h19 := h17; clear h17
          refine wp_skip ?_
          refine then_normal ?_
          refine hK17 _ _ ?_
          have s52 := s49.sub (.cons (t := 0) rfl (.cons (t := 3) rfl (.cons (t := 4) rfl (.cons (t := 5) rfl .nil)))); clear s49
          refine wp_seq_k fun K20 hK20 => ?_
          refine wp_seq_k fun K21 hK21 => ?_
          refine wp_region_lit ?_
          refine seq_op s52 rfl rfl (of_decide_eq_true rfl) (ob_move rfl (.tmp rfl)) fun a53 w53 s53 => ?_; clear s52
          refine seq_op s53 rfl rfl (of_decide_eq_true rfl) (ob_move rfl (.tmp rfl)) fun a54 w54 s54 => ?_; clear s53
          obtain ⟨x10, e_x10, h20⟩ := bind_some h19; clear h19
          refine seq_op s54 rfl rfl (of_decide_eq_true rfl) (ob_indexAddrs rfl Try.underlying22 sz46 (.tmp rfl) (.tmp rfl) e_x10) fun a55 w55 s55 => ?_; clear s54
          refine seq_op s55 rfl rfl (of_decide_eq_true rfl) (ob_fieldAddrr rfl Try.underlying46 rfl sz44 (by decide) (.tmp rfl) (lg_api_Node_Op x10)) fun a56 w56 s56 => ?_; clear s55
          refine seq_op s56 rfl rfl (of_decide_eq_true rfl) (ob_fieldAddrr rfl Try.underlying44 rfl sz3 (by decide) (.tmp rfl) (lg_api_Op_Kind x10.Op)) fun a57 w57 s57 => ?_; clear s56
          refine seq_op s57 rfl rfl (of_decide_eq_true rfl) (ob_loadr rfl tk3 (.tmp rfl)) fun a58 w58 s58 => ?_; clear s57
          refine seq_op s58 rfl rfl (of_decide_eq_true rfl) (ob_geq rfl (.tmp rfl) (opd_int rfl)) fun a59 w59 s59 => ?_; clear s58
          refine seq_op s59 rfl rfl (of_decide_eq_true rfl) (ob_move rfl (.tmp rfl)) fun a60 w60 s60 => ?_; clear s59
          refine seq_opg s60 rfl rfl rfl rfl (of_decide_eq_true rfl) (fun hb => ob_move rfl (.tmp rfl)) fun a61 w61 s61 => ?_; clear s60
          obtain ⟨x11, e_x11, h21⟩ := bind_some h20; clear h20
          refine seq_opg s61 rfl rfl rfl rfl (of_decide_eq_true rfl) (fun hb => (ObF.ob ((ObF.uncond (t := 53) hb rfl (ob_callF (F := resFact [((ksl (kint .i64)).V x11)]) (args := [_]) rfl .direct hb37 (fun a w s fs gs hf hg => by obtain rfl := hf.unnil; obtain rfl := hg.unnil; exact c_roster_All k _ _ (ite_t hb e_x11) _ _ _ (s.arg (.tmp rfl))) (by exact fun g => ResF.all (.row (.head _) (KFlat.int _) .nil))))))) fun a62 w62 s62 => ?_; clear s61
          refine seq_opg s62 rfl rfl rfl rfl (of_decide_eq_true rfl) (fun hb => ob_move rfl (.tmp rfl)) fun a63 w63 s63 => ?_; clear s62
          obtain ⟨x12, e_x12, h22⟩ := bind_some h21; clear h21
          refine seq_opg s63 rfl rfl rfl rfl (of_decide_eq_true rfl) (fun hb => (ObF.ob ((ObF.uncond (t := 55) hb rfl (ob_callF (F := resFact [((ksl (kint .i64)).V x12)]) (args := [_]) rfl .direct hb37 (fun a w s fs gs hf hg => by obtain rfl := hf.unnil; obtain rfl := hg.unnil; exact c_roster_All k _ _ (ite_t hb e_x12) _ _ _ (s.arg (.tmp rfl))) (by exact fun g => ResF.all (.row (.head _) (KFlat.int _) .nil))))))) fun a64 w64 s64 => ?_; clear s63
          obtain ⟨x13, e_x13, h23⟩ := bind_some h22; clear h22
          refine seq_opg s64 rfl rfl rfl rfl (of_decide_eq_true rfl) (fun hb => (Ob.uncond (t := 56) hb rfl ((Ob.uncond (t := 54) hb rfl (ob_callD (args := [_, _]) rfl .direct hb38 (fun a w s fs gs hf hg => by obtain rfl := hf.unnil; obtain rfl := hg.unnil; exact c_cabalref15_SameInts k _ _ _ (ite_t hb e_x13) _ _ _ _ (s.arg (.tmp rfl)) (s.arg (.tmp rfl)))))))) fun a65 w65 s65 => ?_; clear s64
          refine seq_opg s65 rfl rfl rfl rfl (of_decide_eq_true rfl) (fun hb => (Ob.uncond (t := 57) hb rfl (ob_not rfl (.tmp rfl)))) fun a66 w66 s66 => ?_; clear s65
          refine seq_op s66 rfl rfl (of_decide_eq_true rfl) (ob_and2 rfl (.tmp rfl) (.tmp rfl) opd_bool) fun a67 w67 s67 => ?_; clear s66
          refine wpList_nil ?_
          refine then_normal ?_
          refine hK21 _ _ ?_
          have s68 := s67.sub (.cons (t := 0) rfl (.cons (t := 4) rfl (.cons (t := 5) rfl (.cons (t := 59) rfl .nil)))); clear s67
          refine cond_split s68 (.tmp rfl) (fun hc5 => ?_) (fun hc5 => ?_)
          · replace h23 := ite_t hc5 h23
            have h24 := h23; clear h23
            refine wp_seq_k fun K22 hK22 => ?_
            refine wp_region_lit ?_
            refine seq_op s68 rfl rfl (of_decide_eq_true rfl) (ob_assign rfl opd_bool) fun a69 w69 s69 => ?_; clear s68
            refine wpList_nil ?_
            refine then_normal ?_
            refine hK22 _ _ ?_
            have s70 := s69.sub (.cons (t := 2) rfl .nil); clear s69
            refine wp_ret ?_
            obtain rfl := Option.some.inj h24
            exact leave s70 (.inl rfl) rfl (.cons (.tmp rfl) .nil)
          · replace h23 := ite_f hc5 h23
            have h25 := h23; clear h23
            refine wp_skip ?_
            refine then_normal ?_
            refine hK20 _ _ ?_
            have s71 := s68.sub (.cons (t := 0) rfl (.cons (t := 4) rfl (.cons (t := 5) rfl .nil))); clear s68
            refine wp_region_lit ?_
            refine seq_op s71 rfl rfl (of_decide_eq_true rfl) (ob_move rfl (.tmp rfl)) fun a72 w72 s72 => ?_; clear s71
            refine seq_op s72 rfl rfl (of_decide_eq_true rfl) (ob_assign rfl (.tmp rfl)) fun a73 w73 s73 => ?_; clear s72
            refine wpList_nil ?_
            refine in_normal ?_
            refine then_normal ?_
            refine hK15 _ _ ?_
            have s74 := s73.sub (.cons (t := 0) rfl (.cons (t := 3) rfl (.cons (t := 4) rfl .nil))); clear s73
            refine wp_region_lit ?_
            refine seq_op s74 rfl rfl (of_decide_eq_true rfl) (ob_move rfl (.tmp rfl)) fun a75 w75 s75 => ?_; clear s74
            refine seq_op s75 rfl rfl (of_decide_eq_true rfl) (ob_add rfl (.tmp rfl) (opd_int rfl)) fun a76 w76 s76 => ?_; clear s75
            refine seq_op s76 rfl rfl (of_decide_eq_true rfl) (ob_assign rfl (.tmp rfl)) fun a77 w77 s77 => ?_; clear s76
            refine wpList_nil ?_
            refine then_normal ?_
            exact hK12 (x9.1, (iadd .i64 y2 (1 : Int))) _ _ h25 (s77.sub (.cons rfl (.cons rfl (.cons rfl .nil))))
      · replace h13 := ite_f hc3 h13
        have h26 := h13; clear h13
        refine wp_exit ?_
        refine (then_exit (then_exit (in_here ?_)))
        refine then_normal ?_
        exact hj1 _ _ h26 (s42.sub .nil)

end Go.Proofs.Ytdlnfgpcnfbjiaa
