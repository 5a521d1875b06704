/- Each function's code comes to what its plain function answers. No condition. -/
import Derived.Test.YtdlnfgpcnfbjiaaUWalk2
namespace Go.Proofs.Ytdlnfgpcnfbjiaa
open Go Go.RowKit Go.Proofs.Kit Go.Proofs.Pure
set_option linter.unusedVariables false
set_option linter.unusedSimpArgs false
set_option maxRecDepth 100000
set_option maxHeartbeats 2000000

/- 95 cabal/roster.behind -/
theorem c_roster_behind (k : Nat) (p1 : (List api_Node)) (p2 : api_Op) (r : ((List Int) × Int)) (h0 : roster_behind k p1 p2 = some r) (ok : Ok) (w0 : World) (z0 : Value) (z1 : Value) (u0 : ((ksl k_api_Node).V p1).holds ok w0 z0) (u1 : (k_api_Op.V p2).holds ok w0 z1) :
    Gives Try.prog 95 [z0, z1] ok w0 (resFact [(ksl (kint .i64)).V r.1, (kint .i64).V r.2]) := by
  unfold roster_behind at h0
  refine enter (N := 78) Try.func95 rfl rfl (of_decide_eq_true rfl) (.cons u0 (.cons u1 .nil)) fun a1 s1 => ?_
  refine wp_seq_k fun K1 hK1 => ?_
  refine wp_region_lit ?_
  refine seq_opx (B' := (fun b1 : Nat => [BF b1 44 k_api_Op p2])) s1 rfl rfl (of_decide_eq_true rfl) (ob_box rfl (.tmp rfl)) fun b1 a2 w2 s2 => ?_; clear s1
  refine seq_op s2 rfl rfl (of_decide_eq_true rfl) (ob_assign rfl opd_is) fun a3 w3 s3 => ?_; clear s2
  have s4 := St.adopt s3 (G := RowF (nilRow 26) 3 (kint .i64) []) rfl (rowNilN _ _ _ _ _); clear s3
  refine seq_op s4 rfl rfl (of_decide_eq_true rfl) (ob_assign rfl (opd_int rfl)) fun a5 w5 s5 => ?_; clear s4
  refine wpList_nil ?_
  refine then_normal ?_
  refine hK1 _ _ ?_
  have s6 := s5.sub (.cons (t := 0) rfl (.cons (t := 3) rfl .nil)); clear s5
  have s7 := St.drop (A := []) s6; clear s6
  refine wp_seq_k fun K2 hK2 => ?_
  refine wp_region_lit ?_
  obtain ⟨x1, e_x1, h1⟩ := bind_some h0; clear h0; replace e_x1 := Option.some.inj e_x1
  refine seq_op s7 rfl rfl (of_decide_eq_true rfl) (((ob_mkArr (k := (kint .u8)) rfl Try.underlying39 zz39 sz5 (Zr.arr 32 (Zr.int .u8)) (.nil _) : Ob _ _ _ _ _ ((karr 32 (kint .u8)).V ([(0 : Int), (0 : Int), (0 : Int), (0 : Int), (0 : Int), (0 : Int), (0 : Int), (0 : Int), (0 : Int), (0 : Int), (0 : Int), (0 : Int), (0 : Int), (0 : Int), (0 : Int), (0 : Int), (0 : Int), (0 : Int), (0 : Int), (0 : Int), (0 : Int), (0 : Int), (0 : Int), (0 : Int), (0 : Int), (0 : Int), (0 : Int), (0 : Int), (0 : Int), (0 : Int), (0 : Int), (0 : Int)] : (List Int))))).nm e_x1) fun a8 w8 s8 => ?_; clear s7
  refine seq_op s8 rfl rfl (of_decide_eq_true rfl) (ob_load rfl tk44 (.tmp rfl) (.head _) (LG.refl _ _)) fun a9 w9 s9 => ?_; clear s8
  obtain ⟨x2, e_x2, h2⟩ := bind_some h1; clear h1
  refine seq_opx (B' := (fun v1 : Value => [RowF v1 46 k_api_Node x2.1, BF b1 44 k_api_Op p2])) s9 rfl rfl (of_decide_eq_true rfl) (ob_callL (args := [_, _, _]) (L := []) rfl .direct hb43 (List.Perm.refl _) (fun a w s fs gs hf hg => by obtain rfl := hf.unnil; obtain rfl := hg.unnil; exact c_graph_Add k _ _ _ _ e_x2 _ _ _ _ _ (s.arg opd_nil) (s.arg (.tmp rfl)) (s.arg (.tmp rfl))) (by exact fun _ => rfl)) fun v1 a10 w10 s10 => ?_; clear s9
  refine seq_op s10 rfl rfl (of_decide_eq_true rfl) (ob_move rfl (.tmp rfl)) fun a11 w11 s11 => ?_; clear s10
  refine seq_op s11 rfl rfl (of_decide_eq_true rfl) (ob_extract rfl (.tmp rfl) rfl) fun a12 w12 s12 => ?_; clear s11
  refine seq_op s12 rfl rfl (of_decide_eq_true rfl) (ob_extract rfl (.tmp rfl) rfl) fun a13 w13 s13 => ?_; clear s12
  refine seq_op s13 rfl rfl (of_decide_eq_true rfl) (ob_assign rfl (.tmp rfl)) fun a14 w14 s14 => ?_; clear s13
  refine seq_op s14 rfl rfl (of_decide_eq_true rfl) (ob_assign rfl (.tmp rfl)) fun a15 w15 s15 => ?_; clear s14
  refine wpList_nil ?_
  refine then_normal ?_
  refine hK2 _ _ ?_
  have s16 := s15.sub (.cons (t := 0) rfl (.cons (t := 3) rfl (.cons (t := 6) rfl (.cons (t := 7) rfl .nil)))); clear s15
  refine wp_seq_k fun K3 hK3 => ?_
  refine wp_seq_k fun K4 hK4 => ?_
  refine wp_region_lit ?_
  refine seq_op s16 rfl rfl (of_decide_eq_true rfl) (ob_move rfl (.tmp rfl)) fun a17 w17 s17 => ?_; clear s16
  refine seq_op s17 rfl rfl (of_decide_eq_true rfl) (ob_eql rfl (.tmp rfl) (opd_int rfl)) fun a18 w18 s18 => ?_; clear s17
  refine seq_op s18 rfl rfl (of_decide_eq_true rfl) (ob_move rfl (.tmp rfl)) fun a19 w19 s19 => ?_; clear s18
  refine seq_opg s19 rfl rfl rfl rfl (of_decide_eq_true rfl) (fun hb => ob_move rfl (.tmp rfl)) fun a20 w20 s20 => ?_; clear s19
  refine seq_opg s20 rfl rfl rfl rfl (of_decide_eq_true rfl) (fun hb => (Ob.uncond (t := 19) hb rfl (ob_lenRow rfl Try.underlying22 (.tmp rfl) (.head _)))) fun a21 w21 s21 => ?_; clear s20
  refine seq_opg s21 rfl rfl rfl rfl (of_decide_eq_true rfl) (fun hb => (Ob.uncond (t := 20) hb rfl (ob_eql rfl (.tmp rfl) (opd_int rfl)))) fun a22 w22 s22 => ?_; clear s21
  obtain ⟨x3, e_x3, h3⟩ := bind_some h2; clear h2; replace e_x3 := Option.some.inj e_x3
  refine seq_op s22 rfl rfl (of_decide_eq_true rfl) ((ob_and2 rfl (.tmp rfl) (.tmp rfl) opd_bool).nm e_x3) fun a23 w23 s23 => ?_; clear s22
  refine wpList_nil ?_
  refine then_normal ?_
  refine hK4 _ _ ?_
  have s24 := s23.sub (.cons (t := 0) rfl (.cons (t := 3) rfl (.cons (t := 7) rfl (.cons (t := 22) rfl .nil)))); clear s23
  have s25 := St.drop (A := []) s24; clear s24
  refine cond_split s25 (.tmp rfl) (fun hc1 => ?_) (fun hc1 => ?_)
  · replace h3 := ite_t hc1 h3
    have h4 := h3; clear h3
    refine wp_seq_k fun K5 hK5 => ?_
    refine wp_region_lit ?_
    refine seq_op s25 rfl rfl (of_decide_eq_true rfl) (ob_move rfl (.tmp rfl)) fun a26 w26 s26 => ?_; clear s25
    refine seq_op s26 rfl rfl (of_decide_eq_true rfl) (ob_assign rfl opd_is) fun a27 w27 s27 => ?_; clear s26
    have s28 := St.adopt s27 (G := RowF (nilRow 27) 3 (kint .i64) []) rfl (rowNilN _ _ _ _ _); clear s27
    refine seq_op s28 rfl rfl (of_decide_eq_true rfl) (ob_assign rfl (.tmp rfl)) fun a29 w29 s29 => ?_; clear s28
    refine wpList_nil ?_
    refine then_normal ?_
    refine hK5 _ _ ?_
    have s30 := s29.sub (.cons (t := 4) rfl (.cons (t := 5) rfl .nil)); clear s29
    have s31 := St.drop (A := [_]) s30; clear s30
    refine wp_ret ?_
    have s32 := St.freezeAllM (A := []) s31 (ts := [4]) (.cons rfl .nil); clear s31
    obtain rfl := Option.some.inj h4
    exact leave s32 (.inl rfl) rfl (.cons (.tmp rfl) (.cons (.tmp rfl) .nil))
  · replace h3 := ite_f hc1 h3
    have h5 := h3; clear h3
    refine wp_skip ?_
    refine then_normal ?_
    refine hK3 _ _ ?_
    have s33 := s25.sub (.cons (t := 0) rfl (.cons (t := 3) rfl .nil)); clear s25
    refine wp_seq_k fun K6 hK6 => ?_
    refine wp_region_lit ?_
    refine seq_op s33 rfl rfl (of_decide_eq_true rfl) (ob_move rfl (.tmp rfl)) fun a34 w34 s34 => ?_; clear s33
    refine seq_op s34 rfl rfl (of_decide_eq_true rfl) (ob_fieldAddr (off' := 2) rfl Try.underlying44 rfl sz40 (by decide) (.tmp rfl) rfl) fun a35 w35 s35 => ?_; clear s34
    refine seq_op s35 rfl rfl (of_decide_eq_true rfl) (ob_load rfl tk40 (.tmp rfl) (.head _) (lg_api_Op_Parents p2)) fun a36 w36 s36 => ?_; clear s35
    obtain ⟨x4, e_x4, h6⟩ := bind_some h5; clear h5
    refine seq_opx (B' := (fun v2 : Value => [RowF v2 3 (kint .i64) x4.1, BF b1 44 k_api_Op p2])) s36 rfl rfl (of_decide_eq_true rfl) (ob_callL (args := [_, _]) (L := []) rfl .direct hb54 (List.Perm.refl _) (fun a w s fs gs hf hg => by obtain rfl := hf.unnil; obtain rfl := hg.unnil; exact c_graph_Past k _ _ _ e_x4 _ _ _ _ (s.arg (.tmp rfl)) (s.arg (.tmp rfl))) (by exact fun _ => rfl)) fun v2 a37 w37 s37 => ?_; clear s36
    refine seq_op s37 rfl rfl (of_decide_eq_true rfl) (ob_move rfl (.tmp rfl)) fun a38 w38 s38 => ?_; clear s37
    refine seq_op s38 rfl rfl (of_decide_eq_true rfl) (ob_extract rfl (.tmp rfl) rfl) fun a39 w39 s39 => ?_; clear s38
    refine seq_op s39 rfl rfl (of_decide_eq_true rfl) (ob_extract rfl (.tmp rfl) rfl) fun a40 w40 s40 => ?_; clear s39
    refine seq_op s40 rfl rfl (of_decide_eq_true rfl) (ob_assign rfl (.tmp rfl)) fun a41 w41 s41 => ?_; clear s40
    refine seq_op s41 rfl rfl (of_decide_eq_true rfl) (ob_assign rfl (.tmp rfl)) fun a42 w42 s42 => ?_; clear s41
    refine wpList_nil ?_
    refine then_normal ?_
    refine hK6 _ _ ?_
    have s43 := s42.sub (.cons (t := 0) rfl (.cons (t := 3) rfl (.cons (t := 7) rfl (.cons (t := 8) rfl .nil)))); clear s42
    refine wp_seq_k fun K7 hK7 => ?_
    refine wp_block ?_
    refine wp_seq_k fun K8 hK8 => ?_
    refine wp_region_lit ?_
    refine seq_op s43 rfl rfl (of_decide_eq_true rfl) (ob_move rfl (.tmp rfl)) fun a44 w44 s44 => ?_; clear s43
    refine seq_op s44 rfl rfl (of_decide_eq_true rfl) (ob_neq rfl (.tmp rfl) (opd_int rfl)) fun a45 w45 s45 => ?_; clear s44
    refine seq_op s45 rfl rfl (of_decide_eq_true rfl) (ob_assign rfl (.tmp rfl)) fun a46 w46 s46 => ?_; clear s45
    refine wpList_nil ?_
    refine then_normal ?_
    refine hK8 _ _ ?_
    have s47 := s46.sub (.cons (t := 0) rfl (.cons (t := 3) rfl (.cons (t := 7) rfl (.cons (t := 8) rfl (.cons (t := 31) rfl .nil))))); clear s46
    refine cond_split s47 (.tmp rfl) (fun hc2 => ?_) (fun hc2 => ?_)
    · replace h6 := ite_t hc2 h6
      have h7 := h6; clear h6
      refine wp_seq_k fun K9 hK9 => ?_
      refine wp_region_lit ?_
      refine seq_op s47 rfl rfl (of_decide_eq_true rfl) (ob_move rfl (.tmp rfl)) fun a48 w48 s48 => ?_; clear s47
      refine seq_op s48 rfl rfl (of_decide_eq_true rfl) (ob_assign rfl opd_is) fun a49 w49 s49 => ?_; clear s48
      have s50 := St.adopt s49 (G := RowF (nilRow 30) 3 (kint .i64) []) rfl (rowNilN _ _ _ _ _); clear s49
      refine seq_op s50 rfl rfl (of_decide_eq_true rfl) (ob_assign rfl (.tmp rfl)) fun a51 w51 s51 => ?_; clear s50
      refine wpList_nil ?_
      refine then_normal ?_
      refine hK9 _ _ ?_
      have s52 := s51.sub (.cons (t := 4) rfl (.cons (t := 5) rfl .nil)); clear s51
      have s53 := St.drop (A := [_]) s52; clear s52
      have s54 := St.drop (A := [_]) s53; clear s53
      refine wp_ret ?_
      have s55 := St.freezeAllM (A := []) s54 (ts := [4]) (.cons rfl .nil); clear s54
      obtain rfl := Option.some.inj h7
      exact leave s55 (.inl rfl) rfl (.cons (.tmp rfl) (.cons (.tmp rfl) .nil))
    · replace h6 := ite_f hc2 h6
      have h8 := h6; clear h6
      refine wp_seq_k fun K10 hK10 => ?_
      refine wp_region_lit ?_
      refine seq_op s47 rfl rfl (of_decide_eq_true rfl) (ob_fieldAddr (off' := 3) rfl Try.underlying44 rfl sz3 (by decide) (.tmp rfl) rfl) fun a56 w56 s56 => ?_; clear s47
      refine seq_op s56 rfl rfl (of_decide_eq_true rfl) (ob_load rfl tk3 (.tmp rfl) (.tail _ (.head _)) (lg_api_Op_Kind p2)) fun a57 w57 s57 => ?_; clear s56
      refine seq_op s57 rfl rfl (of_decide_eq_true rfl) (ob_eql rfl (.tmp rfl) (opd_int rfl)) fun a58 w58 s58 => ?_; clear s57
      refine seq_op s58 rfl rfl (of_decide_eq_true rfl) (ob_assign rfl (.tmp rfl)) fun a59 w59 s59 => ?_; clear s58
      refine wpList_nil ?_
      refine then_normal ?_
      refine hK10 _ _ ?_
      have s60 := s59.sub (.cons (t := 0) rfl (.cons (t := 3) rfl (.cons (t := 8) rfl (.cons (t := 35) rfl .nil)))); clear s59
      refine cond_split s60 (.tmp rfl) (fun hc3 => ?_) (fun hc3 => ?_)
      · replace h8 := ite_t hc3 h8
        have h9 := h8; clear h8
        refine wp_seq_k fun K11 hK11 => ?_
        refine wp_region_lit ?_
        refine seq_op s60 rfl rfl (of_decide_eq_true rfl) (ob_fieldAddr (off' := 4) rfl Try.underlying44 rfl sz41 (by decide) (.tmp rfl) rfl) fun a61 w61 s61 => ?_; clear s60
        refine seq_op s61 rfl rfl (of_decide_eq_true rfl) (ob_load rfl tk41 (.tmp rfl) (.tail _ (.head _)) (lg_api_Op_Who p2)) fun a62 w62 s62 => ?_; clear s61
        refine seq_op s62 rfl rfl (of_decide_eq_true rfl) (ob_assign rfl (.tmp rfl)) fun a63 w63 s63 => ?_; clear s62
        refine seq_op s63 rfl rfl (of_decide_eq_true rfl) (ob_assign rfl (opd_int rfl)) fun a64 w64 s64 => ?_; clear s63
        refine wpList_nil ?_
        refine then_normal ?_
        refine hK11 _ _ ?_
        have s65 := s64.sub (.cons (t := 4) rfl (.cons (t := 5) rfl .nil)); clear s64
        have s66 := St.drop (A := []) s65; clear s65
        have s67 := St.drop (A := []) s66; clear s66
        refine wp_ret ?_
        obtain rfl := Option.some.inj h9
        exact leave s67 (.inl rfl) rfl (.cons (.tmp rfl) (.cons (.tmp rfl) .nil))
      · replace h8 := ite_f hc3 h8
        have h10 := h8; clear h8
        refine wp_skip ?_
        refine in_normal ?_
        refine then_normal ?_
        refine hK7 _ _ ?_
        have s68 := s60.sub (.cons (t := 0) rfl (.cons (t := 3) rfl (.cons (t := 8) rfl .nil))); clear s60
        refine wp_seq_k fun K12 hK12 => ?_
        refine wp_region_lit ?_
        refine seq_op s68 rfl rfl (of_decide_eq_true rfl) (ob_move rfl (.tmp rfl)) fun a69 w69 s69 => ?_; clear s68
        obtain ⟨x5, e_x5, h11⟩ := bind_some h10; clear h10
        refine seq_opx (B' := (fun gg : Nat × Value => [BF gg.1 151 (ko_roster_book_1 gg.2) (⟨x5.l, [], x5.in_⟩ : roster_book), RowF gg.2 4 kbool x5.counts, RowF v2 3 (kint .i64) x4.1, BF b1 44 k_api_Op p2])) s69 rfl rfl (of_decide_eq_true rfl) (ob_callL (args := [_]) (L := []) rfl .direct hb88 (List.Perm.refl _) (fun a w s fs gs hf hg => by obtain rfl := hf.unnil; obtain rfl := hg.unnil; exact c_roster_read k _ _ e_x5 _ _ _ (s.arg (.tmp rfl))) (by exact fun _ => rfl)) fun gg70 a70 w70 s70 => ?_; clear s69
        obtain ⟨b2, v3⟩ := gg70
        refine seq_op s70 rfl rfl (of_decide_eq_true rfl) (ob_move rfl (.tmp rfl)) fun a71 w71 s71 => ?_; clear s70
        obtain ⟨x6, e_x6, h12⟩ := bind_some h11; clear h11
        refine seq_opx (B' := (fun v4 : Value => [BF b2 151 (ko_roster_book_1 v3) (⟨x5.l, [], x5.in_⟩ : roster_book), RowF v3 4 kbool x5.counts, RowF v2 3 (kint .i64) x4.1, BF b1 44 k_api_Op p2, RowF v4 3 (kint .i64) x6])) s71 rfl rfl (of_decide_eq_true rfl) ((ob_lendX (L := [_, _, _, _]) (List.Perm.refl _) (.cons (t := 42) rfl (lendObj (K' := k_roster_book) (X' := x5) (.head _) rfl (upo_roster_book_1 rfl (.row (LetAll.row (.tail _ (.head _)))))) (.cons (t := 43) rfl (lendRow (.tail _ (.tail _ (.head _)))) .nil)) (fun _ => (Flat.res1 Flat.is)) (fun _ => (.cons (FlatO.row (KFlat.int _)) FlatL.nil)) (fun _ _ => ob_callL (args := [_, _]) (L := []) (D := []) rfl .direct hb89 (List.Perm.refl _) (fun a w s fs gs hf hg => by obtain rfl := hf.unnil; obtain rfl := hg.unnil; exact c_roster_book_roster k _ _ _ e_x6 _ _ _ _ (s.arg (.tmp rfl)) (s.arg (.tmp rfl))) (by exact fun _ => rfl)))) fun v4 a72 w72 s72 => ?_; clear s71
        refine seq_op s72 rfl rfl (of_decide_eq_true rfl) (ob_assign rfl (.tmp rfl)) fun a73 w73 s73 => ?_; clear s72
        refine wpList_nil ?_
        refine then_normal ?_
        refine hK12 _ _ ?_
        have s74 := s73.sub (.cons (t := 0) rfl (.cons (t := 3) rfl (.cons (t := 8) rfl (.cons (t := 9) rfl .nil)))); clear s73
        have s75 := St.drop (A := []) s74; clear s74
        have s76 := St.drop (A := []) s75; clear s75
        refine wp_seq_k fun K13 hK13 => ?_
        refine wp_block ?_
        refine wp_seq_k fun K14 hK14 => ?_
        refine wp_region_lit ?_
        refine seq_op s76 rfl rfl (of_decide_eq_true rfl) (ob_move rfl (.tmp rfl)) fun a77 w77 s77 => ?_; clear s76
        refine seq_op s77 rfl rfl (of_decide_eq_true rfl) (ob_fieldAddr (off' := 0) rfl Try.underlying44 rfl sz3 (by decide) (.tmp rfl) rfl) fun a78 w78 s78 => ?_; clear s77
        refine seq_op s78 rfl rfl (of_decide_eq_true rfl) (ob_load rfl tk3 (.tmp rfl) (.tail _ (.head _)) (lg_api_Op_Author p2)) fun a79 w79 s79 => ?_; clear s78
        obtain ⟨x7, e_x7, h13⟩ := bind_some h12; clear h12
        refine seq_op s79 rfl rfl (of_decide_eq_true rfl) ((ob_lendG (L := [_]) (toFront [_, _] (List.Perm.refl _)) (.cons (t := 46) rfl (lendRow (.head _)) .nil) (Flat.res1 (Flat.V KFlat.bool)) (fun _ => ob_callD (args := [_, _]) rfl .direct hb83 (fun a w s fs gs hf hg => by obtain rfl := hf.unnil; obtain rfl := hg.unnil; exact c_slices_Contains_int_int k _ _ _ e_x7 _ _ _ _ (s.arg (.tmp rfl)) (s.arg (.tmp rfl)))))) fun a80 w80 s80 => ?_; clear s79
        refine seq_op s80 rfl rfl (of_decide_eq_true rfl) (ob_not rfl (.tmp rfl)) fun a81 w81 s81 => ?_; clear s80
        refine seq_op s81 rfl rfl (of_decide_eq_true rfl) (ob_assign rfl (.tmp rfl)) fun a82 w82 s82 => ?_; clear s81
        refine wpList_nil ?_
        refine then_normal ?_
        refine hK14 _ _ ?_
        have s83 := s82.sub (.cons (t := 0) rfl (.cons (t := 3) rfl (.cons (t := 8) rfl (.cons (t := 9) rfl (.cons (t := 45) rfl .nil))))); clear s82
        refine cond_split s83 (.tmp rfl) (fun hc4 => ?_) (fun hc4 => ?_)
        · replace h13 := ite_t hc4 h13
          have h14 := h13; clear h13
          refine wp_seq_k fun K15 hK15 => ?_
          refine wp_region_lit ?_
          refine seq_op s83 rfl rfl (of_decide_eq_true rfl) (ob_assign rfl opd_is) fun a84 w84 s84 => ?_; clear s83
          have s85 := St.adopt s84 (G := RowF (nilRow 31) 3 (kint .i64) []) rfl (rowNilN _ _ _ _ _); clear s84
          refine seq_op s85 rfl rfl (of_decide_eq_true rfl) (ob_assign rfl (opd_int rfl)) fun a86 w86 s86 => ?_; clear s85
          refine wpList_nil ?_
          refine then_normal ?_
          refine hK15 _ _ ?_
          have s87 := s86.sub (.cons (t := 4) rfl (.cons (t := 5) rfl .nil)); clear s86
          have s88 := St.drop (A := [_]) s87; clear s87
          have s89 := St.drop (A := [_]) s88; clear s88
          have s90 := St.drop (A := [_]) s89; clear s89
          refine wp_ret ?_
          have s91 := St.freezeAllM (A := []) s90 (ts := [4]) (.cons rfl .nil); clear s90
          obtain rfl := Option.some.inj h14
          exact leave s91 (.inl rfl) rfl (.cons (.tmp rfl) (.cons (.tmp rfl) .nil))
        · replace h13 := ite_f hc4 h13
          have h15 := h13; clear h13
          refine wp_seq_k fun K16 hK16 => ?_
          refine wp_region_lit ?_
          refine seq_op s83 rfl rfl (of_decide_eq_true rfl) (ob_fieldAddr (off' := 3) rfl Try.underlying44 rfl sz3 (by decide) (.tmp rfl) rfl) fun a92 w92 s92 => ?_; clear s83
          refine seq_op s92 rfl rfl (of_decide_eq_true rfl) (ob_load rfl tk3 (.tmp rfl) (.tail _ (.head _)) (lg_api_Op_Kind p2)) fun a93 w93 s93 => ?_; clear s92
          refine seq_op s93 rfl rfl (of_decide_eq_true rfl) (ob_eql rfl (.tmp rfl) (opd_int rfl)) fun a94 w94 s94 => ?_; clear s93
          refine seq_op s94 rfl rfl (of_decide_eq_true rfl) (ob_move rfl (.tmp rfl)) fun a95 w95 s95 => ?_; clear s94
          refine seq_opg s95 rfl rfl rfl rfl (of_decide_eq_true rfl) (fun hb => ob_move rfl (.tmp rfl)) fun a96 w96 s96 => ?_; clear s95
          refine seq_opg s96 rfl rfl rfl rfl (of_decide_eq_true rfl) (fun hb => ob_move rfl (.tmp rfl)) fun a97 w97 s97 => ?_; clear s96
          refine seq_opg s97 rfl rfl rfl rfl (of_decide_eq_true rfl) (fun hb => ob_fieldAddr (off' := 4) rfl Try.underlying44 rfl sz41 (by decide) (.tmp rfl) rfl) fun a98 w98 s98 => ?_; clear s97
          refine seq_opg s98 rfl rfl rfl rfl (of_decide_eq_true rfl) (fun hb => (Ob.uncond (t := 58) hb rfl (ob_load rfl tk41 (.tmp rfl) (.tail _ (.head _)) (lg_api_Op_Who p2)))) fun a99 w99 s99 => ?_; clear s98
          obtain ⟨x8, e_x8, h16⟩ := bind_some h15; clear h15
          refine seq_opg s99 rfl rfl rfl rfl (of_decide_eq_true rfl) (fun hb => (Ob.uncond (t := 59) hb rfl (ob_indexAddrs rfl Try.underlying41 sz3 (.tmp rfl) (opd_int rfl) (ite_t hb e_x8)))) fun a100 w100 s100 => ?_; clear s99
          refine seq_opg s100 rfl rfl rfl rfl (of_decide_eq_true rfl) (fun hb => (Ob.uncond (t := 60) hb rfl (ob_loadr rfl tk3 (.tmp rfl)))) fun a101 w101 s101 => ?_; clear s100
          obtain ⟨x9, e_x9, h17⟩ := bind_some h16; clear h16
          refine seq_opg s101 rfl rfl rfl rfl (of_decide_eq_true rfl) (fun hb => (Ob.uncond (t := 61) hb rfl ((Ob.uncond (t := 57) hb rfl ((Ob.uncond (t := 56) hb rfl ((ob_lendG (L := [_]) (List.Perm.refl _) (.cons (t := 57) rfl (lendRow (.head _)) .nil) (Flat.res1 (Flat.V KFlat.bool)) (fun _ => ob_callD (args := [_, _, _]) rfl .direct hb144 (fun a w s fs gs hf hg => by obtain rfl := hf.unnil; obtain rfl := hg.unnil; exact c_roster_named k _ _ _ _ (ite_t hb e_x9) _ _ _ _ _ (s.arg (.tmp rfl)) (s.arg (.tmp rfl)) (s.arg (.tmp rfl)))))))))))) fun a102 w102 s102 => ?_; clear s101
          refine seq_op s102 rfl rfl (of_decide_eq_true rfl) (ob_and2 rfl (.tmp rfl) (.tmp rfl) opd_bool) fun a103 w103 s103 => ?_; clear s102
          refine seq_op s103 rfl rfl (of_decide_eq_true rfl) (ob_assign rfl (.tmp rfl)) fun a104 w104 s104 => ?_; clear s103
          refine wpList_nil ?_
          refine then_normal ?_
          refine hK16 _ _ ?_
          have s105 := s104.sub (.cons (t := 3) rfl (.cons (t := 9) rfl (.cons (t := 51) rfl .nil))); clear s104
          have s106 := St.drop (A := []) s105; clear s105
          refine cond_split s106 (.tmp rfl) (fun hc5 => ?_) (fun hc5 => ?_)
          · replace h17 := ite_t hc5 h17
            have h18 := h17; clear h17
            refine wp_seq_k fun K17 hK17 => ?_
            refine wp_region_lit ?_
            refine seq_op s106 rfl rfl (of_decide_eq_true rfl) (ob_assign rfl opd_is) fun a107 w107 s107 => ?_; clear s106
            have s108 := St.adopt s107 (G := RowF (nilRow 32) 3 (kint .i64) []) rfl (rowNilN _ _ _ _ _); clear s107
            refine seq_op s108 rfl rfl (of_decide_eq_true rfl) (ob_assign rfl (opd_int rfl)) fun a109 w109 s109 => ?_; clear s108
            refine wpList_nil ?_
            refine then_normal ?_
            refine hK17 _ _ ?_
            have s110 := s109.sub (.cons (t := 4) rfl (.cons (t := 5) rfl .nil)); clear s109
            have s111 := St.drop (A := [_]) s110; clear s110
            have s112 := St.drop (A := [_]) s111; clear s111
            refine wp_ret ?_
            have s113 := St.freezeAllM (A := []) s112 (ts := [4]) (.cons rfl .nil); clear s112
            obtain rfl := Option.some.inj h18
            exact leave s113 (.inl rfl) rfl (.cons (.tmp rfl) (.cons (.tmp rfl) .nil))
          · replace h17 := ite_f hc5 h17
            have h19 := h17; clear h17
            refine wp_seq_k fun K18 hK18 => ?_
            refine wp_region_lit ?_
            refine seq_op s106 rfl rfl (of_decide_eq_true rfl) (ob_fieldAddr (off' := 3) rfl Try.underlying44 rfl sz3 (by decide) (.tmp rfl) rfl) fun a114 w114 s114 => ?_; clear s106
            refine seq_op s114 rfl rfl (of_decide_eq_true rfl) (ob_load rfl tk3 (.tmp rfl) (.head _) (lg_api_Op_Kind p2)) fun a115 w115 s115 => ?_; clear s114
            refine seq_op s115 rfl rfl (of_decide_eq_true rfl) (ob_eql rfl (.tmp rfl) (opd_int rfl)) fun a116 w116 s116 => ?_; clear s115
            refine seq_op s116 rfl rfl (of_decide_eq_true rfl) (ob_move rfl (.tmp rfl)) fun a117 w117 s117 => ?_; clear s116
            refine seq_opg s117 rfl rfl rfl rfl (of_decide_eq_true rfl) (fun hb => ob_move rfl (.tmp rfl)) fun a118 w118 s118 => ?_; clear s117
            refine seq_opg s118 rfl rfl rfl rfl (of_decide_eq_true rfl) (fun hb => ob_fieldAddr (off' := 4) rfl Try.underlying44 rfl sz41 (by decide) (.tmp rfl) rfl) fun a119 w119 s119 => ?_; clear s118
            refine seq_opg s119 rfl rfl rfl rfl (of_decide_eq_true rfl) (fun hb => (Ob.uncond (t := 70) hb rfl (ob_load rfl tk41 (.tmp rfl) (.head _) (lg_api_Op_Who p2)))) fun a120 w120 s120 => ?_; clear s119
            obtain ⟨x10, e_x10, h20⟩ := bind_some h19; clear h19
            refine seq_opg s120 rfl rfl rfl rfl (of_decide_eq_true rfl) (fun hb => (Ob.uncond (t := 71) hb rfl (ob_indexAddrs rfl Try.underlying41 sz3 (.tmp rfl) (opd_int rfl) (ite_t hb e_x10)))) fun a121 w121 s121 => ?_; clear s120
            refine seq_opg s121 rfl rfl rfl rfl (of_decide_eq_true rfl) (fun hb => (Ob.uncond (t := 72) hb rfl (ob_loadr rfl tk3 (.tmp rfl)))) fun a122 w122 s122 => ?_; clear s121
            obtain ⟨x11, e_x11, h21⟩ := bind_some h20; clear h20
            refine seq_opg s122 rfl rfl rfl rfl (of_decide_eq_true rfl) (fun hb => (Ob.uncond (t := 73) hb rfl ((Ob.uncond (t := 69) hb rfl ((ob_lendG (L := [_]) (toFront [_] (List.Perm.refl _)) (.cons (t := 69) rfl (lendRow (.head _)) .nil) (Flat.res1 (Flat.V KFlat.bool)) (fun _ => ob_callD (args := [_, _]) rfl .direct hb83 (fun a w s fs gs hf hg => by obtain rfl := hf.unnil; obtain rfl := hg.unnil; exact c_slices_Contains_int_int k _ _ _ (ite_t hb e_x11) _ _ _ _ (s.arg (.tmp rfl)) (s.arg (.tmp rfl)))))))))) fun a123 w123 s123 => ?_; clear s122
            refine seq_opg s123 rfl rfl rfl rfl (of_decide_eq_true rfl) (fun hb => (Ob.uncond (t := 74) hb rfl (ob_not rfl (.tmp rfl)))) fun a124 w124 s124 => ?_; clear s123
            refine seq_op s124 rfl rfl (of_decide_eq_true rfl) (ob_and2 rfl (.tmp rfl) (.tmp rfl) opd_bool) fun a125 w125 s125 => ?_; clear s124
            refine seq_op s125 rfl rfl (of_decide_eq_true rfl) (ob_assign rfl (.tmp rfl)) fun a126 w126 s126 => ?_; clear s125
            refine wpList_nil ?_
            refine then_normal ?_
            refine hK18 _ _ ?_
            have s127 := s126.sub (.cons (t := 9) rfl (.cons (t := 64) rfl .nil)); clear s126
            have s128 := St.drop (A := []) s127; clear s127
            refine cond_split s128 (.tmp rfl) (fun hc6 => ?_) (fun hc6 => ?_)
            · replace h21 := ite_t hc6 h21
              have h22 := h21; clear h21
              refine wp_seq_k fun K19 hK19 => ?_
              refine wp_region_lit ?_
              refine seq_op s128 rfl rfl (of_decide_eq_true rfl) (ob_assign rfl opd_is) fun a129 w129 s129 => ?_; clear s128
              have s130 := St.adopt s129 (G := RowF (nilRow 33) 3 (kint .i64) []) rfl (rowNilN _ _ _ _ _); clear s129
              refine seq_op s130 rfl rfl (of_decide_eq_true rfl) (ob_assign rfl (opd_int rfl)) fun a131 w131 s131 => ?_; clear s130
              refine wpList_nil ?_
              refine then_normal ?_
              refine hK19 _ _ ?_
              have s132 := s131.sub (.cons (t := 4) rfl (.cons (t := 5) rfl .nil)); clear s131
              have s133 := St.drop (A := [_]) s132; clear s132
              refine wp_ret ?_
              have s134 := St.freezeAllM (A := []) s133 (ts := [4]) (.cons rfl .nil); clear s133
              obtain rfl := Option.some.inj h22
              exact leave s134 (.inl rfl) rfl (.cons (.tmp rfl) (.cons (.tmp rfl) .nil))
            · replace h21 := ite_f hc6 h21
              have h23 := h21; clear h21
              refine wp_skip ?_
              refine in_normal ?_
              refine then_normal ?_
              refine hK13 _ _ ?_
              have s135 := s128.sub (.cons (t := 9) rfl .nil); clear s128
              refine wp_seq_k fun K20 hK20 => ?_
              refine wp_region_lit ?_
              refine seq_op s135 rfl rfl (of_decide_eq_true rfl) (ob_move rfl (.tmp rfl)) fun a136 w136 s136 => ?_; clear s135
              refine seq_op s136 rfl rfl (of_decide_eq_true rfl) (ob_assign rfl (.tmp rfl)) fun a137 w137 s137 => ?_; clear s136
              refine seq_op s137 rfl rfl (of_decide_eq_true rfl) (ob_assign rfl (opd_int rfl)) fun a138 w138 s138 => ?_; clear s137
              refine wpList_nil ?_
              refine then_normal ?_
              refine hK20 _ _ ?_
              have s139 := s138.sub (.cons (t := 4) rfl (.cons (t := 5) rfl .nil)); clear s138
              refine wp_ret ?_
              have s140 := St.freezeAllM (A := []) s139 (ts := [4]) (.cons rfl .nil); clear s139
              obtain rfl := Option.some.inj h23
              exact leave s140 (.inl rfl) rfl (.cons (.tmp rfl) (.cons (.tmp rfl) .nil))

/- 46 cabal/roster.Allowed -/
theorem c_roster_Allowed (k : Nat) (p1 : (List api_Node)) (p2 : api_Op) (r : Int) (h0 : roster_Allowed k p1 p2 = some r) (ok : Ok) (w0 : World) (z0 : Value) (z1 : Value) (u0 : ((ksl k_api_Node).V p1).holds ok w0 z0) (u1 : (k_api_Op.V p2).holds ok w0 z1) :
    Gives Try.prog 46 [z0, z1] ok w0 (resFact [(kint .i64).V r]) := by
  unfold roster_Allowed at h0
  refine enter (N := 14) Try.func46 rfl rfl (of_decide_eq_true rfl) (.cons u0 (.cons u1 .nil)) fun a1 s1 => ?_
  refine wp_seq_k fun K1 hK1 => ?_
  refine wp_region_lit ?_
  refine seq_opx (B' := (fun b1 : Nat => [BF b1 44 k_api_Op p2])) s1 rfl rfl (of_decide_eq_true rfl) (ob_box rfl (.tmp rfl)) fun b1 a2 w2 s2 => ?_; clear s1
  refine seq_op s2 rfl rfl (of_decide_eq_true rfl) (ob_assign rfl (opd_int rfl)) fun a3 w3 s3 => ?_; clear s2
  refine wpList_nil ?_
  refine then_normal ?_
  refine hK1 _ _ ?_
  have s4 := s3.sub (.cons (t := 0) rfl (.cons (t := 3) rfl .nil)); clear s3
  refine wp_seq_k fun K2 hK2 => ?_
  refine wp_region_lit ?_
  refine seq_op s4 rfl rfl (of_decide_eq_true rfl) (ob_move rfl (.tmp rfl)) fun a5 w5 s5 => ?_; clear s4
  refine seq_op s5 rfl rfl (of_decide_eq_true rfl) (ob_load rfl tk44 (.tmp rfl) (.head _) (LG.refl _ _)) fun a6 w6 s6 => ?_; clear s5
  obtain ⟨x1, e_x1, h1⟩ := bind_some h0; clear h0
  refine seq_op s6 rfl rfl (of_decide_eq_true rfl) (ob_callD (args := [_, _]) rfl .direct hb95 (fun a w s fs gs hf hg => by obtain rfl := hf.unnil; obtain rfl := hg.unnil; exact c_roster_behind k _ _ _ e_x1 _ _ _ _ (s.arg (.tmp rfl)) (s.arg (.tmp rfl)))) fun a7 w7 s7 => ?_; clear s6
  refine seq_op s7 rfl rfl (of_decide_eq_true rfl) (ob_move rfl (.tmp rfl)) fun a8 w8 s8 => ?_; clear s7
  refine seq_op s8 rfl rfl (of_decide_eq_true rfl) (ob_extract rfl (.tmp rfl) rfl) fun a9 w9 s9 => ?_; clear s8
  refine seq_op s9 rfl rfl (of_decide_eq_true rfl) (ob_extract rfl (.tmp rfl) rfl) fun a10 w10 s10 => ?_; clear s9
  refine seq_op s10 rfl rfl (of_decide_eq_true rfl) (ob_assign rfl (.tmp rfl)) fun a11 w11 s11 => ?_; clear s10
  refine seq_op s11 rfl rfl (of_decide_eq_true rfl) (ob_assign rfl (.tmp rfl)) fun a12 w12 s12 => ?_; clear s11
  refine wpList_nil ?_
  refine then_normal ?_
  refine hK2 _ _ ?_
  have s13 := s12.sub (.cons (t := 6) rfl .nil); clear s12
  have s14 := St.drop (A := []) s13; clear s13
  refine wp_seq_k fun K3 hK3 => ?_
  refine wp_region_lit ?_
  refine seq_op s14 rfl rfl (of_decide_eq_true rfl) (ob_move rfl (.tmp rfl)) fun a15 w15 s15 => ?_; clear s14
  refine seq_op s15 rfl rfl (of_decide_eq_true rfl) (ob_assign rfl (.tmp rfl)) fun a16 w16 s16 => ?_; clear s15
  refine wpList_nil ?_
  refine then_normal ?_
  refine hK3 _ _ ?_
  have s17 := s16.sub (.cons (t := 4) rfl .nil); clear s16
  refine wp_ret ?_
  obtain rfl := Option.some.inj h1
  exact leave s17 (.inl rfl) rfl (.cons (.tmp rfl) .nil)

/- 10 cabal/caballaw16.RosterBoth -/
theorem c_caballaw16_RosterBoth (k : Nat) (p1 : Int) (p2 : Int) (p3 : Int) (r : Bool) (h0 : caballaw16_RosterBoth k p1 p2 p3 = some r) (ok : Ok) (w0 : World) (z0 : Value) (z1 : Value) (z2 : Value) (u0 : ((kint .u8).V p1).holds ok w0 z0) (u1 : ((kint .u8).V p2).holds ok w0 z1) (u2 : ((kint .u8).V p3).holds ok w0 z2) :
    Gives Try.prog 10 [z0, z1, z2] ok w0 (resFact [kbool.V r]) := by
  unfold caballaw16_RosterBoth at h0
  refine enter (N := 133) Try.func10 rfl rfl (of_decide_eq_true rfl) (.cons u0 (.cons u1 (.cons u2 .nil))) fun a1 s1 => ?_
  refine wp_seq_k fun K1 hK1 => ?_
  refine wp_region_lit ?_
  refine seq_op s1 rfl rfl (of_decide_eq_true rfl) (ob_assign rfl opd_bool) fun a2 w2 s2 => ?_; clear s1
  refine wpList_nil ?_
  refine then_normal ?_
  refine hK1 _ _ ?_
  have s3 := s2.sub (.cons (t := 0) rfl (.cons (t := 1) rfl (.cons (t := 2) rfl .nil))); clear s2
  refine wp_seq_k fun K2 hK2 => ?_
  refine wp_seq_k fun K3 hK3 => ?_
  refine wp_region_lit ?_
  obtain ⟨x1, e_x1, h1⟩ := bind_some h0; clear h0
  refine seq_op s3 rfl rfl (of_decide_eq_true rfl) (ob_callD (args := []) rfl .direct hb35 (fun a w s fs gs hf hg => by obtain rfl := hf.unnil; obtain rfl := hg.unnil; exact c_caballaw16_alive k _ e_x1 _ _)) fun a4 w4 s4 => ?_; clear s3
  refine seq_op s4 rfl rfl (of_decide_eq_true rfl) (ob_not rfl (.tmp rfl)) fun a5 w5 s5 => ?_; clear s4
  refine wpList_nil ?_
  refine then_normal ?_
  refine hK3 _ _ ?_
  have s6 := s5.sub (.cons (t := 0) rfl (.cons (t := 1) rfl (.cons (t := 2) rfl (.cons (t := 18) rfl .nil)))); clear s5
  refine cond_split s6 (.tmp rfl) (fun hc1 => ?_) (fun hc1 => ?_)
  · replace h1 := ite_t hc1 h1
    have h2 := h1; clear h1
    refine wp_seq_k fun K4 hK4 => ?_
    refine wp_region_lit ?_
    refine seq_op s6 rfl rfl (of_decide_eq_true rfl) (ob_assign rfl opd_bool) fun a7 w7 s7 => ?_; clear s6
    refine wpList_nil ?_
    refine then_normal ?_
    refine hK4 _ _ ?_
    have s8 := s7.sub (.cons (t := 6) rfl .nil); clear s7
    refine wp_ret ?_
    obtain rfl := Option.some.inj h2
    exact leave s8 (.inl rfl) rfl (.cons (.tmp rfl) .nil)
  · replace h1 := ite_f hc1 h1
    have h3 := h1; clear h1
    refine wp_skip ?_
    refine then_normal ?_
    refine hK2 _ _ ?_
    have s9 := s6.sub (.cons (t := 0) rfl (.cons (t := 1) rfl (.cons (t := 2) rfl .nil))); clear s6
    refine wp_seq_k fun K5 hK5 => ?_
    refine wp_region_lit ?_
    refine seq_op s9 rfl rfl (of_decide_eq_true rfl) (ob_move rfl (.tmp rfl)) fun a10 w10 s10 => ?_; clear s9
    refine seq_op s10 rfl rfl (of_decide_eq_true rfl) (ob_rem rfl (.tmp rfl) (opd_int rfl) (by decide)) fun a11 w11 s11 => ?_; clear s10
    refine seq_op s11 rfl rfl (of_decide_eq_true rfl) (ob_conv rfl _ Try.underlying5 Try.underlying3 (.tmp rfl)) fun a12 w12 s12 => ?_; clear s11
    refine seq_op s12 rfl rfl (of_decide_eq_true rfl) (ob_move rfl (.tmp rfl)) fun a13 w13 s13 => ?_; clear s12
    refine seq_op s13 rfl rfl (of_decide_eq_true rfl) (ob_rem rfl (.tmp rfl) (opd_int rfl) (by decide)) fun a14 w14 s14 => ?_; clear s13
    refine seq_op s14 rfl rfl (of_decide_eq_true rfl) (ob_conv rfl _ Try.underlying5 Try.underlying3 (.tmp rfl)) fun a15 w15 s15 => ?_; clear s14
    refine seq_op s15 rfl rfl (of_decide_eq_true rfl) (ob_move rfl (.tmp rfl)) fun a16 w16 s16 => ?_; clear s15
    refine seq_op s16 rfl rfl (of_decide_eq_true rfl) (ob_rem rfl (.tmp rfl) (opd_int rfl) (by decide)) fun a17 w17 s17 => ?_; clear s16
    refine seq_op s17 rfl rfl (of_decide_eq_true rfl) (ob_conv rfl _ Try.underlying5 Try.underlying3 (.tmp rfl)) fun a18 w18 s18 => ?_; clear s17
    refine seq_op s18 rfl rfl (of_decide_eq_true rfl) (ob_assign rfl (.tmp rfl)) fun a19 w19 s19 => ?_; clear s18
    refine seq_op s19 rfl rfl (of_decide_eq_true rfl) (ob_assign rfl (.tmp rfl)) fun a20 w20 s20 => ?_; clear s19
    refine seq_op s20 rfl rfl (of_decide_eq_true rfl) (ob_assign rfl (.tmp rfl)) fun a21 w21 s21 => ?_; clear s20
    refine wpList_nil ?_
    refine then_normal ?_
    refine hK5 _ _ ?_
    have s22 := s21.sub (.cons (t := 7) rfl (.cons (t := 8) rfl (.cons (t := 9) rfl .nil))); clear s21
    refine wp_seq_k fun K6 hK6 => ?_
    refine wp_seq_k fun K7 hK7 => ?_
    refine wp_region_lit ?_
    refine seq_op s22 rfl rfl (of_decide_eq_true rfl) (ob_move rfl (.tmp rfl)) fun a23 w23 s23 => ?_; clear s22
    refine seq_op s23 rfl rfl (of_decide_eq_true rfl) (ob_move rfl (.tmp rfl)) fun a24 w24 s24 => ?_; clear s23
    obtain ⟨x2, e_x2, h4⟩ := bind_some h3; clear h3; replace e_x2 := Option.some.inj e_x2
    refine seq_op s24 rfl rfl (of_decide_eq_true rfl) ((ob_eql rfl (.tmp rfl) (.tmp rfl)).nm e_x2) fun a25 w25 s25 => ?_; clear s24
    refine seq_op s25 rfl rfl (of_decide_eq_true rfl) (ob_move rfl (.tmp rfl)) fun a26 w26 s26 => ?_; clear s25
    refine seq_opg s26 rfl rfl rfl rfl (of_decide_eq_true rfl) (fun hb => ob_move rfl (.tmp rfl)) fun a27 w27 s27 => ?_; clear s26
    refine seq_opg s27 rfl rfl rfl rfl (of_decide_eq_true rfl) (fun hb => ob_move rfl (.tmp rfl)) fun a28 w28 s28 => ?_; clear s27
    obtain ⟨x3, e_x3, h5⟩ := bind_some h4; clear h4; replace e_x3 := Option.some.inj e_x3
    refine seq_opg s28 rfl rfl rfl rfl (of_decide_eq_true rfl) (fun hb => (Ob.uncond (t := 33) hb rfl ((Ob.uncond (t := 32) hb rfl ((ob_eql rfl (.tmp rfl) (.tmp rfl)).nm e_x3))))) fun a29 w29 s29 => ?_; clear s28
    refine seq_op s29 rfl rfl (of_decide_eq_true rfl) (ob_or2 rfl (.tmp rfl) opd_bool (.tmp rfl)) fun a30 w30 s30 => ?_; clear s29
    refine seq_op s30 rfl rfl (of_decide_eq_true rfl) (ob_move rfl (.tmp rfl)) fun a31 w31 s31 => ?_; clear s30
    refine seq_opg s31 rfl rfl rfl rfl (of_decide_eq_true rfl) (fun hb => ob_move rfl (.tmp rfl)) fun a32 w32 s32 => ?_; clear s31
    refine seq_opg s32 rfl rfl rfl rfl (of_decide_eq_true rfl) (fun hb => ob_move rfl (.tmp rfl)) fun a33 w33 s33 => ?_; clear s32
    obtain ⟨x4, e_x4, h6⟩ := bind_some h5; clear h5; replace e_x4 := Option.some.inj e_x4
    refine seq_opg s33 rfl rfl rfl rfl (of_decide_eq_true rfl) (fun hb => (Ob.uncond (t := 38) hb rfl ((Ob.uncond (t := 37) hb rfl ((ob_eql rfl (.tmp rfl) (.tmp rfl)).nm e_x4))))) fun a34 w34 s34 => ?_; clear s33
    refine seq_op s34 rfl rfl (of_decide_eq_true rfl) (ob_or2 rfl (.tmp rfl) opd_bool (.tmp rfl)) fun a35 w35 s35 => ?_; clear s34
    refine wpList_nil ?_
    refine then_normal ?_
    refine hK7 _ _ ?_
    have s36 := s35.sub (.cons (t := 7) rfl (.cons (t := 8) rfl (.cons (t := 9) rfl (.cons (t := 40) rfl .nil)))); clear s35
    refine cond_split s36 (.tmp rfl) (fun hc2 => ?_) (fun hc2 => ?_)
    · replace h6 := ite_t hc2 h6
      have h7 := h6; clear h6
      refine wp_seq_k fun K8 hK8 => ?_
      refine wp_region_lit ?_
      obtain ⟨x5, e_x5, h8⟩ := bind_some h7; clear h7
      refine seq_op s36 rfl rfl (of_decide_eq_true rfl) (ob_callD (args := []) rfl .direct hb35 (fun a w s fs gs hf hg => by obtain rfl := hf.unnil; obtain rfl := hg.unnil; exact c_caballaw16_alive k _ e_x5 _ _)) fun a37 w37 s37 => ?_; clear s36
      refine seq_op s37 rfl rfl (of_decide_eq_true rfl) (ob_assign rfl (.tmp rfl)) fun a38 w38 s38 => ?_; clear s37
      refine wpList_nil ?_
      refine then_normal ?_
      refine hK8 _ _ ?_
      have s39 := s38.sub (.cons (t := 6) rfl .nil); clear s38
      refine wp_ret ?_
      obtain rfl := Option.some.inj h8
      exact leave s39 (.inl rfl) rfl (.cons (.tmp rfl) .nil)
    · replace h6 := ite_f hc2 h6
      have h9 := h6; clear h6
      refine wp_skip ?_
      refine then_normal ?_
      refine hK6 _ _ ?_
      have s40 := s36.sub (.cons (t := 7) rfl (.cons (t := 8) rfl (.cons (t := 9) rfl .nil))); clear s36
      refine wp_seq_k fun K9 hK9 => ?_
      refine wp_region_lit ?_
      refine seq_op s40 rfl rfl (of_decide_eq_true rfl) (ob_assign rfl opd_is) fun a41 w41 s41 => ?_; clear s40
      have s42 := St.adopt s41 (G := RowF (nilRow 25) 3 (kint .i64) []) rfl (rowNilN _ _ _ _ _); clear s41
      refine wpList_nil ?_
      refine then_normal ?_
      refine hK9 _ _ ?_
      have s43 := s42.sub (.cons (t := 7) rfl (.cons (t := 8) rfl (.cons (t := 9) rfl (.cons (t := 10) rfl .nil)))); clear s42
      refine wp_seq_k fun K10 hK10 => ?_
      refine wp_seq_k fun K11 hK11 => ?_
      refine wp_region_lit ?_
      refine seq_op s43 rfl rfl (of_decide_eq_true rfl) (ob_assign rfl (opd_int rfl)) fun a44 w44 s44 => ?_; clear s43
      refine wpList_nil ?_
      refine then_normal ?_
      refine hK11 _ _ ?_
      have s45 := s44.sub (.cons (t := 7) rfl (.cons (t := 8) rfl (.cons (t := 9) rfl (.cons (t := 10) rfl (.cons (t := 11) rfl .nil))))); clear s44
      have hj1 : ∀ (y1 : (List Int)) (v1 : Value) (a : Act) (w : World), (caballaw16_RosterBoth.j1 k p1 p2 p3) y1 = some r → St ⟨133, w0, ok, []⟩ [RowF v1 3 (kint .i64) y1] [(7, ((kint .i64).V (IntKind.wrap .i64 (irem p1 (8 : Int))))), (8, ((kint .i64).V (IntKind.wrap .i64 (irem p2 (8 : Int))))), (9, ((kint .i64).V (IntKind.wrap .i64 (irem p3 (8 : Int))))), (10, (is v1))] a w → K10 a w := by
        intro y1 v1 a46 w46 h10 s46
        unfold caballaw16_RosterBoth.j1 at h10
        refine hK10 _ _ ?_
        refine wp_seq_k fun K12 hK12 => ?_
        refine wp_region_lit ?_
        obtain ⟨x6, e_x6, h11⟩ := bind_some h10; clear h10; replace e_x6 := Option.some.inj e_x6
        refine seq_op s46 rfl rfl (of_decide_eq_true rfl) (((ob_mkArr (k := (kint .u8)) rfl Try.underlying39 zz39 sz5 (Zr.arr 32 (Zr.int .u8)) (.cons (opd_int rfl) rfl (LS.arr' (i := 0) (ys := ([(1 : Int), (0 : Int), (0 : Int), (0 : Int), (0 : Int), (0 : Int), (0 : Int), (0 : Int), (0 : Int), (0 : Int), (0 : Int), (0 : Int), (0 : Int), (0 : Int), (0 : Int), (0 : Int), (0 : Int), (0 : Int), (0 : Int), (0 : Int), (0 : Int), (0 : Int), (0 : Int), (0 : Int), (0 : Int), (0 : Int), (0 : Int), (0 : Int), (0 : Int), (0 : Int), (0 : Int), (0 : Int)] : (List Int))) (by simp) (by rfl)) (.nil _)) : Ob _ _ _ _ _ ((karr 32 (kint .u8)).V ([(1 : Int), (0 : Int), (0 : Int), (0 : Int), (0 : Int), (0 : Int), (0 : Int), (0 : Int), (0 : Int), (0 : Int), (0 : Int), (0 : Int), (0 : Int), (0 : Int), (0 : Int), (0 : Int), (0 : Int), (0 : Int), (0 : Int), (0 : Int), (0 : Int), (0 : Int), (0 : Int), (0 : Int), (0 : Int), (0 : Int), (0 : Int), (0 : Int), (0 : Int), (0 : Int), (0 : Int), (0 : Int)] : (List Int))))).nm e_x6) fun a47 w47 s47 => ?_; clear s46
        refine seq_op s47 rfl rfl (of_decide_eq_true rfl) (ob_move rfl (.tmp rfl)) fun a48 w48 s48 => ?_; clear s47
        refine seq_op s48 rfl rfl (of_decide_eq_true rfl) (ob_move rfl (.tmp rfl)) fun a49 w49 s49 => ?_; clear s48
        obtain ⟨x7, e_x7, h12⟩ := bind_some h11; clear h11; replace e_x7 := Option.some.inj e_x7
        refine seq_op s49 rfl rfl (of_decide_eq_true rfl) (((ob_mkArr (k := (kint .u8)) rfl Try.underlying39 zz39 sz5 (Zr.arr 32 (Zr.int .u8)) (.cons (opd_int rfl) rfl (LS.arr' (i := 0) (ys := ([(1 : Int), (0 : Int), (0 : Int), (0 : Int), (0 : Int), (0 : Int), (0 : Int), (0 : Int), (0 : Int), (0 : Int), (0 : Int), (0 : Int), (0 : Int), (0 : Int), (0 : Int), (0 : Int), (0 : Int), (0 : Int), (0 : Int), (0 : Int), (0 : Int), (0 : Int), (0 : Int), (0 : Int), (0 : Int), (0 : Int), (0 : Int), (0 : Int), (0 : Int), (0 : Int), (0 : Int), (0 : Int)] : (List Int))) (by simp) (by rfl)) (.nil _)) : Ob _ _ _ _ _ ((karr 32 (kint .u8)).V ([(1 : Int), (0 : Int), (0 : Int), (0 : Int), (0 : Int), (0 : Int), (0 : Int), (0 : Int), (0 : Int), (0 : Int), (0 : Int), (0 : Int), (0 : Int), (0 : Int), (0 : Int), (0 : Int), (0 : Int), (0 : Int), (0 : Int), (0 : Int), (0 : Int), (0 : Int), (0 : Int), (0 : Int), (0 : Int), (0 : Int), (0 : Int), (0 : Int), (0 : Int), (0 : Int), (0 : Int), (0 : Int)] : (List Int))))).nm e_x7) fun a50 w50 s50 => ?_; clear s49
        have s51 := St.freezeAllM (A := []) s50 (ts := [10, 61]) (.cons rfl (.cons rfl .nil)); clear s50
        obtain ⟨x8, e_x8, h13⟩ := bind_some h12; clear h12; replace e_x8 := Option.some.inj e_x8
        refine seq_op s51 rfl rfl (of_decide_eq_true rfl) ((ob_mkStruct (K := k_api_Op) (X0 := (⟨(0 : Int), (0 : Int), [], (0 : Int), [], (List.replicate 32 (0 : Int)), (List.replicate 32 (0 : Int)), [], []⟩ : api_Op)) rfl Try.underlying44 zz44 rfl pl44 (Zr.iso (f := t_api_Op) (x := (⟨(0 : Int), (0 : Int), [], (0 : Int), [], (List.replicate 32 (0 : Int)), (List.replicate 32 (0 : Int)), [], []⟩ : api_Op)) (Zr.pair (Zr.int .i64) (Zr.pair (Zr.int .u32) (Zr.pair (Zr.sl _) (Zr.pair (Zr.int .i64) (Zr.pair (Zr.sl _) (Zr.pair (Zr.arr 32 (Zr.int .u8)) (Zr.pair (Zr.arr 32 (Zr.int .u8)) (Zr.pair Zr.str (Zr.pair (Zr.sl _) Zr.nil)))))))))) (.cons (.tmp rfl) rfl (ls_api_Op_Author (⟨(0 : Int), (0 : Int), [], (0 : Int), [], (List.replicate 32 (0 : Int)), (List.replicate 32 (0 : Int)), [], []⟩ : api_Op) (IntKind.wrap .i64 (irem p1 (8 : Int)))) (.cons (opd_int rfl) rfl (ls_api_Op_Seq (⟨(IntKind.wrap .i64 (irem p1 (8 : Int))), (0 : Int), [], (0 : Int), [], (List.replicate 32 (0 : Int)), (List.replicate 32 (0 : Int)), [], []⟩ : api_Op) (1 : Int)) (.cons (opd_int rfl) rfl (ls_api_Op_Kind (⟨(IntKind.wrap .i64 (irem p1 (8 : Int))), (1 : Int), [], (0 : Int), [], (List.replicate 32 (0 : Int)), (List.replicate 32 (0 : Int)), [], []⟩ : api_Op) (1 : Int)) (.cons (.tmp rfl) rfl (ls_api_Op_Who (⟨(IntKind.wrap .i64 (irem p1 (8 : Int))), (1 : Int), [], (1 : Int), [], (List.replicate 32 (0 : Int)), (List.replicate 32 (0 : Int)), [], []⟩ : api_Op) y1) (.cons (.tmp rfl) rfl (ls_api_Op_Check (⟨(IntKind.wrap .i64 (irem p1 (8 : Int))), (1 : Int), [], (1 : Int), y1, (List.replicate 32 (0 : Int)), (List.replicate 32 (0 : Int)), [], []⟩ : api_Op) x7) (.nil _))))))).nm e_x8) fun a52 w52 s52 => ?_; clear s51
        obtain ⟨x9, e_x9, h14⟩ := bind_some h13; clear h13
        refine seq_opx (B' := (fun v2 : Value => [RowF v2 46 k_api_Node x9.1])) s52 rfl rfl (of_decide_eq_true rfl) (ob_callL (args := [_, _, _]) (L := []) rfl .direct hb43 (List.Perm.refl _) (fun a w s fs gs hf hg => by obtain rfl := hf.unnil; obtain rfl := hg.unnil; exact c_graph_Add k _ _ _ _ e_x9 _ _ _ _ _ (s.arg opd_nil) (s.arg (.tmp rfl)) (s.arg (.tmp rfl))) (by exact fun _ => rfl)) fun v2 a53 w53 s53 => ?_; clear s52
        refine seq_op s53 rfl rfl (of_decide_eq_true rfl) (ob_move rfl (.tmp rfl)) fun a54 w54 s54 => ?_; clear s53
        refine seq_op s54 rfl rfl (of_decide_eq_true rfl) (ob_extract rfl (.tmp rfl) rfl) fun a55 w55 s55 => ?_; clear s54
        refine seq_op s55 rfl rfl (of_decide_eq_true rfl) (ob_extract rfl (.tmp rfl) rfl) fun a56 w56 s56 => ?_; clear s55
        refine seq_op s56 rfl rfl (of_decide_eq_true rfl) (ob_assign rfl (.tmp rfl)) fun a57 w57 s57 => ?_; clear s56
        refine seq_op s57 rfl rfl (of_decide_eq_true rfl) (ob_assign rfl (.tmp rfl)) fun a58 w58 s58 => ?_; clear s57
        refine wpList_nil ?_
        refine then_normal ?_
        refine hK12 _ _ ?_
        have s59 := s58.sub (.cons (t := 7) rfl (.cons (t := 8) rfl (.cons (t := 9) rfl (.cons (t := 12) rfl (.cons (t := 13) rfl .nil))))); clear s58
        refine wp_seq_k fun K13 hK13 => ?_
        refine wp_region_lit ?_
        refine seq_op s59 rfl rfl (of_decide_eq_true rfl) (ob_move rfl (.tmp rfl)) fun a60 w60 s60 => ?_; clear s59
        obtain ⟨x10, e_x10, h15⟩ := bind_some h14; clear h14; replace e_x10 := Option.some.inj e_x10
        refine seq_op s60 rfl rfl (of_decide_eq_true rfl) (((ob_mkArr (k := (kint .u8)) rfl Try.underlying39 zz39 sz5 (Zr.arr 32 (Zr.int .u8)) (.cons (opd_int rfl) rfl (LS.arr' (i := 0) (ys := ([(2 : Int), (0 : Int), (0 : Int), (0 : Int), (0 : Int), (0 : Int), (0 : Int), (0 : Int), (0 : Int), (0 : Int), (0 : Int), (0 : Int), (0 : Int), (0 : Int), (0 : Int), (0 : Int), (0 : Int), (0 : Int), (0 : Int), (0 : Int), (0 : Int), (0 : Int), (0 : Int), (0 : Int), (0 : Int), (0 : Int), (0 : Int), (0 : Int), (0 : Int), (0 : Int), (0 : Int), (0 : Int)] : (List Int))) (by simp) (by rfl)) (.nil _)) : Ob _ _ _ _ _ ((karr 32 (kint .u8)).V ([(2 : Int), (0 : Int), (0 : Int), (0 : Int), (0 : Int), (0 : Int), (0 : Int), (0 : Int), (0 : Int), (0 : Int), (0 : Int), (0 : Int), (0 : Int), (0 : Int), (0 : Int), (0 : Int), (0 : Int), (0 : Int), (0 : Int), (0 : Int), (0 : Int), (0 : Int), (0 : Int), (0 : Int), (0 : Int), (0 : Int), (0 : Int), (0 : Int), (0 : Int), (0 : Int), (0 : Int), (0 : Int)] : (List Int))))).nm e_x10) fun a61 w61 s61 => ?_; clear s60
        refine seq_op s61 rfl rfl (of_decide_eq_true rfl) (ob_move rfl (.tmp rfl)) fun a62 w62 s62 => ?_; clear s61
        refine seq_op s62 rfl rfl (of_decide_eq_true rfl) (ob_move rfl (.tmp rfl)) fun a63 w63 s63 => ?_; clear s62
        obtain ⟨x11, e_x11, h16⟩ := bind_some h15; clear h15; replace e_x11 := Option.some.inj e_x11
        refine seq_op s63 rfl rfl (of_decide_eq_true rfl) (((ob_mkArr (k := (kint .u8)) rfl Try.underlying39 zz39 sz5 (Zr.arr 32 (Zr.int .u8)) (.cons (opd_int rfl) rfl (LS.arr' (i := 0) (ys := ([(1 : Int), (0 : Int), (0 : Int), (0 : Int), (0 : Int), (0 : Int), (0 : Int), (0 : Int), (0 : Int), (0 : Int), (0 : Int), (0 : Int), (0 : Int), (0 : Int), (0 : Int), (0 : Int), (0 : Int), (0 : Int), (0 : Int), (0 : Int), (0 : Int), (0 : Int), (0 : Int), (0 : Int), (0 : Int), (0 : Int), (0 : Int), (0 : Int), (0 : Int), (0 : Int), (0 : Int), (0 : Int)] : (List Int))) (by simp) (by rfl)) (.nil _)) : Ob _ _ _ _ _ ((karr 32 (kint .u8)).V ([(1 : Int), (0 : Int), (0 : Int), (0 : Int), (0 : Int), (0 : Int), (0 : Int), (0 : Int), (0 : Int), (0 : Int), (0 : Int), (0 : Int), (0 : Int), (0 : Int), (0 : Int), (0 : Int), (0 : Int), (0 : Int), (0 : Int), (0 : Int), (0 : Int), (0 : Int), (0 : Int), (0 : Int), (0 : Int), (0 : Int), (0 : Int), (0 : Int), (0 : Int), (0 : Int), (0 : Int), (0 : Int)] : (List Int))))).nm e_x11) fun a64 w64 s64 => ?_; clear s63
        refine seq_op s64 rfl rfl (of_decide_eq_true rfl) (ob_mkSlice (k := (karr 32 (kint .u8))) (xs := ([x11] : (List (List Int)))) rfl Try.underlying40 zz39 sz39 (Zr.arr 32 (Zr.int .u8)) (by decide) (by decide) (.cons (.tmp rfl) rfl (LS.arr' (i := 0) (ys := ([x11] : (List (List Int)))) (by simp) (by rfl)) (.nil _))) fun a65 w65 s65 => ?_; clear s64
        obtain ⟨x12, e_x12, h17⟩ := bind_some h16; clear h16
        refine seq_op s65 rfl rfl (of_decide_eq_true rfl) (ob_callD (args := [_, _, _, _, _]) rfl .direct hb45 (fun a w s fs gs hf hg => by obtain rfl := hf.unnil; obtain rfl := hg.unnil; exact c_caballaw16_op k _ _ _ _ _ _ e_x12 _ _ _ _ _ _ _ (s.arg (opd_int rfl)) (s.arg (.tmp rfl)) (s.arg (opd_int rfl)) (s.arg (.tmp rfl)) (s.arg (.tmp rfl)))) fun a66 w66 s66 => ?_; clear s65
        have s67 := St.freezeAllM (A := []) s66 (ts := [12, 68]) (.cons rfl (.cons rfl .nil)); clear s66
        obtain ⟨x13, e_x13, h18⟩ := bind_some h17; clear h17
        refine seq_opx (B' := (fun v3 : Value => [RowF v3 46 k_api_Node x13.1])) s67 rfl rfl (of_decide_eq_true rfl) (ob_callL (args := [_, _, _]) (L := []) rfl .direct hb43 (List.Perm.refl _) (fun a w s fs gs hf hg => by obtain rfl := hf.unnil; obtain rfl := hg.unnil; exact c_graph_Add k _ _ _ _ e_x13 _ _ _ _ _ (s.arg (.tmp rfl)) (s.arg (.tmp rfl)) (s.arg (.tmp rfl))) (by exact fun _ => rfl)) fun v3 a68 w68 s68 => ?_; clear s67
        refine seq_op s68 rfl rfl (of_decide_eq_true rfl) (ob_move rfl (.tmp rfl)) fun a69 w69 s69 => ?_; clear s68
        refine seq_op s69 rfl rfl (of_decide_eq_true rfl) (ob_extract rfl (.tmp rfl) rfl) fun a70 w70 s70 => ?_; clear s69
        refine seq_op s70 rfl rfl (of_decide_eq_true rfl) (ob_extract rfl (.tmp rfl) rfl) fun a71 w71 s71 => ?_; clear s70
        refine seq_op s71 rfl rfl (of_decide_eq_true rfl) (ob_assign rfl (.tmp rfl)) fun a72 w72 s72 => ?_; clear s71
        refine seq_op s72 rfl rfl (of_decide_eq_true rfl) (ob_assign rfl (.tmp rfl)) fun a73 w73 s73 => ?_; clear s72
        refine wpList_nil ?_
        refine then_normal ?_
        refine hK13 _ _ ?_
        have s74 := s73.sub (.cons (t := 7) rfl (.cons (t := 8) rfl (.cons (t := 9) rfl (.cons (t := 12) rfl (.cons (t := 13) rfl (.cons (t := 14) rfl .nil)))))); clear s73
        refine wp_seq_k fun K14 hK14 => ?_
        refine wp_region_lit ?_
        refine seq_op s74 rfl rfl (of_decide_eq_true rfl) (ob_move rfl (.tmp rfl)) fun a75 w75 s75 => ?_; clear s74
        obtain ⟨x14, e_x14, h19⟩ := bind_some h18; clear h18; replace e_x14 := Option.some.inj e_x14
        refine seq_op s75 rfl rfl (of_decide_eq_true rfl) (((ob_mkArr (k := (kint .u8)) rfl Try.underlying39 zz39 sz5 (Zr.arr 32 (Zr.int .u8)) (.cons (opd_int rfl) rfl (LS.arr' (i := 0) (ys := ([(3 : Int), (0 : Int), (0 : Int), (0 : Int), (0 : Int), (0 : Int), (0 : Int), (0 : Int), (0 : Int), (0 : Int), (0 : Int), (0 : Int), (0 : Int), (0 : Int), (0 : Int), (0 : Int), (0 : Int), (0 : Int), (0 : Int), (0 : Int), (0 : Int), (0 : Int), (0 : Int), (0 : Int), (0 : Int), (0 : Int), (0 : Int), (0 : Int), (0 : Int), (0 : Int), (0 : Int), (0 : Int)] : (List Int))) (by simp) (by rfl)) (.nil _)) : Ob _ _ _ _ _ ((karr 32 (kint .u8)).V ([(3 : Int), (0 : Int), (0 : Int), (0 : Int), (0 : Int), (0 : Int), (0 : Int), (0 : Int), (0 : Int), (0 : Int), (0 : Int), (0 : Int), (0 : Int), (0 : Int), (0 : Int), (0 : Int), (0 : Int), (0 : Int), (0 : Int), (0 : Int), (0 : Int), (0 : Int), (0 : Int), (0 : Int), (0 : Int), (0 : Int), (0 : Int), (0 : Int), (0 : Int), (0 : Int), (0 : Int), (0 : Int)] : (List Int))))).nm e_x14) fun a76 w76 s76 => ?_; clear s75
        refine seq_op s76 rfl rfl (of_decide_eq_true rfl) (ob_move rfl (.tmp rfl)) fun a77 w77 s77 => ?_; clear s76
        refine seq_op s77 rfl rfl (of_decide_eq_true rfl) (ob_move rfl (.tmp rfl)) fun a78 w78 s78 => ?_; clear s77
        obtain ⟨x15, e_x15, h20⟩ := bind_some h19; clear h19; replace e_x15 := Option.some.inj e_x15
        refine seq_op s78 rfl rfl (of_decide_eq_true rfl) (((ob_mkArr (k := (kint .u8)) rfl Try.underlying39 zz39 sz5 (Zr.arr 32 (Zr.int .u8)) (.cons (opd_int rfl) rfl (LS.arr' (i := 0) (ys := ([(1 : Int), (0 : Int), (0 : Int), (0 : Int), (0 : Int), (0 : Int), (0 : Int), (0 : Int), (0 : Int), (0 : Int), (0 : Int), (0 : Int), (0 : Int), (0 : Int), (0 : Int), (0 : Int), (0 : Int), (0 : Int), (0 : Int), (0 : Int), (0 : Int), (0 : Int), (0 : Int), (0 : Int), (0 : Int), (0 : Int), (0 : Int), (0 : Int), (0 : Int), (0 : Int), (0 : Int), (0 : Int)] : (List Int))) (by simp) (by rfl)) (.nil _)) : Ob _ _ _ _ _ ((karr 32 (kint .u8)).V ([(1 : Int), (0 : Int), (0 : Int), (0 : Int), (0 : Int), (0 : Int), (0 : Int), (0 : Int), (0 : Int), (0 : Int), (0 : Int), (0 : Int), (0 : Int), (0 : Int), (0 : Int), (0 : Int), (0 : Int), (0 : Int), (0 : Int), (0 : Int), (0 : Int), (0 : Int), (0 : Int), (0 : Int), (0 : Int), (0 : Int), (0 : Int), (0 : Int), (0 : Int), (0 : Int), (0 : Int), (0 : Int)] : (List Int))))).nm e_x15) fun a79 w79 s79 => ?_; clear s78
        refine seq_op s79 rfl rfl (of_decide_eq_true rfl) (ob_mkSlice (k := (karr 32 (kint .u8))) (xs := ([x15] : (List (List Int)))) rfl Try.underlying40 zz39 sz39 (Zr.arr 32 (Zr.int .u8)) (by decide) (by decide) (.cons (.tmp rfl) rfl (LS.arr' (i := 0) (ys := ([x15] : (List (List Int)))) (by simp) (by rfl)) (.nil _))) fun a80 w80 s80 => ?_; clear s79
        obtain ⟨x16, e_x16, h21⟩ := bind_some h20; clear h20
        refine seq_op s80 rfl rfl (of_decide_eq_true rfl) (ob_callD (args := [_, _, _, _, _]) rfl .direct hb45 (fun a w s fs gs hf hg => by obtain rfl := hf.unnil; obtain rfl := hg.unnil; exact c_caballaw16_op k _ _ _ _ _ _ e_x16 _ _ _ _ _ _ _ (s.arg (opd_int rfl)) (s.arg (.tmp rfl)) (s.arg (opd_int rfl)) (s.arg (.tmp rfl)) (s.arg (.tmp rfl)))) fun a81 w81 s81 => ?_; clear s80
        have s82 := St.freezeAllM (A := []) s81 (ts := [12, 79]) (.cons rfl (.cons rfl .nil)); clear s81
        obtain ⟨x17, e_x17, h22⟩ := bind_some h21; clear h21
        refine seq_opx (B' := (fun v4 : Value => [RowF v4 46 k_api_Node x17.1])) s82 rfl rfl (of_decide_eq_true rfl) (ob_callL (args := [_, _, _]) (L := []) rfl .direct hb43 (List.Perm.refl _) (fun a w s fs gs hf hg => by obtain rfl := hf.unnil; obtain rfl := hg.unnil; exact c_graph_Add k _ _ _ _ e_x17 _ _ _ _ _ (s.arg (.tmp rfl)) (s.arg (.tmp rfl)) (s.arg (.tmp rfl))) (by exact fun _ => rfl)) fun v4 a83 w83 s83 => ?_; clear s82
        refine seq_op s83 rfl rfl (of_decide_eq_true rfl) (ob_move rfl (.tmp rfl)) fun a84 w84 s84 => ?_; clear s83
        refine seq_op s84 rfl rfl (of_decide_eq_true rfl) (ob_extract rfl (.tmp rfl) rfl) fun a85 w85 s85 => ?_; clear s84
        refine seq_op s85 rfl rfl (of_decide_eq_true rfl) (ob_extract rfl (.tmp rfl) rfl) fun a86 w86 s86 => ?_; clear s85
        refine seq_op s86 rfl rfl (of_decide_eq_true rfl) (ob_assign rfl (.tmp rfl)) fun a87 w87 s87 => ?_; clear s86
        refine seq_op s87 rfl rfl (of_decide_eq_true rfl) (ob_assign rfl (.tmp rfl)) fun a88 w88 s88 => ?_; clear s87
        refine wpList_nil ?_
        refine then_normal ?_
        refine hK14 _ _ ?_
        have s89 := s88.sub (.cons (t := 7) rfl (.cons (t := 8) rfl (.cons (t := 12) rfl (.cons (t := 13) rfl (.cons (t := 14) rfl (.cons (t := 15) rfl .nil)))))); clear s88
        refine wp_seq_k fun K15 hK15 => ?_
        refine wp_region_lit ?_
        refine seq_op s89 rfl rfl (of_decide_eq_true rfl) (ob_move rfl (.tmp rfl)) fun a90 w90 s90 => ?_; clear s89
        obtain ⟨x18, e_x18, h23⟩ := bind_some h22; clear h22; replace e_x18 := Option.some.inj e_x18
        refine seq_op s90 rfl rfl (of_decide_eq_true rfl) (((ob_mkArr (k := (kint .u8)) rfl Try.underlying39 zz39 sz5 (Zr.arr 32 (Zr.int .u8)) (.cons (opd_int rfl) rfl (LS.arr' (i := 0) (ys := ([(4 : Int), (0 : Int), (0 : Int), (0 : Int), (0 : Int), (0 : Int), (0 : Int), (0 : Int), (0 : Int), (0 : Int), (0 : Int), (0 : Int), (0 : Int), (0 : Int), (0 : Int), (0 : Int), (0 : Int), (0 : Int), (0 : Int), (0 : Int), (0 : Int), (0 : Int), (0 : Int), (0 : Int), (0 : Int), (0 : Int), (0 : Int), (0 : Int), (0 : Int), (0 : Int), (0 : Int), (0 : Int)] : (List Int))) (by simp) (by rfl)) (.nil _)) : Ob _ _ _ _ _ ((karr 32 (kint .u8)).V ([(4 : Int), (0 : Int), (0 : Int), (0 : Int), (0 : Int), (0 : Int), (0 : Int), (0 : Int), (0 : Int), (0 : Int), (0 : Int), (0 : Int), (0 : Int), (0 : Int), (0 : Int), (0 : Int), (0 : Int), (0 : Int), (0 : Int), (0 : Int), (0 : Int), (0 : Int), (0 : Int), (0 : Int), (0 : Int), (0 : Int), (0 : Int), (0 : Int), (0 : Int), (0 : Int), (0 : Int), (0 : Int)] : (List Int))))).nm e_x18) fun a91 w91 s91 => ?_; clear s90
        refine seq_op s91 rfl rfl (of_decide_eq_true rfl) (ob_move rfl (.tmp rfl)) fun a92 w92 s92 => ?_; clear s91
        refine seq_op s92 rfl rfl (of_decide_eq_true rfl) (ob_move rfl (.tmp rfl)) fun a93 w93 s93 => ?_; clear s92
        obtain ⟨x19, e_x19, h24⟩ := bind_some h23; clear h23; replace e_x19 := Option.some.inj e_x19
        refine seq_op s93 rfl rfl (of_decide_eq_true rfl) (((ob_mkArr (k := (kint .u8)) rfl Try.underlying39 zz39 sz5 (Zr.arr 32 (Zr.int .u8)) (.cons (opd_int rfl) rfl (LS.arr' (i := 0) (ys := ([(3 : Int), (0 : Int), (0 : Int), (0 : Int), (0 : Int), (0 : Int), (0 : Int), (0 : Int), (0 : Int), (0 : Int), (0 : Int), (0 : Int), (0 : Int), (0 : Int), (0 : Int), (0 : Int), (0 : Int), (0 : Int), (0 : Int), (0 : Int), (0 : Int), (0 : Int), (0 : Int), (0 : Int), (0 : Int), (0 : Int), (0 : Int), (0 : Int), (0 : Int), (0 : Int), (0 : Int), (0 : Int)] : (List Int))) (by simp) (by rfl)) (.nil _)) : Ob _ _ _ _ _ ((karr 32 (kint .u8)).V ([(3 : Int), (0 : Int), (0 : Int), (0 : Int), (0 : Int), (0 : Int), (0 : Int), (0 : Int), (0 : Int), (0 : Int), (0 : Int), (0 : Int), (0 : Int), (0 : Int), (0 : Int), (0 : Int), (0 : Int), (0 : Int), (0 : Int), (0 : Int), (0 : Int), (0 : Int), (0 : Int), (0 : Int), (0 : Int), (0 : Int), (0 : Int), (0 : Int), (0 : Int), (0 : Int), (0 : Int), (0 : Int)] : (List Int))))).nm e_x19) fun a94 w94 s94 => ?_; clear s93
        refine seq_op s94 rfl rfl (of_decide_eq_true rfl) (ob_mkSlice (k := (karr 32 (kint .u8))) (xs := ([x19] : (List (List Int)))) rfl Try.underlying40 zz39 sz39 (Zr.arr 32 (Zr.int .u8)) (by decide) (by decide) (.cons (.tmp rfl) rfl (LS.arr' (i := 0) (ys := ([x19] : (List (List Int)))) (by simp) (by rfl)) (.nil _))) fun a95 w95 s95 => ?_; clear s94
        obtain ⟨x20, e_x20, h25⟩ := bind_some h24; clear h24
        refine seq_op s95 rfl rfl (of_decide_eq_true rfl) (ob_callD (args := [_, _, _, _, _]) rfl .direct hb45 (fun a w s fs gs hf hg => by obtain rfl := hf.unnil; obtain rfl := hg.unnil; exact c_caballaw16_op k _ _ _ _ _ _ e_x20 _ _ _ _ _ _ _ (s.arg (opd_int rfl)) (s.arg (.tmp rfl)) (s.arg (opd_int rfl)) (s.arg (.tmp rfl)) (s.arg (.tmp rfl)))) fun a96 w96 s96 => ?_; clear s95
        have s97 := St.freezeAllM (A := []) s96 (ts := [12, 90]) (.cons rfl (.cons rfl .nil)); clear s96
        obtain ⟨x21, e_x21, h26⟩ := bind_some h25; clear h25
        refine seq_opx (B' := (fun v5 : Value => [RowF v5 46 k_api_Node x21.1])) s97 rfl rfl (of_decide_eq_true rfl) (ob_callL (args := [_, _, _]) (L := []) rfl .direct hb43 (List.Perm.refl _) (fun a w s fs gs hf hg => by obtain rfl := hf.unnil; obtain rfl := hg.unnil; exact c_graph_Add k _ _ _ _ e_x21 _ _ _ _ _ (s.arg (.tmp rfl)) (s.arg (.tmp rfl)) (s.arg (.tmp rfl))) (by exact fun _ => rfl)) fun v5 a98 w98 s98 => ?_; clear s97
        refine seq_op s98 rfl rfl (of_decide_eq_true rfl) (ob_move rfl (.tmp rfl)) fun a99 w99 s99 => ?_; clear s98
        refine seq_op s99 rfl rfl (of_decide_eq_true rfl) (ob_extract rfl (.tmp rfl) rfl) fun a100 w100 s100 => ?_; clear s99
        refine seq_op s100 rfl rfl (of_decide_eq_true rfl) (ob_extract rfl (.tmp rfl) rfl) fun a101 w101 s101 => ?_; clear s100
        refine seq_op s101 rfl rfl (of_decide_eq_true rfl) (ob_assign rfl (.tmp rfl)) fun a102 w102 s102 => ?_; clear s101
        refine seq_op s102 rfl rfl (of_decide_eq_true rfl) (ob_assign rfl (.tmp rfl)) fun a103 w103 s103 => ?_; clear s102
        refine wpList_nil ?_
        refine then_normal ?_
        refine hK15 _ _ ?_
        have s104 := s103.sub (.cons (t := 7) rfl (.cons (t := 12) rfl (.cons (t := 13) rfl (.cons (t := 14) rfl (.cons (t := 15) rfl (.cons (t := 16) rfl .nil)))))); clear s103
        refine wp_seq_k fun K16 hK16 => ?_
        refine wp_region_lit ?_
        obtain ⟨x22, e_x22, h27⟩ := bind_some h26; clear h26
        refine seq_op s104 rfl rfl (of_decide_eq_true rfl) (ob_callD (args := []) rfl .direct hb35 (fun a w s fs gs hf hg => by obtain rfl := hf.unnil; obtain rfl := hg.unnil; exact c_caballaw16_alive k _ e_x22 _ _)) fun a105 w105 s105 => ?_; clear s104
        refine seq_op s105 rfl rfl (of_decide_eq_true rfl) (ob_move rfl (.tmp rfl)) fun a106 w106 s106 => ?_; clear s105
        refine seq_opg s106 rfl rfl rfl rfl (of_decide_eq_true rfl) (fun hb => ob_move rfl (.tmp rfl)) fun a107 w107 s107 => ?_; clear s106
        refine seq_opg s107 rfl rfl rfl rfl (of_decide_eq_true rfl) (fun hb => (Ob.uncond (t := 102) hb rfl (ob_eql rfl (.tmp rfl) (opd_int rfl)))) fun a108 w108 s108 => ?_; clear s107
        refine seq_op s108 rfl rfl (of_decide_eq_true rfl) (ob_and2 rfl (.tmp rfl) (.tmp rfl) opd_bool) fun a109 w109 s109 => ?_; clear s108
        refine seq_op s109 rfl rfl (of_decide_eq_true rfl) (ob_move rfl (.tmp rfl)) fun a110 w110 s110 => ?_; clear s109
        refine seq_opg s110 rfl rfl rfl rfl (of_decide_eq_true rfl) (fun hb => ob_move rfl (.tmp rfl)) fun a111 w111 s111 => ?_; clear s110
        refine seq_opg s111 rfl rfl rfl rfl (of_decide_eq_true rfl) (fun hb => (Ob.uncond (t := 106) hb rfl (ob_eql rfl (.tmp rfl) (opd_int rfl)))) fun a112 w112 s112 => ?_; clear s111
        obtain ⟨x23, e_x23, h28⟩ := bind_some h27; clear h27; replace e_x23 := Option.some.inj e_x23
        refine seq_op s112 rfl rfl (of_decide_eq_true rfl) ((ob_and2 rfl (.tmp rfl) (.tmp rfl) opd_bool).nm e_x23) fun a113 w113 s113 => ?_; clear s112
        refine seq_op s113 rfl rfl (of_decide_eq_true rfl) (ob_move rfl (.tmp rfl)) fun a114 w114 s114 => ?_; clear s113
        refine seq_opg s114 rfl rfl rfl rfl (of_decide_eq_true rfl) (fun hb => ob_move rfl (.tmp rfl)) fun a115 w115 s115 => ?_; clear s114
        refine seq_opg s115 rfl rfl rfl rfl (of_decide_eq_true rfl) (fun hb => (Ob.uncond (t := 110) hb rfl (ob_eql rfl (.tmp rfl) (opd_int rfl)))) fun a116 w116 s116 => ?_; clear s115
        refine seq_op s116 rfl rfl (of_decide_eq_true rfl) (ob_and2 rfl (.tmp rfl) (.tmp rfl) opd_bool) fun a117 w117 s117 => ?_; clear s116
        refine seq_op s117 rfl rfl (of_decide_eq_true rfl) (ob_move rfl (.tmp rfl)) fun a118 w118 s118 => ?_; clear s117
        refine seq_opg s118 rfl rfl rfl rfl (of_decide_eq_true rfl) (fun hb => ob_move rfl (.tmp rfl)) fun a119 w119 s119 => ?_; clear s118
        refine seq_opg s119 rfl rfl rfl rfl (of_decide_eq_true rfl) (fun hb => (Ob.uncond (t := 114) hb rfl (ob_eql rfl (.tmp rfl) (opd_int rfl)))) fun a120 w120 s120 => ?_; clear s119
        obtain ⟨x24, e_x24, h29⟩ := bind_some h28; clear h28; replace e_x24 := Option.some.inj e_x24
        refine seq_op s120 rfl rfl (of_decide_eq_true rfl) ((ob_and2 rfl (.tmp rfl) (.tmp rfl) opd_bool).nm e_x24) fun a121 w121 s121 => ?_; clear s120
        refine seq_op s121 rfl rfl (of_decide_eq_true rfl) (ob_move rfl (.tmp rfl)) fun a122 w122 s122 => ?_; clear s121
        refine seq_opg s122 rfl rfl rfl rfl (of_decide_eq_true rfl) (fun hb => ob_move rfl (.tmp rfl)) fun a123 w123 s123 => ?_; clear s122
        obtain ⟨x25, e_x25, h30⟩ := bind_some h29; clear h29
        refine seq_opg s123 rfl rfl rfl rfl (of_decide_eq_true rfl) (fun hb => (ObF.ob ((ObF.uncond (t := 118) hb rfl ((ob_lendF (L := [_]) (List.Perm.refl _) (.cons (t := 118) rfl (lendRow (.head _)) .nil) (fun _ => ob_callF (F := resFact [((ksl (kint .i64)).V x25)]) (args := [_]) rfl .direct hb37 (fun a w s fs gs hf hg => by obtain rfl := hf.unnil; obtain rfl := hg.unnil; exact c_roster_All k _ _ (ite_t hb e_x25) _ _ _ (s.arg (.tmp rfl))) (by exact fun g => ResF.all (.row (.head _) (KFlat.int _) .nil))))))))) fun a124 w124 s124 => ?_; clear s123
        refine seq_opg s124 rfl rfl rfl rfl (of_decide_eq_true rfl) (fun hb => (Ob.uncond (t := 119) hb rfl (ob_lens rfl Try.underlying41 (.tmp rfl)))) fun a125 w125 s125 => ?_; clear s124
        refine seq_opg s125 rfl rfl rfl rfl (of_decide_eq_true rfl) (fun hb => (Ob.uncond (t := 120) hb rfl (ob_eql rfl (.tmp rfl) (opd_int rfl)))) fun a126 w126 s126 => ?_; clear s125
        refine seq_op s126 rfl rfl (of_decide_eq_true rfl) (ob_and2 rfl (.tmp rfl) (.tmp rfl) opd_bool) fun a127 w127 s127 => ?_; clear s126
        refine seq_op s127 rfl rfl (of_decide_eq_true rfl) (ob_move rfl (.tmp rfl)) fun a128 w128 s128 => ?_; clear s127
        refine seq_opg s128 rfl rfl rfl rfl (of_decide_eq_true rfl) (fun hb => ob_move rfl (.tmp rfl)) fun a129 w129 s129 => ?_; clear s128
        refine seq_opg s129 rfl rfl rfl rfl (of_decide_eq_true rfl) (fun hb => ob_move rfl (.tmp rfl)) fun a130 w130 s130 => ?_; clear s129
        obtain ⟨x26, e_x26, h31⟩ := bind_some h30; clear h30; replace e_x26 := Option.some.inj e_x26
        refine seq_opg s130 rfl rfl rfl rfl (of_decide_eq_true rfl) (fun hb => ((ob_mkArr (k := (kint .u8)) rfl Try.underlying39 zz39 sz5 (Zr.arr 32 (Zr.int .u8)) (.cons (opd_int rfl) rfl (LS.arr' (i := 0) (ys := ([(2 : Int), (0 : Int), (0 : Int), (0 : Int), (0 : Int), (0 : Int), (0 : Int), (0 : Int), (0 : Int), (0 : Int), (0 : Int), (0 : Int), (0 : Int), (0 : Int), (0 : Int), (0 : Int), (0 : Int), (0 : Int), (0 : Int), (0 : Int), (0 : Int), (0 : Int), (0 : Int), (0 : Int), (0 : Int), (0 : Int), (0 : Int), (0 : Int), (0 : Int), (0 : Int), (0 : Int), (0 : Int)] : (List Int))) (by simp) (by rfl)) (.nil _)) : Ob _ _ _ _ _ ((karr 32 (kint .u8)).V ([(2 : Int), (0 : Int), (0 : Int), (0 : Int), (0 : Int), (0 : Int), (0 : Int), (0 : Int), (0 : Int), (0 : Int), (0 : Int), (0 : Int), (0 : Int), (0 : Int), (0 : Int), (0 : Int), (0 : Int), (0 : Int), (0 : Int), (0 : Int), (0 : Int), (0 : Int), (0 : Int), (0 : Int), (0 : Int), (0 : Int), (0 : Int), (0 : Int), (0 : Int), (0 : Int), (0 : Int), (0 : Int)] : (List Int))))).nm e_x26) fun a131 w131 s131 => ?_; clear s130
        obtain ⟨x27, e_x27, h32⟩ := bind_some h31; clear h31; replace e_x27 := Option.some.inj e_x27
        refine seq_opg s131 rfl rfl rfl rfl (of_decide_eq_true rfl) (fun hb => ((ob_mkArr (k := (kint .u8)) rfl Try.underlying39 zz39 sz5 (Zr.arr 32 (Zr.int .u8)) (.cons (opd_int rfl) rfl (LS.arr' (i := 0) (ys := ([(4 : Int), (0 : Int), (0 : Int), (0 : Int), (0 : Int), (0 : Int), (0 : Int), (0 : Int), (0 : Int), (0 : Int), (0 : Int), (0 : Int), (0 : Int), (0 : Int), (0 : Int), (0 : Int), (0 : Int), (0 : Int), (0 : Int), (0 : Int), (0 : Int), (0 : Int), (0 : Int), (0 : Int), (0 : Int), (0 : Int), (0 : Int), (0 : Int), (0 : Int), (0 : Int), (0 : Int), (0 : Int)] : (List Int))) (by simp) (by rfl)) (.nil _)) : Ob _ _ _ _ _ ((karr 32 (kint .u8)).V ([(4 : Int), (0 : Int), (0 : Int), (0 : Int), (0 : Int), (0 : Int), (0 : Int), (0 : Int), (0 : Int), (0 : Int), (0 : Int), (0 : Int), (0 : Int), (0 : Int), (0 : Int), (0 : Int), (0 : Int), (0 : Int), (0 : Int), (0 : Int), (0 : Int), (0 : Int), (0 : Int), (0 : Int), (0 : Int), (0 : Int), (0 : Int), (0 : Int), (0 : Int), (0 : Int), (0 : Int), (0 : Int)] : (List Int))))).nm e_x27) fun a132 w132 s132 => ?_; clear s131
        refine seq_opg s132 rfl rfl rfl rfl (of_decide_eq_true rfl) (fun hb => (Ob.uncond (t := 127) hb rfl ((Ob.uncond (t := 126) hb rfl (ob_mkSlice (k := (karr 32 (kint .u8))) (xs := ([x26, x27] : (List (List Int)))) rfl Try.underlying40 zz39 sz39 (Zr.arr 32 (Zr.int .u8)) (by decide) (by decide) (.cons (.tmp rfl) rfl (LS.arr' (i := 0) (ys := ([x26, (List.replicate 32 (0 : Int))] : (List (List Int)))) (by simp) (by rfl)) (.cons (.tmp rfl) rfl (LS.arr' (i := 1) (ys := ([x26, x27] : (List (List Int)))) (by simp) (by rfl)) (.nil _)))))))) fun a133 w133 s133 => ?_; clear s132
        obtain ⟨x28, e_x28, h33⟩ := bind_some h32; clear h32
        refine seq_opg s133 rfl rfl rfl rfl (of_decide_eq_true rfl) (fun hb => (Ob.uncond (t := 128) hb rfl ((Ob.uncond (t := 125) hb rfl (ob_callD (args := [_, _, _, _, _]) rfl .direct hb45 (fun a w s fs gs hf hg => by obtain rfl := hf.unnil; obtain rfl := hg.unnil; exact c_caballaw16_op k _ _ _ _ _ _ (ite_t hb e_x28) _ _ _ _ _ _ _ (s.arg (opd_int rfl)) (s.arg (.tmp rfl)) (s.arg (opd_int rfl)) (s.arg (opd_int rfl)) (s.arg (.tmp rfl)))))))) fun a134 w134 s134 => ?_; clear s133
        obtain ⟨x29, e_x29, h34⟩ := bind_some h33; clear h33
        refine seq_opg s134 rfl rfl rfl rfl (of_decide_eq_true rfl) (fun hb => (Ob.uncond (t := 129) hb rfl ((Ob.uncond (t := 124) hb rfl ((ob_lendG (L := [_]) (List.Perm.refl _) (.cons (t := 124) rfl (lendRow (.head _)) .nil) (Flat.res1 (Flat.V (KFlat.int _))) (fun _ => ob_callD (args := [_, _]) rfl .direct hb46 (fun a w s fs gs hf hg => by obtain rfl := hf.unnil; obtain rfl := hg.unnil; exact c_roster_Allowed k _ _ _ (ite_t hb e_x29) _ _ _ _ (s.arg (.tmp rfl)) (s.arg (.tmp rfl)))))))))) fun a135 w135 s135 => ?_; clear s134
        refine seq_opg s135 rfl rfl rfl rfl (of_decide_eq_true rfl) (fun hb => (Ob.uncond (t := 130) hb rfl (ob_eql rfl (.tmp rfl) (opd_int rfl)))) fun a136 w136 s136 => ?_; clear s135
        obtain ⟨x30, e_x30, h35⟩ := bind_some h34; clear h34; replace e_x30 := Option.some.inj e_x30
        refine seq_op s136 rfl rfl (of_decide_eq_true rfl) ((ob_and2 rfl (.tmp rfl) (.tmp rfl) opd_bool).nm e_x30) fun a137 w137 s137 => ?_; clear s136
        refine seq_op s137 rfl rfl (of_decide_eq_true rfl) (ob_assign rfl (.tmp rfl)) fun a138 w138 s138 => ?_; clear s137
        refine wpList_nil ?_
        refine then_normal ?_
        refine hK16 _ _ ?_
        have s139 := s138.sub (.cons (t := 6) rfl .nil); clear s138
        have s140 := St.drop (A := []) s139; clear s139
        refine wp_ret ?_
        obtain rfl := Option.some.inj h35
        exact leave s140 (.inl rfl) rfl (.cons (.tmp rfl) .nil)
      refine wp_block ?_
      refine wp_loop_fuel (fun m (q : Int × (List Int)) => caballaw16_RosterBoth.l1 k p1 p2 p3 m q.1 q.2) r (fun _ => rfl) (fun q a w => ∃ (v6 : Value), St ⟨133, w0, ok, []⟩ [RowF v6 3 (kint .i64) q.2] [(7, ((kint .i64).V (IntKind.wrap .i64 (irem p1 (8 : Int))))), (8, ((kint .i64).V (IntKind.wrap .i64 (irem p2 (8 : Int))))), (9, ((kint .i64).V (IntKind.wrap .i64 (irem p3 (8 : Int))))), (10, (is v6)), (11, ((kint .i64).V q.1))] a w) ?_ k ((0 : Int), ([] : (List Int))) _ _ h9 ⟨(nilRow 25), (s45.sub (.cons rfl (.cons rfl (.cons rfl (.cons rfl (.cons rfl .nil))))))⟩
      rintro n1 ⟨y2, y3⟩ a141 w141 h36 ⟨v6, s141⟩ K17 hK17
      replace h36 : caballaw16_RosterBoth.l1 k p1 p2 p3 (n1 + 1) y2 y3 = some r := h36; rw [caballaw16_RosterBoth.l1] at h36
      have h37 := h36; clear h36
      refine wp_seq_k fun K18 hK18 => ?_
      refine wp_seq_k fun K19 hK19 => ?_
      refine wp_region_lit ?_
      refine seq_op s141 rfl rfl (of_decide_eq_true rfl) (ob_move rfl (.tmp rfl)) fun a142 w142 s142 => ?_; clear s141
      refine seq_op s142 rfl rfl (of_decide_eq_true rfl) (ob_lss rfl (.tmp rfl) (opd_int rfl)) fun a143 w143 s143 => ?_; clear s142
      refine wpList_nil ?_
      refine then_normal ?_
      refine hK19 _ _ ?_
      have s144 := s143.sub (.cons (t := 7) rfl (.cons (t := 8) rfl (.cons (t := 9) rfl (.cons (t := 10) rfl (.cons (t := 11) rfl (.cons (t := 43) rfl .nil)))))); clear s143
      refine cond_split s144 (.tmp rfl) (fun hc3 => ?_) (fun hc3 => ?_)
      · replace h37 := ite_t hc3 h37
        have h38 := h37; clear h37
        refine wp_skip ?_
        refine then_normal ?_
        refine hK18 _ _ ?_
        have s145 := s144.sub (.cons (t := 7) rfl (.cons (t := 8) rfl (.cons (t := 9) rfl (.cons (t := 10) rfl (.cons (t := 11) rfl .nil))))); clear s144
        refine wp_seq_k fun K20 hK20 => ?_
        have hj2 : ∀ (y4 : (List Int)) (v7 : Value) (a : Act) (w : World), (caballaw16_RosterBoth.j2 k y2 (caballaw16_RosterBoth.l1 k p1 p2 p3 n1)) y4 = some r → St ⟨133, w0, ok, []⟩ [RowF v7 3 (kint .i64) y4] [(7, ((kint .i64).V (IntKind.wrap .i64 (irem p1 (8 : Int))))), (8, ((kint .i64).V (IntKind.wrap .i64 (irem p2 (8 : Int))))), (9, ((kint .i64).V (IntKind.wrap .i64 (irem p3 (8 : Int))))), (10, (is v7)), (11, ((kint .i64).V y2))] a w → K20 a w := by
          intro y4 v7 a146 w146 h39 s146
          unfold caballaw16_RosterBoth.j2 at h39
          refine hK20 _ _ ?_
          refine wp_region_lit ?_
          refine seq_op s146 rfl rfl (of_decide_eq_true rfl) (ob_move rfl (.tmp rfl)) fun a147 w147 s147 => ?_; clear s146
          refine seq_op s147 rfl rfl (of_decide_eq_true rfl) (ob_add rfl (.tmp rfl) (opd_int rfl)) fun a148 w148 s148 => ?_; clear s147
          refine seq_op s148 rfl rfl (of_decide_eq_true rfl) (ob_assign rfl (.tmp rfl)) fun a149 w149 s149 => ?_; clear s148
          refine wpList_nil ?_
          refine then_normal ?_
          exact hK17 ((iadd .i64 y2 (1 : Int)), y4) _ _ h39 ⟨v7, (s149.sub (.cons rfl (.cons rfl (.cons rfl (.cons rfl (.cons rfl .nil))))))⟩
        refine wp_block ?_
        refine wp_seq_k fun K21 hK21 => ?_
        refine wp_region_lit ?_
        refine seq_op s145 rfl rfl (of_decide_eq_true rfl) (ob_move rfl (.tmp rfl)) fun a150 w150 s150 => ?_; clear s145
        refine seq_op s150 rfl rfl (of_decide_eq_true rfl) (ob_move rfl (.tmp rfl)) fun a151 w151 s151 => ?_; clear s150
        refine seq_op s151 rfl rfl (of_decide_eq_true rfl) (ob_eql rfl (.tmp rfl) (.tmp rfl)) fun a152 w152 s152 => ?_; clear s151
        refine seq_op s152 rfl rfl (of_decide_eq_true rfl) (ob_move rfl (.tmp rfl)) fun a153 w153 s153 => ?_; clear s152
        refine seq_opg s153 rfl rfl rfl rfl (of_decide_eq_true rfl) (fun hb => ob_move rfl (.tmp rfl)) fun a154 w154 s154 => ?_; clear s153
        refine seq_opg s154 rfl rfl rfl rfl (of_decide_eq_true rfl) (fun hb => ob_move rfl (.tmp rfl)) fun a155 w155 s155 => ?_; clear s154
        refine seq_opg s155 rfl rfl rfl rfl (of_decide_eq_true rfl) (fun hb => (Ob.uncond (t := 51) hb rfl ((Ob.uncond (t := 50) hb rfl (ob_eql rfl (.tmp rfl) (.tmp rfl)))))) fun a156 w156 s156 => ?_; clear s155
        obtain ⟨x31, e_x31, h40⟩ := bind_some h38; clear h38; replace e_x31 := Option.some.inj e_x31
        refine seq_op s156 rfl rfl (of_decide_eq_true rfl) ((ob_or2 rfl (.tmp rfl) opd_bool (.tmp rfl)).nm e_x31) fun a157 w157 s157 => ?_; clear s156
        refine wpList_nil ?_
        refine then_normal ?_
        refine hK21 _ _ ?_
        have s158 := s157.sub (.cons (t := 7) rfl (.cons (t := 8) rfl (.cons (t := 9) rfl (.cons (t := 10) rfl (.cons (t := 11) rfl (.cons (t := 53) rfl .nil)))))); clear s157
        refine cond_split s158 (.tmp rfl) (fun hc4 => ?_) (fun hc4 => ?_)
        · replace h40 := ite_t hc4 h40
          have h41 := h40; clear h40
          refine wp_region_lit ?_
          refine seq_op s158 rfl rfl (of_decide_eq_true rfl) (ob_move rfl (.tmp rfl)) fun a159 w159 s159 => ?_; clear s158
          refine seq_op s159 rfl rfl (of_decide_eq_true rfl) (ob_move rfl (.tmp rfl)) fun a160 w160 s160 => ?_; clear s159
          refine seq_op s160 rfl rfl (of_decide_eq_true rfl) (ob_mkSlice (k := (kint .i64)) (xs := ([y2] : (List Int))) rfl Try.underlying41 zz3 sz3 (Zr.int .i64) (by decide) (by decide) (.cons (.tmp rfl) rfl (LS.arr' (i := 0) (ys := ([y2] : (List Int))) (by simp) (by rfl)) (.nil _))) fun a161 w161 s161 => ?_; clear s160
          obtain ⟨g1, h42⟩ := guard_some h41; clear h41
          refine seq_opx (B' := (fun v8 : Value => [RowF v8 3 (kint .i64) (y3 ++ ([y2] : (List Int)))])) s161 rfl rfl (of_decide_eq_true rfl) (ob_appendL2 (A := []) rfl Try.underlying41 ap3 (Zr.int .i64) (by decide) (.tmp rfl) (.tmp rfl) rfl g1) fun v8 a162 w162 s162 => ?_; clear s161
          refine seq_op s162 rfl rfl (of_decide_eq_true rfl) (ob_assign rfl (.tmp rfl)) fun a163 w163 s163 => ?_; clear s162
          refine wpList_nil ?_
          refine in_normal ?_
          refine then_normal ?_
          exact hj2 (y3 ++ ([y2] : (List Int))) v8 _ _ h42 (s163.sub (.cons rfl (.cons rfl (.cons rfl (.cons rfl (.cons rfl .nil))))))
        · replace h40 := ite_f hc4 h40
          have h43 := h40; clear h40
          refine wp_skip ?_
          refine in_normal ?_
          refine then_normal ?_
          exact hj2 y3 v6 _ _ h43 (s158.sub (.cons rfl (.cons rfl (.cons rfl (.cons rfl (.cons rfl .nil))))))
      · replace h37 := ite_f hc3 h37
        have h44 := h37; clear h37
        refine wp_exit ?_
        refine (then_exit (then_exit (in_here ?_)))
        refine then_normal ?_
        exact hj1 y3 v6 _ _ h44 (s144.sub (.cons rfl (.cons rfl (.cons rfl (.cons rfl .nil)))))

end Go.Proofs.Ytdlnfgpcnfbjiaa
