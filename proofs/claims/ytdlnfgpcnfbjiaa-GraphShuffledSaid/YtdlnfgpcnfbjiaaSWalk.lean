/- Each function's code comes to what its plain function answers. No condition. -/
import Derived.Test.YtdlnfgpcnfbjiaaSWalk2
namespace Go.Proofs.Ytdlnfgpcnfbjiaa
open Go Go.RowKit Go.Proofs.Kit Go.Proofs.Pure
set_option linter.unusedVariables false
set_option linter.unusedSimpArgs false
set_option maxRecDepth 100000
set_option maxHeartbeats 2000000

/- 12 cabal/caballaw15.GraphShuffled -/
theorem c_caballaw15_GraphShuffled (k : Nat) (p1 : (List api_Node)) (p2 : (List Int)) (r : Bool) (h0 : caballaw15_GraphShuffled k p1 p2 = some r) (ok : Ok) (w0 : World) (z0 : Value) (z1 : Value) (u0 : ((ksl k_api_Node).V p1).holds ok w0 z0) (u1 : ((ksl (kint .u8)).V p2).holds ok w0 z1) :
    Gives Try.prog 12 [z0, z1] ok w0 (resFact [kbool.V r]) := by
  unfold caballaw15_GraphShuffled at h0
  refine enter (N := 120) Try.func12 rfl rfl (of_decide_eq_true rfl) (.cons u0 (.cons u1 .nil)) fun a1 s1 => ?_
  refine wp_seq_k fun K1 hK1 => ?_
  refine wp_region_lit ?_
  refine seq_op s1 rfl rfl (of_decide_eq_true rfl) (ob_assign rfl opd_bool) fun a2 w2 s2 => ?_; clear s1
  refine wpList_nil ?_
  refine then_normal ?_
  refine hK1 _ _ ?_
  have s3 := s2.sub (.cons (t := 0) rfl (.cons (t := 1) rfl .nil)); clear s2
  refine wp_seq_k fun K2 hK2 => ?_
  refine wp_seq_k fun K3 hK3 => ?_
  refine wp_region_lit ?_
  obtain ⟨x1, e_x1, h1⟩ := bind_some h0; clear h0
  refine seq_op s3 rfl rfl (of_decide_eq_true rfl) (ob_callD (args := []) rfl .direct hb47 (fun a w s fs gs hf hg => by obtain rfl := hf.unnil; obtain rfl := hg.unnil; exact c_caballaw15_alive k _ e_x1 _ _)) fun a4 w4 s4 => ?_; clear s3
  refine seq_op s4 rfl rfl (of_decide_eq_true rfl) (ob_not rfl (.tmp rfl)) fun a5 w5 s5 => ?_; clear s4
  refine wpList_nil ?_
  refine then_normal ?_
  refine hK3 _ _ ?_
  have s6 := s5.sub (.cons (t := 0) rfl (.cons (t := 1) rfl (.cons (t := 16) rfl .nil))); clear s5
  refine cond_split s6 (.tmp rfl) (fun hc1 => ?_) (fun hc1 => ?_)
  · replace h1 := ite_t hc1 h1
    have h2 := h1; clear h1
    refine wp_seq_k fun K4 hK4 => ?_
    refine wp_region_lit ?_
    refine seq_op s6 rfl rfl (of_decide_eq_true rfl) (ob_assign rfl opd_bool) fun a7 w7 s7 => ?_; clear s6
    refine wpList_nil ?_
    refine then_normal ?_
    refine hK4 _ _ ?_
    have s8 := s7.sub (.cons (t := 4) rfl .nil); clear s7
    refine wp_ret ?_
    obtain rfl := Option.some.inj h2
    exact leave s8 (.inl rfl) rfl (.cons (.tmp rfl) .nil)
  · replace h1 := ite_f hc1 h1
    have h3 := h1; clear h1
    refine wp_skip ?_
    refine then_normal ?_
    refine hK2 _ _ ?_
    have s9 := s6.sub (.cons (t := 0) rfl (.cons (t := 1) rfl .nil)); clear s6
    refine wp_seq_k fun K5 hK5 => ?_
    refine wp_seq_k fun K6 hK6 => ?_
    refine wp_region_lit ?_
    refine seq_op s9 rfl rfl (of_decide_eq_true rfl) (ob_move rfl (.tmp rfl)) fun a10 w10 s10 => ?_; clear s9
    obtain ⟨x2, e_x2, h4⟩ := bind_some h3; clear h3
    refine seq_op s10 rfl rfl (of_decide_eq_true rfl) (ob_callD (args := [_]) rfl .direct hb23 (fun a w s fs gs hf hg => by obtain rfl := hf.unnil; obtain rfl := hg.unnil; exact c_cabalref15_Great k _ _ e_x2 _ _ _ (s.arg (.tmp rfl)))) fun a11 w11 s11 => ?_; clear s10
    refine seq_op s11 rfl rfl (of_decide_eq_true rfl) (ob_move rfl (.tmp rfl)) fun a12 w12 s12 => ?_; clear s11
    refine seq_opg s12 rfl rfl rfl rfl (of_decide_eq_true rfl) (fun hb => ob_move rfl (.tmp rfl)) fun a13 w13 s13 => ?_; clear s12
    refine seq_opg s13 rfl rfl rfl rfl (of_decide_eq_true rfl) (fun hb => (Ob.uncond (t := 20) hb rfl (ob_lens rfl Try.underlying22 (.tmp rfl)))) fun a14 w14 s14 => ?_; clear s13
    refine seq_opg s14 rfl rfl rfl rfl (of_decide_eq_true rfl) (fun hb => (Ob.uncond (t := 21) hb rfl (ob_gtr rfl (.tmp rfl) (opd_int rfl)))) fun a15 w15 s15 => ?_; clear s14
    refine seq_op s15 rfl rfl (of_decide_eq_true rfl) (ob_or2 rfl (.tmp rfl) opd_bool (.tmp rfl)) fun a16 w16 s16 => ?_; clear s15
    refine seq_op s16 rfl rfl (of_decide_eq_true rfl) (ob_move rfl (.tmp rfl)) fun a17 w17 s17 => ?_; clear s16
    refine seq_opg s17 rfl rfl rfl rfl (of_decide_eq_true rfl) (fun hb => ob_move rfl (.tmp rfl)) fun a18 w18 s18 => ?_; clear s17
    obtain ⟨x3, e_x3, h5⟩ := bind_some h4; clear h4
    refine seq_opg s18 rfl rfl rfl rfl (of_decide_eq_true rfl) (fun hb => (Ob.uncond (t := 25) hb rfl (ob_callD (args := [_]) rfl .direct hb24 (fun a w s fs gs hf hg => by obtain rfl := hf.unnil; obtain rfl := hg.unnil; exact c_graph_Right k _ _ (ite_t hb e_x3) _ _ _ (s.arg (.tmp rfl)))))) fun a19 w19 s19 => ?_; clear s18
    refine seq_opg s19 rfl rfl rfl rfl (of_decide_eq_true rfl) (fun hb => (Ob.uncond (t := 26) hb rfl (ob_not rfl (.tmp rfl)))) fun a20 w20 s20 => ?_; clear s19
    obtain ⟨x4, e_x4, h6⟩ := bind_some h5; clear h5; replace e_x4 := Option.some.inj e_x4
    refine seq_op s20 rfl rfl (of_decide_eq_true rfl) ((ob_or2 rfl (.tmp rfl) opd_bool (.tmp rfl)).nm e_x4) fun a21 w21 s21 => ?_; clear s20
    refine wpList_nil ?_
    refine then_normal ?_
    refine hK6 _ _ ?_
    have s22 := s21.sub (.cons (t := 0) rfl (.cons (t := 1) rfl (.cons (t := 28) rfl .nil))); clear s21
    refine cond_split s22 (.tmp rfl) (fun hc2 => ?_) (fun hc2 => ?_)
    · replace h6 := ite_t hc2 h6
      have h7 := h6; clear h6
      refine wp_seq_k fun K7 hK7 => ?_
      refine wp_region_lit ?_
      obtain ⟨x5, e_x5, h8⟩ := bind_some h7; clear h7
      refine seq_op s22 rfl rfl (of_decide_eq_true rfl) (ob_callD (args := []) rfl .direct hb47 (fun a w s fs gs hf hg => by obtain rfl := hf.unnil; obtain rfl := hg.unnil; exact c_caballaw15_alive k _ e_x5 _ _)) fun a23 w23 s23 => ?_; clear s22
      refine seq_op s23 rfl rfl (of_decide_eq_true rfl) (ob_assign rfl (.tmp rfl)) fun a24 w24 s24 => ?_; clear s23
      refine wpList_nil ?_
      refine then_normal ?_
      refine hK7 _ _ ?_
      have s25 := s24.sub (.cons (t := 4) rfl .nil); clear s24
      refine wp_ret ?_
      obtain rfl := Option.some.inj h8
      exact leave s25 (.inl rfl) rfl (.cons (.tmp rfl) .nil)
    · replace h6 := ite_f hc2 h6
      have h9 := h6; clear h6
      refine wp_skip ?_
      refine then_normal ?_
      refine hK5 _ _ ?_
      have s26 := s22.sub (.cons (t := 0) rfl (.cons (t := 1) rfl .nil)); clear s22
      refine wp_seq_k fun K8 hK8 => ?_
      refine wp_region_lit ?_
      refine seq_op s26 rfl rfl (of_decide_eq_true rfl) (ob_assign rfl opd_is) fun a27 w27 s27 => ?_; clear s26
      have s28 := St.adopt s27 (G := RowF (nilRow 20) 46 k_api_Node []) rfl (rowNilN _ _ _ _ _); clear s27
      refine wpList_nil ?_
      refine then_normal ?_
      refine hK8 _ _ ?_
      have s29 := s28.sub (.cons (t := 0) rfl (.cons (t := 1) rfl (.cons (t := 5) rfl .nil))); clear s28
      refine wp_seq_k fun K9 hK9 => ?_
      refine wp_seq_k fun K10 hK10 => ?_
      refine wp_region_lit ?_
      refine seq_op s29 rfl rfl (of_decide_eq_true rfl) (ob_assign rfl (opd_int rfl)) fun a30 w30 s30 => ?_; clear s29
      refine wpList_nil ?_
      refine then_normal ?_
      refine hK10 _ _ ?_
      have s31 := s30.sub (.cons (t := 0) rfl (.cons (t := 1) rfl (.cons (t := 5) rfl (.cons (t := 6) rfl .nil)))); clear s30
      have hj1 : ∀ (y1 : (List api_Node)) (a : Act) (w : World), (caballaw15_GraphShuffled.j1 k p1) y1 = some r → St ⟨120, w0, ok, []⟩ [] [(0, ((ksl k_api_Node).V p1)), (5, ((ksl k_api_Node).V y1))] a w → K9 a w := by
        intro y1 a32 w32 h10 s32
        unfold caballaw15_GraphShuffled.j1 at h10
        refine hK9 _ _ ?_
        refine wp_seq_k fun K11 hK11 => ?_
        refine wp_seq_k fun K12 hK12 => ?_
        refine wp_region_lit ?_
        refine seq_op s32 rfl rfl (of_decide_eq_true rfl) (ob_assign rfl (opd_int rfl)) fun a33 w33 s33 => ?_; clear s32
        refine wpList_nil ?_
        refine then_normal ?_
        refine hK12 _ _ ?_
        have s34 := s33.sub (.cons (t := 0) rfl (.cons (t := 5) rfl (.cons (t := 13) rfl .nil))); clear s33
        have hj2 : ∀ (a : Act) (w : World), (caballaw15_GraphShuffled.j2 k p1 y1) = some r → St ⟨120, w0, ok, []⟩ [] [(0, ((ksl k_api_Node).V p1)), (5, ((ksl k_api_Node).V y1))] a w → K11 a w := by
          intro a35 w35 h11 s35
          unfold caballaw15_GraphShuffled.j2 at h11
          refine hK11 _ _ ?_
          refine wp_seq_k fun K13 hK13 => ?_
          refine wp_region_lit ?_
          obtain ⟨x6, e_x6, h12⟩ := bind_some h11; clear h11
          refine seq_op s35 rfl rfl (of_decide_eq_true rfl) (ob_callD (args := []) rfl .direct hb47 (fun a w s fs gs hf hg => by obtain rfl := hf.unnil; obtain rfl := hg.unnil; exact c_caballaw15_alive k _ e_x6 _ _)) fun a36 w36 s36 => ?_; clear s35
          refine seq_op s36 rfl rfl (of_decide_eq_true rfl) (ob_move rfl (.tmp rfl)) fun a37 w37 s37 => ?_; clear s36
          refine seq_opg s37 rfl rfl rfl rfl (of_decide_eq_true rfl) (fun hb => ob_move rfl (.tmp rfl)) fun a38 w38 s38 => ?_; clear s37
          obtain ⟨x7, e_x7, h13⟩ := bind_some h12; clear h12
          refine seq_opg s38 rfl rfl rfl rfl (of_decide_eq_true rfl) (fun hb => (ObF.ob ((ObF.uncond (t := 114) hb rfl (ob_callF (F := resFact [((ksl (karr 32 (kint .u8))).V x7)]) (args := [_]) rfl .direct hb50 (fun a w s fs gs hf hg => by obtain rfl := hf.unnil; obtain rfl := hg.unnil; exact c_graph_Heads k _ _ (ite_t hb e_x7) _ _ _ (s.arg (.tmp rfl))) (by exact fun g => ResF.all (.row (.head _) (KFlat.arr (KFlat.int _)) .nil))))))) fun a39 w39 s39 => ?_; clear s38
          refine seq_opg s39 rfl rfl rfl rfl (of_decide_eq_true rfl) (fun hb => ob_move rfl (.tmp rfl)) fun a40 w40 s40 => ?_; clear s39
          obtain ⟨x8, e_x8, h14⟩ := bind_some h13; clear h13
          refine seq_opg s40 rfl rfl rfl rfl (of_decide_eq_true rfl) (fun hb => (ObF.ob ((ObF.uncond (t := 116) hb rfl (ob_callF (F := resFact [((ksl (karr 32 (kint .u8))).V x8)]) (args := [_]) rfl .direct hb50 (fun a w s fs gs hf hg => by obtain rfl := hf.unnil; obtain rfl := hg.unnil; exact c_graph_Heads k _ _ (ite_t hb e_x8) _ _ _ (s.arg (.tmp rfl))) (by exact fun g => ResF.all (.row (.head _) (KFlat.arr (KFlat.int _)) .nil))))))) fun a41 w41 s41 => ?_; clear s40
          obtain ⟨x9, e_x9, h15⟩ := bind_some h14; clear h14
          refine seq_opg s41 rfl rfl rfl rfl (of_decide_eq_true rfl) (fun hb => (Ob.uncond (t := 117) hb rfl ((Ob.uncond (t := 115) hb rfl (ob_callD (args := [_, _]) rfl .direct hb49 (fun a w s fs gs hf hg => by obtain rfl := hf.unnil; obtain rfl := hg.unnil; exact c_cabalref08_SameKeys k _ _ _ (ite_t hb e_x9) _ _ _ _ (s.arg (.tmp rfl)) (s.arg (.tmp rfl)))))))) fun a42 w42 s42 => ?_; clear s41
          refine seq_op s42 rfl rfl (of_decide_eq_true rfl) (ob_and2 rfl (.tmp rfl) (.tmp rfl) opd_bool) fun a43 w43 s43 => ?_; clear s42
          refine seq_op s43 rfl rfl (of_decide_eq_true rfl) (ob_assign rfl (.tmp rfl)) fun a44 w44 s44 => ?_; clear s43
          refine wpList_nil ?_
          refine then_normal ?_
          refine hK13 _ _ ?_
          have s45 := s44.sub (.cons (t := 4) rfl .nil); clear s44
          refine wp_ret ?_
          obtain rfl := Option.some.inj h15
          exact leave s45 (.inl rfl) rfl (.cons (.tmp rfl) .nil)
        refine wp_block ?_
        refine wp_loop_fuel (fun m (q : Int) => caballaw15_GraphShuffled.l1 k p1 y1 m q) r (fun _ => rfl) (fun q a w => St ⟨120, w0, ok, []⟩ [] [(0, ((ksl k_api_Node).V p1)), (5, ((ksl k_api_Node).V y1)), (13, ((kint .i64).V q))] a w) ?_ k (0 : Int) _ _ h10 (s34.sub (.cons rfl (.cons rfl (.cons rfl .nil))))
        rintro n1 y2 a46 w46 h16 s46 K14 hK14
        replace h16 : caballaw15_GraphShuffled.l1 k p1 y1 (n1 + 1) y2 = some r := h16; rw [caballaw15_GraphShuffled.l1] at h16
        have h17 := h16; clear h16
        refine wp_seq_k fun K15 hK15 => ?_
        refine wp_seq_k fun K16 hK16 => ?_
        refine wp_region_lit ?_
        refine seq_op s46 rfl rfl (of_decide_eq_true rfl) (ob_move rfl (.tmp rfl)) fun a47 w47 s47 => ?_; clear s46
        refine seq_op s47 rfl rfl (of_decide_eq_true rfl) (ob_move rfl (.tmp rfl)) fun a48 w48 s48 => ?_; clear s47
        refine seq_op s48 rfl rfl (of_decide_eq_true rfl) (ob_lens rfl Try.underlying22 (.tmp rfl)) fun a49 w49 s49 => ?_; clear s48
        refine seq_op s49 rfl rfl (of_decide_eq_true rfl) (ob_lss rfl (.tmp rfl) (.tmp rfl)) fun a50 w50 s50 => ?_; clear s49
        refine wpList_nil ?_
        refine then_normal ?_
        refine hK16 _ _ ?_
        have s51 := s50.sub (.cons (t := 0) rfl (.cons (t := 5) rfl (.cons (t := 13) rfl (.cons (t := 82) rfl .nil)))); clear s50
        refine cond_split s51 (.tmp rfl) (fun hc3 => ?_) (fun hc3 => ?_)
        · replace h17 := ite_t hc3 h17
          have h18 := h17; clear h17
          refine wp_skip ?_
          refine then_normal ?_
          refine hK15 _ _ ?_
          have s52 := s51.sub (.cons (t := 0) rfl (.cons (t := 5) rfl (.cons (t := 13) rfl .nil))); clear s51
          refine wp_seq_k fun K17 hK17 => ?_
          have hj3 : ∀ (a : Act) (w : World), (caballaw15_GraphShuffled.j3 k y2 (caballaw15_GraphShuffled.l1 k p1 y1 n1)) = some r → St ⟨120, w0, ok, []⟩ [] [(0, ((ksl k_api_Node).V p1)), (5, ((ksl k_api_Node).V y1)), (13, ((kint .i64).V y2))] a w → K17 a w := by
            intro a53 w53 h19 s53
            unfold caballaw15_GraphShuffled.j3 at h19
            refine hK17 _ _ ?_
            refine wp_region_lit ?_
            refine seq_op s53 rfl rfl (of_decide_eq_true rfl) (ob_move rfl (.tmp rfl)) fun a54 w54 s54 => ?_; clear s53
            refine seq_op s54 rfl rfl (of_decide_eq_true rfl) (ob_add rfl (.tmp rfl) (opd_int rfl)) fun a55 w55 s55 => ?_; clear s54
            refine seq_op s55 rfl rfl (of_decide_eq_true rfl) (ob_assign rfl (.tmp rfl)) fun a56 w56 s56 => ?_; clear s55
            refine wpList_nil ?_
            refine then_normal ?_
            exact hK14 (iadd .i64 y2 (1 : Int)) _ _ h19 (s56.sub (.cons rfl (.cons rfl (.cons rfl .nil))))
          refine wp_block ?_
          refine wp_seq_k fun K18 hK18 => ?_
          refine wp_region_lit ?_
          refine seq_op s52 rfl rfl (of_decide_eq_true rfl) (ob_assign rfl (opd_int rfl)) fun a57 w57 s57 => ?_; clear s52
          refine wpList_nil ?_
          refine then_normal ?_
          refine hK18 _ _ ?_
          have s58 := s57.sub (.cons (t := 0) rfl (.cons (t := 5) rfl (.cons (t := 13) rfl (.cons (t := 14) rfl .nil)))); clear s57
          refine wp_block ?_
          refine wp_loop_fuel (fun m (q : Int) => caballaw15_GraphShuffled.l2 k p1 y2 y1 (caballaw15_GraphShuffled.l1 k p1 y1 n1) m q) r (fun _ => rfl) (fun q a w => St ⟨120, w0, ok, []⟩ [] [(0, ((ksl k_api_Node).V p1)), (5, ((ksl k_api_Node).V y1)), (13, ((kint .i64).V y2)), (14, ((kint .i64).V q))] a w) ?_ k (0 : Int) _ _ h18 (s58.sub (.cons rfl (.cons rfl (.cons rfl (.cons rfl .nil)))))
          rintro n2 y3 a59 w59 h20 s59 K19 hK19
          replace h20 : caballaw15_GraphShuffled.l2 k p1 y2 y1 (caballaw15_GraphShuffled.l1 k p1 y1 n1) (n2 + 1) y3 = some r := h20; rw [caballaw15_GraphShuffled.l2] at h20
          have h21 := h20; clear h20
          refine wp_seq_k fun K20 hK20 => ?_
          refine wp_seq_k fun K21 hK21 => ?_
          refine wp_region_lit ?_
          refine seq_op s59 rfl rfl (of_decide_eq_true rfl) (ob_move rfl (.tmp rfl)) fun a60 w60 s60 => ?_; clear s59
          refine seq_op s60 rfl rfl (of_decide_eq_true rfl) (ob_move rfl (.tmp rfl)) fun a61 w61 s61 => ?_; clear s60
          refine seq_op s61 rfl rfl (of_decide_eq_true rfl) (ob_lens rfl Try.underlying22 (.tmp rfl)) fun a62 w62 s62 => ?_; clear s61
          refine seq_op s62 rfl rfl (of_decide_eq_true rfl) (ob_lss rfl (.tmp rfl) (.tmp rfl)) fun a63 w63 s63 => ?_; clear s62
          refine wpList_nil ?_
          refine then_normal ?_
          refine hK21 _ _ ?_
          have s64 := s63.sub (.cons (t := 0) rfl (.cons (t := 5) rfl (.cons (t := 13) rfl (.cons (t := 14) rfl (.cons (t := 88) rfl .nil))))); clear s63
          refine cond_split s64 (.tmp rfl) (fun hc4 => ?_) (fun hc4 => ?_)
          · replace h21 := ite_t hc4 h21
            have h22 := h21; clear h21
            refine wp_skip ?_
            refine then_normal ?_
            refine hK20 _ _ ?_
            have s65 := s64.sub (.cons (t := 0) rfl (.cons (t := 5) rfl (.cons (t := 13) rfl (.cons (t := 14) rfl .nil)))); clear s64
            refine wp_seq_k fun K22 hK22 => ?_
            refine wp_block ?_
            refine wp_seq_k fun K23 hK23 => ?_
            obtain ⟨x10, e_x10, h23⟩ := bind_some h22; clear h22
            obtain ⟨x11, e_x11, h24⟩ := bind_some h23; clear h23
            obtain ⟨x12, e_x12, h25⟩ := bind_some h24; clear h24
            obtain ⟨x13, e_x13, h26⟩ := bind_some h25; clear h25
            obtain ⟨x14, e_x14, h27⟩ := bind_some h26; clear h26
            refine wp_goes (Fs := [((ksl k_api_Node).V p1), ((kint .i64).V y2), ((kint .i64).V y3), (kbool.V x10), ((ksl k_api_Node).V y1), ((ksl k_api_Node).V y1), ((ksl k_api_Node).V p1), ((kint .i64).V y2), (ptrTo k_api_Node x11), (ptrTo (karr 32 (kint .u8)) x11.Id), ((karr 32 (kint .u8)).V x11.Id), ((kint .i64).V x12), ((ksl k_api_Node).V y1), ((ksl k_api_Node).V p1), ((kint .i64).V y3), (ptrTo k_api_Node x13), (ptrTo (karr 32 (kint .u8)) x13.Id), ((karr 32 (kint .u8)).V x13.Id), ((kint .i64).V x14)]) (bits := [0, 0, 0, 7, 0, 0, 0, 0, 192, 448, 960, 2031, 0, 0, 0, 24576, 57344, 122880, 262127, 524287, 1048575]) (m := 19) (todo := 0) mx s65 ?_; clear s65
            refine goes_last (by kernel_rfl) rfl (opsS_cons (.plain _ (Av.old (t := 0) rfl rfl Av.nil) rfl rfl (ob_move rfl (.tmp rfl))) (opsS_cons (.plain _ (Av.old (t := 13) rfl rfl Av.nil) rfl rfl (ob_move rfl (.tmp rfl))) (opsS_cons (.plain _ (Av.old (t := 14) rfl rfl Av.nil) rfl rfl (ob_move rfl (.tmp rfl))) (opsS_cons (.plain _ (Av.new (j := 0) rfl rfl rfl (Av.new (j := 1) rfl rfl rfl (Av.new (j := 2) rfl rfl rfl Av.nil))) rfl rfl (ob_callD (args := [_, _, _]) rfl .direct hb27 (fun a w s fs gs hf hg => by obtain rfl := hf.unnil; obtain rfl := hg.unnil; exact c_graph_Ahead k _ _ _ _ e_x10 _ _ _ _ _ (s.arg (.tmp rfl)) (s.arg (.tmp rfl)) (s.arg (.tmp rfl))))) (opsS_cons (.plain _ (Av.old (t := 5) rfl rfl Av.nil) rfl rfl (ob_move rfl (.tmp rfl))) (opsS_cons (.plain _ (Av.old (t := 5) rfl rfl Av.nil) rfl rfl (ob_move rfl (.tmp rfl))) (opsS_cons (.plain _ (Av.old (t := 0) rfl rfl Av.nil) rfl rfl (ob_move rfl (.tmp rfl))) (opsS_cons (.plain _ (Av.old (t := 13) rfl rfl Av.nil) rfl rfl (ob_move rfl (.tmp rfl))) (opsS_cons (.plain _ (Av.new (j := 6) rfl rfl rfl (Av.new (j := 7) rfl rfl rfl Av.nil)) rfl rfl (ob_indexAddrs rfl Try.underlying22 sz46 (.tmp rfl) (.tmp rfl) e_x11)) (opsS_cons (.plain _ (Av.new (j := 8) rfl rfl rfl Av.nil) rfl rfl (ob_fieldAddrr rfl Try.underlying46 rfl sz39 (by decide) (.tmp rfl) (lg_api_Node_Id x11))) (opsS_cons (.plain _ (Av.new (j := 9) rfl rfl rfl Av.nil) rfl rfl (ob_loadr rfl tk39 (.tmp rfl))) (opsS_cons (.plain _ (Av.new (j := 5) rfl rfl rfl (Av.new (j := 10) rfl rfl rfl Av.nil)) rfl rfl (ob_callD (args := [_, _]) rfl .direct hb48 (fun a w s fs gs hf hg => by obtain rfl := hf.unnil; obtain rfl := hg.unnil; exact c_graph_Find k _ _ _ e_x12 _ _ _ _ (s.arg (.tmp rfl)) (s.arg (.tmp rfl))))) (opsS_cons (.plain _ (Av.old (t := 5) rfl rfl Av.nil) rfl rfl (ob_move rfl (.tmp rfl))) (opsS_cons (.plain _ (Av.old (t := 0) rfl rfl Av.nil) rfl rfl (ob_move rfl (.tmp rfl))) (opsS_cons (.plain _ (Av.old (t := 14) rfl rfl Av.nil) rfl rfl (ob_move rfl (.tmp rfl))) (opsS_cons (.plain _ (Av.new (j := 13) rfl rfl rfl (Av.new (j := 14) rfl rfl rfl Av.nil)) rfl rfl (ob_indexAddrs rfl Try.underlying22 sz46 (.tmp rfl) (.tmp rfl) e_x13)) (opsS_cons (.plain _ (Av.new (j := 15) rfl rfl rfl Av.nil) rfl rfl (ob_fieldAddrr rfl Try.underlying46 rfl sz39 (by decide) (.tmp rfl) (lg_api_Node_Id x13))) (opsS_cons (.plain _ (Av.new (j := 16) rfl rfl rfl Av.nil) rfl rfl (ob_loadr rfl tk39 (.tmp rfl))) (opsS_cons (.plain _ (Av.new (j := 12) rfl rfl rfl (Av.new (j := 17) rfl rfl rfl Av.nil)) rfl rfl (ob_callD (args := [_, _]) rfl .direct hb48 (fun a w s fs gs hf hg => by obtain rfl := hf.unnil; obtain rfl := hg.unnil; exact c_graph_Find k _ _ _ e_x14 _ _ _ _ (s.arg (.tmp rfl)) (s.arg (.tmp rfl))))) opsS_nil))))))))))))))))))) (out_old (t := 0) rfl rfl (out_old (t := 5) rfl rfl (out_old (t := 13) rfl rfl (out_old (t := 14) rfl rfl (out_new (i := 3) (by decide) rfl rfl (out_new (i := 4) (by decide) rfl rfl (out_new (i := 11) (by decide) rfl rfl (out_new (i := 18) (by decide) rfl rfl out_nil)))))))) fun a66 w66 s66 => ?_
            obtain ⟨x15, e_x15, h28⟩ := bind_some h27; clear h27
            refine seq_op s66 rfl rfl (of_decide_eq_true rfl) (ob_callD (args := [_, _, _]) rfl .direct hb27 (fun a w s fs gs hf hg => by obtain rfl := hf.unnil; obtain rfl := hg.unnil; exact c_graph_Ahead k _ _ _ _ e_x15 _ _ _ _ _ (s.arg (.tmp rfl)) (s.arg (.tmp rfl)) (s.arg (.tmp rfl)))) fun a67 w67 s67 => ?_; clear s66
            refine seq_op s67 rfl rfl (of_decide_eq_true rfl) (ob_bneq rfl Try.underlying4 (.tmp rfl) (.tmp rfl)) fun a68 w68 s68 => ?_; clear s67
            refine wpList_nil ?_
            refine then_normal ?_
            refine hK23 _ _ ?_
            have s69 := s68.sub (.cons (t := 0) rfl (.cons (t := 5) rfl (.cons (t := 13) rfl (.cons (t := 14) rfl (.cons (t := 111) rfl .nil))))); clear s68
            refine cond_split s69 (.tmp rfl) (fun hc5 => ?_) (fun hc5 => ?_)
            · replace h28 := ite_t hc5 h28
              have h29 := h28; clear h28
              refine wp_seq_k fun K24 hK24 => ?_
              refine wp_region_lit ?_
              refine seq_op s69 rfl rfl (of_decide_eq_true rfl) (ob_assign rfl opd_bool) fun a70 w70 s70 => ?_; clear s69
              refine wpList_nil ?_
              refine then_normal ?_
              refine hK24 _ _ ?_
              have s71 := s70.sub (.cons (t := 4) rfl .nil); clear s70
              refine wp_ret ?_
              obtain rfl := Option.some.inj h29
              exact leave s71 (.inl rfl) rfl (.cons (.tmp rfl) .nil)
            · replace h28 := ite_f hc5 h28
              have h30 := h28; clear h28
              refine wp_skip ?_
              refine in_normal ?_
              refine then_normal ?_
              refine hK22 _ _ ?_
              have s72 := s69.sub (.cons (t := 0) rfl (.cons (t := 5) rfl (.cons (t := 13) rfl (.cons (t := 14) rfl .nil)))); clear s69
              refine wp_region_lit ?_
              refine seq_op s72 rfl rfl (of_decide_eq_true rfl) (ob_move rfl (.tmp rfl)) fun a73 w73 s73 => ?_; clear s72
              refine seq_op s73 rfl rfl (of_decide_eq_true rfl) (ob_add rfl (.tmp rfl) (opd_int rfl)) fun a74 w74 s74 => ?_; clear s73
              refine seq_op s74 rfl rfl (of_decide_eq_true rfl) (ob_assign rfl (.tmp rfl)) fun a75 w75 s75 => ?_; clear s74
              refine wpList_nil ?_
              refine then_normal ?_
              exact hK19 (iadd .i64 y3 (1 : Int)) _ _ h30 (s75.sub (.cons rfl (.cons rfl (.cons rfl (.cons rfl .nil)))))
          · replace h21 := ite_f hc4 h21
            have h31 := h21; clear h21
            refine wp_exit ?_
            refine (then_exit (then_exit (in_here ?_)))
            refine in_normal ?_
            refine then_normal ?_
            exact hj3 _ _ h31 (s64.sub (.cons rfl (.cons rfl (.cons rfl .nil))))
        · replace h17 := ite_f hc3 h17
          have h32 := h17; clear h17
          refine wp_exit ?_
          refine (then_exit (then_exit (in_here ?_)))
          refine then_normal ?_
          exact hj2 _ _ h32 (s51.sub (.cons rfl (.cons rfl .nil)))
      refine wp_block ?_
      have s76 := St.freezeAllM (A := []) s31 (ts := [5]) (.cons rfl .nil); clear s31
      refine wp_loop_fuel (fun m (q : (List api_Node) × Int) => caballaw15_GraphShuffled.l3 k p1 p2 m q.1 q.2) r (fun _ => rfl) (fun q a w => St ⟨120, w0, ok, []⟩ [] [(0, ((ksl k_api_Node).V p1)), (1, ((ksl (kint .u8)).V p2)), (5, ((ksl k_api_Node).V q.1)), (6, ((kint .i64).V q.2))] a w) ?_ k (([] : (List api_Node)), (0 : Int)) _ _ h9 (s76.sub (.cons rfl (.cons rfl (.cons rfl (.cons rfl .nil)))))
      rintro n3 ⟨y4, y5⟩ a77 w77 h33 s77 K25 hK25
      replace h33 : caballaw15_GraphShuffled.l3 k p1 p2 (n3 + 1) y4 y5 = some r := h33; rw [caballaw15_GraphShuffled.l3] at h33
      have h34 := h33; clear h33
      refine wp_seq_k fun K26 hK26 => ?_
      refine wp_seq_k fun K27 hK27 => ?_
      refine wp_region_lit ?_
      refine seq_op s77 rfl rfl (of_decide_eq_true rfl) (ob_move rfl (.tmp rfl)) fun a78 w78 s78 => ?_; clear s77
      refine seq_op s78 rfl rfl (of_decide_eq_true rfl) (ob_lens rfl Try.underlying22 (.tmp rfl)) fun a79 w79 s79 => ?_; clear s78
      refine seq_op s79 rfl rfl (of_decide_eq_true rfl) (ob_move rfl (.tmp rfl)) fun a80 w80 s80 => ?_; clear s79
      refine seq_op s80 rfl rfl (of_decide_eq_true rfl) (ob_lens rfl Try.underlying22 (.tmp rfl)) fun a81 w81 s81 => ?_; clear s80
      refine seq_op s81 rfl rfl (of_decide_eq_true rfl) (ob_lss rfl (.tmp rfl) (.tmp rfl)) fun a82 w82 s82 => ?_; clear s81
      refine wpList_nil ?_
      refine then_normal ?_
      refine hK27 _ _ ?_
      have s83 := s82.sub (.cons (t := 0) rfl (.cons (t := 1) rfl (.cons (t := 5) rfl (.cons (t := 6) rfl (.cons (t := 34) rfl .nil))))); clear s82
      refine cond_split s83 (.tmp rfl) (fun hc6 => ?_) (fun hc6 => ?_)
      · replace h34 := ite_t hc6 h34
        have h35 := h34; clear h34
        refine wp_skip ?_
        refine then_normal ?_
        refine hK26 _ _ ?_
        have s84 := s83.sub (.cons (t := 0) rfl (.cons (t := 1) rfl (.cons (t := 5) rfl (.cons (t := 6) rfl .nil)))); clear s83
        refine wp_seq_k fun K28 hK28 => ?_
        have hj4 : ∀ (y6 : (List api_Node)) (a : Act) (w : World), (caballaw15_GraphShuffled.j4 k y5 (caballaw15_GraphShuffled.l3 k p1 p2 n3)) y6 = some r → St ⟨120, w0, ok, []⟩ [] [(0, ((ksl k_api_Node).V p1)), (1, ((ksl (kint .u8)).V p2)), (5, ((ksl k_api_Node).V y6)), (6, ((kint .i64).V y5))] a w → K28 a w := by
          intro y6 a85 w85 h36 s85
          unfold caballaw15_GraphShuffled.j4 at h36
          refine hK28 _ _ ?_
          refine wp_region_lit ?_
          refine seq_op s85 rfl rfl (of_decide_eq_true rfl) (ob_move rfl (.tmp rfl)) fun a86 w86 s86 => ?_; clear s85
          refine seq_op s86 rfl rfl (of_decide_eq_true rfl) (ob_add rfl (.tmp rfl) (opd_int rfl)) fun a87 w87 s87 => ?_; clear s86
          refine seq_op s87 rfl rfl (of_decide_eq_true rfl) (ob_assign rfl (.tmp rfl)) fun a88 w88 s88 => ?_; clear s87
          refine wpList_nil ?_
          refine then_normal ?_
          exact hK25 (y6, (iadd .i64 y5 (1 : Int))) _ _ h36 (s88.sub (.cons rfl (.cons rfl (.cons rfl (.cons rfl .nil)))))
        refine wp_block ?_
        refine wp_seq_k fun K29 hK29 => ?_
        refine wp_region_lit ?_
        refine seq_op s84 rfl rfl (of_decide_eq_true rfl) (ob_assign rfl (opd_int rfl)) fun a89 w89 s89 => ?_; clear s84
        refine wpList_nil ?_
        refine then_normal ?_
        refine hK29 _ _ ?_
        have s90 := s89.sub (.cons (t := 0) rfl (.cons (t := 1) rfl (.cons (t := 5) rfl (.cons (t := 6) rfl (.cons (t := 7) rfl .nil))))); clear s89
        refine wp_seq_k fun K30 hK30 => ?_
        refine wp_seq_k fun K31 hK31 => ?_
        refine wp_region_lit ?_
        refine seq_op s90 rfl rfl (of_decide_eq_true rfl) (ob_move rfl (.tmp rfl)) fun a91 w91 s91 => ?_; clear s90
        refine seq_op s91 rfl rfl (of_decide_eq_true rfl) (ob_move rfl (.tmp rfl)) fun a92 w92 s92 => ?_; clear s91
        refine seq_op s92 rfl rfl (of_decide_eq_true rfl) (ob_lens rfl Try.underlying60 (.tmp rfl)) fun a93 w93 s93 => ?_; clear s92
        refine seq_op s93 rfl rfl (of_decide_eq_true rfl) (ob_lss rfl (.tmp rfl) (.tmp rfl)) fun a94 w94 s94 => ?_; clear s93
        refine wpList_nil ?_
        refine then_normal ?_
        refine hK31 _ _ ?_
        have s95 := s94.sub (.cons (t := 0) rfl (.cons (t := 1) rfl (.cons (t := 5) rfl (.cons (t := 6) rfl (.cons (t := 7) rfl (.cons (t := 40) rfl .nil)))))); clear s94
        have hj5 : ∀ (y7 : Int) (a : Act) (w : World), (caballaw15_GraphShuffled.j5 k p1 y5 y4 (caballaw15_GraphShuffled.l3 k p1 p2 n3)) y7 = some r → St ⟨120, w0, ok, []⟩ [] [(0, ((ksl k_api_Node).V p1)), (1, ((ksl (kint .u8)).V p2)), (5, ((ksl k_api_Node).V y4)), (6, ((kint .i64).V y5)), (7, ((kint .i64).V y7))] a w → K30 a w := by
          intro y7 a96 w96 h37 s96
          unfold caballaw15_GraphShuffled.j5 at h37
          refine hK30 _ _ ?_
          refine wp_seq_k fun K32 hK32 => ?_
          refine wp_region_lit ?_
          refine seq_op s96 rfl rfl (of_decide_eq_true rfl) (ob_assign rfl opd_bool) fun a97 w97 s97 => ?_; clear s96
          refine wpList_nil ?_
          refine then_normal ?_
          refine hK32 _ _ ?_
          have s98 := s97.sub (.cons (t := 0) rfl (.cons (t := 1) rfl (.cons (t := 5) rfl (.cons (t := 6) rfl (.cons (t := 7) rfl (.cons (t := 8) rfl .nil)))))); clear s97
          refine wp_seq_k fun K33 hK33 => ?_
          refine wp_seq_k fun K34 hK34 => ?_
          refine wp_region_lit ?_
          refine seq_op s98 rfl rfl (of_decide_eq_true rfl) (ob_assign rfl (opd_int rfl)) fun a99 w99 s99 => ?_; clear s98
          refine wpList_nil ?_
          refine then_normal ?_
          refine hK34 _ _ ?_
          have s100 := s99.sub (.cons (t := 0) rfl (.cons (t := 1) rfl (.cons (t := 5) rfl (.cons (t := 6) rfl (.cons (t := 7) rfl (.cons (t := 8) rfl (.cons (t := 9) rfl .nil))))))); clear s99
          have hj6 : ∀ (y8 : (List api_Node)) (y9 : Bool) (a : Act) (w : World), (caballaw15_GraphShuffled.j6 k y5 (caballaw15_GraphShuffled.l3 k p1 p2 n3)) y8 y9 = some r → St ⟨120, w0, ok, []⟩ [] [(0, ((ksl k_api_Node).V p1)), (1, ((ksl (kint .u8)).V p2)), (5, ((ksl k_api_Node).V y8)), (6, ((kint .i64).V y5)), (8, (kbool.V y9))] a w → K33 a w := by
            intro y8 y9 a101 w101 h38 s101
            unfold caballaw15_GraphShuffled.j6 at h38
            refine hK33 _ _ ?_
            refine wp_seq_k fun K35 hK35 => ?_
            refine wp_region_lit ?_
            refine seq_op s101 rfl rfl (of_decide_eq_true rfl) (ob_move rfl (.tmp rfl)) fun a102 w102 s102 => ?_; clear s101
            refine seq_op s102 rfl rfl (of_decide_eq_true rfl) (ob_not rfl (.tmp rfl)) fun a103 w103 s103 => ?_; clear s102
            refine wpList_nil ?_
            refine then_normal ?_
            refine hK35 _ _ ?_
            have s104 := s103.sub (.cons (t := 0) rfl (.cons (t := 1) rfl (.cons (t := 5) rfl (.cons (t := 6) rfl (.cons (t := 78) rfl .nil))))); clear s103
            refine cond_split s104 (.tmp rfl) (fun hc7 => ?_) (fun hc7 => ?_)
            · replace h38 := ite_t hc7 h38
              have h39 := h38; clear h38
              refine wp_seq_k fun K36 hK36 => ?_
              refine wp_region_lit ?_
              refine seq_op s104 rfl rfl (of_decide_eq_true rfl) (ob_assign rfl opd_bool) fun a105 w105 s105 => ?_; clear s104
              refine wpList_nil ?_
              refine then_normal ?_
              refine hK36 _ _ ?_
              have s106 := s105.sub (.cons (t := 4) rfl .nil); clear s105
              refine wp_ret ?_
              obtain rfl := Option.some.inj h39
              exact leave s106 (.inl rfl) rfl (.cons (.tmp rfl) .nil)
            · replace h38 := ite_f hc7 h38
              have h40 := h38; clear h38
              refine wp_skip ?_
              refine in_normal ?_
              refine then_normal ?_
              exact hj4 y8 _ _ h40 (s104.sub (.cons rfl (.cons rfl (.cons rfl (.cons rfl .nil)))))
          refine wp_block ?_
          refine wp_loop_fuel (fun m (q : (List api_Node) × Bool × Int) => caballaw15_GraphShuffled.l4 k p1 y7 y5 (caballaw15_GraphShuffled.l3 k p1 p2 n3) m q.1 q.2.1 q.2.2) r (fun _ => rfl) (fun q a w => St ⟨120, w0, ok, []⟩ [] [(0, ((ksl k_api_Node).V p1)), (1, ((ksl (kint .u8)).V p2)), (5, ((ksl k_api_Node).V q.1)), (6, ((kint .i64).V y5)), (7, ((kint .i64).V y7)), (8, (kbool.V q.2.1)), (9, ((kint .i64).V q.2.2))] a w) ?_ k (y4, false, (0 : Int)) _ _ h37 (s100.sub (.cons rfl (.cons rfl (.cons rfl (.cons rfl (.cons rfl (.cons rfl (.cons rfl .nil))))))))
          rintro n4 ⟨y10, y11, y12⟩ a107 w107 h41 s107 K37 hK37
          replace h41 : caballaw15_GraphShuffled.l4 k p1 y7 y5 (caballaw15_GraphShuffled.l3 k p1 p2 n3) (n4 + 1) y10 y11 y12 = some r := h41; rw [caballaw15_GraphShuffled.l4] at h41
          have h42 := h41; clear h41
          refine wp_seq_k fun K38 hK38 => ?_
          refine wp_seq_k fun K39 hK39 => ?_
          refine wp_region_lit ?_
          refine seq_op s107 rfl rfl (of_decide_eq_true rfl) (ob_move rfl (.tmp rfl)) fun a108 w108 s108 => ?_; clear s107
          refine seq_op s108 rfl rfl (of_decide_eq_true rfl) (ob_move rfl (.tmp rfl)) fun a109 w109 s109 => ?_; clear s108
          refine seq_op s109 rfl rfl (of_decide_eq_true rfl) (ob_lens rfl Try.underlying22 (.tmp rfl)) fun a110 w110 s110 => ?_; clear s109
          refine seq_op s110 rfl rfl (of_decide_eq_true rfl) (ob_lss rfl (.tmp rfl) (.tmp rfl)) fun a111 w111 s111 => ?_; clear s110
          refine seq_op s111 rfl rfl (of_decide_eq_true rfl) (ob_move rfl (.tmp rfl)) fun a112 w112 s112 => ?_; clear s111
          refine seq_opg s112 rfl rfl rfl rfl (of_decide_eq_true rfl) (fun hb => ob_move rfl (.tmp rfl)) fun a113 w113 s113 => ?_; clear s112
          refine seq_opg s113 rfl rfl rfl rfl (of_decide_eq_true rfl) (fun hb => (Ob.uncond (t := 51) hb rfl (ob_not rfl (.tmp rfl)))) fun a114 w114 s114 => ?_; clear s113
          refine seq_op s114 rfl rfl (of_decide_eq_true rfl) (ob_and2 rfl (.tmp rfl) (.tmp rfl) opd_bool) fun a115 w115 s115 => ?_; clear s114
          refine wpList_nil ?_
          refine then_normal ?_
          refine hK39 _ _ ?_
          have s116 := s115.sub (.cons (t := 0) rfl (.cons (t := 1) rfl (.cons (t := 5) rfl (.cons (t := 6) rfl (.cons (t := 7) rfl (.cons (t := 8) rfl (.cons (t := 9) rfl (.cons (t := 53) rfl .nil)))))))); clear s115
          refine cond_split s116 (.tmp rfl) (fun hc8 => ?_) (fun hc8 => ?_)
          · replace h42 := ite_t hc8 h42
            have h43 := h42; clear h42
            refine wp_skip ?_
            refine then_normal ?_
            refine hK38 _ _ ?_
            have s117 := s116.sub (.cons (t := 0) rfl (.cons (t := 1) rfl (.cons (t := 5) rfl (.cons (t := 6) rfl (.cons (t := 7) rfl (.cons (t := 8) rfl (.cons (t := 9) rfl .nil))))))); clear s116
            refine wp_seq_k fun K40 hK40 => ?_
            have hj7 : ∀ (y13 : (List api_Node)) (y14 : Bool) (a : Act) (w : World), (caballaw15_GraphShuffled.j7 k y12 (caballaw15_GraphShuffled.l4 k p1 y7 y5 (caballaw15_GraphShuffled.l3 k p1 p2 n3) n4)) y13 y14 = some r → St ⟨120, w0, ok, []⟩ [] [(0, ((ksl k_api_Node).V p1)), (1, ((ksl (kint .u8)).V p2)), (5, ((ksl k_api_Node).V y13)), (6, ((kint .i64).V y5)), (7, ((kint .i64).V y7)), (8, (kbool.V y14)), (9, ((kint .i64).V y12))] a w → K40 a w := by
              intro y13 y14 a118 w118 h44 s118
              unfold caballaw15_GraphShuffled.j7 at h44
              refine hK40 _ _ ?_
              refine wp_region_lit ?_
              refine seq_op s118 rfl rfl (of_decide_eq_true rfl) (ob_move rfl (.tmp rfl)) fun a119 w119 s119 => ?_; clear s118
              refine seq_op s119 rfl rfl (of_decide_eq_true rfl) (ob_add rfl (.tmp rfl) (opd_int rfl)) fun a120 w120 s120 => ?_; clear s119
              refine seq_op s120 rfl rfl (of_decide_eq_true rfl) (ob_assign rfl (.tmp rfl)) fun a121 w121 s121 => ?_; clear s120
              refine wpList_nil ?_
              refine then_normal ?_
              exact hK37 (y13, y14, (iadd .i64 y12 (1 : Int))) _ _ h44 (s121.sub (.cons rfl (.cons rfl (.cons rfl (.cons rfl (.cons rfl (.cons rfl (.cons rfl .nil))))))))
            refine wp_block ?_
            refine wp_seq_k fun K41 hK41 => ?_
            refine wp_region_lit ?_
            refine seq_op s117 rfl rfl (of_decide_eq_true rfl) (ob_move rfl (.tmp rfl)) fun a122 w122 s122 => ?_; clear s117
            refine seq_op s122 rfl rfl (of_decide_eq_true rfl) (ob_move rfl (.tmp rfl)) fun a123 w123 s123 => ?_; clear s122
            refine seq_op s123 rfl rfl (of_decide_eq_true rfl) (ob_move rfl (.tmp rfl)) fun a124 w124 s124 => ?_; clear s123
            refine seq_op s124 rfl rfl (of_decide_eq_true rfl) (ob_add rfl (.tmp rfl) (.tmp rfl)) fun a125 w125 s125 => ?_; clear s124
            refine seq_op s125 rfl rfl (of_decide_eq_true rfl) (ob_move rfl (.tmp rfl)) fun a126 w126 s126 => ?_; clear s125
            refine seq_op s126 rfl rfl (of_decide_eq_true rfl) (ob_lens rfl Try.underlying22 (.tmp rfl)) fun a127 w127 s127 => ?_; clear s126
            obtain ⟨g1, h45⟩ := guard_some h43; clear h43
            refine seq_op s127 rfl rfl (of_decide_eq_true rfl) (ob_rem rfl (.tmp rfl) (.tmp rfl) g1) fun a128 w128 s128 => ?_; clear s127
            obtain ⟨x16, e_x16, h46⟩ := bind_some h45; clear h45
            refine seq_op s128 rfl rfl (of_decide_eq_true rfl) (ob_indexAddrs rfl Try.underlying22 sz46 (.tmp rfl) (.tmp rfl) e_x16) fun a129 w129 s129 => ?_; clear s128
            refine seq_op s129 rfl rfl (of_decide_eq_true rfl) (ob_loadr rfl tk46 (.tmp rfl)) fun a130 w130 s130 => ?_; clear s129
            refine seq_opx (B' := (fun b1 : Nat => [BF b1 46 k_api_Node (⟨(List.replicate 32 (0 : Int)), (⟨(0 : Int), (0 : Int), [], (0 : Int), [], (List.replicate 32 (0 : Int)), (List.replicate 32 (0 : Int)), [], []⟩ : api_Op), []⟩ : api_Node)])) s130 rfl rfl (of_decide_eq_true rfl) (ob_new (k := k_api_Node) rfl zz46 (Zr.iso (f := t_api_Node) (x := (⟨(List.replicate 32 (0 : Int)), (⟨(0 : Int), (0 : Int), [], (0 : Int), [], (List.replicate 32 (0 : Int)), (List.replicate 32 (0 : Int)), [], []⟩ : api_Op), []⟩ : api_Node)) (Zr.pair (Zr.arr 32 (Zr.int .u8)) (Zr.pair (Zr.iso (f := t_api_Op) (x := (⟨(0 : Int), (0 : Int), [], (0 : Int), [], (List.replicate 32 (0 : Int)), (List.replicate 32 (0 : Int)), [], []⟩ : api_Op)) (Zr.pair (Zr.int .i64) (Zr.pair (Zr.int .u32) (Zr.pair (Zr.sl _) (Zr.pair (Zr.int .i64) (Zr.pair (Zr.sl _) (Zr.pair (Zr.arr 32 (Zr.int .u8)) (Zr.pair (Zr.arr 32 (Zr.int .u8)) (Zr.pair Zr.str (Zr.pair (Zr.sl _) Zr.nil)))))))))) (Zr.pair (Zr.sl _) Zr.nil))))) fun b1 a131 w131 s131 => ?_; clear s130
            refine seq_opx0 (B' := (fun _ : Unit => [BF b1 46 k_api_Node x16])) s131 rfl rfl (ob_store (A := []) rfl tk46 (.tmp rfl) (.tmp rfl) rfl (LS.refl _ _ _) rfl) fun _ a132 w132 s132 => ?_; clear s131
            refine wpList_nil ?_
            refine then_normal ?_
            refine hK41 _ _ ?_
            have s133 := s132.sub (.cons (t := 0) rfl (.cons (t := 1) rfl (.cons (t := 5) rfl (.cons (t := 6) rfl (.cons (t := 7) rfl (.cons (t := 8) rfl (.cons (t := 9) rfl (.cons (t := 10) rfl .nil)))))))); clear s132
            refine wp_seq_k fun K42 hK42 => ?_
            refine wp_region_lit ?_
            refine seq_op s133 rfl rfl (of_decide_eq_true rfl) (ob_move rfl (.tmp rfl)) fun a134 w134 s134 => ?_; clear s133
            refine seq_op s134 rfl rfl (of_decide_eq_true rfl) (ob_fieldAddr (off' := 0) rfl Try.underlying46 rfl sz39 (by decide) (.tmp rfl) rfl) fun a135 w135 s135 => ?_; clear s134
            refine seq_op s135 rfl rfl (of_decide_eq_true rfl) (ob_load rfl tk39 (.tmp rfl) (.head _) (lg_api_Node_Id x16)) fun a136 w136 s136 => ?_; clear s135
            refine seq_op s136 rfl rfl (of_decide_eq_true rfl) (ob_fieldAddr (off' := 32) rfl Try.underlying46 rfl sz44 (by decide) (.tmp rfl) rfl) fun a137 w137 s137 => ?_; clear s136
            refine seq_op s137 rfl rfl (of_decide_eq_true rfl) (ob_load rfl tk44 (.tmp rfl) (.head _) (lg_api_Node_Op x16)) fun a138 w138 s138 => ?_; clear s137
            obtain ⟨x17, e_x17, h47⟩ := bind_some h46; clear h46
            refine seq_opx (B' := (fun v1 : Value => [RowF v1 46 k_api_Node x17.1, BF b1 46 k_api_Node x16])) s138 rfl rfl (of_decide_eq_true rfl) (ob_callL (args := [_, _, _]) (L := []) rfl .direct hb43 (List.Perm.refl _) (fun a w s fs gs hf hg => by obtain rfl := hf.unnil; obtain rfl := hg.unnil; exact c_graph_Add k _ _ _ _ e_x17 _ _ _ _ _ (s.arg (.tmp rfl)) (s.arg (.tmp rfl)) (s.arg (.tmp rfl))) (by exact fun _ => rfl)) fun v1 a139 w139 s139 => ?_; clear s138
            refine seq_op s139 rfl rfl (of_decide_eq_true rfl) (ob_move rfl (.tmp rfl)) fun a140 w140 s140 => ?_; clear s139
            refine seq_op s140 rfl rfl (of_decide_eq_true rfl) (ob_extract rfl (.tmp rfl) rfl) fun a141 w141 s141 => ?_; clear s140
            refine seq_op s141 rfl rfl (of_decide_eq_true rfl) (ob_extract rfl (.tmp rfl) rfl) fun a142 w142 s142 => ?_; clear s141
            refine seq_op s142 rfl rfl (of_decide_eq_true rfl) (ob_assign rfl (.tmp rfl)) fun a143 w143 s143 => ?_; clear s142
            refine seq_op s143 rfl rfl (of_decide_eq_true rfl) (ob_assign rfl (.tmp rfl)) fun a144 w144 s144 => ?_; clear s143
            refine wpList_nil ?_
            refine then_normal ?_
            refine hK42 _ _ ?_
            have s145 := s144.sub (.cons (t := 0) rfl (.cons (t := 1) rfl (.cons (t := 5) rfl (.cons (t := 6) rfl (.cons (t := 7) rfl (.cons (t := 8) rfl (.cons (t := 9) rfl (.cons (t := 11) rfl (.cons (t := 12) rfl .nil))))))))); clear s144
            have s146 := St.drop (A := [_]) s145; clear s145
            refine wp_seq_k fun K43 hK43 => ?_
            refine wp_region_lit ?_
            refine seq_op s146 rfl rfl (of_decide_eq_true rfl) (ob_move rfl (.tmp rfl)) fun a147 w147 s147 => ?_; clear s146
            refine seq_op s147 rfl rfl (of_decide_eq_true rfl) (ob_eql rfl (.tmp rfl) (opd_int rfl)) fun a148 w148 s148 => ?_; clear s147
            refine wpList_nil ?_
            refine then_normal ?_
            refine hK43 _ _ ?_
            have s149 := s148.sub (.cons (t := 0) rfl (.cons (t := 1) rfl (.cons (t := 5) rfl (.cons (t := 6) rfl (.cons (t := 7) rfl (.cons (t := 8) rfl (.cons (t := 9) rfl (.cons (t := 11) rfl (.cons (t := 75) rfl .nil))))))))); clear s148
            refine cond_split s149 (.tmp rfl) (fun hc9 => ?_) (fun hc9 => ?_)
            · replace h47 := ite_t hc9 h47
              have h48 := h47; clear h47
              refine wp_seq_k fun K44 hK44 => ?_
              refine wp_region_lit ?_
              refine seq_op s149 rfl rfl (of_decide_eq_true rfl) (ob_move rfl (.tmp rfl)) fun a150 w150 s150 => ?_; clear s149
              refine seq_op s150 rfl rfl (of_decide_eq_true rfl) (ob_assign rfl (.tmp rfl)) fun a151 w151 s151 => ?_; clear s150
              refine wpList_nil ?_
              refine then_normal ?_
              refine hK44 _ _ ?_
              have s152 := s151.sub (.cons (t := 0) rfl (.cons (t := 1) rfl (.cons (t := 5) rfl (.cons (t := 6) rfl (.cons (t := 7) rfl (.cons (t := 9) rfl .nil)))))); clear s151
              refine wp_region_lit ?_
              refine seq_op s152 rfl rfl (of_decide_eq_true rfl) (ob_assign rfl opd_bool) fun a153 w153 s153 => ?_; clear s152
              refine wpList_nil ?_
              refine in_normal ?_
              refine then_normal ?_
              have s154 := St.freezeAllM (A := []) s153 (ts := [5]) (.cons rfl .nil); clear s153
              exact hj7 x17.1 true _ _ h48 (s154.sub (.cons rfl (.cons rfl (.cons rfl (.cons rfl (.cons rfl (.cons rfl (.cons rfl .nil))))))))
            · replace h47 := ite_f hc9 h47
              have h49 := h47; clear h47
              refine wp_skip ?_
              refine in_normal ?_
              refine then_normal ?_
              have s155 := St.drop (A := []) s149; clear s149
              exact hj7 y10 y11 _ _ h49 (s155.sub (.cons rfl (.cons rfl (.cons rfl (.cons rfl (.cons rfl (.cons rfl (.cons rfl .nil))))))))
          · replace h42 := ite_f hc8 h42
            have h50 := h42; clear h42
            refine wp_exit ?_
            refine (then_exit (then_exit (in_here ?_)))
            refine then_normal ?_
            exact hj6 y10 y11 _ _ h50 (s116.sub (.cons rfl (.cons rfl (.cons rfl (.cons rfl (.cons rfl .nil))))))
        refine cond_split s95 (.tmp rfl) (fun hc10 => ?_) (fun hc10 => ?_)
        · replace h35 := ite_t hc10 h35
          have h51 := h35; clear h35
          refine wp_region_lit ?_
          refine seq_op s95 rfl rfl (of_decide_eq_true rfl) (ob_move rfl (.tmp rfl)) fun a156 w156 s156 => ?_; clear s95
          refine seq_op s156 rfl rfl (of_decide_eq_true rfl) (ob_move rfl (.tmp rfl)) fun a157 w157 s157 => ?_; clear s156
          obtain ⟨x18, e_x18, h52⟩ := bind_some h51; clear h51
          refine seq_op s157 rfl rfl (of_decide_eq_true rfl) (ob_indexAddrs rfl Try.underlying60 sz5 (.tmp rfl) (.tmp rfl) e_x18) fun a158 w158 s158 => ?_; clear s157
          refine seq_op s158 rfl rfl (of_decide_eq_true rfl) (ob_loadr rfl tk5 (.tmp rfl)) fun a159 w159 s159 => ?_; clear s158
          refine seq_op s159 rfl rfl (of_decide_eq_true rfl) (ob_conv rfl _ Try.underlying5 Try.underlying3 (.tmp rfl)) fun a160 w160 s160 => ?_; clear s159
          refine seq_op s160 rfl rfl (of_decide_eq_true rfl) (ob_assign rfl (.tmp rfl)) fun a161 w161 s161 => ?_; clear s160
          refine wpList_nil ?_
          refine then_normal ?_
          exact hj5 (IntKind.wrap .i64 x18) _ _ h52 (s161.sub (.cons rfl (.cons rfl (.cons rfl (.cons rfl (.cons rfl .nil))))))
        · replace h35 := ite_f hc10 h35
          have h53 := h35; clear h35
          refine wp_skip ?_
          refine then_normal ?_
          exact hj5 (0 : Int) _ _ h53 (s95.sub (.cons rfl (.cons rfl (.cons rfl (.cons rfl (.cons rfl .nil))))))
      · replace h34 := ite_f hc6 h34
        have h54 := h34; clear h34
        refine wp_exit ?_
        refine (then_exit (then_exit (in_here ?_)))
        refine then_normal ?_
        exact hj1 y4 _ _ h54 (s83.sub (.cons rfl (.cons rfl .nil)))

end Go.Proofs.Ytdlnfgpcnfbjiaa
