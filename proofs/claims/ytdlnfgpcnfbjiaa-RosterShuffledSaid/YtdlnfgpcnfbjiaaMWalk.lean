/- Each function's code comes to what its plain function answers. No condition. -/
import Derived.Test.YtdlnfgpcnfbjiaaMWalk2
namespace Go.Proofs.Ytdlnfgpcnfbjiaa
open Go Go.RowKit Go.Proofs.Kit Go.Proofs.Pure
set_option linter.unusedVariables false
set_option linter.unusedSimpArgs false
set_option maxRecDepth 100000
set_option maxHeartbeats 2000000

/- 7 cabal/caballaw16.RosterShuffled -/
theorem c_caballaw16_RosterShuffled (k : Nat) (p1 : (List api_Node)) (p2 : (List Int)) (r : Bool) (h0 : caballaw16_RosterShuffled k p1 p2 = some r) (ok : Ok) (w0 : World) (z0 : Value) (z1 : Value) (u0 : ((ksl k_api_Node).V p1).holds ok w0 z0) (u1 : ((ksl (kint .u8)).V p2).holds ok w0 z1) :
    Gives Try.prog 7 [z0, z1] ok w0 (resFact [kbool.V r]) := by
  unfold caballaw16_RosterShuffled at h0
  refine enter (N := 85) Try.func7 rfl rfl (of_decide_eq_true rfl) (.cons u0 (.cons u1 .nil)) fun a1 s1 => ?_
  refine wp_seq_k fun K1 hK1 => ?_
  refine wp_region_lit ?_
  refine seq_op s1 rfl rfl (of_decide_eq_true rfl) (ob_assign rfl opd_bool) fun a2 w2 s2 => ?_; clear s1
  refine wpList_nil ?_
  refine then_normal ?_
  refine hK1 _ _ ?_
  have s3 := s2.sub (.cons (t := 0) rfl (.cons (t := 1) rfl .nil)); clear s2
  refine wp_seq_k fun K2 hK2 => ?_
  refine wp_seq_k fun K3 hK3 => ?_
  refine wp_region_lit ?_
  obtain ⟨x1, e_x1, h1⟩ := bind_some h0; clear h0
  refine seq_op s3 rfl rfl (of_decide_eq_true rfl) (ob_callD (args := []) rfl .direct hb35 (fun a w s fs gs hf hg => by obtain rfl := hf.unnil; obtain rfl := hg.unnil; exact c_caballaw16_alive k _ e_x1 _ _)) fun a4 w4 s4 => ?_; clear s3
  refine seq_op s4 rfl rfl (of_decide_eq_true rfl) (ob_not rfl (.tmp rfl)) fun a5 w5 s5 => ?_; clear s4
  refine wpList_nil ?_
  refine then_normal ?_
  refine hK3 _ _ ?_
  have s6 := s5.sub (.cons (t := 0) rfl (.cons (t := 1) rfl (.cons (t := 14) rfl .nil))); clear s5
  refine cond_split s6 (.tmp rfl) (fun hc1 => ?_) (fun hc1 => ?_)
  · replace h1 := ite_t hc1 h1
    have h2 := h1; clear h1
    refine wp_seq_k fun K4 hK4 => ?_
    refine wp_region_lit ?_
    refine seq_op s6 rfl rfl (of_decide_eq_true rfl) (ob_assign rfl opd_bool) fun a7 w7 s7 => ?_; clear s6
    refine wpList_nil ?_
    refine then_normal ?_
    refine hK4 _ _ ?_
    have s8 := s7.sub (.cons (t := 4) rfl .nil); clear s7
    refine wp_ret ?_
    obtain rfl := Option.some.inj h2
    exact leave s8 (.inl rfl) rfl (.cons (.tmp rfl) .nil)
  · replace h1 := ite_f hc1 h1
    have h3 := h1; clear h1
    refine wp_skip ?_
    refine then_normal ?_
    refine hK2 _ _ ?_
    have s9 := s6.sub (.cons (t := 0) rfl (.cons (t := 1) rfl .nil)); clear s6
    refine wp_seq_k fun K5 hK5 => ?_
    refine wp_seq_k fun K6 hK6 => ?_
    refine wp_region_lit ?_
    refine seq_op s9 rfl rfl (of_decide_eq_true rfl) (ob_move rfl (.tmp rfl)) fun a10 w10 s10 => ?_; clear s9
    obtain ⟨x2, e_x2, h4⟩ := bind_some h3; clear h3
    refine seq_op s10 rfl rfl (of_decide_eq_true rfl) (ob_callD (args := [_]) rfl .direct hb23 (fun a w s fs gs hf hg => by obtain rfl := hf.unnil; obtain rfl := hg.unnil; exact c_cabalref15_Great k _ _ e_x2 _ _ _ (s.arg (.tmp rfl)))) fun a11 w11 s11 => ?_; clear s10
    refine seq_op s11 rfl rfl (of_decide_eq_true rfl) (ob_move rfl (.tmp rfl)) fun a12 w12 s12 => ?_; clear s11
    refine seq_opg s12 rfl rfl rfl rfl (of_decide_eq_true rfl) (fun hb => ob_move rfl (.tmp rfl)) fun a13 w13 s13 => ?_; clear s12
    refine seq_opg s13 rfl rfl rfl rfl (of_decide_eq_true rfl) (fun hb => (Ob.uncond (t := 18) hb rfl (ob_lens rfl Try.underlying22 (.tmp rfl)))) fun a14 w14 s14 => ?_; clear s13
    refine seq_opg s14 rfl rfl rfl rfl (of_decide_eq_true rfl) (fun hb => (Ob.uncond (t := 19) hb rfl (ob_gtr rfl (.tmp rfl) (opd_int rfl)))) fun a15 w15 s15 => ?_; clear s14
    refine seq_op s15 rfl rfl (of_decide_eq_true rfl) (ob_or2 rfl (.tmp rfl) opd_bool (.tmp rfl)) fun a16 w16 s16 => ?_; clear s15
    refine seq_op s16 rfl rfl (of_decide_eq_true rfl) (ob_move rfl (.tmp rfl)) fun a17 w17 s17 => ?_; clear s16
    refine seq_opg s17 rfl rfl rfl rfl (of_decide_eq_true rfl) (fun hb => ob_move rfl (.tmp rfl)) fun a18 w18 s18 => ?_; clear s17
    obtain ⟨x3, e_x3, h5⟩ := bind_some h4; clear h4
    refine seq_opg s18 rfl rfl rfl rfl (of_decide_eq_true rfl) (fun hb => (Ob.uncond (t := 23) hb rfl (ob_callD (args := [_]) rfl .direct hb24 (fun a w s fs gs hf hg => by obtain rfl := hf.unnil; obtain rfl := hg.unnil; exact c_graph_Right k _ _ (ite_t hb e_x3) _ _ _ (s.arg (.tmp rfl)))))) fun a19 w19 s19 => ?_; clear s18
    refine seq_opg s19 rfl rfl rfl rfl (of_decide_eq_true rfl) (fun hb => (Ob.uncond (t := 24) hb rfl (ob_not rfl (.tmp rfl)))) fun a20 w20 s20 => ?_; clear s19
    obtain ⟨x4, e_x4, h6⟩ := bind_some h5; clear h5; replace e_x4 := Option.some.inj e_x4
    refine seq_op s20 rfl rfl (of_decide_eq_true rfl) ((ob_or2 rfl (.tmp rfl) opd_bool (.tmp rfl)).nm e_x4) fun a21 w21 s21 => ?_; clear s20
    refine wpList_nil ?_
    refine then_normal ?_
    refine hK6 _ _ ?_
    have s22 := s21.sub (.cons (t := 0) rfl (.cons (t := 1) rfl (.cons (t := 26) rfl .nil))); clear s21
    refine cond_split s22 (.tmp rfl) (fun hc2 => ?_) (fun hc2 => ?_)
    · replace h6 := ite_t hc2 h6
      have h7 := h6; clear h6
      refine wp_seq_k fun K7 hK7 => ?_
      refine wp_region_lit ?_
      obtain ⟨x5, e_x5, h8⟩ := bind_some h7; clear h7
      refine seq_op s22 rfl rfl (of_decide_eq_true rfl) (ob_callD (args := []) rfl .direct hb35 (fun a w s fs gs hf hg => by obtain rfl := hf.unnil; obtain rfl := hg.unnil; exact c_caballaw16_alive k _ e_x5 _ _)) fun a23 w23 s23 => ?_; clear s22
      refine seq_op s23 rfl rfl (of_decide_eq_true rfl) (ob_assign rfl (.tmp rfl)) fun a24 w24 s24 => ?_; clear s23
      refine wpList_nil ?_
      refine then_normal ?_
      refine hK7 _ _ ?_
      have s25 := s24.sub (.cons (t := 4) rfl .nil); clear s24
      refine wp_ret ?_
      obtain rfl := Option.some.inj h8
      exact leave s25 (.inl rfl) rfl (.cons (.tmp rfl) .nil)
    · replace h6 := ite_f hc2 h6
      have h9 := h6; clear h6
      refine wp_skip ?_
      refine then_normal ?_
      refine hK5 _ _ ?_
      have s26 := s22.sub (.cons (t := 0) rfl (.cons (t := 1) rfl .nil)); clear s22
      refine wp_seq_k fun K8 hK8 => ?_
      refine wp_region_lit ?_
      refine seq_op s26 rfl rfl (of_decide_eq_true rfl) (ob_assign rfl opd_is) fun a27 w27 s27 => ?_; clear s26
      have s28 := St.adopt s27 (G := RowF (nilRow 25) 46 k_api_Node []) rfl (rowNilN _ _ _ _ _); clear s27
      refine wpList_nil ?_
      refine then_normal ?_
      refine hK8 _ _ ?_
      have s29 := s28.sub (.cons (t := 0) rfl (.cons (t := 1) rfl (.cons (t := 5) rfl .nil))); clear s28
      refine wp_seq_k fun K9 hK9 => ?_
      refine wp_seq_k fun K10 hK10 => ?_
      refine wp_region_lit ?_
      refine seq_op s29 rfl rfl (of_decide_eq_true rfl) (ob_assign rfl (opd_int rfl)) fun a30 w30 s30 => ?_; clear s29
      refine wpList_nil ?_
      refine then_normal ?_
      refine hK10 _ _ ?_
      have s31 := s30.sub (.cons (t := 0) rfl (.cons (t := 1) rfl (.cons (t := 5) rfl (.cons (t := 6) rfl .nil)))); clear s30
      have hj1 : ∀ (y1 : (List api_Node)) (a : Act) (w : World), (caballaw16_RosterShuffled.j1 k p1) y1 = some r → St ⟨85, w0, ok, []⟩ [] [(0, ((ksl k_api_Node).V p1)), (5, ((ksl k_api_Node).V y1))] a w → K9 a w := by
        intro y1 a32 w32 h10 s32
        unfold caballaw16_RosterShuffled.j1 at h10
        refine hK9 _ _ ?_
        refine wp_seq_k fun K11 hK11 => ?_
        refine wp_region_lit ?_
        obtain ⟨x6, e_x6, h11⟩ := bind_some h10; clear h10
        refine seq_op s32 rfl rfl (of_decide_eq_true rfl) (ob_callD (args := []) rfl .direct hb35 (fun a w s fs gs hf hg => by obtain rfl := hf.unnil; obtain rfl := hg.unnil; exact c_caballaw16_alive k _ e_x6 _ _)) fun a33 w33 s33 => ?_; clear s32
        refine seq_op s33 rfl rfl (of_decide_eq_true rfl) (ob_move rfl (.tmp rfl)) fun a34 w34 s34 => ?_; clear s33
        refine seq_opg s34 rfl rfl rfl rfl (of_decide_eq_true rfl) (fun hb => ob_move rfl (.tmp rfl)) fun a35 w35 s35 => ?_; clear s34
        obtain ⟨x7, e_x7, h12⟩ := bind_some h11; clear h11
        refine seq_opg s35 rfl rfl rfl rfl (of_decide_eq_true rfl) (fun hb => (ObF.ob ((ObF.uncond (t := 79) hb rfl (ob_callF (F := resFact [((ksl (kint .i64)).V x7)]) (args := [_]) rfl .direct hb37 (fun a w s fs gs hf hg => by obtain rfl := hf.unnil; obtain rfl := hg.unnil; exact c_roster_All k _ _ (ite_t hb e_x7) _ _ _ (s.arg (.tmp rfl))) (by exact fun g => ResF.all (.row (.head _) (KFlat.int _) .nil))))))) fun a36 w36 s36 => ?_; clear s35
        refine seq_opg s36 rfl rfl rfl rfl (of_decide_eq_true rfl) (fun hb => ob_move rfl (.tmp rfl)) fun a37 w37 s37 => ?_; clear s36
        obtain ⟨x8, e_x8, h13⟩ := bind_some h12; clear h12
        refine seq_opg s37 rfl rfl rfl rfl (of_decide_eq_true rfl) (fun hb => (ObF.ob ((ObF.uncond (t := 81) hb rfl (ob_callF (F := resFact [((ksl (kint .i64)).V x8)]) (args := [_]) rfl .direct hb37 (fun a w s fs gs hf hg => by obtain rfl := hf.unnil; obtain rfl := hg.unnil; exact c_roster_All k _ _ (ite_t hb e_x8) _ _ _ (s.arg (.tmp rfl))) (by exact fun g => ResF.all (.row (.head _) (KFlat.int _) .nil))))))) fun a38 w38 s38 => ?_; clear s37
        obtain ⟨x9, e_x9, h14⟩ := bind_some h13; clear h13
        refine seq_opg s38 rfl rfl rfl rfl (of_decide_eq_true rfl) (fun hb => (Ob.uncond (t := 82) hb rfl ((Ob.uncond (t := 80) hb rfl (ob_callD (args := [_, _]) rfl .direct hb38 (fun a w s fs gs hf hg => by obtain rfl := hf.unnil; obtain rfl := hg.unnil; exact c_cabalref15_SameInts k _ _ _ (ite_t hb e_x9) _ _ _ _ (s.arg (.tmp rfl)) (s.arg (.tmp rfl)))))))) fun a39 w39 s39 => ?_; clear s38
        refine seq_op s39 rfl rfl (of_decide_eq_true rfl) (ob_and2 rfl (.tmp rfl) (.tmp rfl) opd_bool) fun a40 w40 s40 => ?_; clear s39
        refine seq_op s40 rfl rfl (of_decide_eq_true rfl) (ob_assign rfl (.tmp rfl)) fun a41 w41 s41 => ?_; clear s40
        refine wpList_nil ?_
        refine then_normal ?_
        refine hK11 _ _ ?_
        have s42 := s41.sub (.cons (t := 4) rfl .nil); clear s41
        refine wp_ret ?_
        obtain rfl := Option.some.inj h14
        exact leave s42 (.inl rfl) rfl (.cons (.tmp rfl) .nil)
      refine wp_block ?_
      have s43 := St.freezeAllM (A := []) s31 (ts := [5]) (.cons rfl .nil); clear s31
      refine wp_loop_fuel (fun m (q : (List api_Node) × Int) => caballaw16_RosterShuffled.l1 k p1 p2 m q.1 q.2) r (fun _ => rfl) (fun q a w => St ⟨85, w0, ok, []⟩ [] [(0, ((ksl k_api_Node).V p1)), (1, ((ksl (kint .u8)).V p2)), (5, ((ksl k_api_Node).V q.1)), (6, ((kint .i64).V q.2))] a w) ?_ k (([] : (List api_Node)), (0 : Int)) _ _ h9 (s43.sub (.cons rfl (.cons rfl (.cons rfl (.cons rfl .nil)))))
      rintro n1 ⟨y2, y3⟩ a44 w44 h15 s44 K12 hK12
      replace h15 : caballaw16_RosterShuffled.l1 k p1 p2 (n1 + 1) y2 y3 = some r := h15; rw [caballaw16_RosterShuffled.l1] at h15
      have h16 := h15; clear h15
      refine wp_seq_k fun K13 hK13 => ?_
      refine wp_seq_k fun K14 hK14 => ?_
      refine wp_region_lit ?_
      refine seq_op s44 rfl rfl (of_decide_eq_true rfl) (ob_move rfl (.tmp rfl)) fun a45 w45 s45 => ?_; clear s44
      refine seq_op s45 rfl rfl (of_decide_eq_true rfl) (ob_lens rfl Try.underlying22 (.tmp rfl)) fun a46 w46 s46 => ?_; clear s45
      refine seq_op s46 rfl rfl (of_decide_eq_true rfl) (ob_move rfl (.tmp rfl)) fun a47 w47 s47 => ?_; clear s46
      refine seq_op s47 rfl rfl (of_decide_eq_true rfl) (ob_lens rfl Try.underlying22 (.tmp rfl)) fun a48 w48 s48 => ?_; clear s47
      refine seq_op s48 rfl rfl (of_decide_eq_true rfl) (ob_lss rfl (.tmp rfl) (.tmp rfl)) fun a49 w49 s49 => ?_; clear s48
      refine wpList_nil ?_
      refine then_normal ?_
      refine hK14 _ _ ?_
      have s50 := s49.sub (.cons (t := 0) rfl (.cons (t := 1) rfl (.cons (t := 5) rfl (.cons (t := 6) rfl (.cons (t := 32) rfl .nil))))); clear s49
      refine cond_split s50 (.tmp rfl) (fun hc3 => ?_) (fun hc3 => ?_)
      · replace h16 := ite_t hc3 h16
        have h17 := h16; clear h16
        refine wp_skip ?_
        refine then_normal ?_
        refine hK13 _ _ ?_
        have s51 := s50.sub (.cons (t := 0) rfl (.cons (t := 1) rfl (.cons (t := 5) rfl (.cons (t := 6) rfl .nil)))); clear s50
        refine wp_seq_k fun K15 hK15 => ?_
        have hj2 : ∀ (y4 : (List api_Node)) (a : Act) (w : World), (caballaw16_RosterShuffled.j2 k y3 (caballaw16_RosterShuffled.l1 k p1 p2 n1)) y4 = some r → St ⟨85, w0, ok, []⟩ [] [(0, ((ksl k_api_Node).V p1)), (1, ((ksl (kint .u8)).V p2)), (5, ((ksl k_api_Node).V y4)), (6, ((kint .i64).V y3))] a w → K15 a w := by
          intro y4 a52 w52 h18 s52
          unfold caballaw16_RosterShuffled.j2 at h18
          refine hK15 _ _ ?_
          refine wp_region_lit ?_
          refine seq_op s52 rfl rfl (of_decide_eq_true rfl) (ob_move rfl (.tmp rfl)) fun a53 w53 s53 => ?_; clear s52
          refine seq_op s53 rfl rfl (of_decide_eq_true rfl) (ob_add rfl (.tmp rfl) (opd_int rfl)) fun a54 w54 s54 => ?_; clear s53
          refine seq_op s54 rfl rfl (of_decide_eq_true rfl) (ob_assign rfl (.tmp rfl)) fun a55 w55 s55 => ?_; clear s54
          refine wpList_nil ?_
          refine then_normal ?_
          exact hK12 (y4, (iadd .i64 y3 (1 : Int))) _ _ h18 (s55.sub (.cons rfl (.cons rfl (.cons rfl (.cons rfl .nil)))))
        refine wp_block ?_
        refine wp_seq_k fun K16 hK16 => ?_
        refine wp_region_lit ?_
        refine seq_op s51 rfl rfl (of_decide_eq_true rfl) (ob_assign rfl (opd_int rfl)) fun a56 w56 s56 => ?_; clear s51
        refine wpList_nil ?_
        refine then_normal ?_
        refine hK16 _ _ ?_
        have s57 := s56.sub (.cons (t := 0) rfl (.cons (t := 1) rfl (.cons (t := 5) rfl (.cons (t := 6) rfl (.cons (t := 7) rfl .nil))))); clear s56
        refine wp_seq_k fun K17 hK17 => ?_
        refine wp_seq_k fun K18 hK18 => ?_
        refine wp_region_lit ?_
        refine seq_op s57 rfl rfl (of_decide_eq_true rfl) (ob_move rfl (.tmp rfl)) fun a58 w58 s58 => ?_; clear s57
        refine seq_op s58 rfl rfl (of_decide_eq_true rfl) (ob_move rfl (.tmp rfl)) fun a59 w59 s59 => ?_; clear s58
        refine seq_op s59 rfl rfl (of_decide_eq_true rfl) (ob_lens rfl Try.underlying60 (.tmp rfl)) fun a60 w60 s60 => ?_; clear s59
        refine seq_op s60 rfl rfl (of_decide_eq_true rfl) (ob_lss rfl (.tmp rfl) (.tmp rfl)) fun a61 w61 s61 => ?_; clear s60
        refine wpList_nil ?_
        refine then_normal ?_
        refine hK18 _ _ ?_
        have s62 := s61.sub (.cons (t := 0) rfl (.cons (t := 1) rfl (.cons (t := 5) rfl (.cons (t := 6) rfl (.cons (t := 7) rfl (.cons (t := 38) rfl .nil)))))); clear s61
        have hj3 : ∀ (y5 : Int) (a : Act) (w : World), (caballaw16_RosterShuffled.j3 k p1 y3 y2 (caballaw16_RosterShuffled.l1 k p1 p2 n1)) y5 = some r → St ⟨85, w0, ok, []⟩ [] [(0, ((ksl k_api_Node).V p1)), (1, ((ksl (kint .u8)).V p2)), (5, ((ksl k_api_Node).V y2)), (6, ((kint .i64).V y3)), (7, ((kint .i64).V y5))] a w → K17 a w := by
          intro y5 a63 w63 h19 s63
          unfold caballaw16_RosterShuffled.j3 at h19
          refine hK17 _ _ ?_
          refine wp_seq_k fun K19 hK19 => ?_
          refine wp_region_lit ?_
          refine seq_op s63 rfl rfl (of_decide_eq_true rfl) (ob_assign rfl opd_bool) fun a64 w64 s64 => ?_; clear s63
          refine wpList_nil ?_
          refine then_normal ?_
          refine hK19 _ _ ?_
          have s65 := s64.sub (.cons (t := 0) rfl (.cons (t := 1) rfl (.cons (t := 5) rfl (.cons (t := 6) rfl (.cons (t := 7) rfl (.cons (t := 8) rfl .nil)))))); clear s64
          refine wp_seq_k fun K20 hK20 => ?_
          refine wp_seq_k fun K21 hK21 => ?_
          refine wp_region_lit ?_
          refine seq_op s65 rfl rfl (of_decide_eq_true rfl) (ob_assign rfl (opd_int rfl)) fun a66 w66 s66 => ?_; clear s65
          refine wpList_nil ?_
          refine then_normal ?_
          refine hK21 _ _ ?_
          have s67 := s66.sub (.cons (t := 0) rfl (.cons (t := 1) rfl (.cons (t := 5) rfl (.cons (t := 6) rfl (.cons (t := 7) rfl (.cons (t := 8) rfl (.cons (t := 9) rfl .nil))))))); clear s66
          have hj4 : ∀ (y6 : (List api_Node)) (y7 : Bool) (a : Act) (w : World), (caballaw16_RosterShuffled.j4 k y3 (caballaw16_RosterShuffled.l1 k p1 p2 n1)) y6 y7 = some r → St ⟨85, w0, ok, []⟩ [] [(0, ((ksl k_api_Node).V p1)), (1, ((ksl (kint .u8)).V p2)), (5, ((ksl k_api_Node).V y6)), (6, ((kint .i64).V y3)), (8, (kbool.V y7))] a w → K20 a w := by
            intro y6 y7 a68 w68 h20 s68
            unfold caballaw16_RosterShuffled.j4 at h20
            refine hK20 _ _ ?_
            refine wp_seq_k fun K22 hK22 => ?_
            refine wp_region_lit ?_
            refine seq_op s68 rfl rfl (of_decide_eq_true rfl) (ob_move rfl (.tmp rfl)) fun a69 w69 s69 => ?_; clear s68
            refine seq_op s69 rfl rfl (of_decide_eq_true rfl) (ob_not rfl (.tmp rfl)) fun a70 w70 s70 => ?_; clear s69
            refine wpList_nil ?_
            refine then_normal ?_
            refine hK22 _ _ ?_
            have s71 := s70.sub (.cons (t := 0) rfl (.cons (t := 1) rfl (.cons (t := 5) rfl (.cons (t := 6) rfl (.cons (t := 76) rfl .nil))))); clear s70
            refine cond_split s71 (.tmp rfl) (fun hc4 => ?_) (fun hc4 => ?_)
            · replace h20 := ite_t hc4 h20
              have h21 := h20; clear h20
              refine wp_seq_k fun K23 hK23 => ?_
              refine wp_region_lit ?_
              refine seq_op s71 rfl rfl (of_decide_eq_true rfl) (ob_assign rfl opd_bool) fun a72 w72 s72 => ?_; clear s71
              refine wpList_nil ?_
              refine then_normal ?_
              refine hK23 _ _ ?_
              have s73 := s72.sub (.cons (t := 4) rfl .nil); clear s72
              refine wp_ret ?_
              obtain rfl := Option.some.inj h21
              exact leave s73 (.inl rfl) rfl (.cons (.tmp rfl) .nil)
            · replace h20 := ite_f hc4 h20
              have h22 := h20; clear h20
              refine wp_skip ?_
              refine in_normal ?_
              refine then_normal ?_
              exact hj2 y6 _ _ h22 (s71.sub (.cons rfl (.cons rfl (.cons rfl (.cons rfl .nil)))))
          refine wp_block ?_
          refine wp_loop_fuel (fun m (q : (List api_Node) × Bool × Int) => caballaw16_RosterShuffled.l2 k p1 y5 y3 (caballaw16_RosterShuffled.l1 k p1 p2 n1) m q.1 q.2.1 q.2.2) r (fun _ => rfl) (fun q a w => St ⟨85, w0, ok, []⟩ [] [(0, ((ksl k_api_Node).V p1)), (1, ((ksl (kint .u8)).V p2)), (5, ((ksl k_api_Node).V q.1)), (6, ((kint .i64).V y3)), (7, ((kint .i64).V y5)), (8, (kbool.V q.2.1)), (9, ((kint .i64).V q.2.2))] a w) ?_ k (y2, false, (0 : Int)) _ _ h19 (s67.sub (.cons rfl (.cons rfl (.cons rfl (.cons rfl (.cons rfl (.cons rfl (.cons rfl .nil))))))))
          rintro n2 ⟨y8, y9, y10⟩ a74 w74 h23 s74 K24 hK24
          replace h23 : caballaw16_RosterShuffled.l2 k p1 y5 y3 (caballaw16_RosterShuffled.l1 k p1 p2 n1) (n2 + 1) y8 y9 y10 = some r := h23; rw [caballaw16_RosterShuffled.l2] at h23
          have h24 := h23; clear h23
          refine wp_seq_k fun K25 hK25 => ?_
          refine wp_seq_k fun K26 hK26 => ?_
          refine wp_region_lit ?_
          refine seq_op s74 rfl rfl (of_decide_eq_true rfl) (ob_move rfl (.tmp rfl)) fun a75 w75 s75 => ?_; clear s74
          refine seq_op s75 rfl rfl (of_decide_eq_true rfl) (ob_move rfl (.tmp rfl)) fun a76 w76 s76 => ?_; clear s75
          refine seq_op s76 rfl rfl (of_decide_eq_true rfl) (ob_lens rfl Try.underlying22 (.tmp rfl)) fun a77 w77 s77 => ?_; clear s76
          refine seq_op s77 rfl rfl (of_decide_eq_true rfl) (ob_lss rfl (.tmp rfl) (.tmp rfl)) fun a78 w78 s78 => ?_; clear s77
          refine seq_op s78 rfl rfl (of_decide_eq_true rfl) (ob_move rfl (.tmp rfl)) fun a79 w79 s79 => ?_; clear s78
          refine seq_opg s79 rfl rfl rfl rfl (of_decide_eq_true rfl) (fun hb => ob_move rfl (.tmp rfl)) fun a80 w80 s80 => ?_; clear s79
          refine seq_opg s80 rfl rfl rfl rfl (of_decide_eq_true rfl) (fun hb => (Ob.uncond (t := 49) hb rfl (ob_not rfl (.tmp rfl)))) fun a81 w81 s81 => ?_; clear s80
          refine seq_op s81 rfl rfl (of_decide_eq_true rfl) (ob_and2 rfl (.tmp rfl) (.tmp rfl) opd_bool) fun a82 w82 s82 => ?_; clear s81
          refine wpList_nil ?_
          refine then_normal ?_
          refine hK26 _ _ ?_
          have s83 := s82.sub (.cons (t := 0) rfl (.cons (t := 1) rfl (.cons (t := 5) rfl (.cons (t := 6) rfl (.cons (t := 7) rfl (.cons (t := 8) rfl (.cons (t := 9) rfl (.cons (t := 51) rfl .nil)))))))); clear s82
          refine cond_split s83 (.tmp rfl) (fun hc5 => ?_) (fun hc5 => ?_)
          · replace h24 := ite_t hc5 h24
            have h25 := h24; clear h24
            refine wp_skip ?_
            refine then_normal ?_
            refine hK25 _ _ ?_
            have s84 := s83.sub (.cons (t := 0) rfl (.cons (t := 1) rfl (.cons (t := 5) rfl (.cons (t := 6) rfl (.cons (t := 7) rfl (.cons (t := 8) rfl (.cons (t := 9) rfl .nil))))))); clear s83
            refine wp_seq_k fun K27 hK27 => ?_
            have hj5 : ∀ (y11 : (List api_Node)) (y12 : Bool) (a : Act) (w : World), (caballaw16_RosterShuffled.j5 k y10 (caballaw16_RosterShuffled.l2 k p1 y5 y3 (caballaw16_RosterShuffled.l1 k p1 p2 n1) n2)) y11 y12 = some r → St ⟨85, w0, ok, []⟩ [] [(0, ((ksl k_api_Node).V p1)), (1, ((ksl (kint .u8)).V p2)), (5, ((ksl k_api_Node).V y11)), (6, ((kint .i64).V y3)), (7, ((kint .i64).V y5)), (8, (kbool.V y12)), (9, ((kint .i64).V y10))] a w → K27 a w := by
              intro y11 y12 a85 w85 h26 s85
              unfold caballaw16_RosterShuffled.j5 at h26
              refine hK27 _ _ ?_
              refine wp_region_lit ?_
              refine seq_op s85 rfl rfl (of_decide_eq_true rfl) (ob_move rfl (.tmp rfl)) fun a86 w86 s86 => ?_; clear s85
              refine seq_op s86 rfl rfl (of_decide_eq_true rfl) (ob_add rfl (.tmp rfl) (opd_int rfl)) fun a87 w87 s87 => ?_; clear s86
              refine seq_op s87 rfl rfl (of_decide_eq_true rfl) (ob_assign rfl (.tmp rfl)) fun a88 w88 s88 => ?_; clear s87
              refine wpList_nil ?_
              refine then_normal ?_
              exact hK24 (y11, y12, (iadd .i64 y10 (1 : Int))) _ _ h26 (s88.sub (.cons rfl (.cons rfl (.cons rfl (.cons rfl (.cons rfl (.cons rfl (.cons rfl .nil))))))))
            refine wp_block ?_
            refine wp_seq_k fun K28 hK28 => ?_
            refine wp_region_lit ?_
            refine seq_op s84 rfl rfl (of_decide_eq_true rfl) (ob_move rfl (.tmp rfl)) fun a89 w89 s89 => ?_; clear s84
            refine seq_op s89 rfl rfl (of_decide_eq_true rfl) (ob_move rfl (.tmp rfl)) fun a90 w90 s90 => ?_; clear s89
            refine seq_op s90 rfl rfl (of_decide_eq_true rfl) (ob_move rfl (.tmp rfl)) fun a91 w91 s91 => ?_; clear s90
            refine seq_op s91 rfl rfl (of_decide_eq_true rfl) (ob_add rfl (.tmp rfl) (.tmp rfl)) fun a92 w92 s92 => ?_; clear s91
            refine seq_op s92 rfl rfl (of_decide_eq_true rfl) (ob_move rfl (.tmp rfl)) fun a93 w93 s93 => ?_; clear s92
            refine seq_op s93 rfl rfl (of_decide_eq_true rfl) (ob_lens rfl Try.underlying22 (.tmp rfl)) fun a94 w94 s94 => ?_; clear s93
            obtain ⟨g1, h27⟩ := guard_some h25; clear h25
            refine seq_op s94 rfl rfl (of_decide_eq_true rfl) (ob_rem rfl (.tmp rfl) (.tmp rfl) g1) fun a95 w95 s95 => ?_; clear s94
            obtain ⟨x10, e_x10, h28⟩ := bind_some h27; clear h27
            refine seq_op s95 rfl rfl (of_decide_eq_true rfl) (ob_indexAddrs rfl Try.underlying22 sz46 (.tmp rfl) (.tmp rfl) e_x10) fun a96 w96 s96 => ?_; clear s95
            refine seq_op s96 rfl rfl (of_decide_eq_true rfl) (ob_loadr rfl tk46 (.tmp rfl)) fun a97 w97 s97 => ?_; clear s96
            refine seq_opx (B' := (fun b1 : Nat => [BF b1 46 k_api_Node (⟨(List.replicate 32 (0 : Int)), (⟨(0 : Int), (0 : Int), [], (0 : Int), [], (List.replicate 32 (0 : Int)), (List.replicate 32 (0 : Int)), [], []⟩ : api_Op), []⟩ : api_Node)])) s97 rfl rfl (of_decide_eq_true rfl) (ob_new (k := k_api_Node) rfl zz46 (Zr.iso (f := t_api_Node) (x := (⟨(List.replicate 32 (0 : Int)), (⟨(0 : Int), (0 : Int), [], (0 : Int), [], (List.replicate 32 (0 : Int)), (List.replicate 32 (0 : Int)), [], []⟩ : api_Op), []⟩ : api_Node)) (Zr.pair (Zr.arr 32 (Zr.int .u8)) (Zr.pair (Zr.iso (f := t_api_Op) (x := (⟨(0 : Int), (0 : Int), [], (0 : Int), [], (List.replicate 32 (0 : Int)), (List.replicate 32 (0 : Int)), [], []⟩ : api_Op)) (Zr.pair (Zr.int .i64) (Zr.pair (Zr.int .u32) (Zr.pair (Zr.sl _) (Zr.pair (Zr.int .i64) (Zr.pair (Zr.sl _) (Zr.pair (Zr.arr 32 (Zr.int .u8)) (Zr.pair (Zr.arr 32 (Zr.int .u8)) (Zr.pair Zr.str (Zr.pair (Zr.sl _) Zr.nil)))))))))) (Zr.pair (Zr.sl _) Zr.nil))))) fun b1 a98 w98 s98 => ?_; clear s97
            refine seq_opx0 (B' := (fun _ : Unit => [BF b1 46 k_api_Node x10])) s98 rfl rfl (ob_store (A := []) rfl tk46 (.tmp rfl) (.tmp rfl) rfl (LS.refl _ _ _) rfl) fun _ a99 w99 s99 => ?_; clear s98
            refine wpList_nil ?_
            refine then_normal ?_
            refine hK28 _ _ ?_
            have s100 := s99.sub (.cons (t := 0) rfl (.cons (t := 1) rfl (.cons (t := 5) rfl (.cons (t := 6) rfl (.cons (t := 7) rfl (.cons (t := 8) rfl (.cons (t := 9) rfl (.cons (t := 10) rfl .nil)))))))); clear s99
            refine wp_seq_k fun K29 hK29 => ?_
            refine wp_region_lit ?_
            refine seq_op s100 rfl rfl (of_decide_eq_true rfl) (ob_move rfl (.tmp rfl)) fun a101 w101 s101 => ?_; clear s100
            refine seq_op s101 rfl rfl (of_decide_eq_true rfl) (ob_fieldAddr (off' := 0) rfl Try.underlying46 rfl sz39 (by decide) (.tmp rfl) rfl) fun a102 w102 s102 => ?_; clear s101
            refine seq_op s102 rfl rfl (of_decide_eq_true rfl) (ob_load rfl tk39 (.tmp rfl) (.head _) (lg_api_Node_Id x10)) fun a103 w103 s103 => ?_; clear s102
            refine seq_op s103 rfl rfl (of_decide_eq_true rfl) (ob_fieldAddr (off' := 32) rfl Try.underlying46 rfl sz44 (by decide) (.tmp rfl) rfl) fun a104 w104 s104 => ?_; clear s103
            refine seq_op s104 rfl rfl (of_decide_eq_true rfl) (ob_load rfl tk44 (.tmp rfl) (.head _) (lg_api_Node_Op x10)) fun a105 w105 s105 => ?_; clear s104
            obtain ⟨x11, e_x11, h29⟩ := bind_some h28; clear h28
            refine seq_opx (B' := (fun v1 : Value => [RowF v1 46 k_api_Node x11.1, BF b1 46 k_api_Node x10])) s105 rfl rfl (of_decide_eq_true rfl) (ob_callL (args := [_, _, _]) (L := []) rfl .direct hb43 (List.Perm.refl _) (fun a w s fs gs hf hg => by obtain rfl := hf.unnil; obtain rfl := hg.unnil; exact c_graph_Add k _ _ _ _ e_x11 _ _ _ _ _ (s.arg (.tmp rfl)) (s.arg (.tmp rfl)) (s.arg (.tmp rfl))) (by exact fun _ => rfl)) fun v1 a106 w106 s106 => ?_; clear s105
            refine seq_op s106 rfl rfl (of_decide_eq_true rfl) (ob_move rfl (.tmp rfl)) fun a107 w107 s107 => ?_; clear s106
            refine seq_op s107 rfl rfl (of_decide_eq_true rfl) (ob_extract rfl (.tmp rfl) rfl) fun a108 w108 s108 => ?_; clear s107
            refine seq_op s108 rfl rfl (of_decide_eq_true rfl) (ob_extract rfl (.tmp rfl) rfl) fun a109 w109 s109 => ?_; clear s108
            refine seq_op s109 rfl rfl (of_decide_eq_true rfl) (ob_assign rfl (.tmp rfl)) fun a110 w110 s110 => ?_; clear s109
            refine seq_op s110 rfl rfl (of_decide_eq_true rfl) (ob_assign rfl (.tmp rfl)) fun a111 w111 s111 => ?_; clear s110
            refine wpList_nil ?_
            refine then_normal ?_
            refine hK29 _ _ ?_
            have s112 := s111.sub (.cons (t := 0) rfl (.cons (t := 1) rfl (.cons (t := 5) rfl (.cons (t := 6) rfl (.cons (t := 7) rfl (.cons (t := 8) rfl (.cons (t := 9) rfl (.cons (t := 11) rfl (.cons (t := 12) rfl .nil))))))))); clear s111
            have s113 := St.drop (A := [_]) s112; clear s112
            refine wp_seq_k fun K30 hK30 => ?_
            refine wp_region_lit ?_
            refine seq_op s113 rfl rfl (of_decide_eq_true rfl) (ob_move rfl (.tmp rfl)) fun a114 w114 s114 => ?_; clear s113
            refine seq_op s114 rfl rfl (of_decide_eq_true rfl) (ob_eql rfl (.tmp rfl) (opd_int rfl)) fun a115 w115 s115 => ?_; clear s114
            refine wpList_nil ?_
            refine then_normal ?_
            refine hK30 _ _ ?_
            have s116 := s115.sub (.cons (t := 0) rfl (.cons (t := 1) rfl (.cons (t := 5) rfl (.cons (t := 6) rfl (.cons (t := 7) rfl (.cons (t := 8) rfl (.cons (t := 9) rfl (.cons (t := 11) rfl (.cons (t := 73) rfl .nil))))))))); clear s115
            refine cond_split s116 (.tmp rfl) (fun hc6 => ?_) (fun hc6 => ?_)
            · replace h29 := ite_t hc6 h29
              have h30 := h29; clear h29
              refine wp_seq_k fun K31 hK31 => ?_
              refine wp_region_lit ?_
              refine seq_op s116 rfl rfl (of_decide_eq_true rfl) (ob_move rfl (.tmp rfl)) fun a117 w117 s117 => ?_; clear s116
              refine seq_op s117 rfl rfl (of_decide_eq_true rfl) (ob_assign rfl (.tmp rfl)) fun a118 w118 s118 => ?_; clear s117
              refine wpList_nil ?_
              refine then_normal ?_
              refine hK31 _ _ ?_
              have s119 := s118.sub (.cons (t := 0) rfl (.cons (t := 1) rfl (.cons (t := 5) rfl (.cons (t := 6) rfl (.cons (t := 7) rfl (.cons (t := 9) rfl .nil)))))); clear s118
              refine wp_region_lit ?_
              refine seq_op s119 rfl rfl (of_decide_eq_true rfl) (ob_assign rfl opd_bool) fun a120 w120 s120 => ?_; clear s119
              refine wpList_nil ?_
              refine in_normal ?_
              refine then_normal ?_
              have s121 := St.freezeAllM (A := []) s120 (ts := [5]) (.cons rfl .nil); clear s120
              exact hj5 x11.1 true _ _ h30 (s121.sub (.cons rfl (.cons rfl (.cons rfl (.cons rfl (.cons rfl (.cons rfl (.cons rfl .nil))))))))
            · replace h29 := ite_f hc6 h29
              have h31 := h29; clear h29
              refine wp_skip ?_
              refine in_normal ?_
              refine then_normal ?_
              have s122 := St.drop (A := []) s116; clear s116
              exact hj5 y8 y9 _ _ h31 (s122.sub (.cons rfl (.cons rfl (.cons rfl (.cons rfl (.cons rfl (.cons rfl (.cons rfl .nil))))))))
          · replace h24 := ite_f hc5 h24
            have h32 := h24; clear h24
            refine wp_exit ?_
            refine (then_exit (then_exit (in_here ?_)))
            refine then_normal ?_
            exact hj4 y8 y9 _ _ h32 (s83.sub (.cons rfl (.cons rfl (.cons rfl (.cons rfl (.cons rfl .nil))))))
        refine cond_split s62 (.tmp rfl) (fun hc7 => ?_) (fun hc7 => ?_)
        · replace h17 := ite_t hc7 h17
          have h33 := h17; clear h17
          refine wp_region_lit ?_
          refine seq_op s62 rfl rfl (of_decide_eq_true rfl) (ob_move rfl (.tmp rfl)) fun a123 w123 s123 => ?_; clear s62
          refine seq_op s123 rfl rfl (of_decide_eq_true rfl) (ob_move rfl (.tmp rfl)) fun a124 w124 s124 => ?_; clear s123
          obtain ⟨x12, e_x12, h34⟩ := bind_some h33; clear h33
          refine seq_op s124 rfl rfl (of_decide_eq_true rfl) (ob_indexAddrs rfl Try.underlying60 sz5 (.tmp rfl) (.tmp rfl) e_x12) fun a125 w125 s125 => ?_; clear s124
          refine seq_op s125 rfl rfl (of_decide_eq_true rfl) (ob_loadr rfl tk5 (.tmp rfl)) fun a126 w126 s126 => ?_; clear s125
          refine seq_op s126 rfl rfl (of_decide_eq_true rfl) (ob_conv rfl _ Try.underlying5 Try.underlying3 (.tmp rfl)) fun a127 w127 s127 => ?_; clear s126
          refine seq_op s127 rfl rfl (of_decide_eq_true rfl) (ob_assign rfl (.tmp rfl)) fun a128 w128 s128 => ?_; clear s127
          refine wpList_nil ?_
          refine then_normal ?_
          exact hj3 (IntKind.wrap .i64 x12) _ _ h34 (s128.sub (.cons rfl (.cons rfl (.cons rfl (.cons rfl (.cons rfl .nil))))))
        · replace h17 := ite_f hc7 h17
          have h35 := h17; clear h17
          refine wp_skip ?_
          refine then_normal ?_
          exact hj3 (0 : Int) _ _ h35 (s62.sub (.cons rfl (.cons rfl (.cons rfl (.cons rfl (.cons rfl .nil))))))
      · replace h16 := ite_f hc3 h16
        have h36 := h16; clear h16
        refine wp_exit ?_
        refine (then_exit (then_exit (in_here ?_)))
        refine then_normal ?_
        exact hj1 y2 _ _ h36 (s50.sub (.cons rfl (.cons rfl .nil)))

end Go.Proofs.Ytdlnfgpcnfbjiaa
