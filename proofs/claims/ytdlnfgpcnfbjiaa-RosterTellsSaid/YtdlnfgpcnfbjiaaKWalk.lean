/- Each function's code comes to what its plain function answers. No condition. -/
import Derived.Test.YtdlnfgpcnfbjiaaKWalk3
namespace Go.Proofs.Ytdlnfgpcnfbjiaa
open Go Go.RowKit Go.Proofs.Kit Go.Proofs.Pure
set_option linter.unusedVariables false
set_option linter.unusedSimpArgs false
set_option maxRecDepth 100000
set_option maxHeartbeats 2000000

/- 40 cabal/cabalref16.Set -/
theorem c_cabalref16_Set (k : Nat) (p1 : (List api_Node)) (p2 : (List Int)) (r : Bool) (h0 : cabalref16_Set k p1 p2 = some r) (ok : Ok) (w0 : World) (z0 : Value) (z1 : Value) (u0 : ((ksl k_api_Node).V p1).holds ok w0 z0) (u1 : ((ksl (kint .i64)).V p2).holds ok w0 z1) :
    Gives Try.prog 40 [z0, z1] ok w0 (resFact [kbool.V r]) := by
  unfold cabalref16_Set at h0
  refine enter (N := 72) Try.func40 rfl rfl (of_decide_eq_true rfl) (.cons u0 (.cons u1 .nil)) fun a1 s1 => ?_
  refine wp_seq_k fun K1 hK1 => ?_
  refine wp_region_lit ?_
  refine seq_op s1 rfl rfl (of_decide_eq_true rfl) (ob_assign rfl opd_bool) fun a2 w2 s2 => ?_; clear s1
  refine wpList_nil ?_
  refine then_normal ?_
  refine hK1 _ _ ?_
  have s3 := s2.sub (.cons (t := 0) rfl (.cons (t := 1) rfl .nil)); clear s2
  refine wp_seq_k fun K2 hK2 => ?_
  refine wp_seq_k fun K3 hK3 => ?_
  refine wp_region_lit ?_
  refine seq_op s3 rfl rfl (of_decide_eq_true rfl) (ob_assign rfl (opd_int rfl)) fun a4 w4 s4 => ?_; clear s3
  refine wpList_nil ?_
  refine then_normal ?_
  refine hK3 _ _ ?_
  have s5 := s4.sub (.cons (t := 0) rfl (.cons (t := 1) rfl (.cons (t := 5) rfl .nil))); clear s4
  have hj1 : ∀ (a : Act) (w : World), (cabalref16_Set.j1 k p2 p1) = some r → St ⟨72, w0, ok, []⟩ [] [(0, ((ksl k_api_Node).V p1)), (1, ((ksl (kint .i64)).V p2))] a w → K2 a w := by
    intro a6 w6 h1 s6
    unfold cabalref16_Set.j1 at h1
    refine hK2 _ _ ?_
    refine wp_seq_k fun K4 hK4 => ?_
    refine wp_seq_k fun K5 hK5 => ?_
    refine wp_region_lit ?_
    refine seq_op s6 rfl rfl (of_decide_eq_true rfl) (ob_assign rfl (opd_int rfl)) fun a7 w7 s7 => ?_; clear s6
    refine wpList_nil ?_
    refine then_normal ?_
    refine hK5 _ _ ?_
    have s8 := s7.sub (.cons (t := 0) rfl (.cons (t := 1) rfl (.cons (t := 6) rfl .nil))); clear s7
    have hj2 : ∀ (a : Act) (w : World), (cabalref16_Set.j2 k) = some r → St ⟨72, w0, ok, []⟩ [] [] a w → K4 a w := by
      intro a9 w9 h2 s9
      unfold cabalref16_Set.j2 at h2
      refine hK4 _ _ ?_
      refine wp_seq_k fun K6 hK6 => ?_
      refine wp_region_lit ?_
      refine seq_op s9 rfl rfl (of_decide_eq_true rfl) (ob_assign rfl opd_bool) fun a10 w10 s10 => ?_; clear s9
      refine wpList_nil ?_
      refine then_normal ?_
      refine hK6 _ _ ?_
      have s11 := s10.sub (.cons (t := 4) rfl .nil); clear s10
      refine wp_ret ?_
      obtain rfl := Option.some.inj h2
      exact leave s11 (.inl rfl) rfl (.cons (.tmp rfl) .nil)
    refine wp_block ?_
    refine wp_loop_fuel (fun m (q : Int) => cabalref16_Set.l1 k p2 p1 m q) r (fun _ => rfl) (fun q a w => St ⟨72, w0, ok, []⟩ [] [(0, ((ksl k_api_Node).V p1)), (1, ((ksl (kint .i64)).V p2)), (6, ((kint .i64).V q))] a w) ?_ k (0 : Int) _ _ h1 (s8.sub (.cons rfl (.cons rfl (.cons rfl .nil))))
    rintro n1 y1 a12 w12 h3 s12 K7 hK7
    replace h3 : cabalref16_Set.l1 k p2 p1 (n1 + 1) y1 = some r := h3; rw [cabalref16_Set.l1] at h3
    have h4 := h3; clear h3
    refine wp_seq_k fun K8 hK8 => ?_
    refine wp_seq_k fun K9 hK9 => ?_
    refine wp_region_lit ?_
    refine seq_op s12 rfl rfl (of_decide_eq_true rfl) (ob_move rfl (.tmp rfl)) fun a13 w13 s13 => ?_; clear s12
    refine seq_op s13 rfl rfl (of_decide_eq_true rfl) (ob_move rfl (.tmp rfl)) fun a14 w14 s14 => ?_; clear s13
    refine seq_op s14 rfl rfl (of_decide_eq_true rfl) (ob_lens rfl Try.underlying41 (.tmp rfl)) fun a15 w15 s15 => ?_; clear s14
    refine seq_op s15 rfl rfl (of_decide_eq_true rfl) (ob_lss rfl (.tmp rfl) (.tmp rfl)) fun a16 w16 s16 => ?_; clear s15
    refine wpList_nil ?_
    refine then_normal ?_
    refine hK9 _ _ ?_
    have s17 := s16.sub (.cons (t := 0) rfl (.cons (t := 1) rfl (.cons (t := 6) rfl (.cons (t := 48) rfl .nil)))); clear s16
    refine cond_split s17 (.tmp rfl) (fun hc1 => ?_) (fun hc1 => ?_)
    · replace h4 := ite_t hc1 h4
      have h5 := h4; clear h4
      refine wp_skip ?_
      refine then_normal ?_
      refine hK8 _ _ ?_
      have s18 := s17.sub (.cons (t := 0) rfl (.cons (t := 1) rfl (.cons (t := 6) rfl .nil))); clear s17
      refine wp_seq_k fun K10 hK10 => ?_
      have hj3 : ∀ (a : Act) (w : World), (cabalref16_Set.j3 k y1 (cabalref16_Set.l1 k p2 p1 n1)) = some r → St ⟨72, w0, ok, []⟩ [] [(0, ((ksl k_api_Node).V p1)), (1, ((ksl (kint .i64)).V p2)), (6, ((kint .i64).V y1))] a w → K10 a w := by
        intro a19 w19 h6 s19
        unfold cabalref16_Set.j3 at h6
        refine hK10 _ _ ?_
        refine wp_region_lit ?_
        refine seq_op s19 rfl rfl (of_decide_eq_true rfl) (ob_move rfl (.tmp rfl)) fun a20 w20 s20 => ?_; clear s19
        refine seq_op s20 rfl rfl (of_decide_eq_true rfl) (ob_add rfl (.tmp rfl) (opd_int rfl)) fun a21 w21 s21 => ?_; clear s20
        refine seq_op s21 rfl rfl (of_decide_eq_true rfl) (ob_assign rfl (.tmp rfl)) fun a22 w22 s22 => ?_; clear s21
        refine wpList_nil ?_
        refine then_normal ?_
        exact hK7 (iadd .i64 y1 (1 : Int)) _ _ h6 (s22.sub (.cons rfl (.cons rfl (.cons rfl .nil))))
      refine wp_block ?_
      refine wp_seq_k fun K11 hK11 => ?_
      refine wp_region_lit ?_
      refine seq_op s18 rfl rfl (of_decide_eq_true rfl) (ob_move rfl (.tmp rfl)) fun a23 w23 s23 => ?_; clear s18
      refine seq_op s23 rfl rfl (of_decide_eq_true rfl) (ob_move rfl (.tmp rfl)) fun a24 w24 s24 => ?_; clear s23
      refine seq_op s24 rfl rfl (of_decide_eq_true rfl) (ob_move rfl (.tmp rfl)) fun a25 w25 s25 => ?_; clear s24
      obtain ⟨x1, e_x1, h7⟩ := bind_some h5; clear h5
      refine seq_op s25 rfl rfl (of_decide_eq_true rfl) (ob_indexAddrs rfl Try.underlying41 sz3 (.tmp rfl) (.tmp rfl) e_x1) fun a26 w26 s26 => ?_; clear s25
      refine seq_op s26 rfl rfl (of_decide_eq_true rfl) (ob_loadr rfl tk3 (.tmp rfl)) fun a27 w27 s27 => ?_; clear s26
      obtain ⟨x2, e_x2, h8⟩ := bind_some h7; clear h7
      refine seq_op s27 rfl rfl (of_decide_eq_true rfl) (ob_indexAddrs rfl Try.underlying22 sz46 (.tmp rfl) (.tmp rfl) e_x2) fun a28 w28 s28 => ?_; clear s27
      refine seq_op s28 rfl rfl (of_decide_eq_true rfl) (ob_fieldAddrr rfl Try.underlying46 rfl sz41 (by decide) (.tmp rfl) (lg_api_Node_Past x2)) fun a29 w29 s29 => ?_; clear s28
      refine seq_op s29 rfl rfl (of_decide_eq_true rfl) (ob_loadr rfl tk41 (.tmp rfl)) fun a30 w30 s30 => ?_; clear s29
      refine seq_op s30 rfl rfl (of_decide_eq_true rfl) (ob_assign rfl (.tmp rfl)) fun a31 w31 s31 => ?_; clear s30
      refine wpList_nil ?_
      refine then_normal ?_
      refine hK11 _ _ ?_
      have s32 := s31.sub (.cons (t := 0) rfl (.cons (t := 1) rfl (.cons (t := 6) rfl (.cons (t := 7) rfl .nil)))); clear s31
      refine wp_seq_k fun K12 hK12 => ?_
      refine wp_region_lit ?_
      refine seq_op s32 rfl rfl (of_decide_eq_true rfl) (ob_assign rfl (opd_int rfl)) fun a33 w33 s33 => ?_; clear s32
      refine wpList_nil ?_
      refine then_normal ?_
      refine hK12 _ _ ?_
      have s34 := s33.sub (.cons (t := 0) rfl (.cons (t := 1) rfl (.cons (t := 6) rfl (.cons (t := 7) rfl (.cons (t := 8) rfl .nil))))); clear s33
      refine wp_block ?_
      refine wp_loop_fuel (fun m (q : Int) => cabalref16_Set.l2 k x2 p2 y1 (cabalref16_Set.l1 k p2 p1 n1) m q) r (fun _ => rfl) (fun q a w => St ⟨72, w0, ok, []⟩ [] [(0, ((ksl k_api_Node).V p1)), (1, ((ksl (kint .i64)).V p2)), (6, ((kint .i64).V y1)), (7, ((ksl (kint .i64)).V x2.Past)), (8, ((kint .i64).V q))] a w) ?_ k (0 : Int) _ _ h8 (s34.sub (.cons rfl (.cons rfl (.cons rfl (.cons rfl (.cons rfl .nil))))))
      rintro n2 y2 a35 w35 h9 s35 K13 hK13
      replace h9 : cabalref16_Set.l2 k x2 p2 y1 (cabalref16_Set.l1 k p2 p1 n1) (n2 + 1) y2 = some r := h9; rw [cabalref16_Set.l2] at h9
      have h10 := h9; clear h9
      refine wp_seq_k fun K14 hK14 => ?_
      refine wp_seq_k fun K15 hK15 => ?_
      refine wp_region_lit ?_
      refine seq_op s35 rfl rfl (of_decide_eq_true rfl) (ob_move rfl (.tmp rfl)) fun a36 w36 s36 => ?_; clear s35
      refine seq_op s36 rfl rfl (of_decide_eq_true rfl) (ob_move rfl (.tmp rfl)) fun a37 w37 s37 => ?_; clear s36
      refine seq_op s37 rfl rfl (of_decide_eq_true rfl) (ob_lens rfl Try.underlying41 (.tmp rfl)) fun a38 w38 s38 => ?_; clear s37
      refine seq_op s38 rfl rfl (of_decide_eq_true rfl) (ob_lss rfl (.tmp rfl) (.tmp rfl)) fun a39 w39 s39 => ?_; clear s38
      refine wpList_nil ?_
      refine then_normal ?_
      refine hK15 _ _ ?_
      have s40 := s39.sub (.cons (t := 0) rfl (.cons (t := 1) rfl (.cons (t := 6) rfl (.cons (t := 7) rfl (.cons (t := 8) rfl (.cons (t := 62) rfl .nil)))))); clear s39
      refine cond_split s40 (.tmp rfl) (fun hc2 => ?_) (fun hc2 => ?_)
      · replace h10 := ite_t hc2 h10
        have h11 := h10; clear h10
        refine wp_skip ?_
        refine then_normal ?_
        refine hK14 _ _ ?_
        have s41 := s40.sub (.cons (t := 0) rfl (.cons (t := 1) rfl (.cons (t := 6) rfl (.cons (t := 7) rfl (.cons (t := 8) rfl .nil))))); clear s40
        refine wp_seq_k fun K16 hK16 => ?_
        refine wp_block ?_
        refine wp_seq_k fun K17 hK17 => ?_
        refine wp_region_lit ?_
        refine seq_op s41 rfl rfl (of_decide_eq_true rfl) (ob_move rfl (.tmp rfl)) fun a42 w42 s42 => ?_; clear s41
        refine seq_op s42 rfl rfl (of_decide_eq_true rfl) (ob_move rfl (.tmp rfl)) fun a43 w43 s43 => ?_; clear s42
        refine seq_op s43 rfl rfl (of_decide_eq_true rfl) (ob_move rfl (.tmp rfl)) fun a44 w44 s44 => ?_; clear s43
        obtain ⟨x3, e_x3, h12⟩ := bind_some h11; clear h11
        refine seq_op s44 rfl rfl (of_decide_eq_true rfl) (ob_indexAddrs rfl Try.underlying41 sz3 (.tmp rfl) (.tmp rfl) e_x3) fun a45 w45 s45 => ?_; clear s44
        refine seq_op s45 rfl rfl (of_decide_eq_true rfl) (ob_loadr rfl tk3 (.tmp rfl)) fun a46 w46 s46 => ?_; clear s45
        obtain ⟨x4, e_x4, h13⟩ := bind_some h12; clear h12
        refine seq_op s46 rfl rfl (of_decide_eq_true rfl) (ob_callD (args := [_, _]) rfl .direct hb44 (fun a w s fs gs hf hg => by obtain rfl := hf.unnil; obtain rfl := hg.unnil; exact c_cabalref15_In k _ _ _ e_x4 _ _ _ _ (s.arg (.tmp rfl)) (s.arg (.tmp rfl)))) fun a47 w47 s47 => ?_; clear s46
        refine seq_op s47 rfl rfl (of_decide_eq_true rfl) (ob_not rfl (.tmp rfl)) fun a48 w48 s48 => ?_; clear s47
        refine wpList_nil ?_
        refine then_normal ?_
        refine hK17 _ _ ?_
        have s49 := s48.sub (.cons (t := 0) rfl (.cons (t := 1) rfl (.cons (t := 6) rfl (.cons (t := 7) rfl (.cons (t := 8) rfl (.cons (t := 71) rfl .nil)))))); clear s48
        refine cond_split s49 (.tmp rfl) (fun hc3 => ?_) (fun hc3 => ?_)
        · replace h13 := ite_t hc3 h13
          have h14 := h13; clear h13
          refine wp_seq_k fun K18 hK18 => ?_
          refine wp_region_lit ?_
          refine seq_op s49 rfl rfl (of_decide_eq_true rfl) (ob_assign rfl opd_bool) fun a50 w50 s50 => ?_; clear s49
          refine wpList_nil ?_
          refine then_normal ?_
          refine hK18 _ _ ?_
          have s51 := s50.sub (.cons (t := 4) rfl .nil); clear s50
          refine wp_ret ?_
          obtain rfl := Option.some.inj h14
          exact leave s51 (.inl rfl) rfl (.cons (.tmp rfl) .nil)
        · replace h13 := ite_f hc3 h13
          have h15 := h13; clear h13
          refine wp_skip ?_
          refine in_normal ?_
          refine then_normal ?_
          refine hK16 _ _ ?_
          have s52 := s49.sub (.cons (t := 0) rfl (.cons (t := 1) rfl (.cons (t := 6) rfl (.cons (t := 7) rfl (.cons (t := 8) rfl .nil))))); clear s49
          refine wp_region_lit ?_
          refine seq_op s52 rfl rfl (of_decide_eq_true rfl) (ob_move rfl (.tmp rfl)) fun a53 w53 s53 => ?_; clear s52
          refine seq_op s53 rfl rfl (of_decide_eq_true rfl) (ob_add rfl (.tmp rfl) (opd_int rfl)) fun a54 w54 s54 => ?_; clear s53
          refine seq_op s54 rfl rfl (of_decide_eq_true rfl) (ob_assign rfl (.tmp rfl)) fun a55 w55 s55 => ?_; clear s54
          refine wpList_nil ?_
          refine then_normal ?_
          exact hK13 (iadd .i64 y2 (1 : Int)) _ _ h15 (s55.sub (.cons rfl (.cons rfl (.cons rfl (.cons rfl (.cons rfl .nil))))))
      · replace h10 := ite_f hc2 h10
        have h16 := h10; clear h10
        refine wp_exit ?_
        refine (then_exit (then_exit (in_here ?_)))
        refine in_normal ?_
        refine then_normal ?_
        exact hj3 _ _ h16 (s40.sub (.cons rfl (.cons rfl (.cons rfl .nil))))
    · replace h4 := ite_f hc1 h4
      have h17 := h4; clear h4
      refine wp_exit ?_
      refine (then_exit (then_exit (in_here ?_)))
      refine then_normal ?_
      exact hj2 _ _ h17 (s17.sub .nil)
  refine wp_block ?_
  refine wp_loop_fuel (fun m (q : Int) => cabalref16_Set.l3 k p2 p1 m q) r (fun _ => rfl) (fun q a w => St ⟨72, w0, ok, []⟩ [] [(0, ((ksl k_api_Node).V p1)), (1, ((ksl (kint .i64)).V p2)), (5, ((kint .i64).V q))] a w) ?_ k (0 : Int) _ _ h0 (s5.sub (.cons rfl (.cons rfl (.cons rfl .nil))))
  rintro n3 y3 a56 w56 h18 s56 K19 hK19
  replace h18 : cabalref16_Set.l3 k p2 p1 (n3 + 1) y3 = some r := h18; rw [cabalref16_Set.l3] at h18
  have h19 := h18; clear h18
  refine wp_seq_k fun K20 hK20 => ?_
  refine wp_seq_k fun K21 hK21 => ?_
  refine wp_region_lit ?_
  refine seq_op s56 rfl rfl (of_decide_eq_true rfl) (ob_move rfl (.tmp rfl)) fun a57 w57 s57 => ?_; clear s56
  refine seq_op s57 rfl rfl (of_decide_eq_true rfl) (ob_move rfl (.tmp rfl)) fun a58 w58 s58 => ?_; clear s57
  refine seq_op s58 rfl rfl (of_decide_eq_true rfl) (ob_lens rfl Try.underlying41 (.tmp rfl)) fun a59 w59 s59 => ?_; clear s58
  refine seq_op s59 rfl rfl (of_decide_eq_true rfl) (ob_lss rfl (.tmp rfl) (.tmp rfl)) fun a60 w60 s60 => ?_; clear s59
  refine wpList_nil ?_
  refine then_normal ?_
  refine hK21 _ _ ?_
  have s61 := s60.sub (.cons (t := 0) rfl (.cons (t := 1) rfl (.cons (t := 5) rfl (.cons (t := 12) rfl .nil)))); clear s60
  refine cond_split s61 (.tmp rfl) (fun hc4 => ?_) (fun hc4 => ?_)
  · replace h19 := ite_t hc4 h19
    have h20 := h19; clear h19
    refine wp_skip ?_
    refine then_normal ?_
    refine hK20 _ _ ?_
    have s62 := s61.sub (.cons (t := 0) rfl (.cons (t := 1) rfl (.cons (t := 5) rfl .nil))); clear s61
    refine wp_seq_k fun K22 hK22 => ?_
    refine wp_block ?_
    refine wp_seq_k fun K23 hK23 => ?_
    obtain ⟨x5, e_x5, h21⟩ := bind_some h20; clear h20
    obtain ⟨x6, e_x6, h22⟩ := bind_some h21; clear h21
    obtain ⟨x7, e_x7, h23⟩ := bind_some h22; clear h22; replace e_x7 := Option.some.inj e_x7
    obtain ⟨x8, e_x8, h24⟩ := bind_some h23; clear h23
    obtain ⟨x9, e_x9, h25⟩ := bind_some h24; clear h24
    refine wp_goes (Fs := [((ksl (kint .i64)).V p2), ((kint .i64).V y3), (ptrTo (kint .i64) x5), ((kint .i64).V x5), (kbool.V (decide (x5 < (0 : Int)))), (kbool.V (decide (x5 < (0 : Int)))), (Fact.when ((decide (x5 < (0 : Int))) == false) ((ksl (kint .i64)).V p2)), (Fact.when ((decide (x5 < (0 : Int))) == false) ((kint .i64).V y3)), (Fact.when ((decide (x5 < (0 : Int))) == false) (ptrTo (kint .i64) x6)), (Fact.when ((decide (x5 < (0 : Int))) == false) ((kint .i64).V x6)), (Fact.when ((decide (x5 < (0 : Int))) == false) ((ksl k_api_Node).V p1)), (Fact.when ((decide (x5 < (0 : Int))) == false) ((kint .i64).V (p1.length : Int))), (Fact.when ((decide (x5 < (0 : Int))) == false) (kbool.V (decide (x6 ≥ (p1.length : Int))))), (kbool.V x7), (kbool.V x7), (Fact.when (x7 == false) ((kint .i64).V y3)), (Fact.when (x7 == false) (kbool.V (decide (y3 > (0 : Int))))), (Fact.when (x7 == false) (kbool.V (decide (y3 > (0 : Int))))), (Fact.when ((x7 == false) && ((decide (y3 > (0 : Int))) == true)) ((ksl (kint .i64)).V p2)), (Fact.when ((x7 == false) && ((decide (y3 > (0 : Int))) == true)) ((kint .i64).V y3)), (Fact.when ((x7 == false) && ((decide (y3 > (0 : Int))) == true)) ((kint .i64).V (isub .i64 y3 (1 : Int)))), (Fact.when ((x7 == false) && ((decide (y3 > (0 : Int))) == true)) (ptrTo (kint .i64) x8)), (Fact.when ((x7 == false) && ((decide (y3 > (0 : Int))) == true)) ((kint .i64).V x8)), (Fact.when ((x7 == false) && ((decide (y3 > (0 : Int))) == true)) ((ksl (kint .i64)).V p2)), (Fact.when ((x7 == false) && ((decide (y3 > (0 : Int))) == true)) ((kint .i64).V y3)), (Fact.when ((x7 == false) && ((decide (y3 > (0 : Int))) == true)) (ptrTo (kint .i64) x9)), (Fact.when ((x7 == false) && ((decide (y3 > (0 : Int))) == true)) ((kint .i64).V x9))]) (bits := [0, 0, 3, 7, 15, 31, 63, 63, 255, 511, 63, 1087, 4095, 8191, 16383, 32767, 65535, 131071, 262143, 262143, 786431, 2097151, 4194303, 262143, 262143, 25427967, 58982399, 134217727, 268435455, 536870911]) (m := 27) (todo := 0) mx s62 ?_; clear s62
    refine goes_last (by kernel_rfl) rfl (opsS_cons (.plain _ (Av.old (t := 1) rfl rfl Av.nil) rfl rfl (ob_move rfl (.tmp rfl))) (opsS_cons (.plain _ (Av.old (t := 5) rfl rfl Av.nil) rfl rfl (ob_move rfl (.tmp rfl))) (opsS_cons (.plain _ (Av.new (j := 0) rfl rfl rfl (Av.new (j := 1) rfl rfl rfl Av.nil)) rfl rfl (ob_indexAddrs rfl Try.underlying41 sz3 (.tmp rfl) (.tmp rfl) e_x5)) (opsS_cons (.plain _ (Av.new (j := 2) rfl rfl rfl Av.nil) rfl rfl (ob_loadr rfl tk3 (.tmp rfl))) (opsS_cons (.plain _ (Av.new (j := 3) rfl rfl rfl Av.nil) rfl rfl (ob_lss rfl (.tmp rfl) (opd_int rfl))) (opsS_cons (.plain _ (Av.new (j := 4) rfl rfl rfl Av.nil) rfl rfl (ob_move rfl (.tmp rfl))) (opsS_cons (.guarded _ (Av.old (t := 1) rfl rfl (Av.new (j := 5) rfl rfl rfl Av.nil)) rfl rfl rfl rfl (fun hb => ob_move rfl (.tmp rfl))) (opsS_cons (.guarded _ (Av.old (t := 5) rfl rfl (Av.new (j := 5) rfl rfl rfl Av.nil)) rfl rfl rfl rfl (fun hb => ob_move rfl (.tmp rfl))) (opsS_cons (.guarded _ (Av.new (j := 5) rfl rfl rfl (Av.new (j := 6) rfl rfl rfl (Av.new (j := 7) rfl rfl rfl Av.nil))) rfl rfl rfl rfl (fun hb => (Ob.uncond (t := 22) hb rfl ((Ob.uncond (t := 21) hb rfl (ob_indexAddrs rfl Try.underlying41 sz3 (.tmp rfl) (.tmp rfl) (ite_t hb e_x6))))))) (opsS_cons (.guarded _ (Av.new (j := 5) rfl rfl rfl (Av.new (j := 8) rfl rfl rfl Av.nil)) rfl rfl rfl rfl (fun hb => (Ob.uncond (t := 23) hb rfl (ob_loadr rfl tk3 (.tmp rfl))))) (opsS_cons (.guarded _ (Av.old (t := 0) rfl rfl (Av.new (j := 5) rfl rfl rfl Av.nil)) rfl rfl rfl rfl (fun hb => ob_move rfl (.tmp rfl))) (opsS_cons (.guarded _ (Av.new (j := 5) rfl rfl rfl (Av.new (j := 10) rfl rfl rfl Av.nil)) rfl rfl rfl rfl (fun hb => (Ob.uncond (t := 25) hb rfl (ob_lens rfl Try.underlying22 (.tmp rfl))))) (opsS_cons (.guarded _ (Av.new (j := 5) rfl rfl rfl (Av.new (j := 9) rfl rfl rfl (Av.new (j := 11) rfl rfl rfl Av.nil))) rfl rfl rfl rfl (fun hb => (Ob.uncond (t := 26) hb rfl ((Ob.uncond (t := 24) hb rfl (ob_geq rfl (.tmp rfl) (.tmp rfl))))))) (opsS_cons (.plain _ (Av.new (j := 5) rfl rfl rfl (Av.new (j := 12) rfl rfl rfl Av.nil)) rfl rfl ((ob_or2 rfl (.tmp rfl) opd_bool (.tmp rfl)).nm e_x7)) (opsS_cons (.plain _ (Av.new (j := 13) rfl rfl rfl Av.nil) rfl rfl (ob_move rfl (.tmp rfl))) (opsS_cons (.guarded _ (Av.old (t := 5) rfl rfl (Av.new (j := 14) rfl rfl rfl Av.nil)) rfl rfl rfl rfl (fun hb => ob_move rfl (.tmp rfl))) (opsS_cons (.guarded _ (Av.new (j := 14) rfl rfl rfl (Av.new (j := 15) rfl rfl rfl Av.nil)) rfl rfl rfl rfl (fun hb => (Ob.uncond (t := 30) hb rfl (ob_gtr rfl (.tmp rfl) (opd_int rfl))))) (opsS_cons (.guarded _ (Av.new (j := 14) rfl rfl rfl (Av.new (j := 16) rfl rfl rfl Av.nil)) rfl rfl rfl rfl (fun hb => (Ob.uncond (t := 31) hb rfl (ob_move rfl (.tmp rfl))))) (opsS_cons (.guarded2 _ (Av.old (t := 1) rfl rfl (Av.new (j := 17) rfl rfl rfl Av.nil)) rfl rfl rfl rfl (fun hb => ob_move rfl (.tmp rfl))) (opsS_cons (.guarded2 _ (Av.old (t := 5) rfl rfl (Av.new (j := 17) rfl rfl rfl Av.nil)) rfl rfl rfl rfl (fun hb => ob_move rfl (.tmp rfl))) (opsS_cons (.guarded2 _ (Av.new (j := 17) rfl rfl rfl (Av.new (j := 19) rfl rfl rfl Av.nil)) rfl rfl rfl rfl (fun hb => (Ob.uncond (t := 34) hb rfl (ob_sub rfl (.tmp rfl) (opd_int rfl))))) (opsS_cons (.guarded2 _ (Av.new (j := 17) rfl rfl rfl (Av.new (j := 18) rfl rfl rfl (Av.new (j := 20) rfl rfl rfl Av.nil))) rfl rfl rfl rfl (fun hb => (Ob.uncond (t := 35) hb rfl ((Ob.uncond (t := 33) hb rfl (ob_indexAddrs rfl Try.underlying41 sz3 (.tmp rfl) (.tmp rfl) (ite_t hb e_x8))))))) (opsS_cons (.guarded2 _ (Av.new (j := 17) rfl rfl rfl (Av.new (j := 21) rfl rfl rfl Av.nil)) rfl rfl rfl rfl (fun hb => (Ob.uncond (t := 36) hb rfl (ob_loadr rfl tk3 (.tmp rfl))))) (opsS_cons (.guarded2 _ (Av.old (t := 1) rfl rfl (Av.new (j := 17) rfl rfl rfl Av.nil)) rfl rfl rfl rfl (fun hb => ob_move rfl (.tmp rfl))) (opsS_cons (.guarded2 _ (Av.old (t := 5) rfl rfl (Av.new (j := 17) rfl rfl rfl Av.nil)) rfl rfl rfl rfl (fun hb => ob_move rfl (.tmp rfl))) (opsS_cons (.guarded2 _ (Av.new (j := 17) rfl rfl rfl (Av.new (j := 23) rfl rfl rfl (Av.new (j := 24) rfl rfl rfl Av.nil))) rfl rfl rfl rfl (fun hb => (Ob.uncond (t := 39) hb rfl ((Ob.uncond (t := 38) hb rfl (ob_indexAddrs rfl Try.underlying41 sz3 (.tmp rfl) (.tmp rfl) (ite_t hb e_x9))))))) (opsS_cons (.guarded2 _ (Av.new (j := 17) rfl rfl rfl (Av.new (j := 25) rfl rfl rfl Av.nil)) rfl rfl rfl rfl (fun hb => (Ob.uncond (t := 40) hb rfl (ob_loadr rfl tk3 (.tmp rfl))))) opsS_nil))))))))))))))))))))))))))) (out_old (t := 0) rfl rfl (out_old (t := 1) rfl rfl (out_old (t := 5) rfl rfl (out_new (i := 14) (by decide) rfl rfl (out_new (i := 17) (by decide) rfl rfl (out_new (i := 22) (by decide) rfl rfl (out_new (i := 26) (by decide) rfl rfl out_nil))))))) fun a63 w63 s63 => ?_
    refine seq_opg2 s63 rfl rfl rfl rfl (of_decide_eq_true rfl) (fun hb => (Ob.uncond (t := 41) hb rfl ((Ob.uncond (t := 37) hb rfl (ob_geq rfl (.tmp rfl) (.tmp rfl)))))) fun a64 w64 s64 => ?_; clear s63
    refine seq_opg s64 rfl rfl rfl rfl (of_decide_eq_true rfl) (fun hb => (Ob.uncond (t := 32) hb rfl (ob_and3 hb rfl (.tmp rfl) (.tmp rfl) opd_bool))) fun a65 w65 s65 => ?_; clear s64
    obtain ⟨x10, e_x10, h26⟩ := bind_some h25; clear h25; replace e_x10 := Option.some.inj e_x10
    refine seq_op s65 rfl rfl (of_decide_eq_true rfl) ((ob_or2 rfl (.tmp rfl) opd_bool (.tmp rfl)).nm e_x10) fun a66 w66 s66 => ?_; clear s65
    refine wpList_nil ?_
    refine then_normal ?_
    refine hK23 _ _ ?_
    have s67 := s66.sub (.cons (t := 0) rfl (.cons (t := 1) rfl (.cons (t := 5) rfl (.cons (t := 44) rfl .nil)))); clear s66
    refine cond_split s67 (.tmp rfl) (fun hc5 => ?_) (fun hc5 => ?_)
    · replace h26 := ite_t hc5 h26
      have h27 := h26; clear h26
      refine wp_seq_k fun K24 hK24 => ?_
      refine wp_region_lit ?_
      refine seq_op s67 rfl rfl (of_decide_eq_true rfl) (ob_assign rfl opd_bool) fun a68 w68 s68 => ?_; clear s67
      refine wpList_nil ?_
      refine then_normal ?_
      refine hK24 _ _ ?_
      have s69 := s68.sub (.cons (t := 4) rfl .nil); clear s68
      refine wp_ret ?_
      obtain rfl := Option.some.inj h27
      exact leave s69 (.inl rfl) rfl (.cons (.tmp rfl) .nil)
    · replace h26 := ite_f hc5 h26
      have h28 := h26; clear h26
      refine wp_skip ?_
      refine in_normal ?_
      refine then_normal ?_
      refine hK22 _ _ ?_
      have s70 := s67.sub (.cons (t := 0) rfl (.cons (t := 1) rfl (.cons (t := 5) rfl .nil))); clear s67
      refine wp_region_lit ?_
      refine seq_op s70 rfl rfl (of_decide_eq_true rfl) (ob_move rfl (.tmp rfl)) fun a71 w71 s71 => ?_; clear s70
      refine seq_op s71 rfl rfl (of_decide_eq_true rfl) (ob_add rfl (.tmp rfl) (opd_int rfl)) fun a72 w72 s72 => ?_; clear s71
      refine seq_op s72 rfl rfl (of_decide_eq_true rfl) (ob_assign rfl (.tmp rfl)) fun a73 w73 s73 => ?_; clear s72
      refine wpList_nil ?_
      refine then_normal ?_
      exact hK19 (iadd .i64 y3 (1 : Int)) _ _ h28 (s73.sub (.cons rfl (.cons rfl (.cons rfl .nil))))
  · replace h19 := ite_f hc4 h19
    have h29 := h19; clear h19
    refine wp_exit ?_
    refine (then_exit (then_exit (in_here ?_)))
    refine then_normal ?_
    exact hj1 _ _ h29 (s61.sub (.cons rfl (.cons rfl .nil)))

/- 6 cabal/caballaw16.RosterTells -/
theorem c_caballaw16_RosterTells (k : Nat) (p1 : (List api_Node)) (p2 : (List Int)) (r : Bool) (h0 : caballaw16_RosterTells k p1 p2 = some r) (ok : Ok) (w0 : World) (z0 : Value) (z1 : Value) (u0 : ((ksl k_api_Node).V p1).holds ok w0 z0) (u1 : ((ksl (kint .i64)).V p2).holds ok w0 z1) :
    Gives Try.prog 6 [z0, z1] ok w0 (resFact [kbool.V r]) := by
  unfold caballaw16_RosterTells at h0
  refine enter (N := 75) Try.func6 rfl rfl (of_decide_eq_true rfl) (.cons u0 (.cons u1 .nil)) fun a1 s1 => ?_
  refine wp_seq_k fun K1 hK1 => ?_
  refine wp_region_lit ?_
  refine seq_op s1 rfl rfl (of_decide_eq_true rfl) (ob_assign rfl opd_bool) fun a2 w2 s2 => ?_; clear s1
  refine wpList_nil ?_
  refine then_normal ?_
  refine hK1 _ _ ?_
  have s3 := s2.sub (.cons (t := 0) rfl (.cons (t := 1) rfl .nil)); clear s2
  refine wp_seq_k fun K2 hK2 => ?_
  refine wp_seq_k fun K3 hK3 => ?_
  refine wp_region_lit ?_
  obtain ⟨x1, e_x1, h1⟩ := bind_some h0; clear h0
  refine seq_op s3 rfl rfl (of_decide_eq_true rfl) (ob_callD (args := []) rfl .direct hb35 (fun a w s fs gs hf hg => by obtain rfl := hf.unnil; obtain rfl := hg.unnil; exact c_caballaw16_alive k _ e_x1 _ _)) fun a4 w4 s4 => ?_; clear s3
  refine seq_op s4 rfl rfl (of_decide_eq_true rfl) (ob_not rfl (.tmp rfl)) fun a5 w5 s5 => ?_; clear s4
  refine wpList_nil ?_
  refine then_normal ?_
  refine hK3 _ _ ?_
  have s6 := s5.sub (.cons (t := 0) rfl (.cons (t := 1) rfl (.cons (t := 9) rfl .nil))); clear s5
  refine cond_split s6 (.tmp rfl) (fun hc1 => ?_) (fun hc1 => ?_)
  · replace h1 := ite_t hc1 h1
    have h2 := h1; clear h1
    refine wp_seq_k fun K4 hK4 => ?_
    refine wp_region_lit ?_
    refine seq_op s6 rfl rfl (of_decide_eq_true rfl) (ob_assign rfl opd_bool) fun a7 w7 s7 => ?_; clear s6
    refine wpList_nil ?_
    refine then_normal ?_
    refine hK4 _ _ ?_
    have s8 := s7.sub (.cons (t := 4) rfl .nil); clear s7
    refine wp_ret ?_
    obtain rfl := Option.some.inj h2
    exact leave s8 (.inl rfl) rfl (.cons (.tmp rfl) .nil)
  · replace h1 := ite_f hc1 h1
    have h3 := h1; clear h1
    refine wp_skip ?_
    refine then_normal ?_
    refine hK2 _ _ ?_
    have s9 := s6.sub (.cons (t := 0) rfl (.cons (t := 1) rfl .nil)); clear s6
    refine wp_seq_k fun K5 hK5 => ?_
    refine wp_seq_k fun K6 hK6 => ?_
    refine wp_region_lit ?_
    refine seq_op s9 rfl rfl (of_decide_eq_true rfl) (ob_move rfl (.tmp rfl)) fun a10 w10 s10 => ?_; clear s9
    obtain ⟨x2, e_x2, h4⟩ := bind_some h3; clear h3
    refine seq_op s10 rfl rfl (of_decide_eq_true rfl) (ob_callD (args := [_]) rfl .direct hb23 (fun a w s fs gs hf hg => by obtain rfl := hf.unnil; obtain rfl := hg.unnil; exact c_cabalref15_Great k _ _ e_x2 _ _ _ (s.arg (.tmp rfl)))) fun a11 w11 s11 => ?_; clear s10
    refine seq_op s11 rfl rfl (of_decide_eq_true rfl) (ob_move rfl (.tmp rfl)) fun a12 w12 s12 => ?_; clear s11
    refine seq_opg s12 rfl rfl rfl rfl (of_decide_eq_true rfl) (fun hb => ob_move rfl (.tmp rfl)) fun a13 w13 s13 => ?_; clear s12
    refine seq_opg s13 rfl rfl rfl rfl (of_decide_eq_true rfl) (fun hb => (Ob.uncond (t := 13) hb rfl (ob_lens rfl Try.underlying41 (.tmp rfl)))) fun a14 w14 s14 => ?_; clear s13
    refine seq_opg s14 rfl rfl rfl rfl (of_decide_eq_true rfl) (fun hb => (Ob.uncond (t := 14) hb rfl (ob_gtr rfl (.tmp rfl) (opd_int rfl)))) fun a15 w15 s15 => ?_; clear s14
    refine seq_op s15 rfl rfl (of_decide_eq_true rfl) (ob_or2 rfl (.tmp rfl) opd_bool (.tmp rfl)) fun a16 w16 s16 => ?_; clear s15
    refine wpList_nil ?_
    refine then_normal ?_
    refine hK6 _ _ ?_
    have s17 := s16.sub (.cons (t := 0) rfl (.cons (t := 1) rfl (.cons (t := 16) rfl .nil))); clear s16
    refine cond_split s17 (.tmp rfl) (fun hc2 => ?_) (fun hc2 => ?_)
    · replace h4 := ite_t hc2 h4
      have h5 := h4; clear h4
      refine wp_seq_k fun K7 hK7 => ?_
      refine wp_region_lit ?_
      obtain ⟨x3, e_x3, h6⟩ := bind_some h5; clear h5
      refine seq_op s17 rfl rfl (of_decide_eq_true rfl) (ob_callD (args := []) rfl .direct hb35 (fun a w s fs gs hf hg => by obtain rfl := hf.unnil; obtain rfl := hg.unnil; exact c_caballaw16_alive k _ e_x3 _ _)) fun a18 w18 s18 => ?_; clear s17
      refine seq_op s18 rfl rfl (of_decide_eq_true rfl) (ob_assign rfl (.tmp rfl)) fun a19 w19 s19 => ?_; clear s18
      refine wpList_nil ?_
      refine then_normal ?_
      refine hK7 _ _ ?_
      have s20 := s19.sub (.cons (t := 4) rfl .nil); clear s19
      refine wp_ret ?_
      obtain rfl := Option.some.inj h6
      exact leave s20 (.inl rfl) rfl (.cons (.tmp rfl) .nil)
    · replace h4 := ite_f hc2 h4
      have h7 := h4; clear h4
      refine wp_skip ?_
      refine then_normal ?_
      refine hK5 _ _ ?_
      have s21 := s17.sub (.cons (t := 0) rfl (.cons (t := 1) rfl .nil)); clear s17
      refine wp_seq_k fun K8 hK8 => ?_
      refine wp_region_lit ?_
      refine seq_op s21 rfl rfl (of_decide_eq_true rfl) (ob_move rfl (.tmp rfl)) fun a22 w22 s22 => ?_; clear s21
      refine seq_op s22 rfl rfl (of_decide_eq_true rfl) (ob_move rfl (.tmp rfl)) fun a23 w23 s23 => ?_; clear s22
      obtain ⟨x4, e_x4, h8⟩ := bind_some h7; clear h7
      refine seq_opx (B' := (fun v1 : Value => [RowF v1 3 (kint .i64) x4.1])) s23 rfl rfl (of_decide_eq_true rfl) (ob_callL (args := [_, _]) (L := []) rfl .direct hb36 (List.Perm.refl _) (fun a w s fs gs hf hg => by obtain rfl := hf.unnil; obtain rfl := hg.unnil; exact c_roster_Of k _ _ _ e_x4 _ _ _ _ (s.arg (.tmp rfl)) (s.arg (.tmp rfl))) (by exact fun _ => rfl)) fun v1 a24 w24 s24 => ?_; clear s23
      refine seq_op s24 rfl rfl (of_decide_eq_true rfl) (ob_move rfl (.tmp rfl)) fun a25 w25 s25 => ?_; clear s24
      refine seq_op s25 rfl rfl (of_decide_eq_true rfl) (ob_extract rfl (.tmp rfl) rfl) fun a26 w26 s26 => ?_; clear s25
      refine seq_op s26 rfl rfl (of_decide_eq_true rfl) (ob_extract rfl (.tmp rfl) rfl) fun a27 w27 s27 => ?_; clear s26
      refine seq_op s27 rfl rfl (of_decide_eq_true rfl) (ob_assign rfl (.tmp rfl)) fun a28 w28 s28 => ?_; clear s27
      refine seq_op s28 rfl rfl (of_decide_eq_true rfl) (ob_assign rfl (.tmp rfl)) fun a29 w29 s29 => ?_; clear s28
      refine wpList_nil ?_
      refine then_normal ?_
      refine hK8 _ _ ?_
      have s30 := s29.sub (.cons (t := 0) rfl (.cons (t := 1) rfl (.cons (t := 5) rfl (.cons (t := 6) rfl .nil)))); clear s29
      refine wp_seq_k fun K9 hK9 => ?_
      refine wp_region_lit ?_
      refine seq_op s30 rfl rfl (of_decide_eq_true rfl) (ob_move rfl (.tmp rfl)) fun a31 w31 s31 => ?_; clear s30
      obtain ⟨x5, e_x5, h9⟩ := bind_some h8; clear h8
      refine seq_opx (B' := (fun v2 : Value => [RowF v2 3 (kint .i64) x5, RowF v1 3 (kint .i64) x4.1])) s31 rfl rfl (of_decide_eq_true rfl) (ob_callL (args := [_]) (L := []) rfl .direct hb37 (List.Perm.refl _) (fun a w s fs gs hf hg => by obtain rfl := hf.unnil; obtain rfl := hg.unnil; exact c_roster_All k _ _ e_x5 _ _ _ (s.arg (.tmp rfl))) (by exact fun _ => rfl)) fun v2 a32 w32 s32 => ?_; clear s31
      refine seq_op s32 rfl rfl (of_decide_eq_true rfl) (ob_assign rfl (.tmp rfl)) fun a33 w33 s33 => ?_; clear s32
      refine wpList_nil ?_
      refine then_normal ?_
      refine hK9 _ _ ?_
      have s34 := s33.sub (.cons (t := 0) rfl (.cons (t := 1) rfl (.cons (t := 5) rfl (.cons (t := 6) rfl (.cons (t := 7) rfl .nil))))); clear s33
      refine wp_seq_k fun K10 hK10 => ?_
      refine wp_seq_k fun K11 hK11 => ?_
      refine wp_region_lit ?_
      refine seq_op s34 rfl rfl (of_decide_eq_true rfl) (ob_move rfl (.tmp rfl)) fun a35 w35 s35 => ?_; clear s34
      obtain ⟨x6, e_x6, h10⟩ := bind_some h9; clear h9
      refine seq_op s35 rfl rfl (of_decide_eq_true rfl) (ob_callD (args := [_]) rfl .direct hb30 (fun a w s fs gs hf hg => by obtain rfl := hf.unnil; obtain rfl := hg.unnil; exact c_cabalref15_Right k _ _ e_x6 _ _ _ (s.arg (.tmp rfl)))) fun a36 w36 s36 => ?_; clear s35
      refine seq_op s36 rfl rfl (of_decide_eq_true rfl) (ob_not rfl (.tmp rfl)) fun a37 w37 s37 => ?_; clear s36
      refine wpList_nil ?_
      refine then_normal ?_
      refine hK11 _ _ ?_
      have s38 := s37.sub (.cons (t := 0) rfl (.cons (t := 1) rfl (.cons (t := 5) rfl (.cons (t := 6) rfl (.cons (t := 7) rfl (.cons (t := 28) rfl .nil)))))); clear s37
      refine cond_split s38 (.tmp rfl) (fun hc3 => ?_) (fun hc3 => ?_)
      · replace h10 := ite_t hc3 h10
        have h11 := h10; clear h10
        refine wp_seq_k fun K12 hK12 => ?_
        refine wp_region_lit ?_
        obtain ⟨x7, e_x7, h12⟩ := bind_some h11; clear h11
        refine seq_op s38 rfl rfl (of_decide_eq_true rfl) (ob_callD (args := []) rfl .direct hb35 (fun a w s fs gs hf hg => by obtain rfl := hf.unnil; obtain rfl := hg.unnil; exact c_caballaw16_alive k _ e_x7 _ _)) fun a39 w39 s39 => ?_; clear s38
        refine seq_op s39 rfl rfl (of_decide_eq_true rfl) (ob_move rfl (.tmp rfl)) fun a40 w40 s40 => ?_; clear s39
        refine seq_opg s40 rfl rfl rfl rfl (of_decide_eq_true rfl) (fun hb => ob_move rfl (.tmp rfl)) fun a41 w41 s41 => ?_; clear s40
        refine seq_opg s41 rfl rfl rfl rfl (of_decide_eq_true rfl) (fun hb => (Ob.uncond (t := 31) hb rfl (ob_lenRow rfl Try.underlying41 (.tmp rfl) (.tail _ (.head _))))) fun a42 w42 s42 => ?_; clear s41
        refine seq_opg s42 rfl rfl rfl rfl (of_decide_eq_true rfl) (fun hb => (Ob.uncond (t := 32) hb rfl (ob_eql rfl (.tmp rfl) (opd_int rfl)))) fun a43 w43 s43 => ?_; clear s42
        refine seq_op s43 rfl rfl (of_decide_eq_true rfl) (ob_and2 rfl (.tmp rfl) (.tmp rfl) opd_bool) fun a44 w44 s44 => ?_; clear s43
        refine seq_op s44 rfl rfl (of_decide_eq_true rfl) (ob_move rfl (.tmp rfl)) fun a45 w45 s45 => ?_; clear s44
        refine seq_opg s45 rfl rfl rfl rfl (of_decide_eq_true rfl) (fun hb => ob_move rfl (.tmp rfl)) fun a46 w46 s46 => ?_; clear s45
        refine seq_opg s46 rfl rfl rfl rfl (of_decide_eq_true rfl) (fun hb => (Ob.uncond (t := 36) hb rfl (ob_eql rfl (.tmp rfl) (opd_int rfl)))) fun a47 w47 s47 => ?_; clear s46
        obtain ⟨x8, e_x8, h13⟩ := bind_some h12; clear h12; replace e_x8 := Option.some.inj e_x8
        refine seq_op s47 rfl rfl (of_decide_eq_true rfl) ((ob_and2 rfl (.tmp rfl) (.tmp rfl) opd_bool).nm e_x8) fun a48 w48 s48 => ?_; clear s47
        refine seq_op s48 rfl rfl (of_decide_eq_true rfl) (ob_move rfl (.tmp rfl)) fun a49 w49 s49 => ?_; clear s48
        refine seq_opg s49 rfl rfl rfl rfl (of_decide_eq_true rfl) (fun hb => ob_move rfl (.tmp rfl)) fun a50 w50 s50 => ?_; clear s49
        refine seq_opg s50 rfl rfl rfl rfl (of_decide_eq_true rfl) (fun hb => (Ob.uncond (t := 40) hb rfl (ob_lenRow rfl Try.underlying41 (.tmp rfl) (.head _)))) fun a51 w51 s51 => ?_; clear s50
        refine seq_opg s51 rfl rfl rfl rfl (of_decide_eq_true rfl) (fun hb => (Ob.uncond (t := 41) hb rfl (ob_eql rfl (.tmp rfl) (opd_int rfl)))) fun a52 w52 s52 => ?_; clear s51
        refine seq_op s52 rfl rfl (of_decide_eq_true rfl) (ob_and2 rfl (.tmp rfl) (.tmp rfl) opd_bool) fun a53 w53 s53 => ?_; clear s52
        refine seq_op s53 rfl rfl (of_decide_eq_true rfl) (ob_assign rfl (.tmp rfl)) fun a54 w54 s54 => ?_; clear s53
        refine wpList_nil ?_
        refine then_normal ?_
        refine hK12 _ _ ?_
        have s55 := s54.sub (.cons (t := 4) rfl .nil); clear s54
        have s56 := St.drop (A := []) s55; clear s55
        have s57 := St.drop (A := []) s56; clear s56
        refine wp_ret ?_
        obtain rfl := Option.some.inj h13
        exact leave s57 (.inl rfl) rfl (.cons (.tmp rfl) .nil)
      · replace h10 := ite_f hc3 h10
        have h14 := h10; clear h10
        refine wp_skip ?_
        refine then_normal ?_
        refine hK10 _ _ ?_
        have s58 := s38.sub (.cons (t := 0) rfl (.cons (t := 1) rfl (.cons (t := 5) rfl (.cons (t := 6) rfl (.cons (t := 7) rfl .nil))))); clear s38
        refine wp_seq_k fun K13 hK13 => ?_
        refine wp_seq_k fun K14 hK14 => ?_
        refine wp_region_lit ?_
        obtain ⟨x9, e_x9, h15⟩ := bind_some h14; clear h14
        refine seq_op s58 rfl rfl (of_decide_eq_true rfl) (ob_callD (args := []) rfl .direct hb35 (fun a w s fs gs hf hg => by obtain rfl := hf.unnil; obtain rfl := hg.unnil; exact c_caballaw16_alive k _ e_x9 _ _)) fun a59 w59 s59 => ?_; clear s58
        refine seq_op s59 rfl rfl (of_decide_eq_true rfl) (ob_not rfl (.tmp rfl)) fun a60 w60 s60 => ?_; clear s59
        refine seq_op s60 rfl rfl (of_decide_eq_true rfl) (ob_move rfl (.tmp rfl)) fun a61 w61 s61 => ?_; clear s60
        refine seq_opg s61 rfl rfl rfl rfl (of_decide_eq_true rfl) (fun hb => ob_move rfl (.tmp rfl)) fun a62 w62 s62 => ?_; clear s61
        refine seq_opg s62 rfl rfl rfl rfl (of_decide_eq_true rfl) (fun hb => ob_move rfl (.tmp rfl)) fun a63 w63 s63 => ?_; clear s62
        obtain ⟨x10, e_x10, h16⟩ := bind_some h15; clear h15
        refine seq_opg s63 rfl rfl rfl rfl (of_decide_eq_true rfl) (fun hb => (ObF.ob ((ObF.uncond (t := 48) hb rfl (ob_callF (F := resFact [((ksl (kint .i64)).V x10)]) (args := [_]) rfl .direct hb39 (fun a w s fs gs hf hg => by obtain rfl := hf.unnil; obtain rfl := hg.unnil; exact c_cabalref16_All k _ _ (ite_t hb e_x10) _ _ _ (s.arg (.tmp rfl))) (by exact fun g => ResF.all (.row (.head _) (KFlat.int _) .nil))))))) fun a64 w64 s64 => ?_; clear s63
        obtain ⟨x11, e_x11, h17⟩ := bind_some h16; clear h16
        refine seq_opg s64 rfl rfl rfl rfl (of_decide_eq_true rfl) (fun hb => (Ob.uncond (t := 49) hb rfl ((Ob.uncond (t := 47) hb rfl ((ob_lendG (L := [_]) (List.Perm.refl _) (.cons (t := 47) rfl (lendRow (.head _)) .nil) (Flat.res1 (Flat.V KFlat.bool)) (fun _ => ob_callD (args := [_, _]) rfl .direct hb38 (fun a w s fs gs hf hg => by obtain rfl := hf.unnil; obtain rfl := hg.unnil; exact c_cabalref15_SameInts k _ _ _ (ite_t hb e_x11) _ _ _ _ (s.arg (.tmp rfl)) (s.arg (.tmp rfl)))))))))) fun a65 w65 s65 => ?_; clear s64
        refine seq_opg s65 rfl rfl rfl rfl (of_decide_eq_true rfl) (fun hb => (Ob.uncond (t := 50) hb rfl (ob_not rfl (.tmp rfl)))) fun a66 w66 s66 => ?_; clear s65
        refine seq_op s66 rfl rfl (of_decide_eq_true rfl) (ob_or2 rfl (.tmp rfl) opd_bool (.tmp rfl)) fun a67 w67 s67 => ?_; clear s66
        refine wpList_nil ?_
        refine then_normal ?_
        refine hK14 _ _ ?_
        have s68 := s67.sub (.cons (t := 0) rfl (.cons (t := 1) rfl (.cons (t := 5) rfl (.cons (t := 6) rfl (.cons (t := 52) rfl .nil))))); clear s67
        have s69 := St.drop (A := []) s68; clear s68
        refine cond_split s69 (.tmp rfl) (fun hc4 => ?_) (fun hc4 => ?_)
        · replace h17 := ite_t hc4 h17
          have h18 := h17; clear h17
          refine wp_seq_k fun K15 hK15 => ?_
          refine wp_region_lit ?_
          refine seq_op s69 rfl rfl (of_decide_eq_true rfl) (ob_assign rfl opd_bool) fun a70 w70 s70 => ?_; clear s69
          refine wpList_nil ?_
          refine then_normal ?_
          refine hK15 _ _ ?_
          have s71 := s70.sub (.cons (t := 4) rfl .nil); clear s70
          have s72 := St.drop (A := []) s71; clear s71
          refine wp_ret ?_
          obtain rfl := Option.some.inj h18
          exact leave s72 (.inl rfl) rfl (.cons (.tmp rfl) .nil)
        · replace h17 := ite_f hc4 h17
          have h19 := h17; clear h17
          refine wp_skip ?_
          refine then_normal ?_
          refine hK13 _ _ ?_
          have s73 := s69.sub (.cons (t := 0) rfl (.cons (t := 1) rfl (.cons (t := 5) rfl (.cons (t := 6) rfl .nil)))); clear s69
          refine wp_seq_k fun K16 hK16 => ?_
          refine wp_seq_k fun K17 hK17 => ?_
          refine wp_region_lit ?_
          refine seq_op s73 rfl rfl (of_decide_eq_true rfl) (ob_move rfl (.tmp rfl)) fun a74 w74 s74 => ?_; clear s73
          refine seq_op s74 rfl rfl (of_decide_eq_true rfl) (ob_move rfl (.tmp rfl)) fun a75 w75 s75 => ?_; clear s74
          obtain ⟨x12, e_x12, h20⟩ := bind_some h19; clear h19
          refine seq_op s75 rfl rfl (of_decide_eq_true rfl) (ob_callD (args := [_, _]) rfl .direct hb40 (fun a w s fs gs hf hg => by obtain rfl := hf.unnil; obtain rfl := hg.unnil; exact c_cabalref16_Set k _ _ _ e_x12 _ _ _ _ (s.arg (.tmp rfl)) (s.arg (.tmp rfl)))) fun a76 w76 s76 => ?_; clear s75
          refine seq_op s76 rfl rfl (of_decide_eq_true rfl) (ob_not rfl (.tmp rfl)) fun a77 w77 s77 => ?_; clear s76
          refine wpList_nil ?_
          refine then_normal ?_
          refine hK17 _ _ ?_
          have s78 := s77.sub (.cons (t := 0) rfl (.cons (t := 1) rfl (.cons (t := 5) rfl (.cons (t := 6) rfl (.cons (t := 56) rfl .nil))))); clear s77
          refine cond_split s78 (.tmp rfl) (fun hc5 => ?_) (fun hc5 => ?_)
          · replace h20 := ite_t hc5 h20
            have h21 := h20; clear h20
            refine wp_seq_k fun K18 hK18 => ?_
            refine wp_region_lit ?_
            refine seq_op s78 rfl rfl (of_decide_eq_true rfl) (ob_move rfl (.tmp rfl)) fun a79 w79 s79 => ?_; clear s78
            refine seq_op s79 rfl rfl (of_decide_eq_true rfl) (ob_lenRow rfl Try.underlying41 (.tmp rfl) (.head _)) fun a80 w80 s80 => ?_; clear s79
            refine seq_op s80 rfl rfl (of_decide_eq_true rfl) (ob_eql rfl (.tmp rfl) (opd_int rfl)) fun a81 w81 s81 => ?_; clear s80
            refine seq_op s81 rfl rfl (of_decide_eq_true rfl) (ob_move rfl (.tmp rfl)) fun a82 w82 s82 => ?_; clear s81
            refine seq_opg s82 rfl rfl rfl rfl (of_decide_eq_true rfl) (fun hb => ob_move rfl (.tmp rfl)) fun a83 w83 s83 => ?_; clear s82
            refine seq_opg s83 rfl rfl rfl rfl (of_decide_eq_true rfl) (fun hb => (Ob.uncond (t := 61) hb rfl (ob_eql rfl (.tmp rfl) (opd_int rfl)))) fun a84 w84 s84 => ?_; clear s83
            obtain ⟨x13, e_x13, h22⟩ := bind_some h21; clear h21; replace e_x13 := Option.some.inj e_x13
            refine seq_op s84 rfl rfl (of_decide_eq_true rfl) ((ob_and2 rfl (.tmp rfl) (.tmp rfl) opd_bool).nm e_x13) fun a85 w85 s85 => ?_; clear s84
            refine seq_op s85 rfl rfl (of_decide_eq_true rfl) (ob_assign rfl (.tmp rfl)) fun a86 w86 s86 => ?_; clear s85
            refine wpList_nil ?_
            refine then_normal ?_
            refine hK18 _ _ ?_
            have s87 := s86.sub (.cons (t := 4) rfl .nil); clear s86
            have s88 := St.drop (A := []) s87; clear s87
            refine wp_ret ?_
            obtain rfl := Option.some.inj h22
            exact leave s88 (.inl rfl) rfl (.cons (.tmp rfl) .nil)
          · replace h20 := ite_f hc5 h20
            have h23 := h20; clear h20
            refine wp_skip ?_
            refine then_normal ?_
            refine hK16 _ _ ?_
            have s89 := s78.sub (.cons (t := 0) rfl (.cons (t := 1) rfl (.cons (t := 5) rfl (.cons (t := 6) rfl .nil)))); clear s78
            refine wp_seq_k fun K19 hK19 => ?_
            refine wp_region_lit ?_
            refine seq_op s89 rfl rfl (of_decide_eq_true rfl) (ob_move rfl (.tmp rfl)) fun a90 w90 s90 => ?_; clear s89
            refine seq_op s90 rfl rfl (of_decide_eq_true rfl) (ob_eql rfl (.tmp rfl) (opd_int rfl)) fun a91 w91 s91 => ?_; clear s90
            refine seq_op s91 rfl rfl (of_decide_eq_true rfl) (ob_move rfl (.tmp rfl)) fun a92 w92 s92 => ?_; clear s91
            refine seq_opg s92 rfl rfl rfl rfl (of_decide_eq_true rfl) (fun hb => ob_move rfl (.tmp rfl)) fun a93 w93 s93 => ?_; clear s92
            refine seq_opg s93 rfl rfl rfl rfl (of_decide_eq_true rfl) (fun hb => ob_move rfl (.tmp rfl)) fun a94 w94 s94 => ?_; clear s93
            refine seq_opg s94 rfl rfl rfl rfl (of_decide_eq_true rfl) (fun hb => ob_move rfl (.tmp rfl)) fun a95 w95 s95 => ?_; clear s94
            obtain ⟨x14, e_x14, h24⟩ := bind_some h23; clear h23
            refine seq_opg s95 rfl rfl rfl rfl (of_decide_eq_true rfl) (fun hb => (ObF.ob ((ObF.uncond (t := 69) hb rfl (ob_callF (F := resFact [((ksl kbool).V x14)]) (args := [_]) rfl .direct hb42 (fun a w s fs gs hf hg => by obtain rfl := hf.unnil; obtain rfl := hg.unnil; exact c_cabalref16_Counts k _ _ (ite_t hb e_x14) _ _ _ (s.arg (.tmp rfl))) (by exact fun g => ResF.all (.row (.head _) KFlat.bool .nil))))))) fun a96 w96 s96 => ?_; clear s95
            refine seq_opg s96 rfl rfl rfl rfl (of_decide_eq_true rfl) (fun hb => ob_move rfl (.tmp rfl)) fun a97 w97 s97 => ?_; clear s96
            obtain ⟨x15, e_x15, h25⟩ := bind_some h24; clear h24
            refine seq_opg s97 rfl rfl rfl rfl (of_decide_eq_true rfl) (fun hb => (ObF.ob ((ObF.uncond (t := 71) hb rfl ((ObF.uncond (t := 70) hb rfl ((ObF.uncond (t := 68) hb rfl (ob_callF (F := resFact [((ksl (kint .i64)).V x15)]) (args := [_, _, _]) rfl .direct hb41 (fun a w s fs gs hf hg => by obtain rfl := hf.unnil; obtain rfl := hg.unnil; exact c_cabalref16_Roster k _ _ _ _ (ite_t hb e_x15) _ _ _ _ _ (s.arg (.tmp rfl)) (s.arg (.tmp rfl)) (s.arg (.tmp rfl))) (by exact fun g => ResF.all (.row (.head _) (KFlat.int _) .nil))))))))))) fun a98 w98 s98 => ?_; clear s97
            obtain ⟨x16, e_x16, h26⟩ := bind_some h25; clear h25
            refine seq_opg s98 rfl rfl rfl rfl (of_decide_eq_true rfl) (fun hb => (Ob.uncond (t := 72) hb rfl ((Ob.uncond (t := 67) hb rfl ((ob_lendG (L := [_]) (List.Perm.refl _) (.cons (t := 67) rfl (lendRow (.head _)) .nil) (Flat.res1 (Flat.V KFlat.bool)) (fun _ => ob_callD (args := [_, _]) rfl .direct hb38 (fun a w s fs gs hf hg => by obtain rfl := hf.unnil; obtain rfl := hg.unnil; exact c_cabalref15_SameInts k _ _ _ (ite_t hb e_x16) _ _ _ _ (s.arg (.tmp rfl)) (s.arg (.tmp rfl)))))))))) fun a99 w99 s99 => ?_; clear s98
            refine seq_op s99 rfl rfl (of_decide_eq_true rfl) (ob_and2 rfl (.tmp rfl) (.tmp rfl) opd_bool) fun a100 w100 s100 => ?_; clear s99
            refine seq_op s100 rfl rfl (of_decide_eq_true rfl) (ob_assign rfl (.tmp rfl)) fun a101 w101 s101 => ?_; clear s100
            refine wpList_nil ?_
            refine then_normal ?_
            refine hK19 _ _ ?_
            have s102 := s101.sub (.cons (t := 4) rfl .nil); clear s101
            have s103 := St.drop (A := []) s102; clear s102
            refine wp_ret ?_
            obtain rfl := Option.some.inj h26
            exact leave s103 (.inl rfl) rfl (.cons (.tmp rfl) .nil)

end Go.Proofs.Ytdlnfgpcnfbjiaa
