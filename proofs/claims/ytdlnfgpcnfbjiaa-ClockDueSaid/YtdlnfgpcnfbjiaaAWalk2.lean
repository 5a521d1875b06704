/- Each function's code comes to what its plain function answers. No condition. -/
import Derived.Test.YtdlnfgpcnfbjiaaAWalk1
namespace Go.Proofs.Ytdlnfgpcnfbjiaa
open Go Go.RowKit Go.Proofs.Kit Go.Proofs.Pure
set_option linter.unusedVariables false
set_option linter.unusedSimpArgs false
set_option maxRecDepth 100000
set_option maxHeartbeats 2000000

/- 91 cabal/frame.Right -/
theorem c_frame_Right (k : Nat) (p1 : api_Op) (r : Bool) (h0 : frame_Right k p1 = some r) (ok : Ok) (w0 : World) (z0 : Value) (u0 : (k_api_Op.V p1).holds ok w0 z0) :
    Gives Try.prog 91 [z0] ok w0 (resFact [kbool.V r]) := by
  unfold frame_Right at h0
  refine enter (N := 105) Try.func91 rfl rfl (of_decide_eq_true rfl) (.cons u0 .nil) fun a1 s1 => ?_
  refine wp_seq_k fun K1 hK1 => ?_
  refine wp_region_lit ?_
  refine seq_opx (B' := (fun b1 : Nat => [BF b1 44 k_api_Op p1])) s1 rfl rfl (of_decide_eq_true rfl) (ob_box rfl (.tmp rfl)) fun b1 a2 w2 s2 => ?_; clear s1
  refine seq_op s2 rfl rfl (of_decide_eq_true rfl) (ob_assign rfl opd_bool) fun a3 w3 s3 => ?_; clear s2
  refine wpList_nil ?_
  refine then_normal ?_
  refine hK1 _ _ ?_
  have s4 := s3.sub (.cons (t := 1) rfl .nil); clear s3
  refine wp_seq_k fun K2 hK2 => ?_
  refine wp_region_lit ?_
  obtain ⟨x1, e_x1, h1⟩ := bind_some h0; clear h0; replace e_x1 := Option.some.inj e_x1
  refine seq_op s4 rfl rfl (of_decide_eq_true rfl) (((ob_mkArr (k := (kint .u8)) rfl Try.underlying39 zz39 sz5 (Zr.arr 32 (Zr.int .u8)) (.nil _) : Ob _ _ _ _ _ ((karr 32 (kint .u8)).V ([(0 : Int), (0 : Int), (0 : Int), (0 : Int), (0 : Int), (0 : Int), (0 : Int), (0 : Int), (0 : Int), (0 : Int), (0 : Int), (0 : Int), (0 : Int), (0 : Int), (0 : Int), (0 : Int), (0 : Int), (0 : Int), (0 : Int), (0 : Int), (0 : Int), (0 : Int), (0 : Int), (0 : Int), (0 : Int), (0 : Int), (0 : Int), (0 : Int), (0 : Int), (0 : Int), (0 : Int), (0 : Int)] : (List Int))))).nm e_x1) fun a5 w5 s5 => ?_; clear s4
  refine seq_opx (B' := (fun b2 : Nat => [BF b2 39 (karr 32 (kint .u8)) (List.replicate 32 (0 : Int)), BF b1 44 k_api_Op p1])) s5 rfl rfl (of_decide_eq_true rfl) (ob_new (k := (karr 32 (kint .u8))) rfl zz39 (Zr.arr 32 (Zr.int .u8))) fun b2 a6 w6 s6 => ?_; clear s5
  refine seq_opx0 (B' := (fun _ : Unit => [BF b2 39 (karr 32 (kint .u8)) x1, BF b1 44 k_api_Op p1])) s6 rfl rfl (ob_store (A := []) rfl tk39 (.tmp rfl) (.tmp rfl) rfl (LS.refl _ _ _) rfl) fun _ a7 w7 s7 => ?_; clear s6
  refine wpList_nil ?_
  refine then_normal ?_
  refine hK2 _ _ ?_
  have s8 := s7.sub (.cons (t := 1) rfl (.cons (t := 3) rfl .nil)); clear s7
  refine wp_seq_k fun K3 hK3 => ?_
  refine wp_goes (Fs := [(ptrB b1 3), ((kint .i64).V p1.Kind), (kbool.V (p1.Kind == (5 : Int))), (kbool.V (p1.Kind == (5 : Int))), (Fact.when ((p1.Kind == (5 : Int)) == false) (ptrB b1 3)), (Fact.when ((p1.Kind == (5 : Int)) == false) ((kint .i64).V p1.Kind)), (Fact.when ((p1.Kind == (5 : Int)) == false) (kbool.V (p1.Kind == (6 : Int)))), (kbool.V (if (p1.Kind == (5 : Int)) then true else (p1.Kind == (6 : Int)))), (ptrB b1 3), ((kint .i64).V p1.Kind), (kbool.V (p1.Kind == (7 : Int))), (ptrB b1 3), ((kint .i64).V p1.Kind), (kbool.V (p1.Kind == (1 : Int))), (kbool.V (if (p1.Kind == (5 : Int)) then true else (p1.Kind == (6 : Int)))), (kbool.V (p1.Kind == (7 : Int)))]) (bits := [0, 1, 3, 7, 15, 31, 63, 127, 0, 256, 768, 0, 2048, 6144, 255, 18431, 65535]) (m := 16) (todo := 0) mx s8 ?_; clear s8
  refine goes_last (by kernel_rfl) rfl (opsS_cons (.plain _ (Av.old (t := 1) rfl rfl Av.nil) rfl rfl (ob_fieldAddr (off' := 3) rfl Try.underlying44 rfl sz3 (by decide) (.tmp rfl) rfl)) (opsS_cons (.plain _ (Av.new (j := 0) rfl rfl rfl Av.nil) rfl rfl (ob_load rfl tk3 (.tmp rfl) (.tail _ (.head _)) (lg_api_Op_Kind p1))) (opsS_cons (.plain _ (Av.new (j := 1) rfl rfl rfl Av.nil) rfl rfl (ob_eql rfl (.tmp rfl) (opd_int rfl))) (opsS_cons (.plain _ (Av.new (j := 2) rfl rfl rfl Av.nil) rfl rfl (ob_move rfl (.tmp rfl))) (opsS_cons (.guarded _ (Av.old (t := 1) rfl rfl (Av.new (j := 3) rfl rfl rfl Av.nil)) rfl rfl rfl rfl (fun hb => ob_fieldAddr (off' := 3) rfl Try.underlying44 rfl sz3 (by decide) (.tmp rfl) rfl)) (opsS_cons (.guarded _ (Av.new (j := 3) rfl rfl rfl (Av.new (j := 4) rfl rfl rfl Av.nil)) rfl rfl rfl rfl (fun hb => (Ob.uncond (t := 12) hb rfl (ob_load rfl tk3 (.tmp rfl) (.tail _ (.head _)) (lg_api_Op_Kind p1))))) (opsS_cons (.guarded _ (Av.new (j := 3) rfl rfl rfl (Av.new (j := 5) rfl rfl rfl Av.nil)) rfl rfl rfl rfl (fun hb => (Ob.uncond (t := 13) hb rfl (ob_eql rfl (.tmp rfl) (opd_int rfl))))) (opsS_cons (.plain _ (Av.new (j := 3) rfl rfl rfl (Av.new (j := 6) rfl rfl rfl Av.nil)) rfl rfl (ob_or2 rfl (.tmp rfl) opd_bool (.tmp rfl))) (opsS_cons (.plain _ (Av.old (t := 1) rfl rfl Av.nil) rfl rfl (ob_fieldAddr (off' := 3) rfl Try.underlying44 rfl sz3 (by decide) (.tmp rfl) rfl)) (opsS_cons (.plain _ (Av.new (j := 8) rfl rfl rfl Av.nil) rfl rfl (ob_load rfl tk3 (.tmp rfl) (.tail _ (.head _)) (lg_api_Op_Kind p1))) (opsS_cons (.plain _ (Av.new (j := 9) rfl rfl rfl Av.nil) rfl rfl (ob_eql rfl (.tmp rfl) (opd_int rfl))) (opsS_cons (.plain _ (Av.old (t := 1) rfl rfl Av.nil) rfl rfl (ob_fieldAddr (off' := 3) rfl Try.underlying44 rfl sz3 (by decide) (.tmp rfl) rfl)) (opsS_cons (.plain _ (Av.new (j := 11) rfl rfl rfl Av.nil) rfl rfl (ob_load rfl tk3 (.tmp rfl) (.tail _ (.head _)) (lg_api_Op_Kind p1))) (opsS_cons (.plain _ (Av.new (j := 12) rfl rfl rfl Av.nil) rfl rfl (ob_eql rfl (.tmp rfl) (opd_int rfl))) (opsS_cons (.plain _ (Av.new (j := 7) rfl rfl rfl Av.nil) rfl rfl (ob_assign rfl (.tmp rfl))) (opsS_cons (.plain _ (Av.new (j := 10) rfl rfl rfl Av.nil) rfl rfl (ob_assign rfl (.tmp rfl))) opsS_nil)))))))))))))))) (out_old (t := 1) rfl rfl (out_old (t := 3) rfl rfl (out_new (i := 14) (by decide) rfl rfl (out_new (i := 15) (by decide) rfl rfl (out_new (i := 13) (by decide) rfl rfl out_nil))))) fun a9 w9 s9 => ?_
  refine seq_op s9 rfl rfl (of_decide_eq_true rfl) (ob_assign rfl (.tmp rfl)) fun a10 w10 s10 => ?_; clear s9
  refine wpList_nil ?_
  refine then_normal ?_
  refine hK3 _ _ ?_
  have s11 := s10.sub (.cons (t := 1) rfl (.cons (t := 3) rfl (.cons (t := 4) rfl (.cons (t := 5) rfl (.cons (t := 6) rfl .nil))))); clear s10
  refine wp_seq_k fun K4 hK4 => ?_
  refine wp_block ?_
  refine wp_seq_k fun K5 hK5 => ?_
  refine wp_region_lit ?_
  refine seq_op s11 rfl rfl (of_decide_eq_true rfl) (ob_fieldAddr (off' := 0) rfl Try.underlying44 rfl sz3 (by decide) (.tmp rfl) rfl) fun a12 w12 s12 => ?_; clear s11
  refine seq_op s12 rfl rfl (of_decide_eq_true rfl) (ob_load rfl tk3 (.tmp rfl) (.tail _ (.head _)) (lg_api_Op_Author p1)) fun a13 w13 s13 => ?_; clear s12
  obtain ⟨x2, e_x2, h2⟩ := bind_some h1; clear h1
  refine seq_op s13 rfl rfl (of_decide_eq_true rfl) (ob_callD (args := [_]) rfl .direct hb136 (fun a w s fs gs hf hg => by obtain rfl := hf.unnil; obtain rfl := hg.unnil; exact c_frame_member k _ _ e_x2 _ _ _ (s.arg (.tmp rfl)))) fun a14 w14 s14 => ?_; clear s13
  refine seq_op s14 rfl rfl (of_decide_eq_true rfl) (ob_not rfl (.tmp rfl)) fun a15 w15 s15 => ?_; clear s14
  refine seq_op s15 rfl rfl (of_decide_eq_true rfl) (ob_move rfl (.tmp rfl)) fun a16 w16 s16 => ?_; clear s15
  refine seq_opg s16 rfl rfl rfl rfl (of_decide_eq_true rfl) (fun hb => ob_fieldAddr (off' := 1) rfl Try.underlying44 rfl sz25 (by decide) (.tmp rfl) rfl) fun a17 w17 s17 => ?_; clear s16
  refine seq_opg s17 rfl rfl rfl rfl (of_decide_eq_true rfl) (fun hb => (Ob.uncond (t := 28) hb rfl (ob_load rfl tk25 (.tmp rfl) (.tail _ (.head _)) (lg_api_Op_Seq p1)))) fun a18 w18 s18 => ?_; clear s17
  refine seq_opg s18 rfl rfl rfl rfl (of_decide_eq_true rfl) (fun hb => (Ob.uncond (t := 29) hb rfl (ob_eql rfl (.tmp rfl) (opd_int rfl)))) fun a19 w19 s19 => ?_; clear s18
  refine seq_op s19 rfl rfl (of_decide_eq_true rfl) (ob_or2 rfl (.tmp rfl) opd_bool (.tmp rfl)) fun a20 w20 s20 => ?_; clear s19
  refine seq_op s20 rfl rfl (of_decide_eq_true rfl) (ob_move rfl (.tmp rfl)) fun a21 w21 s21 => ?_; clear s20
  refine seq_opg s21 rfl rfl rfl rfl (of_decide_eq_true rfl) (fun hb => ob_fieldAddr (off' := 3) rfl Try.underlying44 rfl sz3 (by decide) (.tmp rfl) rfl) fun a22 w22 s22 => ?_; clear s21
  refine seq_opg s22 rfl rfl rfl rfl (of_decide_eq_true rfl) (fun hb => (Ob.uncond (t := 33) hb rfl (ob_load rfl tk3 (.tmp rfl) (.tail _ (.head _)) (lg_api_Op_Kind p1)))) fun a23 w23 s23 => ?_; clear s22
  refine seq_opg s23 rfl rfl rfl rfl (of_decide_eq_true rfl) (fun hb => (Ob.uncond (t := 34) hb rfl (ob_lss rfl (.tmp rfl) (opd_int rfl)))) fun a24 w24 s24 => ?_; clear s23
  obtain ⟨x3, e_x3, h3⟩ := bind_some h2; clear h2; replace e_x3 := Option.some.inj e_x3
  refine seq_op s24 rfl rfl (of_decide_eq_true rfl) ((ob_or2 rfl (.tmp rfl) opd_bool (.tmp rfl)).nm e_x3) fun a25 w25 s25 => ?_; clear s24
  refine seq_op s25 rfl rfl (of_decide_eq_true rfl) (ob_move rfl (.tmp rfl)) fun a26 w26 s26 => ?_; clear s25
  refine seq_opg s26 rfl rfl rfl rfl (of_decide_eq_true rfl) (fun hb => ob_fieldAddr (off' := 3) rfl Try.underlying44 rfl sz3 (by decide) (.tmp rfl) rfl) fun a27 w27 s27 => ?_; clear s26
  refine seq_opg s27 rfl rfl rfl rfl (of_decide_eq_true rfl) (fun hb => (Ob.uncond (t := 38) hb rfl (ob_load rfl tk3 (.tmp rfl) (.tail _ (.head _)) (lg_api_Op_Kind p1)))) fun a28 w28 s28 => ?_; clear s27
  refine seq_opg s28 rfl rfl rfl rfl (of_decide_eq_true rfl) (fun hb => (Ob.uncond (t := 39) hb rfl (ob_gtr rfl (.tmp rfl) (opd_int rfl)))) fun a29 w29 s29 => ?_; clear s28
  refine seq_op s29 rfl rfl (of_decide_eq_true rfl) (ob_or2 rfl (.tmp rfl) opd_bool (.tmp rfl)) fun a30 w30 s30 => ?_; clear s29
  refine seq_op s30 rfl rfl (of_decide_eq_true rfl) (ob_assign rfl (.tmp rfl)) fun a31 w31 s31 => ?_; clear s30
  refine wpList_nil ?_
  refine then_normal ?_
  refine hK5 _ _ ?_
  have s32 := s31.sub (.cons (t := 1) rfl (.cons (t := 3) rfl (.cons (t := 4) rfl (.cons (t := 5) rfl (.cons (t := 6) rfl (.cons (t := 22) rfl .nil)))))); clear s31
  refine cond_split s32 (.tmp rfl) (fun hc1 => ?_) (fun hc1 => ?_)
  · replace h3 := ite_t hc1 h3
    have h4 := h3; clear h3
    refine wp_seq_k fun K6 hK6 => ?_
    refine wp_region_lit ?_
    refine seq_op s32 rfl rfl (of_decide_eq_true rfl) (ob_assign rfl opd_bool) fun a33 w33 s33 => ?_; clear s32
    refine wpList_nil ?_
    refine then_normal ?_
    refine hK6 _ _ ?_
    have s34 := s33.sub (.cons (t := 2) rfl .nil); clear s33
    have s35 := St.drop (A := []) s34; clear s34
    have s36 := St.drop (A := []) s35; clear s35
    refine wp_ret ?_
    obtain rfl := Option.some.inj h4
    exact leave s36 (.inl rfl) rfl (.cons (.tmp rfl) .nil)
  · replace h3 := ite_f hc1 h3
    have h5 := h3; clear h3
    refine wp_seq_k fun K7 hK7 => ?_
    refine wp_region_lit ?_
    refine seq_op s32 rfl rfl (of_decide_eq_true rfl) (ob_fieldAddr (off' := 2) rfl Try.underlying44 rfl sz40 (by decide) (.tmp rfl) rfl) fun a37 w37 s37 => ?_; clear s32
    refine seq_op s37 rfl rfl (of_decide_eq_true rfl) (ob_load rfl tk40 (.tmp rfl) (.tail _ (.head _)) (lg_api_Op_Parents p1)) fun a38 w38 s38 => ?_; clear s37
    refine seq_op s38 rfl rfl (of_decide_eq_true rfl) (ob_lens rfl Try.underlying40 (.tmp rfl)) fun a39 w39 s39 => ?_; clear s38
    refine seq_op s39 rfl rfl (of_decide_eq_true rfl) (ob_gtr rfl (.tmp rfl) (opd_int rfl)) fun a40 w40 s40 => ?_; clear s39
    refine seq_op s40 rfl rfl (of_decide_eq_true rfl) (ob_move rfl (.tmp rfl)) fun a41 w41 s41 => ?_; clear s40
    refine seq_opg s41 rfl rfl rfl rfl (of_decide_eq_true rfl) (fun hb => ob_fieldAddr (off' := 2) rfl Try.underlying44 rfl sz40 (by decide) (.tmp rfl) rfl) fun a42 w42 s42 => ?_; clear s41
    refine seq_opg s42 rfl rfl rfl rfl (of_decide_eq_true rfl) (fun hb => (Ob.uncond (t := 48) hb rfl (ob_load rfl tk40 (.tmp rfl) (.tail _ (.head _)) (lg_api_Op_Parents p1)))) fun a43 w43 s43 => ?_; clear s42
    refine seq_opg s43 rfl rfl rfl rfl (of_decide_eq_true rfl) (fun hb => (Ob.uncond (t := 49) hb rfl (((ob_mkObj (K0 := (ko_api_Key__1 Value.nilFunc)) (K := (ko_api_Key__1 (Value.func (.func 137) #[] #[]))) (X := (⟨p1.Parents, ()⟩ : api_Key_)) rfl Try.underlying156 zz156 rfl rfl pl156 (Zr.iso (f := to_api_Key__1) (x := (⟨[], ()⟩ : api_Key_)) (Zr.pair (Zr.sl _) (Zr.pair Zr.nilFn Zr.nil))) (.cons (.tmp rfl) rfl (LSK.of (lso_api_Key__1_l (⟨[], ()⟩ : api_Key_) p1.Parents)) (.cons (.conv .func (is_kis rfl rfl rfl)) rfl (lsk_api_Key__1_to_1_at1 (⟨p1.Parents, ()⟩ : api_Key_)) (.nil _ _)))).as (fun ok w v h => h) : Ob _ _ _ _ _ (k_api_Key_.V (⟨p1.Parents, ()⟩ : api_Key_)))))) fun a44 w44 s44 => ?_; clear s43
    obtain ⟨x4, e_x4, h6⟩ := bind_some h5; clear h5
    refine seq_opg s44 rfl rfl rfl rfl (of_decide_eq_true rfl) (fun hb => (Ob.uncond (t := 50) hb rfl (ob_callD (args := [_]) rfl .direct hb138 (fun a w s fs gs hf hg => by obtain rfl := hf.unnil; obtain rfl := hg.unnil; exact c_frame_row_api_Key_rising k _ _ (ite_t hb e_x4) _ _ _ (s.arg (.tmp rfl)))))) fun a45 w45 s45 => ?_; clear s44
    refine seq_opg s45 rfl rfl rfl rfl (of_decide_eq_true rfl) (fun hb => (Ob.uncond (t := 51) hb rfl (ob_not rfl (.tmp rfl)))) fun a46 w46 s46 => ?_; clear s45
    obtain ⟨x5, e_x5, h7⟩ := bind_some h6; clear h6; replace e_x5 := Option.some.inj e_x5
    refine seq_op s46 rfl rfl (of_decide_eq_true rfl) ((ob_or2 rfl (.tmp rfl) opd_bool (.tmp rfl)).nm e_x5) fun a47 w47 s47 => ?_; clear s46
    refine seq_op s47 rfl rfl (of_decide_eq_true rfl) (ob_move rfl (.tmp rfl)) fun a48 w48 s48 => ?_; clear s47
    refine seq_opg s48 rfl rfl rfl rfl (of_decide_eq_true rfl) (fun hb => ob_move rfl (.tmp rfl)) fun a49 w49 s49 => ?_; clear s48
    refine seq_opg s49 rfl rfl rfl rfl (of_decide_eq_true rfl) (fun hb => ob_fieldAddr (off' := 2) rfl Try.underlying44 rfl sz40 (by decide) (.tmp rfl) rfl) fun a50 w50 s50 => ?_; clear s49
    refine seq_opg s50 rfl rfl rfl rfl (of_decide_eq_true rfl) (fun hb => (Ob.uncond (t := 56) hb rfl (ob_load rfl tk40 (.tmp rfl) (.tail _ (.head _)) (lg_api_Op_Parents p1)))) fun a51 w51 s51 => ?_; clear s50
    refine seq_opg s51 rfl rfl rfl rfl (of_decide_eq_true rfl) (fun hb => (Ob.uncond (t := 57) hb rfl (ob_lens rfl Try.underlying40 (.tmp rfl)))) fun a52 w52 s52 => ?_; clear s51
    refine seq_opg s52 rfl rfl rfl rfl (of_decide_eq_true rfl) (fun hb => (Ob.uncond (t := 58) hb rfl (ob_eql rfl (.tmp rfl) (opd_int rfl)))) fun a53 w53 s53 => ?_; clear s52
    obtain ⟨x6, e_x6, h8⟩ := bind_some h7; clear h7; replace e_x6 := Option.some.inj e_x6
    refine seq_opg s53 rfl rfl rfl rfl (of_decide_eq_true rfl) (fun hb => (Ob.uncond (t := 59) hb rfl ((Ob.uncond (t := 55) hb rfl ((ob_bneq rfl Try.underlying4 (.tmp rfl) (.tmp rfl)).nm e_x6))))) fun a54 w54 s54 => ?_; clear s53
    refine seq_op s54 rfl rfl (of_decide_eq_true rfl) (ob_or2 rfl (.tmp rfl) opd_bool (.tmp rfl)) fun a55 w55 s55 => ?_; clear s54
    refine seq_op s55 rfl rfl (of_decide_eq_true rfl) (ob_move rfl (.tmp rfl)) fun a56 w56 s56 => ?_; clear s55
    refine seq_opg s56 rfl rfl rfl rfl (of_decide_eq_true rfl) (fun hb => ob_move rfl (.tmp rfl)) fun a57 w57 s57 => ?_; clear s56
    refine seq_opg s57 rfl rfl rfl rfl (of_decide_eq_true rfl) (fun hb => (Ob.uncond (t := 63) hb rfl (ob_move rfl (.tmp rfl)))) fun a58 w58 s58 => ?_; clear s57
    refine seq_opg2 s58 rfl rfl rfl rfl (of_decide_eq_true rfl) (fun hb => ob_fieldAddr (off' := 1) rfl Try.underlying44 rfl sz25 (by decide) (.tmp rfl) rfl) fun a59 w59 s59 => ?_; clear s58
    refine seq_opg2 s59 rfl rfl rfl rfl (of_decide_eq_true rfl) (fun hb => (Ob.uncond (t := 65) hb rfl (ob_load rfl tk25 (.tmp rfl) (.tail _ (.head _)) (lg_api_Op_Seq p1)))) fun a60 w60 s60 => ?_; clear s59
    refine seq_opg2 s60 rfl rfl rfl rfl (of_decide_eq_true rfl) (fun hb => (Ob.uncond (t := 66) hb rfl (ob_neq rfl (.tmp rfl) (opd_int rfl)))) fun a61 w61 s61 => ?_; clear s60
    refine seq_opg s61 rfl rfl rfl rfl (of_decide_eq_true rfl) (fun hb => (Ob.uncond (t := 64) hb rfl (ob_and3 hb rfl (.tmp rfl) (.tmp rfl) opd_bool))) fun a62 w62 s62 => ?_; clear s61
    obtain ⟨x7, e_x7, h9⟩ := bind_some h8; clear h8; replace e_x7 := Option.some.inj e_x7
    refine seq_op s62 rfl rfl (of_decide_eq_true rfl) ((ob_or2 rfl (.tmp rfl) opd_bool (.tmp rfl)).nm e_x7) fun a63 w63 s63 => ?_; clear s62
    refine seq_op s63 rfl rfl (of_decide_eq_true rfl) (ob_assign rfl (.tmp rfl)) fun a64 w64 s64 => ?_; clear s63
    refine wpList_nil ?_
    refine then_normal ?_
    refine hK7 _ _ ?_
    have s65 := s64.sub (.cons (t := 1) rfl (.cons (t := 3) rfl (.cons (t := 4) rfl (.cons (t := 5) rfl (.cons (t := 42) rfl .nil))))); clear s64
    refine cond_split s65 (.tmp rfl) (fun hc2 => ?_) (fun hc2 => ?_)
    · replace h9 := ite_t hc2 h9
      have h10 := h9; clear h9
      refine wp_seq_k fun K8 hK8 => ?_
      refine wp_region_lit ?_
      refine seq_op s65 rfl rfl (of_decide_eq_true rfl) (ob_assign rfl opd_bool) fun a66 w66 s66 => ?_; clear s65
      refine wpList_nil ?_
      refine then_normal ?_
      refine hK8 _ _ ?_
      have s67 := s66.sub (.cons (t := 2) rfl .nil); clear s66
      have s68 := St.drop (A := []) s67; clear s67
      have s69 := St.drop (A := []) s68; clear s68
      refine wp_ret ?_
      obtain rfl := Option.some.inj h10
      exact leave s69 (.inl rfl) rfl (.cons (.tmp rfl) .nil)
    · replace h9 := ite_f hc2 h9
      have h11 := h9; clear h9
      refine wp_seq_k fun K9 hK9 => ?_
      refine wp_region_lit ?_
      refine seq_op s65 rfl rfl (of_decide_eq_true rfl) (ob_move rfl (.tmp rfl)) fun a70 w70 s70 => ?_; clear s65
      refine seq_op s70 rfl rfl (of_decide_eq_true rfl) (ob_fieldAddr (off' := 5) rfl Try.underlying44 rfl sz39 (by decide) (.tmp rfl) rfl) fun a71 w71 s71 => ?_; clear s70
      refine seq_op s71 rfl rfl (of_decide_eq_true rfl) (ob_load rfl tk39 (.tmp rfl) (.tail _ (.head _)) (lg_api_Op_Of p1)) fun a72 w72 s72 => ?_; clear s71
      refine seq_op s72 rfl rfl (of_decide_eq_true rfl) (ob_load rfl tk39 (.tmp rfl) (.head _) (LG.refl _ _)) fun a73 w73 s73 => ?_; clear s72
      refine seq_op s73 rfl rfl (of_decide_eq_true rfl) (ob_neqAgg rfl rfl (by kernel_rfl) eq39 (by decide) (.tmp rfl) (.tmp rfl)) fun a74 w74 s74 => ?_; clear s73
      obtain ⟨x8, e_x8, h12⟩ := bind_some h11; clear h11; replace e_x8 := Option.some.inj e_x8
      refine seq_op s74 rfl rfl (of_decide_eq_true rfl) ((ob_bneq rfl Try.underlying4 (.tmp rfl) (.tmp rfl)).nm e_x8) fun a75 w75 s75 => ?_; clear s74
      refine seq_op s75 rfl rfl (of_decide_eq_true rfl) (ob_move rfl (.tmp rfl)) fun a76 w76 s76 => ?_; clear s75
      refine seq_opg s76 rfl rfl rfl rfl (of_decide_eq_true rfl) (fun hb => ob_move rfl (.tmp rfl)) fun a77 w77 s77 => ?_; clear s76
      refine seq_opg s77 rfl rfl rfl rfl (of_decide_eq_true rfl) (fun hb => ob_fieldAddr (off' := 37) rfl Try.underlying44 rfl sz39 (by decide) (.tmp rfl) rfl) fun a78 w78 s78 => ?_; clear s77
      refine seq_opg s78 rfl rfl rfl rfl (of_decide_eq_true rfl) (fun hb => (Ob.uncond (t := 79) hb rfl (ob_load rfl tk39 (.tmp rfl) (.tail _ (.head _)) (lg_api_Op_Check p1)))) fun a79 w79 s79 => ?_; clear s78
      refine seq_opg s79 rfl rfl rfl rfl (of_decide_eq_true rfl) (fun hb => ob_load rfl tk39 (.tmp rfl) (.head _) (LG.refl _ _)) fun a80 w80 s80 => ?_; clear s79
      refine seq_opg s80 rfl rfl rfl rfl (of_decide_eq_true rfl) (fun hb => (Ob.uncond (t := 81) hb rfl ((Ob.uncond (t := 80) hb rfl (ob_neqAgg rfl rfl (by kernel_rfl) eq39 (by decide) (.tmp rfl) (.tmp rfl)))))) fun a81 w81 s81 => ?_; clear s80
      refine seq_opg s81 rfl rfl rfl rfl (of_decide_eq_true rfl) (fun hb => (Ob.uncond (t := 82) hb rfl ((Ob.uncond (t := 78) hb rfl (ob_beql rfl Try.underlying4 (.tmp rfl) (.tmp rfl)))))) fun a82 w82 s82 => ?_; clear s81
      obtain ⟨x9, e_x9, h13⟩ := bind_some h12; clear h12; replace e_x9 := Option.some.inj e_x9
      refine seq_op s82 rfl rfl (of_decide_eq_true rfl) ((ob_or2 rfl (.tmp rfl) opd_bool (.tmp rfl)).nm e_x9) fun a83 w83 s83 => ?_; clear s82
      refine seq_op s83 rfl rfl (of_decide_eq_true rfl) (ob_move rfl (.tmp rfl)) fun a84 w84 s84 => ?_; clear s83
      refine seq_opg s84 rfl rfl rfl rfl (of_decide_eq_true rfl) (fun hb => ob_move rfl (.tmp rfl)) fun a85 w85 s85 => ?_; clear s84
      refine seq_opg s85 rfl rfl rfl rfl (of_decide_eq_true rfl) (fun hb => ob_fieldAddr (off' := 69) rfl Try.underlying44 rfl sz9 (by decide) (.tmp rfl) rfl) fun a86 w86 s86 => ?_; clear s85
      refine seq_opg s86 rfl rfl rfl rfl (of_decide_eq_true rfl) (fun hb => (Ob.uncond (t := 87) hb rfl (ob_load rfl tk9 (.tmp rfl) (.tail _ (.head _)) (lg_api_Op_Text p1)))) fun a87 w87 s87 => ?_; clear s86
      refine seq_opg s87 rfl rfl rfl rfl (of_decide_eq_true rfl) (fun hb => (Ob.uncond (t := 88) hb rfl (ob_lenStr rfl Try.underlying9 (.tmp rfl)))) fun a88 w88 s88 => ?_; clear s87
      refine seq_opg s88 rfl rfl rfl rfl (of_decide_eq_true rfl) (fun hb => (Ob.uncond (t := 89) hb rfl (ob_gtr rfl (.tmp rfl) (opd_int rfl)))) fun a89 w89 s89 => ?_; clear s88
      obtain ⟨x10, e_x10, h14⟩ := bind_some h13; clear h13; replace e_x10 := Option.some.inj e_x10
      refine seq_opg s89 rfl rfl rfl rfl (of_decide_eq_true rfl) (fun hb => (Ob.uncond (t := 90) hb rfl ((Ob.uncond (t := 86) hb rfl ((ob_bneq rfl Try.underlying4 (.tmp rfl) (.tmp rfl)).nm e_x10))))) fun a90 w90 s90 => ?_; clear s89
      refine seq_op s90 rfl rfl (of_decide_eq_true rfl) (ob_or2 rfl (.tmp rfl) opd_bool (.tmp rfl)) fun a91 w91 s91 => ?_; clear s90
      refine seq_op s91 rfl rfl (of_decide_eq_true rfl) (ob_move rfl (.tmp rfl)) fun a92 w92 s92 => ?_; clear s91
      refine seq_opg s92 rfl rfl rfl rfl (of_decide_eq_true rfl) (fun hb => ob_fieldAddr (off' := 69) rfl Try.underlying44 rfl sz9 (by decide) (.tmp rfl) rfl) fun a93 w93 s93 => ?_; clear s92
      refine seq_opg s93 rfl rfl rfl rfl (of_decide_eq_true rfl) (fun hb => (Ob.uncond (t := 94) hb rfl (ob_load rfl tk9 (.tmp rfl) (.tail _ (.head _)) (lg_api_Op_Text p1)))) fun a94 w94 s94 => ?_; clear s93
      refine seq_opg s94 rfl rfl rfl rfl (of_decide_eq_true rfl) (fun hb => (Ob.uncond (t := 95) hb rfl (ob_lenStr rfl Try.underlying9 (.tmp rfl)))) fun a95 w95 s95 => ?_; clear s94
      refine seq_opg s95 rfl rfl rfl rfl (of_decide_eq_true rfl) (fun hb => (Ob.uncond (t := 96) hb rfl (ob_gtr rfl (.tmp rfl) (opd_int rfl)))) fun a96 w96 s96 => ?_; clear s95
      obtain ⟨x11, e_x11, h15⟩ := bind_some h14; clear h14; replace e_x11 := Option.some.inj e_x11
      refine seq_op s96 rfl rfl (of_decide_eq_true rfl) ((ob_or2 rfl (.tmp rfl) opd_bool (.tmp rfl)).nm e_x11) fun a97 w97 s97 => ?_; clear s96
      refine seq_op s97 rfl rfl (of_decide_eq_true rfl) (ob_assign rfl (.tmp rfl)) fun a98 w98 s98 => ?_; clear s97
      refine wpList_nil ?_
      refine then_normal ?_
      refine hK9 _ _ ?_
      have s99 := s98.sub (.cons (t := 1) rfl (.cons (t := 70) rfl .nil)); clear s98
      have s100 := St.drop (A := []) s99; clear s99
      refine cond_split s100 (.tmp rfl) (fun hc3 => ?_) (fun hc3 => ?_)
      · replace h15 := ite_t hc3 h15
        have h16 := h15; clear h15
        refine wp_seq_k fun K10 hK10 => ?_
        refine wp_region_lit ?_
        refine seq_op s100 rfl rfl (of_decide_eq_true rfl) (ob_assign rfl opd_bool) fun a101 w101 s101 => ?_; clear s100
        refine wpList_nil ?_
        refine then_normal ?_
        refine hK10 _ _ ?_
        have s102 := s101.sub (.cons (t := 2) rfl .nil); clear s101
        have s103 := St.drop (A := []) s102; clear s102
        refine wp_ret ?_
        obtain rfl := Option.some.inj h16
        exact leave s103 (.inl rfl) rfl (.cons (.tmp rfl) .nil)
      · replace h15 := ite_f hc3 h15
        have h17 := h15; clear h15
        refine wp_skip ?_
        refine in_normal ?_
        refine then_normal ?_
        refine hK4 _ _ ?_
        have s104 := s100.sub (.cons (t := 1) rfl .nil); clear s100
        refine wp_seq_k fun K11 hK11 => ?_
        refine wp_region_lit ?_
        refine seq_op s104 rfl rfl (of_decide_eq_true rfl) (ob_load rfl tk44 (.tmp rfl) (.head _) (LG.refl _ _)) fun a105 w105 s105 => ?_; clear s104
        obtain ⟨x12, e_x12, h18⟩ := bind_some h17; clear h17
        refine seq_op s105 rfl rfl (of_decide_eq_true rfl) (ob_callD (args := [_]) rfl .direct hb139 (fun a w s fs gs hf hg => by obtain rfl := hf.unnil; obtain rfl := hg.unnil; exact c_frame_who k _ _ e_x12 _ _ _ (s.arg (.tmp rfl)))) fun a106 w106 s106 => ?_; clear s105
        refine seq_op s106 rfl rfl (of_decide_eq_true rfl) (ob_move rfl (.tmp rfl)) fun a107 w107 s107 => ?_; clear s106
        refine seq_opg s107 rfl rfl rfl rfl (of_decide_eq_true rfl) (fun hb => ob_load rfl tk44 (.tmp rfl) (.head _) (LG.refl _ _)) fun a108 w108 s108 => ?_; clear s107
        obtain ⟨x13, e_x13, h19⟩ := bind_some h18; clear h18
        refine seq_opg s108 rfl rfl rfl rfl (of_decide_eq_true rfl) (fun hb => (Ob.uncond (t := 102) hb rfl (ob_callD (args := [_]) rfl .direct hb140 (fun a w s fs gs hf hg => by obtain rfl := hf.unnil; obtain rfl := hg.unnil; exact c_frame_boxes k _ _ (ite_t hb e_x13) _ _ _ (s.arg (.tmp rfl)))))) fun a109 w109 s109 => ?_; clear s108
        refine seq_op s109 rfl rfl (of_decide_eq_true rfl) (ob_and2 rfl (.tmp rfl) (.tmp rfl) opd_bool) fun a110 w110 s110 => ?_; clear s109
        refine seq_op s110 rfl rfl (of_decide_eq_true rfl) (ob_assign rfl (.tmp rfl)) fun a111 w111 s111 => ?_; clear s110
        refine wpList_nil ?_
        refine then_normal ?_
        refine hK11 _ _ ?_
        have s112 := s111.sub (.cons (t := 2) rfl .nil); clear s111
        have s113 := St.drop (A := []) s112; clear s112
        refine wp_ret ?_
        obtain rfl := Option.some.inj h19
        exact leave s113 (.inl rfl) rfl (.cons (.tmp rfl) .nil)

/- 106 slices.Equal[[]int,int] -/
theorem c_slices_Equal_int_int (k : Nat) (p1 : (List Int)) (p2 : (List Int)) (r : Bool) (h0 : slices_Equal_int_int k p1 p2 = some r) (ok : Ok) (w0 : World) (z0 : Value) (z1 : Value) (u0 : ((ksl (kint .i64)).V p1).holds ok w0 z0) (u1 : ((ksl (kint .i64)).V p2).holds ok w0 z1) :
    Gives Try.prog 106 [z0, z1] ok w0 (resFact [kbool.V r]) := by
  unfold slices_Equal_int_int at h0
  refine enter (N := 26) Try.func106 rfl rfl (of_decide_eq_true rfl) (.cons u0 (.cons u1 .nil)) fun a1 s1 => ?_
  refine wp_seq_k fun K1 hK1 => ?_
  refine wp_region_lit ?_
  refine seq_op s1 rfl rfl (of_decide_eq_true rfl) (ob_assign rfl opd_bool) fun a2 w2 s2 => ?_; clear s1
  refine wpList_nil ?_
  refine then_normal ?_
  refine hK1 _ _ ?_
  have s3 := s2.sub (.cons (t := 0) rfl (.cons (t := 1) rfl .nil)); clear s2
  refine wp_seq_k fun K2 hK2 => ?_
  refine wp_seq_k fun K3 hK3 => ?_
  refine wp_region_lit ?_
  refine seq_op s3 rfl rfl (of_decide_eq_true rfl) (ob_move rfl (.tmp rfl)) fun a4 w4 s4 => ?_; clear s3
  refine seq_op s4 rfl rfl (of_decide_eq_true rfl) (ob_lens rfl Try.underlying41 (.tmp rfl)) fun a5 w5 s5 => ?_; clear s4
  refine seq_op s5 rfl rfl (of_decide_eq_true rfl) (ob_move rfl (.tmp rfl)) fun a6 w6 s6 => ?_; clear s5
  refine seq_op s6 rfl rfl (of_decide_eq_true rfl) (ob_lens rfl Try.underlying41 (.tmp rfl)) fun a7 w7 s7 => ?_; clear s6
  refine seq_op s7 rfl rfl (of_decide_eq_true rfl) (ob_neq rfl (.tmp rfl) (.tmp rfl)) fun a8 w8 s8 => ?_; clear s7
  refine wpList_nil ?_
  refine then_normal ?_
  refine hK3 _ _ ?_
  have s9 := s8.sub (.cons (t := 0) rfl (.cons (t := 1) rfl (.cons (t := 10) rfl .nil))); clear s8
  refine cond_split s9 (.tmp rfl) (fun hc1 => ?_) (fun hc1 => ?_)
  · replace h0 := ite_t hc1 h0
    have h1 := h0; clear h0
    refine wp_seq_k fun K4 hK4 => ?_
    refine wp_region_lit ?_
    refine seq_op s9 rfl rfl (of_decide_eq_true rfl) (ob_assign rfl opd_bool) fun a10 w10 s10 => ?_; clear s9
    refine wpList_nil ?_
    refine then_normal ?_
    refine hK4 _ _ ?_
    have s11 := s10.sub (.cons (t := 4) rfl .nil); clear s10
    refine wp_ret ?_
    obtain rfl := Option.some.inj h1
    exact leave s11 (.inl rfl) rfl (.cons (.tmp rfl) .nil)
  · replace h0 := ite_f hc1 h0
    have h2 := h0; clear h0
    refine wp_skip ?_
    refine then_normal ?_
    refine hK2 _ _ ?_
    have s12 := s9.sub (.cons (t := 0) rfl (.cons (t := 1) rfl .nil)); clear s9
    refine wp_seq_k fun K5 hK5 => ?_
    refine wp_seq_k fun K6 hK6 => ?_
    refine wp_region_lit ?_
    refine seq_op s12 rfl rfl (of_decide_eq_true rfl) (ob_move rfl (.tmp rfl)) fun a13 w13 s13 => ?_; clear s12
    refine seq_op s13 rfl rfl (of_decide_eq_true rfl) (ob_lens rfl Try.underlying41 (.tmp rfl)) fun a14 w14 s14 => ?_; clear s13
    refine seq_op s14 rfl rfl (of_decide_eq_true rfl) (ob_move rfl (opd_int rfl)) fun a15 w15 s15 => ?_; clear s14
    refine wpList_nil ?_
    refine then_normal ?_
    refine hK6 _ _ ?_
    have s16 := s15.sub (.cons (t := 0) rfl (.cons (t := 1) rfl (.cons (t := 12) rfl (.cons (t := 13) rfl .nil)))); clear s15
    have hj1 : ∀ (a : Act) (w : World), (slices_Equal_int_int.j1 k) = some r → St ⟨26, w0, ok, []⟩ [] [] a w → K5 a w := by
      intro a17 w17 h3 s17
      unfold slices_Equal_int_int.j1 at h3
      refine hK5 _ _ ?_
      refine wp_seq_k fun K7 hK7 => ?_
      refine wp_region_lit ?_
      refine seq_op s17 rfl rfl (of_decide_eq_true rfl) (ob_assign rfl opd_bool) fun a18 w18 s18 => ?_; clear s17
      refine wpList_nil ?_
      refine then_normal ?_
      refine hK7 _ _ ?_
      have s19 := s18.sub (.cons (t := 4) rfl .nil); clear s18
      refine wp_ret ?_
      obtain rfl := Option.some.inj h3
      exact leave s19 (.inl rfl) rfl (.cons (.tmp rfl) .nil)
    refine wp_block ?_
    refine wp_loop_fuel (fun m (q : Int) => slices_Equal_int_int.l1 k p1 p2 m q) r (fun _ => rfl) (fun q a w => St ⟨26, w0, ok, []⟩ [] [(0, ((ksl (kint .i64)).V p1)), (1, ((ksl (kint .i64)).V p2)), (12, ((kint .i64).V (p1.length : Int))), (13, ((kint .i64).V q))] a w) ?_ k (0 : Int) _ _ h2 (s16.sub (.cons rfl (.cons rfl (.cons rfl (.cons rfl .nil)))))
    rintro n1 y1 a20 w20 h4 s20 K8 hK8
    replace h4 : slices_Equal_int_int.l1 k p1 p2 (n1 + 1) y1 = some r := h4; rw [slices_Equal_int_int.l1] at h4
    have h5 := h4; clear h4
    refine wp_seq_k fun K9 hK9 => ?_
    refine wp_region_lit ?_
    refine seq_op s20 rfl rfl (of_decide_eq_true rfl) (ob_lss rfl (.tmp rfl) (.tmp rfl)) fun a21 w21 s21 => ?_; clear s20
    refine wpList_nil ?_
    refine then_normal ?_
    refine hK9 _ _ ?_
    have s22 := s21.sub (.cons (t := 0) rfl (.cons (t := 1) rfl (.cons (t := 12) rfl (.cons (t := 13) rfl (.cons (t := 14) rfl .nil))))); clear s21
    refine wp_seq_k fun K10 hK10 => ?_
    refine cond_split s22 (.tmp rfl) (fun hc2 => ?_) (fun hc2 => ?_)
    · replace h5 := ite_t hc2 h5
      have h6 := h5; clear h5
      refine wp_skip ?_
      refine then_normal ?_
      refine hK10 _ _ ?_
      have s23 := s22.sub (.cons (t := 0) rfl (.cons (t := 1) rfl (.cons (t := 12) rfl (.cons (t := 13) rfl .nil)))); clear s22
      refine wp_seq_k fun K11 hK11 => ?_
      refine wp_block ?_
      refine wp_seq_k fun K12 hK12 => ?_
      refine wp_region_lit ?_
      refine seq_op s23 rfl rfl (of_decide_eq_true rfl) (ob_move rfl (.tmp rfl)) fun a24 w24 s24 => ?_; clear s23
      refine seq_op s24 rfl rfl (of_decide_eq_true rfl) (ob_assign rfl (.tmp rfl)) fun a25 w25 s25 => ?_; clear s24
      refine wpList_nil ?_
      refine then_normal ?_
      refine hK12 _ _ ?_
      have s26 := s25.sub (.cons (t := 0) rfl (.cons (t := 1) rfl (.cons (t := 5) rfl (.cons (t := 12) rfl (.cons (t := 13) rfl .nil))))); clear s25
      refine wp_seq_k fun K13 hK13 => ?_
      obtain ⟨x1, e_x1, h7⟩ := bind_some h6; clear h6
      obtain ⟨x2, e_x2, h8⟩ := bind_some h7; clear h7
      refine wp_goes (Fs := [((ksl (kint .i64)).V p1), ((kint .i64).V y1), (ptrTo (kint .i64) x1), ((kint .i64).V x1), ((ksl (kint .i64)).V p2), ((kint .i64).V y1), (ptrTo (kint .i64) x2), ((kint .i64).V x2)]) (bits := [0, 0, 3, 7, 0, 0, 48, 112, 255]) (m := 8) (todo := 0) mx s26 ?_; clear s26
      refine goes_last (by kernel_rfl) rfl (opsS_cons (.plain _ (Av.old (t := 0) rfl rfl Av.nil) rfl rfl (ob_move rfl (.tmp rfl))) (opsS_cons (.plain _ (Av.old (t := 5) rfl rfl Av.nil) rfl rfl (ob_move rfl (.tmp rfl))) (opsS_cons (.plain _ (Av.new (j := 0) rfl rfl rfl (Av.new (j := 1) rfl rfl rfl Av.nil)) rfl rfl (ob_indexAddrs rfl Try.underlying41 sz3 (.tmp rfl) (.tmp rfl) e_x1)) (opsS_cons (.plain _ (Av.new (j := 2) rfl rfl rfl Av.nil) rfl rfl (ob_loadr rfl tk3 (.tmp rfl))) (opsS_cons (.plain _ (Av.old (t := 1) rfl rfl Av.nil) rfl rfl (ob_move rfl (.tmp rfl))) (opsS_cons (.plain _ (Av.old (t := 5) rfl rfl Av.nil) rfl rfl (ob_move rfl (.tmp rfl))) (opsS_cons (.plain _ (Av.new (j := 4) rfl rfl rfl (Av.new (j := 5) rfl rfl rfl Av.nil)) rfl rfl (ob_indexAddrs rfl Try.underlying41 sz3 (.tmp rfl) (.tmp rfl) e_x2)) (opsS_cons (.plain _ (Av.new (j := 6) rfl rfl rfl Av.nil) rfl rfl (ob_loadr rfl tk3 (.tmp rfl))) opsS_nil)))))))) (out_old (t := 0) rfl rfl (out_old (t := 1) rfl rfl (out_old (t := 12) rfl rfl (out_old (t := 13) rfl rfl (out_new (i := 3) (by decide) rfl rfl (out_new (i := 7) (by decide) rfl rfl out_nil)))))) fun a27 w27 s27 => ?_
      refine seq_op s27 rfl rfl (of_decide_eq_true rfl) (ob_neq rfl (.tmp rfl) (.tmp rfl)) fun a28 w28 s28 => ?_; clear s27
      refine wpList_nil ?_
      refine then_normal ?_
      refine hK13 _ _ ?_
      have s29 := s28.sub (.cons (t := 0) rfl (.cons (t := 1) rfl (.cons (t := 12) rfl (.cons (t := 13) rfl (.cons (t := 24) rfl .nil))))); clear s28
      refine cond_split s29 (.tmp rfl) (fun hc3 => ?_) (fun hc3 => ?_)
      · replace h8 := ite_t hc3 h8
        have h9 := h8; clear h8
        refine wp_seq_k fun K14 hK14 => ?_
        refine wp_region_lit ?_
        refine seq_op s29 rfl rfl (of_decide_eq_true rfl) (ob_assign rfl opd_bool) fun a30 w30 s30 => ?_; clear s29
        refine wpList_nil ?_
        refine then_normal ?_
        refine hK14 _ _ ?_
        have s31 := s30.sub (.cons (t := 4) rfl .nil); clear s30
        refine wp_ret ?_
        obtain rfl := Option.some.inj h9
        exact leave s31 (.inl rfl) rfl (.cons (.tmp rfl) .nil)
      · replace h8 := ite_f hc3 h8
        have h10 := h8; clear h8
        refine wp_skip ?_
        refine in_normal ?_
        refine then_normal ?_
        refine hK11 _ _ ?_
        have s32 := s29.sub (.cons (t := 0) rfl (.cons (t := 1) rfl (.cons (t := 12) rfl (.cons (t := 13) rfl .nil)))); clear s29
        refine wp_region_lit ?_
        refine seq_op s32 rfl rfl (of_decide_eq_true rfl) (ob_add rfl (.tmp rfl) (opd_int rfl)) fun a33 w33 s33 => ?_; clear s32
        refine seq_op s33 rfl rfl (of_decide_eq_true rfl) (ob_move rfl (.tmp rfl)) fun a34 w34 s34 => ?_; clear s33
        refine wpList_nil ?_
        refine then_normal ?_
        exact hK8 (iadd .i64 y1 (1 : Int)) _ _ h10 (s34.sub (.cons rfl (.cons rfl (.cons rfl (.cons rfl .nil)))))
    · replace h5 := ite_f hc2 h5
      have h11 := h5; clear h5
      refine wp_exit ?_
      refine (then_exit (then_exit (in_here ?_)))
      refine then_normal ?_
      exact hj1 _ _ h11 (s22.sub .nil)

/- 185 cmp.isNaN[int] -/
theorem c_cmp_isNaN_int (k : Nat) (p1 : Int) (r : Bool) (h0 : cmp_isNaN_int k p1 = some r) (ok : Ok) (w0 : World) (z0 : Value) (u0 : ((kint .i64).V p1).holds ok w0 z0) :
    Gives Try.prog 185 [z0] ok w0 (resFact [kbool.V r]) := by
  unfold cmp_isNaN_int at h0
  refine enter (N := 6) Try.func185 rfl rfl (of_decide_eq_true rfl) (.cons u0 .nil) fun a1 s1 => ?_
  refine wp_seq_k fun K1 hK1 => ?_
  refine wp_region_lit ?_
  refine seq_op s1 rfl rfl (of_decide_eq_true rfl) (ob_assign rfl opd_bool) fun a2 w2 s2 => ?_; clear s1
  refine wpList_nil ?_
  refine then_normal ?_
  refine hK1 _ _ ?_
  have s3 := s2.sub (.cons (t := 0) rfl .nil); clear s2
  refine wp_seq_k fun K2 hK2 => ?_
  refine wp_region_lit ?_
  refine seq_op s3 rfl rfl (of_decide_eq_true rfl) (ob_move rfl (.tmp rfl)) fun a4 w4 s4 => ?_; clear s3
  refine seq_op s4 rfl rfl (of_decide_eq_true rfl) (ob_move rfl (.tmp rfl)) fun a5 w5 s5 => ?_; clear s4
  refine seq_op s5 rfl rfl (of_decide_eq_true rfl) (ob_neq rfl (.tmp rfl) (.tmp rfl)) fun a6 w6 s6 => ?_; clear s5
  refine seq_op s6 rfl rfl (of_decide_eq_true rfl) (ob_assign rfl (.tmp rfl)) fun a7 w7 s7 => ?_; clear s6
  refine wpList_nil ?_
  refine then_normal ?_
  refine hK2 _ _ ?_
  have s8 := s7.sub (.cons (t := 2) rfl .nil); clear s7
  refine wp_ret ?_
  obtain rfl := Option.some.inj h0
  exact leave s8 (.inl rfl) rfl (.cons (.tmp rfl) .nil)

/- 162 cmp.Less[int] -/
theorem c_cmp_Less_int (k : Nat) (p1 : Int) (p2 : Int) (r : Bool) (h0 : cmp_Less_int k p1 p2 = some r) (ok : Ok) (w0 : World) (z0 : Value) (z1 : Value) (u0 : ((kint .i64).V p1).holds ok w0 z0) (u1 : ((kint .i64).V p2).holds ok w0 z1) :
    Gives Try.prog 162 [z0, z1] ok w0 (resFact [kbool.V r]) := by
  unfold cmp_Less_int at h0
  refine enter (N := 17) Try.func162 rfl rfl (of_decide_eq_true rfl) (.cons u0 (.cons u1 .nil)) fun a1 s1 => ?_
  refine wp_seq_k fun K1 hK1 => ?_
  refine wp_region_lit ?_
  refine seq_op s1 rfl rfl (of_decide_eq_true rfl) (ob_assign rfl opd_bool) fun a2 w2 s2 => ?_; clear s1
  refine wpList_nil ?_
  refine then_normal ?_
  refine hK1 _ _ ?_
  have s3 := s2.sub (.cons (t := 0) rfl (.cons (t := 1) rfl .nil)); clear s2
  refine wp_seq_k fun K2 hK2 => ?_
  refine wp_region_lit ?_
  refine seq_op s3 rfl rfl (of_decide_eq_true rfl) (ob_move rfl (.tmp rfl)) fun a4 w4 s4 => ?_; clear s3
  obtain ⟨x1, e_x1, h1⟩ := bind_some h0; clear h0
  refine seq_op s4 rfl rfl (of_decide_eq_true rfl) (ob_callD (args := [_]) rfl .direct hb185 (fun a w s fs gs hf hg => by obtain rfl := hf.unnil; obtain rfl := hg.unnil; exact c_cmp_isNaN_int k _ _ e_x1 _ _ _ (s.arg (.tmp rfl)))) fun a5 w5 s5 => ?_; clear s4
  refine seq_op s5 rfl rfl (of_decide_eq_true rfl) (ob_move rfl (.tmp rfl)) fun a6 w6 s6 => ?_; clear s5
  refine seq_opg s6 rfl rfl rfl rfl (of_decide_eq_true rfl) (fun hb => ob_move rfl (.tmp rfl)) fun a7 w7 s7 => ?_; clear s6
  obtain ⟨x2, e_x2, h2⟩ := bind_some h1; clear h1
  refine seq_opg s7 rfl rfl rfl rfl (of_decide_eq_true rfl) (fun hb => (Ob.uncond (t := 8) hb rfl (ob_callD (args := [_]) rfl .direct hb185 (fun a w s fs gs hf hg => by obtain rfl := hf.unnil; obtain rfl := hg.unnil; exact c_cmp_isNaN_int k _ _ (ite_t hb e_x2) _ _ _ (s.arg (.tmp rfl)))))) fun a8 w8 s8 => ?_; clear s7
  refine seq_opg s8 rfl rfl rfl rfl (of_decide_eq_true rfl) (fun hb => (Ob.uncond (t := 9) hb rfl (ob_not rfl (.tmp rfl)))) fun a9 w9 s9 => ?_; clear s8
  refine seq_op s9 rfl rfl (of_decide_eq_true rfl) (ob_and2 rfl (.tmp rfl) (.tmp rfl) opd_bool) fun a10 w10 s10 => ?_; clear s9
  refine seq_op s10 rfl rfl (of_decide_eq_true rfl) (ob_move rfl (.tmp rfl)) fun a11 w11 s11 => ?_; clear s10
  refine seq_opg s11 rfl rfl rfl rfl (of_decide_eq_true rfl) (fun hb => ob_move rfl (.tmp rfl)) fun a12 w12 s12 => ?_; clear s11
  refine seq_opg s12 rfl rfl rfl rfl (of_decide_eq_true rfl) (fun hb => ob_move rfl (.tmp rfl)) fun a13 w13 s13 => ?_; clear s12
  refine seq_opg s13 rfl rfl rfl rfl (of_decide_eq_true rfl) (fun hb => (Ob.uncond (t := 14) hb rfl ((Ob.uncond (t := 13) hb rfl (ob_lss rfl (.tmp rfl) (.tmp rfl)))))) fun a14 w14 s14 => ?_; clear s13
  refine seq_op s14 rfl rfl (of_decide_eq_true rfl) (ob_or2 rfl (.tmp rfl) opd_bool (.tmp rfl)) fun a15 w15 s15 => ?_; clear s14
  refine seq_op s15 rfl rfl (of_decide_eq_true rfl) (ob_assign rfl (.tmp rfl)) fun a16 w16 s16 => ?_; clear s15
  refine wpList_nil ?_
  refine then_normal ?_
  refine hK2 _ _ ?_
  have s17 := s16.sub (.cons (t := 4) rfl .nil); clear s16
  refine wp_ret ?_
  obtain rfl := Option.some.inj h2
  exact leave s17 (.inl rfl) rfl (.cons (.tmp rfl) .nil)

/- 163 slices.isNaN[int] -/
theorem c_slices_isNaN_int (k : Nat) (p1 : Int) (r : Bool) (h0 : slices_isNaN_int k p1 = some r) (ok : Ok) (w0 : World) (z0 : Value) (u0 : ((kint .i64).V p1).holds ok w0 z0) :
    Gives Try.prog 163 [z0] ok w0 (resFact [kbool.V r]) := by
  unfold slices_isNaN_int at h0
  refine enter (N := 6) Try.func163 rfl rfl (of_decide_eq_true rfl) (.cons u0 .nil) fun a1 s1 => ?_
  refine wp_seq_k fun K1 hK1 => ?_
  refine wp_region_lit ?_
  refine seq_op s1 rfl rfl (of_decide_eq_true rfl) (ob_assign rfl opd_bool) fun a2 w2 s2 => ?_; clear s1
  refine wpList_nil ?_
  refine then_normal ?_
  refine hK1 _ _ ?_
  have s3 := s2.sub (.cons (t := 0) rfl .nil); clear s2
  refine wp_seq_k fun K2 hK2 => ?_
  refine wp_region_lit ?_
  refine seq_op s3 rfl rfl (of_decide_eq_true rfl) (ob_move rfl (.tmp rfl)) fun a4 w4 s4 => ?_; clear s3
  refine seq_op s4 rfl rfl (of_decide_eq_true rfl) (ob_move rfl (.tmp rfl)) fun a5 w5 s5 => ?_; clear s4
  refine seq_op s5 rfl rfl (of_decide_eq_true rfl) (ob_neq rfl (.tmp rfl) (.tmp rfl)) fun a6 w6 s6 => ?_; clear s5
  refine seq_op s6 rfl rfl (of_decide_eq_true rfl) (ob_assign rfl (.tmp rfl)) fun a7 w7 s7 => ?_; clear s6
  refine wpList_nil ?_
  refine then_normal ?_
  refine hK2 _ _ ?_
  have s8 := s7.sub (.cons (t := 2) rfl .nil); clear s7
  refine wp_ret ?_
  obtain rfl := Option.some.inj h0
  exact leave s8 (.inl rfl) rfl (.cons (.tmp rfl) .nil)

/- 141 slices.BinarySearch[[]int,int] -/
theorem c_slices_BinarySearch_int_int (k : Nat) (p1 : (List Int)) (p2 : Int) (r : (Int × Bool)) (h0 : slices_BinarySearch_int_int k p1 p2 = some r) (ok : Ok) (w0 : World) (z0 : Value) (z1 : Value) (u0 : ((ksl (kint .i64)).V p1).holds ok w0 z0) (u1 : ((kint .i64).V p2).holds ok w0 z1) :
    Gives Try.prog 141 [z0, z1] ok w0 (resFact [(kint .i64).V r.1, kbool.V r.2]) := by
  unfold slices_BinarySearch_int_int at h0
  refine enter (N := 54) Try.func141 rfl rfl (of_decide_eq_true rfl) (.cons u0 (.cons u1 .nil)) fun a1 s1 => ?_
  refine wp_seq_k fun K1 hK1 => ?_
  refine wp_region_lit ?_
  refine seq_op s1 rfl rfl (of_decide_eq_true rfl) (ob_assign rfl (opd_int rfl)) fun a2 w2 s2 => ?_; clear s1
  refine seq_op s2 rfl rfl (of_decide_eq_true rfl) (ob_assign rfl opd_bool) fun a3 w3 s3 => ?_; clear s2
  refine wpList_nil ?_
  refine then_normal ?_
  refine hK1 _ _ ?_
  have s4 := s3.sub (.cons (t := 0) rfl (.cons (t := 1) rfl .nil)); clear s3
  refine wp_seq_k fun K2 hK2 => ?_
  refine wp_region_lit ?_
  refine seq_op s4 rfl rfl (of_decide_eq_true rfl) (ob_move rfl (.tmp rfl)) fun a5 w5 s5 => ?_; clear s4
  refine seq_op s5 rfl rfl (of_decide_eq_true rfl) (ob_lens rfl Try.underlying41 (.tmp rfl)) fun a6 w6 s6 => ?_; clear s5
  refine seq_op s6 rfl rfl (of_decide_eq_true rfl) (ob_assign rfl (.tmp rfl)) fun a7 w7 s7 => ?_; clear s6
  refine wpList_nil ?_
  refine then_normal ?_
  refine hK2 _ _ ?_
  have s8 := s7.sub (.cons (t := 0) rfl (.cons (t := 1) rfl (.cons (t := 6) rfl .nil))); clear s7
  refine wp_seq_k fun K3 hK3 => ?_
  refine wp_region_lit ?_
  refine seq_op s8 rfl rfl (of_decide_eq_true rfl) (ob_move rfl (.tmp rfl)) fun a9 w9 s9 => ?_; clear s8
  refine seq_op s9 rfl rfl (of_decide_eq_true rfl) (ob_assign rfl (opd_int rfl)) fun a10 w10 s10 => ?_; clear s9
  refine seq_op s10 rfl rfl (of_decide_eq_true rfl) (ob_assign rfl (.tmp rfl)) fun a11 w11 s11 => ?_; clear s10
  refine wpList_nil ?_
  refine then_normal ?_
  refine hK3 _ _ ?_
  have s12 := s11.sub (.cons (t := 0) rfl (.cons (t := 1) rfl (.cons (t := 6) rfl (.cons (t := 7) rfl (.cons (t := 8) rfl .nil))))); clear s11
  refine wp_seq_k fun K4 hK4 => ?_
  have hj1 : ∀ (y1 : Int) (a : Act) (w : World), (slices_BinarySearch_int_int.j1 k p1 p2) y1 = some r → St ⟨54, w0, ok, []⟩ [] [(0, ((ksl (kint .i64)).V p1)), (1, ((kint .i64).V p2)), (6, ((kint .i64).V (p1.length : Int))), (7, ((kint .i64).V y1))] a w → K4 a w := by
    intro y1 a13 w13 h1 s13
    unfold slices_BinarySearch_int_int.j1 at h1
    refine hK4 _ _ ?_
    refine wp_seq_k fun K5 hK5 => ?_
    refine wp_region_lit ?_
    refine seq_op s13 rfl rfl (of_decide_eq_true rfl) (ob_move rfl (.tmp rfl)) fun a14 w14 s14 => ?_; clear s13
    refine seq_op s14 rfl rfl (of_decide_eq_true rfl) (ob_move rfl (.tmp rfl)) fun a15 w15 s15 => ?_; clear s14
    refine seq_op s15 rfl rfl (of_decide_eq_true rfl) (ob_move rfl (.tmp rfl)) fun a16 w16 s16 => ?_; clear s15
    refine seq_op s16 rfl rfl (of_decide_eq_true rfl) (ob_lss rfl (.tmp rfl) (.tmp rfl)) fun a17 w17 s17 => ?_; clear s16
    refine seq_op s17 rfl rfl (of_decide_eq_true rfl) (ob_move rfl (.tmp rfl)) fun a18 w18 s18 => ?_; clear s17
    refine seq_opg s18 rfl rfl rfl rfl (of_decide_eq_true rfl) (fun hb => ob_move rfl (.tmp rfl)) fun a19 w19 s19 => ?_; clear s18
    refine seq_opg s19 rfl rfl rfl rfl (of_decide_eq_true rfl) (fun hb => ob_move rfl (.tmp rfl)) fun a20 w20 s20 => ?_; clear s19
    obtain ⟨x1, e_x1, h2⟩ := bind_some h1; clear h1
    refine seq_opg s20 rfl rfl rfl rfl (of_decide_eq_true rfl) (fun hb => (Ob.uncond (t := 37) hb rfl ((Ob.uncond (t := 36) hb rfl (ob_indexAddrs rfl Try.underlying41 sz3 (.tmp rfl) (.tmp rfl) (ite_t hb e_x1)))))) fun a21 w21 s21 => ?_; clear s20
    refine seq_opg s21 rfl rfl rfl rfl (of_decide_eq_true rfl) (fun hb => (Ob.uncond (t := 38) hb rfl (ob_loadr rfl tk3 (.tmp rfl)))) fun a22 w22 s22 => ?_; clear s21
    refine seq_opg s22 rfl rfl rfl rfl (of_decide_eq_true rfl) (fun hb => ob_move rfl (.tmp rfl)) fun a23 w23 s23 => ?_; clear s22
    refine seq_opg s23 rfl rfl rfl rfl (of_decide_eq_true rfl) (fun hb => (Ob.uncond (t := 40) hb rfl ((Ob.uncond (t := 39) hb rfl (ob_eql rfl (.tmp rfl) (.tmp rfl)))))) fun a24 w24 s24 => ?_; clear s23
    refine seq_opg s24 rfl rfl rfl rfl (of_decide_eq_true rfl) (fun hb => (Ob.uncond (t := 41) hb rfl (ob_move rfl (.tmp rfl)))) fun a25 w25 s25 => ?_; clear s24
    refine seq_opg2 s25 rfl rfl rfl rfl (of_decide_eq_true rfl) (fun hb => ob_move rfl (.tmp rfl)) fun a26 w26 s26 => ?_; clear s25
    refine seq_opg2 s26 rfl rfl rfl rfl (of_decide_eq_true rfl) (fun hb => ob_move rfl (.tmp rfl)) fun a27 w27 s27 => ?_; clear s26
    obtain ⟨x2, e_x2, h3⟩ := bind_some h2; clear h2
    refine seq_opg2 s27 rfl rfl rfl rfl (of_decide_eq_true rfl) (fun hb => (Ob.uncond (t := 44) hb rfl ((Ob.uncond (t := 43) hb rfl (ob_indexAddrs rfl Try.underlying41 sz3 (.tmp rfl) (.tmp rfl) (ite_t hb e_x2)))))) fun a28 w28 s28 => ?_; clear s27
    refine seq_opg2 s28 rfl rfl rfl rfl (of_decide_eq_true rfl) (fun hb => (Ob.uncond (t := 45) hb rfl (ob_loadr rfl tk3 (.tmp rfl)))) fun a29 w29 s29 => ?_; clear s28
    obtain ⟨x3, e_x3, h4⟩ := bind_some h3; clear h3
    refine seq_opg2 s29 rfl rfl rfl rfl (of_decide_eq_true rfl) (fun hb => (Ob.uncond (t := 46) hb rfl (ob_callD (args := [_]) rfl .direct hb163 (fun a w s fs gs hf hg => by obtain rfl := hf.unnil; obtain rfl := hg.unnil; exact c_slices_isNaN_int k _ _ (ite_t hb e_x3) _ _ _ (s.arg (.tmp rfl)))))) fun a30 w30 s30 => ?_; clear s29
    refine seq_opg2 s30 rfl rfl rfl rfl (of_decide_eq_true rfl) (fun hb => (Ob.uncond (t := 47) hb rfl (ob_move rfl (.tmp rfl)))) fun a31 w31 s31 => ?_; clear s30
    refine seq_opg2 s31 rfl rfl rfl rfl (of_decide_eq_true rfl) (fun hb => ob_move rfl (.tmp rfl)) fun a32 w32 s32 => ?_; clear s31
    obtain ⟨x4, e_x4, h5⟩ := bind_some h4; clear h4
    refine seq_opg2 s32 rfl rfl rfl rfl (of_decide_eq_true rfl) (fun hb => (Ob.uncond (t := 49) hb rfl (ob_callD (args := [_]) rfl .direct hb163 (fun a w s fs gs hf hg => by obtain rfl := hf.unnil; obtain rfl := hg.unnil; exact c_slices_isNaN_int k _ _ (ite_t hb e_x4) _ _ _ (s.arg (.tmp rfl)))))) fun a33 w33 s33 => ?_; clear s32
    refine seq_opg2 s33 rfl rfl rfl rfl (of_decide_eq_true rfl) (fun hb => (Ob.uncond (t := 48) hb rfl (ob_and3 hb rfl (.tmp rfl) (.tmp rfl) opd_bool))) fun a34 w34 s34 => ?_; clear s33
    refine seq_opg s34 rfl rfl rfl rfl (of_decide_eq_true rfl) (fun hb => (Ob.uncond (t := 42) hb rfl (ob_or3 hb rfl (.tmp rfl) opd_bool (.tmp rfl)))) fun a35 w35 s35 => ?_; clear s34
    obtain ⟨x5, e_x5, h6⟩ := bind_some h5; clear h5; replace e_x5 := Option.some.inj e_x5
    refine seq_op s35 rfl rfl (of_decide_eq_true rfl) ((ob_and2 rfl (.tmp rfl) (.tmp rfl) opd_bool).nm e_x5) fun a36 w36 s36 => ?_; clear s35
    refine seq_op s36 rfl rfl (of_decide_eq_true rfl) (ob_assign rfl (.tmp rfl)) fun a37 w37 s37 => ?_; clear s36
    refine seq_op s37 rfl rfl (of_decide_eq_true rfl) (ob_assign rfl (.tmp rfl)) fun a38 w38 s38 => ?_; clear s37
    refine wpList_nil ?_
    refine then_normal ?_
    refine hK5 _ _ ?_
    have s39 := s38.sub (.cons (t := 4) rfl (.cons (t := 5) rfl .nil)); clear s38
    refine wp_ret ?_
    obtain rfl := Option.some.inj h6
    exact leave s39 (.inl rfl) rfl (.cons (.tmp rfl) (.cons (.tmp rfl) .nil))
  refine wp_block ?_
  refine wp_loop_fuel (fun m (q : Int × Int) => slices_BinarySearch_int_int.l1 k p1 p2 m q.1 q.2) r (fun _ => rfl) (fun q a w => St ⟨54, w0, ok, []⟩ [] [(0, ((ksl (kint .i64)).V p1)), (1, ((kint .i64).V p2)), (6, ((kint .i64).V (p1.length : Int))), (7, ((kint .i64).V q.1)), (8, ((kint .i64).V q.2))] a w) ?_ k ((0 : Int), (p1.length : Int)) _ _ h0 (s12.sub (.cons rfl (.cons rfl (.cons rfl (.cons rfl (.cons rfl .nil))))))
  rintro n1 ⟨y2, y3⟩ a40 w40 h7 s40 K6 hK6
  replace h7 : slices_BinarySearch_int_int.l1 k p1 p2 (n1 + 1) y2 y3 = some r := h7; rw [slices_BinarySearch_int_int.l1] at h7
  have h8 := h7; clear h7
  refine wp_seq_k fun K7 hK7 => ?_
  refine wp_seq_k fun K8 hK8 => ?_
  refine wp_region_lit ?_
  refine seq_op s40 rfl rfl (of_decide_eq_true rfl) (ob_move rfl (.tmp rfl)) fun a41 w41 s41 => ?_; clear s40
  refine seq_op s41 rfl rfl (of_decide_eq_true rfl) (ob_move rfl (.tmp rfl)) fun a42 w42 s42 => ?_; clear s41
  refine seq_op s42 rfl rfl (of_decide_eq_true rfl) (ob_lss rfl (.tmp rfl) (.tmp rfl)) fun a43 w43 s43 => ?_; clear s42
  refine wpList_nil ?_
  refine then_normal ?_
  refine hK8 _ _ ?_
  have s44 := s43.sub (.cons (t := 0) rfl (.cons (t := 1) rfl (.cons (t := 6) rfl (.cons (t := 7) rfl (.cons (t := 8) rfl (.cons (t := 15) rfl .nil)))))); clear s43
  refine cond_split s44 (.tmp rfl) (fun hc1 => ?_) (fun hc1 => ?_)
  · replace h8 := ite_t hc1 h8
    have h9 := h8; clear h8
    refine wp_skip ?_
    refine then_normal ?_
    refine hK7 _ _ ?_
    have s45 := s44.sub (.cons (t := 0) rfl (.cons (t := 1) rfl (.cons (t := 6) rfl (.cons (t := 7) rfl (.cons (t := 8) rfl .nil))))); clear s44
    refine wp_block ?_
    refine wp_seq_k fun K9 hK9 => ?_
    refine wp_region_lit ?_
    refine seq_op s45 rfl rfl (of_decide_eq_true rfl) (ob_move rfl (.tmp rfl)) fun a46 w46 s46 => ?_; clear s45
    refine seq_op s46 rfl rfl (of_decide_eq_true rfl) (ob_move rfl (.tmp rfl)) fun a47 w47 s47 => ?_; clear s46
    refine seq_op s47 rfl rfl (of_decide_eq_true rfl) (ob_add rfl (.tmp rfl) (.tmp rfl)) fun a48 w48 s48 => ?_; clear s47
    refine seq_op s48 rfl rfl (of_decide_eq_true rfl) (ob_conv rfl _ Try.underlying3 Try.underlying37 (.tmp rfl)) fun a49 w49 s49 => ?_; clear s48
    refine seq_op s49 rfl rfl (of_decide_eq_true rfl) (ob_shr rfl (.tmp rfl) (opd_int rfl) (by decide)) fun a50 w50 s50 => ?_; clear s49
    obtain ⟨x6, e_x6, h10⟩ := bind_some h9; clear h9; replace e_x6 := Option.some.inj e_x6
    refine seq_op s50 rfl rfl (of_decide_eq_true rfl) ((ob_conv rfl _ Try.underlying37 Try.underlying3 (.tmp rfl)).nm e_x6) fun a51 w51 s51 => ?_; clear s50
    refine seq_op s51 rfl rfl (of_decide_eq_true rfl) (ob_assign rfl (.tmp rfl)) fun a52 w52 s52 => ?_; clear s51
    refine wpList_nil ?_
    refine then_normal ?_
    refine hK9 _ _ ?_
    have s53 := s52.sub (.cons (t := 0) rfl (.cons (t := 1) rfl (.cons (t := 6) rfl (.cons (t := 7) rfl (.cons (t := 8) rfl (.cons (t := 9) rfl .nil)))))); clear s52
    refine wp_seq_k fun K10 hK10 => ?_
    refine wp_region_lit ?_
    refine seq_op s53 rfl rfl (of_decide_eq_true rfl) (ob_move rfl (.tmp rfl)) fun a54 w54 s54 => ?_; clear s53
    refine seq_op s54 rfl rfl (of_decide_eq_true rfl) (ob_move rfl (.tmp rfl)) fun a55 w55 s55 => ?_; clear s54
    obtain ⟨x7, e_x7, h11⟩ := bind_some h10; clear h10
    refine seq_op s55 rfl rfl (of_decide_eq_true rfl) (ob_indexAddrs rfl Try.underlying41 sz3 (.tmp rfl) (.tmp rfl) e_x7) fun a56 w56 s56 => ?_; clear s55
    refine seq_op s56 rfl rfl (of_decide_eq_true rfl) (ob_loadr rfl tk3 (.tmp rfl)) fun a57 w57 s57 => ?_; clear s56
    refine seq_op s57 rfl rfl (of_decide_eq_true rfl) (ob_move rfl (.tmp rfl)) fun a58 w58 s58 => ?_; clear s57
    obtain ⟨x8, e_x8, h12⟩ := bind_some h11; clear h11
    refine seq_op s58 rfl rfl (of_decide_eq_true rfl) (ob_callD (args := [_, _]) rfl .direct hb162 (fun a w s fs gs hf hg => by obtain rfl := hf.unnil; obtain rfl := hg.unnil; exact c_cmp_Less_int k _ _ _ e_x8 _ _ _ _ (s.arg (.tmp rfl)) (s.arg (.tmp rfl)))) fun a59 w59 s59 => ?_; clear s58
    refine wpList_nil ?_
    refine then_normal ?_
    refine hK10 _ _ ?_
    have s60 := s59.sub (.cons (t := 0) rfl (.cons (t := 1) rfl (.cons (t := 6) rfl (.cons (t := 7) rfl (.cons (t := 8) rfl (.cons (t := 9) rfl (.cons (t := 27) rfl .nil))))))); clear s59
    refine cond_split s60 (.tmp rfl) (fun hc2 => ?_) (fun hc2 => ?_)
    · replace h12 := ite_t hc2 h12
      have h13 := h12; clear h12
      refine wp_region_lit ?_
      refine seq_op s60 rfl rfl (of_decide_eq_true rfl) (ob_move rfl (.tmp rfl)) fun a61 w61 s61 => ?_; clear s60
      refine seq_op s61 rfl rfl (of_decide_eq_true rfl) (ob_add rfl (.tmp rfl) (opd_int rfl)) fun a62 w62 s62 => ?_; clear s61
      refine seq_op s62 rfl rfl (of_decide_eq_true rfl) (ob_assign rfl (.tmp rfl)) fun a63 w63 s63 => ?_; clear s62
      refine wpList_nil ?_
      refine in_normal ?_
      refine then_normal ?_
      exact hK6 ((iadd .i64 x6 (1 : Int)), y3) _ _ h13 (s63.sub (.cons rfl (.cons rfl (.cons rfl (.cons rfl (.cons rfl .nil))))))
    · replace h12 := ite_f hc2 h12
      have h14 := h12; clear h12
      refine wp_region_lit ?_
      refine seq_op s60 rfl rfl (of_decide_eq_true rfl) (ob_move rfl (.tmp rfl)) fun a64 w64 s64 => ?_; clear s60
      refine seq_op s64 rfl rfl (of_decide_eq_true rfl) (ob_assign rfl (.tmp rfl)) fun a65 w65 s65 => ?_; clear s64
      refine wpList_nil ?_
      refine in_normal ?_
      refine then_normal ?_
      exact hK6 (y2, x6) _ _ h14 (s65.sub (.cons rfl (.cons rfl (.cons rfl (.cons rfl (.cons rfl .nil))))))
  · replace h8 := ite_f hc1 h8
    have h15 := h8; clear h8
    refine wp_exit ?_
    refine (then_exit (then_exit (in_here ?_)))
    refine then_normal ?_
    exact hj1 y2 _ _ h15 (s44.sub (.cons rfl (.cons rfl (.cons rfl (.cons rfl .nil)))))

/- 93 cabal/graph.turn -/
theorem c_graph_turn (k : Nat) (p1 : (List api_Node)) (p2 : api_Op) (p3 : (List Int)) (r : Bool) (h0 : graph_turn k p1 p2 p3 = some r) (ok : Ok) (w0 : World) (z0 : Value) (z1 : Value) (z2 : Value) (u0 : ((ksl k_api_Node).V p1).holds ok w0 z0) (u1 : (k_api_Op.V p2).holds ok w0 z1) (u2 : ((ksl (kint .i64)).V p3).holds ok w0 z2) :
    Gives Try.prog 93 [z0, z1, z2] ok w0 (resFact [kbool.V r]) := by
  unfold graph_turn at h0
  refine enter (N := 49) Try.func93 rfl rfl (of_decide_eq_true rfl) (.cons u0 (.cons u1 (.cons u2 .nil))) fun a1 s1 => ?_
  refine wp_seq_k fun K1 hK1 => ?_
  refine wp_region_lit ?_
  refine seq_opx (B' := (fun b1 : Nat => [BF b1 44 k_api_Op p2])) s1 rfl rfl (of_decide_eq_true rfl) (ob_box rfl (.tmp rfl)) fun b1 a2 w2 s2 => ?_; clear s1
  refine seq_op s2 rfl rfl (of_decide_eq_true rfl) (ob_assign rfl opd_bool) fun a3 w3 s3 => ?_; clear s2
  refine wpList_nil ?_
  refine then_normal ?_
  refine hK1 _ _ ?_
  have s4 := s3.sub (.cons (t := 0) rfl (.cons (t := 2) rfl (.cons (t := 4) rfl .nil))); clear s3
  refine wp_seq_k fun K2 hK2 => ?_
  refine wp_region_lit ?_
  refine seq_op s4 rfl rfl (of_decide_eq_true rfl) (ob_assign rfl (opd_int rfl)) fun a5 w5 s5 => ?_; clear s4
  refine wpList_nil ?_
  refine then_normal ?_
  refine hK2 _ _ ?_
  have s6 := s5.sub (.cons (t := 0) rfl (.cons (t := 2) rfl (.cons (t := 4) rfl (.cons (t := 7) rfl .nil)))); clear s5
  refine wp_seq_k fun K3 hK3 => ?_
  refine wp_seq_k fun K4 hK4 => ?_
  refine wp_region_lit ?_
  refine seq_op s6 rfl rfl (of_decide_eq_true rfl) (ob_move rfl (.tmp rfl)) fun a7 w7 s7 => ?_; clear s6
  refine seq_op s7 rfl rfl (of_decide_eq_true rfl) (ob_lens rfl Try.underlying22 (.tmp rfl)) fun a8 w8 s8 => ?_; clear s7
  refine seq_op s8 rfl rfl (of_decide_eq_true rfl) (ob_move rfl (opd_int rfl)) fun a9 w9 s9 => ?_; clear s8
  refine wpList_nil ?_
  refine then_normal ?_
  refine hK4 _ _ ?_
  have s10 := s9.sub (.cons (t := 0) rfl (.cons (t := 2) rfl (.cons (t := 4) rfl (.cons (t := 7) rfl (.cons (t := 12) rfl (.cons (t := 13) rfl (.cons (t := 14) rfl .nil))))))); clear s9
  have hj1 : ∀ (y1 : Int) (a : Act) (w : World), (graph_turn.j1 k p2 p1) y1 = some r → St ⟨49, w0, ok, []⟩ [BF b1 44 k_api_Op p2] [(0, ((ksl k_api_Node).V p1)), (4, (ptrB b1 0)), (7, ((kint .u32).V y1))] a w → K3 a w := by
    intro y1 a11 w11 h1 s11
    unfold graph_turn.j1 at h1
    refine hK3 _ _ ?_
    refine wp_seq_k fun K5 hK5 => ?_
    refine wp_region_lit ?_
    refine seq_op s11 rfl rfl (of_decide_eq_true rfl) (ob_fieldAddr (off' := 1) rfl Try.underlying44 rfl sz25 (by decide) (.tmp rfl) rfl) fun a12 w12 s12 => ?_; clear s11
    refine seq_op s12 rfl rfl (of_decide_eq_true rfl) (ob_load rfl tk25 (.tmp rfl) (.head _) (lg_api_Op_Seq p2)) fun a13 w13 s13 => ?_; clear s12
    refine seq_op s13 rfl rfl (of_decide_eq_true rfl) (ob_move rfl (.tmp rfl)) fun a14 w14 s14 => ?_; clear s13
    refine seq_op s14 rfl rfl (of_decide_eq_true rfl) (ob_eql rfl (.tmp rfl) (.tmp rfl)) fun a15 w15 s15 => ?_; clear s14
    refine seq_op s15 rfl rfl (of_decide_eq_true rfl) (ob_move rfl (.tmp rfl)) fun a16 w16 s16 => ?_; clear s15
    refine seq_opg s16 rfl rfl rfl rfl (of_decide_eq_true rfl) (fun hb => ob_fieldAddr (off' := 3) rfl Try.underlying44 rfl sz3 (by decide) (.tmp rfl) rfl) fun a17 w17 s17 => ?_; clear s16
    refine seq_opg s17 rfl rfl rfl rfl (of_decide_eq_true rfl) (fun hb => (Ob.uncond (t := 41) hb rfl (ob_load rfl tk3 (.tmp rfl) (.head _) (lg_api_Op_Kind p2)))) fun a18 w18 s18 => ?_; clear s17
    refine seq_opg s18 rfl rfl rfl rfl (of_decide_eq_true rfl) (fun hb => (Ob.uncond (t := 42) hb rfl (ob_eql rfl (.tmp rfl) (opd_int rfl)))) fun a19 w19 s19 => ?_; clear s18
    refine seq_opg s19 rfl rfl rfl rfl (of_decide_eq_true rfl) (fun hb => ob_move rfl (.tmp rfl)) fun a20 w20 s20 => ?_; clear s19
    refine seq_opg s20 rfl rfl rfl rfl (of_decide_eq_true rfl) (fun hb => (Ob.uncond (t := 44) hb rfl (ob_lens rfl Try.underlying22 (.tmp rfl)))) fun a21 w21 s21 => ?_; clear s20
    refine seq_opg s21 rfl rfl rfl rfl (of_decide_eq_true rfl) (fun hb => (Ob.uncond (t := 45) hb rfl (ob_eql rfl (.tmp rfl) (opd_int rfl)))) fun a22 w22 s22 => ?_; clear s21
    refine seq_opg s22 rfl rfl rfl rfl (of_decide_eq_true rfl) (fun hb => (Ob.uncond (t := 46) hb rfl ((Ob.uncond (t := 43) hb rfl (ob_beql rfl Try.underlying4 (.tmp rfl) (.tmp rfl)))))) fun a23 w23 s23 => ?_; clear s22
    obtain ⟨x1, e_x1, h2⟩ := bind_some h1; clear h1; replace e_x1 := Option.some.inj e_x1
    refine seq_op s23 rfl rfl (of_decide_eq_true rfl) ((ob_and2 rfl (.tmp rfl) (.tmp rfl) opd_bool).nm e_x1) fun a24 w24 s24 => ?_; clear s23
    refine seq_op s24 rfl rfl (of_decide_eq_true rfl) (ob_assign rfl (.tmp rfl)) fun a25 w25 s25 => ?_; clear s24
    refine wpList_nil ?_
    refine then_normal ?_
    refine hK5 _ _ ?_
    have s26 := s25.sub (.cons (t := 6) rfl .nil); clear s25
    have s27 := St.drop (A := []) s26; clear s26
    refine wp_ret ?_
    obtain rfl := Option.some.inj h2
    exact leave s27 (.inl rfl) rfl (.cons (.tmp rfl) .nil)
  refine wp_block ?_
  refine wp_loop_fuel (fun m (q : Int × Int) => graph_turn.l1 k p1 p2 p3 m q.1 q.2) r (fun _ => rfl) (fun q a w => St ⟨49, w0, ok, []⟩ [BF b1 44 k_api_Op p2] [(0, ((ksl k_api_Node).V p1)), (2, ((ksl (kint .i64)).V p3)), (4, (ptrB b1 0)), (7, ((kint .u32).V q.1)), (12, ((ksl k_api_Node).V p1)), (13, ((kint .i64).V (p1.length : Int))), (14, ((kint .i64).V q.2))] a w) ?_ k ((1 : Int), (0 : Int)) _ _ h0 (s10.sub (.cons rfl (.cons rfl (.cons rfl (.cons rfl (.cons rfl (.cons rfl (.cons rfl .nil))))))))
  rintro n1 ⟨y2, y3⟩ a28 w28 h3 s28 K6 hK6
  replace h3 : graph_turn.l1 k p1 p2 p3 (n1 + 1) y2 y3 = some r := h3; rw [graph_turn.l1] at h3
  have h4 := h3; clear h3
  refine wp_seq_k fun K7 hK7 => ?_
  refine wp_region_lit ?_
  refine seq_op s28 rfl rfl (of_decide_eq_true rfl) (ob_lss rfl (.tmp rfl) (.tmp rfl)) fun a29 w29 s29 => ?_; clear s28
  refine wpList_nil ?_
  refine then_normal ?_
  refine hK7 _ _ ?_
  have s30 := s29.sub (.cons (t := 0) rfl (.cons (t := 2) rfl (.cons (t := 4) rfl (.cons (t := 7) rfl (.cons (t := 12) rfl (.cons (t := 13) rfl (.cons (t := 14) rfl (.cons (t := 15) rfl .nil)))))))); clear s29
  refine wp_seq_k fun K8 hK8 => ?_
  refine cond_split s30 (.tmp rfl) (fun hc1 => ?_) (fun hc1 => ?_)
  · replace h4 := ite_t hc1 h4
    have h5 := h4; clear h4
    refine wp_skip ?_
    refine then_normal ?_
    refine hK8 _ _ ?_
    have s31 := s30.sub (.cons (t := 0) rfl (.cons (t := 2) rfl (.cons (t := 4) rfl (.cons (t := 7) rfl (.cons (t := 12) rfl (.cons (t := 13) rfl (.cons (t := 14) rfl .nil))))))); clear s30
    refine wp_seq_k fun K9 hK9 => ?_
    have hj2 : ∀ (y4 : Int) (a : Act) (w : World), (graph_turn.j2 k y3 (graph_turn.l1 k p1 p2 p3 n1)) y4 = some r → St ⟨49, w0, ok, []⟩ [BF b1 44 k_api_Op p2] [(0, ((ksl k_api_Node).V p1)), (2, ((ksl (kint .i64)).V p3)), (4, (ptrB b1 0)), (7, ((kint .u32).V y4)), (12, ((ksl k_api_Node).V p1)), (13, ((kint .i64).V (p1.length : Int))), (14, ((kint .i64).V y3))] a w → K9 a w := by
      intro y4 a32 w32 h6 s32
      unfold graph_turn.j2 at h6
      refine hK9 _ _ ?_
      refine wp_region_lit ?_
      refine seq_op s32 rfl rfl (of_decide_eq_true rfl) (ob_add rfl (.tmp rfl) (opd_int rfl)) fun a33 w33 s33 => ?_; clear s32
      refine seq_op s33 rfl rfl (of_decide_eq_true rfl) (ob_move rfl (.tmp rfl)) fun a34 w34 s34 => ?_; clear s33
      refine wpList_nil ?_
      refine then_normal ?_
      exact hK6 (y4, (iadd .i64 y3 (1 : Int))) _ _ h6 (s34.sub (.cons rfl (.cons rfl (.cons rfl (.cons rfl (.cons rfl (.cons rfl (.cons rfl .nil))))))))
    refine wp_block ?_
    refine wp_seq_k fun K10 hK10 => ?_
    refine wp_region_lit ?_
    refine seq_op s31 rfl rfl (of_decide_eq_true rfl) (ob_move rfl (.tmp rfl)) fun a35 w35 s35 => ?_; clear s31
    obtain ⟨x2, e_x2, h7⟩ := bind_some h5; clear h5
    refine seq_op s35 rfl rfl (of_decide_eq_true rfl) (ob_indexAddrs rfl Try.underlying22 sz46 (.tmp rfl) (.tmp rfl) e_x2) fun a36 w36 s36 => ?_; clear s35
    refine seq_op s36 rfl rfl (of_decide_eq_true rfl) (ob_loadr rfl tk46 (.tmp rfl)) fun a37 w37 s37 => ?_; clear s36
    refine seq_opx (B' := (fun b2 : Nat => [BF b2 46 k_api_Node (⟨(List.replicate 32 (0 : Int)), (⟨(0 : Int), (0 : Int), [], (0 : Int), [], (List.replicate 32 (0 : Int)), (List.replicate 32 (0 : Int)), [], []⟩ : api_Op), []⟩ : api_Node), BF b1 44 k_api_Op p2])) s37 rfl rfl (of_decide_eq_true rfl) (ob_new (k := k_api_Node) rfl zz46 (Zr.iso (f := t_api_Node) (x := (⟨(List.replicate 32 (0 : Int)), (⟨(0 : Int), (0 : Int), [], (0 : Int), [], (List.replicate 32 (0 : Int)), (List.replicate 32 (0 : Int)), [], []⟩ : api_Op), []⟩ : api_Node)) (Zr.pair (Zr.arr 32 (Zr.int .u8)) (Zr.pair (Zr.iso (f := t_api_Op) (x := (⟨(0 : Int), (0 : Int), [], (0 : Int), [], (List.replicate 32 (0 : Int)), (List.replicate 32 (0 : Int)), [], []⟩ : api_Op)) (Zr.pair (Zr.int .i64) (Zr.pair (Zr.int .u32) (Zr.pair (Zr.sl _) (Zr.pair (Zr.int .i64) (Zr.pair (Zr.sl _) (Zr.pair (Zr.arr 32 (Zr.int .u8)) (Zr.pair (Zr.arr 32 (Zr.int .u8)) (Zr.pair Zr.str (Zr.pair (Zr.sl _) Zr.nil)))))))))) (Zr.pair (Zr.sl _) Zr.nil))))) fun b2 a38 w38 s38 => ?_; clear s37
    refine seq_op s38 rfl rfl (of_decide_eq_true rfl) (ob_assign rfl (.tmp rfl)) fun a39 w39 s39 => ?_; clear s38
    refine seq_opx0 (B' := (fun _ : Unit => [BF b2 46 k_api_Node x2, BF b1 44 k_api_Op p2])) s39 rfl rfl (ob_store (A := []) rfl tk46 (.tmp rfl) (.tmp rfl) rfl (LS.refl _ _ _) rfl) fun _ a40 w40 s40 => ?_; clear s39
    refine wpList_nil ?_
    refine then_normal ?_
    refine hK10 _ _ ?_
    have s41 := s40.sub (.cons (t := 0) rfl (.cons (t := 2) rfl (.cons (t := 4) rfl (.cons (t := 7) rfl (.cons (t := 8) rfl (.cons (t := 9) rfl (.cons (t := 12) rfl (.cons (t := 13) rfl (.cons (t := 14) rfl .nil))))))))); clear s40
    refine wp_seq_k fun K11 hK11 => ?_
    refine wp_seq_k fun K12 hK12 => ?_
    refine wp_region_lit ?_
    refine seq_op s41 rfl rfl (of_decide_eq_true rfl) (ob_fieldAddr (off' := 32) rfl Try.underlying46 rfl sz44 (by decide) (.tmp rfl) rfl) fun a42 w42 s42 => ?_; clear s41
    refine seq_op s42 rfl rfl (of_decide_eq_true rfl) (ob_fieldAddr (off' := 32) rfl Try.underlying44 rfl sz3 (by decide) (.tmp rfl) rfl) fun a43 w43 s43 => ?_; clear s42
    refine seq_op s43 rfl rfl (of_decide_eq_true rfl) (ob_load rfl tk3 (.tmp rfl) (.head _) (LG.trans (lg_api_Node_Op x2) (lg_api_Op_Author x2.Op) (by decide))) fun a44 w44 s44 => ?_; clear s43
    refine seq_op s44 rfl rfl (of_decide_eq_true rfl) (ob_fieldAddr (off' := 0) rfl Try.underlying44 rfl sz3 (by decide) (.tmp rfl) rfl) fun a45 w45 s45 => ?_; clear s44
    refine seq_op s45 rfl rfl (of_decide_eq_true rfl) (ob_load rfl tk3 (.tmp rfl) (.tail _ (.head _)) (lg_api_Op_Author p2)) fun a46 w46 s46 => ?_; clear s45
    refine seq_op s46 rfl rfl (of_decide_eq_true rfl) (ob_neq rfl (.tmp rfl) (.tmp rfl)) fun a47 w47 s47 => ?_; clear s46
    refine wpList_nil ?_
    refine then_normal ?_
    refine hK12 _ _ ?_
    have s48 := s47.sub (.cons (t := 0) rfl (.cons (t := 2) rfl (.cons (t := 4) rfl (.cons (t := 7) rfl (.cons (t := 8) rfl (.cons (t := 12) rfl (.cons (t := 13) rfl (.cons (t := 14) rfl (.cons (t := 24) rfl .nil))))))))); clear s47
    have s49 := St.drop (A := []) s48; clear s48
    refine cond_split s49 (.tmp rfl) (fun hc2 => ?_) (fun hc2 => ?_)
    · replace h7 := ite_t hc2 h7
      have h8 := h7; clear h7
      refine wp_exit ?_
      refine (then_exit (in_here ?_))
      refine then_normal ?_
      exact hj2 y2 _ _ h8 (s49.sub (.cons rfl (.cons rfl (.cons rfl (.cons rfl (.cons rfl (.cons rfl (.cons rfl .nil))))))))
    · replace h7 := ite_f hc2 h7
      have h9 := h7; clear h7
      refine wp_skip ?_
      refine then_normal ?_
      refine hK11 _ _ ?_
      have s50 := s49.sub (.cons (t := 0) rfl (.cons (t := 2) rfl (.cons (t := 4) rfl (.cons (t := 7) rfl (.cons (t := 8) rfl (.cons (t := 12) rfl (.cons (t := 13) rfl (.cons (t := 14) rfl .nil)))))))); clear s49
      refine wp_seq_k fun K13 hK13 => ?_
      refine wp_seq_k fun K14 hK14 => ?_
      refine wp_region_lit ?_
      refine seq_op s50 rfl rfl (of_decide_eq_true rfl) (ob_move rfl (.tmp rfl)) fun a51 w51 s51 => ?_; clear s50
      refine seq_op s51 rfl rfl (of_decide_eq_true rfl) (ob_move rfl (.tmp rfl)) fun a52 w52 s52 => ?_; clear s51
      obtain ⟨x3, e_x3, h10⟩ := bind_some h9; clear h9
      refine seq_op s52 rfl rfl (of_decide_eq_true rfl) (ob_callD (args := [_, _]) rfl .direct hb141 (fun a w s fs gs hf hg => by obtain rfl := hf.unnil; obtain rfl := hg.unnil; exact c_slices_BinarySearch_int_int k _ _ _ e_x3 _ _ _ _ (s.arg (.tmp rfl)) (s.arg (.tmp rfl)))) fun a53 w53 s53 => ?_; clear s52
      refine seq_op s53 rfl rfl (of_decide_eq_true rfl) (ob_move rfl (.tmp rfl)) fun a54 w54 s54 => ?_; clear s53
      refine seq_op s54 rfl rfl (of_decide_eq_true rfl) (ob_extract rfl (.tmp rfl) rfl) fun a55 w55 s55 => ?_; clear s54
      refine seq_op s55 rfl rfl (of_decide_eq_true rfl) (ob_extract rfl (.tmp rfl) rfl) fun a56 w56 s56 => ?_; clear s55
      refine seq_op s56 rfl rfl (of_decide_eq_true rfl) (ob_assign rfl (.tmp rfl)) fun a57 w57 s57 => ?_; clear s56
      refine seq_op s57 rfl rfl (of_decide_eq_true rfl) (ob_assign rfl (.tmp rfl)) fun a58 w58 s58 => ?_; clear s57
      refine wpList_nil ?_
      refine then_normal ?_
      refine hK14 _ _ ?_
      have s59 := s58.sub (.cons (t := 0) rfl (.cons (t := 2) rfl (.cons (t := 4) rfl (.cons (t := 7) rfl (.cons (t := 11) rfl (.cons (t := 12) rfl (.cons (t := 13) rfl (.cons (t := 14) rfl .nil)))))))); clear s58
      refine wp_seq_k fun K15 hK15 => ?_
      refine wp_region_lit ?_
      refine seq_op s59 rfl rfl (of_decide_eq_true rfl) (ob_move rfl (.tmp rfl)) fun a60 w60 s60 => ?_; clear s59
      refine seq_op s60 rfl rfl (of_decide_eq_true rfl) (ob_not rfl (.tmp rfl)) fun a61 w61 s61 => ?_; clear s60
      refine wpList_nil ?_
      refine then_normal ?_
      refine hK15 _ _ ?_
      have s62 := s61.sub (.cons (t := 0) rfl (.cons (t := 2) rfl (.cons (t := 4) rfl (.cons (t := 7) rfl (.cons (t := 12) rfl (.cons (t := 13) rfl (.cons (t := 14) rfl (.cons (t := 32) rfl .nil)))))))); clear s61
      refine cond_split s62 (.tmp rfl) (fun hc3 => ?_) (fun hc3 => ?_)
      · replace h10 := ite_t hc3 h10
        have h11 := h10; clear h10
        refine wp_seq_k fun K16 hK16 => ?_
        refine wp_region_lit ?_
        refine seq_op s62 rfl rfl (of_decide_eq_true rfl) (ob_assign rfl opd_bool) fun a63 w63 s63 => ?_; clear s62
        refine wpList_nil ?_
        refine then_normal ?_
        refine hK16 _ _ ?_
        have s64 := s63.sub (.cons (t := 6) rfl .nil); clear s63
        have s65 := St.drop (A := []) s64; clear s64
        refine wp_ret ?_
        obtain rfl := Option.some.inj h11
        exact leave s65 (.inl rfl) rfl (.cons (.tmp rfl) .nil)
      · replace h10 := ite_f hc3 h10
        have h12 := h10; clear h10
        refine wp_skip ?_
        refine then_normal ?_
        refine hK13 _ _ ?_
        have s66 := s62.sub (.cons (t := 0) rfl (.cons (t := 2) rfl (.cons (t := 4) rfl (.cons (t := 7) rfl (.cons (t := 12) rfl (.cons (t := 13) rfl (.cons (t := 14) rfl .nil))))))); clear s62
        refine wp_region_lit ?_
        refine seq_op s66 rfl rfl (of_decide_eq_true rfl) (ob_move rfl (.tmp rfl)) fun a67 w67 s67 => ?_; clear s66
        refine seq_op s67 rfl rfl (of_decide_eq_true rfl) (ob_add rfl (.tmp rfl) (opd_int rfl)) fun a68 w68 s68 => ?_; clear s67
        refine seq_op s68 rfl rfl (of_decide_eq_true rfl) (ob_assign rfl (.tmp rfl)) fun a69 w69 s69 => ?_; clear s68
        refine wpList_nil ?_
        refine in_normal ?_
        refine then_normal ?_
        exact hj2 (iadd .u32 y2 (1 : Int)) _ _ h12 (s69.sub (.cons rfl (.cons rfl (.cons rfl (.cons rfl (.cons rfl (.cons rfl (.cons rfl .nil))))))))
  · replace h4 := ite_f hc1 h4
    have h13 := h4; clear h4
    refine wp_exit ?_
    refine (then_exit (then_exit (in_here ?_)))
    refine then_normal ?_
    exact hj1 y2 _ _ h13 (s30.sub (.cons rfl (.cons rfl (.cons rfl .nil))))

/- 78 cabal/graph.fits -/
theorem c_graph_fits (k : Nat) (p1 : (List api_Node)) (p2 : api_Node) (r : Bool) (h0 : graph_fits k p1 p2 = some r) (ok : Ok) (w0 : World) (z0 : Value) (z1 : Value) (u0 : ((ksl k_api_Node).V p1).holds ok w0 z0) (u1 : (k_api_Node.V p2).holds ok w0 z1) :
    Gives Try.prog 78 [z0, z1] ok w0 (resFact [kbool.V r]) := by
  unfold graph_fits at h0
  refine enter (N := 42) Try.func78 rfl rfl (of_decide_eq_true rfl) (.cons u0 (.cons u1 .nil)) fun a1 s1 => ?_
  refine wp_seq_k fun K1 hK1 => ?_
  refine wp_region_lit ?_
  refine seq_opx (B' := (fun b1 : Nat => [BF b1 46 k_api_Node p2])) s1 rfl rfl (of_decide_eq_true rfl) (ob_box rfl (.tmp rfl)) fun b1 a2 w2 s2 => ?_; clear s1
  refine seq_op s2 rfl rfl (of_decide_eq_true rfl) (ob_assign rfl opd_bool) fun a3 w3 s3 => ?_; clear s2
  refine wpList_nil ?_
  refine then_normal ?_
  refine hK1 _ _ ?_
  have s4 := s3.sub (.cons (t := 0) rfl (.cons (t := 3) rfl .nil)); clear s3
  refine wp_seq_k fun K2 hK2 => ?_
  refine wp_region_lit ?_
  refine seq_op s4 rfl rfl (of_decide_eq_true rfl) (ob_move rfl (.tmp rfl)) fun a5 w5 s5 => ?_; clear s4
  refine seq_op s5 rfl rfl (of_decide_eq_true rfl) (ob_fieldAddr (off' := 32) rfl Try.underlying46 rfl sz44 (by decide) (.tmp rfl) rfl) fun a6 w6 s6 => ?_; clear s5
  refine seq_op s6 rfl rfl (of_decide_eq_true rfl) (ob_fieldAddr (off' := 34) rfl Try.underlying44 rfl sz40 (by decide) (.tmp rfl) rfl) fun a7 w7 s7 => ?_; clear s6
  refine seq_op s7 rfl rfl (of_decide_eq_true rfl) (ob_load rfl tk40 (.tmp rfl) (.head _) (LG.trans (lg_api_Node_Op p2) (lg_api_Op_Parents p2.Op) (by decide))) fun a8 w8 s8 => ?_; clear s7
  obtain ⟨x1, e_x1, h1⟩ := bind_some h0; clear h0
  refine seq_opx (B' := (fun v1 : Value => [RowF v1 3 (kint .i64) x1.1, BF b1 46 k_api_Node p2])) s8 rfl rfl (of_decide_eq_true rfl) (ob_callL (args := [_, _]) (L := []) rfl .direct hb92 (List.Perm.refl _) (fun a w s fs gs hf hg => by obtain rfl := hf.unnil; obtain rfl := hg.unnil; exact c_graph_past k _ _ _ e_x1 _ _ _ _ (s.arg (.tmp rfl)) (s.arg (.tmp rfl))) (by exact fun _ => rfl)) fun v1 a9 w9 s9 => ?_; clear s8
  refine seq_op s9 rfl rfl (of_decide_eq_true rfl) (ob_move rfl (.tmp rfl)) fun a10 w10 s10 => ?_; clear s9
  refine seq_op s10 rfl rfl (of_decide_eq_true rfl) (ob_extract rfl (.tmp rfl) rfl) fun a11 w11 s11 => ?_; clear s10
  refine seq_op s11 rfl rfl (of_decide_eq_true rfl) (ob_extract rfl (.tmp rfl) rfl) fun a12 w12 s12 => ?_; clear s11
  refine seq_op s12 rfl rfl (of_decide_eq_true rfl) (ob_assign rfl (.tmp rfl)) fun a13 w13 s13 => ?_; clear s12
  refine seq_op s13 rfl rfl (of_decide_eq_true rfl) (ob_assign rfl (.tmp rfl)) fun a14 w14 s14 => ?_; clear s13
  refine wpList_nil ?_
  refine then_normal ?_
  refine hK2 _ _ ?_
  have s15 := s14.sub (.cons (t := 0) rfl (.cons (t := 3) rfl (.cons (t := 5) rfl (.cons (t := 6) rfl .nil)))); clear s14
  refine wp_seq_k fun K3 hK3 => ?_
  refine wp_region_lit ?_
  refine seq_op s15 rfl rfl (of_decide_eq_true rfl) (ob_move rfl (.tmp rfl)) fun a16 w16 s16 => ?_; clear s15
  refine seq_op s16 rfl rfl (of_decide_eq_true rfl) (ob_eql rfl (.tmp rfl) (opd_int rfl)) fun a17 w17 s17 => ?_; clear s16
  refine seq_op s17 rfl rfl (of_decide_eq_true rfl) (ob_move rfl (.tmp rfl)) fun a18 w18 s18 => ?_; clear s17
  refine seq_opg s18 rfl rfl rfl rfl (of_decide_eq_true rfl) (fun hb => ob_fieldAddr (off' := 32) rfl Try.underlying46 rfl sz44 (by decide) (.tmp rfl) rfl) fun a19 w19 s19 => ?_; clear s18
  refine seq_opg s19 rfl rfl rfl rfl (of_decide_eq_true rfl) (fun hb => (Ob.uncond (t := 18) hb rfl (ob_load rfl tk44 (.tmp rfl) (.tail _ (.head _)) (lg_api_Node_Op p2)))) fun a20 w20 s20 => ?_; clear s19
  obtain ⟨x2, e_x2, h2⟩ := bind_some h1; clear h1
  refine seq_opg s20 rfl rfl rfl rfl (of_decide_eq_true rfl) (fun hb => (Ob.uncond (t := 19) hb rfl (ob_callD (args := [_]) rfl .direct hb91 (fun a w s fs gs hf hg => by obtain rfl := hf.unnil; obtain rfl := hg.unnil; exact c_frame_Right k _ _ (ite_t hb e_x2) _ _ _ (s.arg (.tmp rfl)))))) fun a21 w21 s21 => ?_; clear s20
  refine seq_op s21 rfl rfl (of_decide_eq_true rfl) (ob_and2 rfl (.tmp rfl) (.tmp rfl) opd_bool) fun a22 w22 s22 => ?_; clear s21
  refine seq_op s22 rfl rfl (of_decide_eq_true rfl) (ob_move rfl (.tmp rfl)) fun a23 w23 s23 => ?_; clear s22
  refine seq_opg s23 rfl rfl rfl rfl (of_decide_eq_true rfl) (fun hb => ob_move rfl (.tmp rfl)) fun a24 w24 s24 => ?_; clear s23
  refine seq_opg s24 rfl rfl rfl rfl (of_decide_eq_true rfl) (fun hb => ob_fieldAddr (off' := 0) rfl Try.underlying46 rfl sz39 (by decide) (.tmp rfl) rfl) fun a25 w25 s25 => ?_; clear s24
  refine seq_opg s25 rfl rfl rfl rfl (of_decide_eq_true rfl) (fun hb => (Ob.uncond (t := 24) hb rfl (ob_load rfl tk39 (.tmp rfl) (.tail _ (.head _)) (lg_api_Node_Id p2)))) fun a26 w26 s26 => ?_; clear s25
  obtain ⟨x3, e_x3, h3⟩ := bind_some h2; clear h2
  refine seq_opg s26 rfl rfl rfl rfl (of_decide_eq_true rfl) (fun hb => (Ob.uncond (t := 25) hb rfl ((Ob.uncond (t := 23) hb rfl (ob_callD (args := [_, _]) rfl .direct hb48 (fun a w s fs gs hf hg => by obtain rfl := hf.unnil; obtain rfl := hg.unnil; exact c_graph_Find k _ _ _ (ite_t hb e_x3) _ _ _ _ (s.arg (.tmp rfl)) (s.arg (.tmp rfl)))))))) fun a27 w27 s27 => ?_; clear s26
  refine seq_opg s27 rfl rfl rfl rfl (of_decide_eq_true rfl) (fun hb => (Ob.uncond (t := 26) hb rfl (ob_lss rfl (.tmp rfl) (opd_int rfl)))) fun a28 w28 s28 => ?_; clear s27
  obtain ⟨x4, e_x4, h4⟩ := bind_some h3; clear h3; replace e_x4 := Option.some.inj e_x4
  refine seq_op s28 rfl rfl (of_decide_eq_true rfl) ((ob_and2 rfl (.tmp rfl) (.tmp rfl) opd_bool).nm e_x4) fun a29 w29 s29 => ?_; clear s28
  refine seq_op s29 rfl rfl (of_decide_eq_true rfl) (ob_move rfl (.tmp rfl)) fun a30 w30 s30 => ?_; clear s29
  refine seq_opg s30 rfl rfl rfl rfl (of_decide_eq_true rfl) (fun hb => ob_move rfl (.tmp rfl)) fun a31 w31 s31 => ?_; clear s30
  refine seq_opg s31 rfl rfl rfl rfl (of_decide_eq_true rfl) (fun hb => ob_fieldAddr (off' := 103) rfl Try.underlying46 rfl sz41 (by decide) (.tmp rfl) rfl) fun a32 w32 s32 => ?_; clear s31
  refine seq_opg s32 rfl rfl rfl rfl (of_decide_eq_true rfl) (fun hb => (Ob.uncond (t := 31) hb rfl (ob_load rfl tk41 (.tmp rfl) (.tail _ (.head _)) (lg_api_Node_Past p2)))) fun a33 w33 s33 => ?_; clear s32
  obtain ⟨x5, e_x5, h5⟩ := bind_some h4; clear h4
  refine seq_opg s33 rfl rfl rfl rfl (of_decide_eq_true rfl) (fun hb => (Ob.uncond (t := 32) hb rfl ((Ob.uncond (t := 30) hb rfl ((ob_lendG (L := [_]) (List.Perm.refl _) (.cons (t := 30) rfl (lendRow (.head _)) .nil) (Flat.res1 (Flat.V KFlat.bool)) (fun _ => ob_callD (args := [_, _]) rfl .direct hb106 (fun a w s fs gs hf hg => by obtain rfl := hf.unnil; obtain rfl := hg.unnil; exact c_slices_Equal_int_int k _ _ _ (ite_t hb e_x5) _ _ _ _ (s.arg (.tmp rfl)) (s.arg (.tmp rfl)))))))))) fun a34 w34 s34 => ?_; clear s33
  refine seq_op s34 rfl rfl (of_decide_eq_true rfl) (ob_and2 rfl (.tmp rfl) (.tmp rfl) opd_bool) fun a35 w35 s35 => ?_; clear s34
  refine seq_op s35 rfl rfl (of_decide_eq_true rfl) (ob_move rfl (.tmp rfl)) fun a36 w36 s36 => ?_; clear s35
  refine seq_opg s36 rfl rfl rfl rfl (of_decide_eq_true rfl) (fun hb => ob_move rfl (.tmp rfl)) fun a37 w37 s37 => ?_; clear s36
  refine seq_opg s37 rfl rfl rfl rfl (of_decide_eq_true rfl) (fun hb => ob_fieldAddr (off' := 32) rfl Try.underlying46 rfl sz44 (by decide) (.tmp rfl) rfl) fun a38 w38 s38 => ?_; clear s37
  refine seq_opg s38 rfl rfl rfl rfl (of_decide_eq_true rfl) (fun hb => (Ob.uncond (t := 37) hb rfl (ob_load rfl tk44 (.tmp rfl) (.tail _ (.head _)) (lg_api_Node_Op p2)))) fun a39 w39 s39 => ?_; clear s38
  refine seq_opg s39 rfl rfl rfl rfl (of_decide_eq_true rfl) (fun hb => ob_move rfl (.tmp rfl)) fun a40 w40 s40 => ?_; clear s39
  obtain ⟨x6, e_x6, h6⟩ := bind_some h5; clear h5
  refine seq_opg s40 rfl rfl rfl rfl (of_decide_eq_true rfl) (fun hb => (Ob.uncond (t := 39) hb rfl ((Ob.uncond (t := 38) hb rfl ((Ob.uncond (t := 36) hb rfl ((ob_lendG (L := [_]) (List.Perm.refl _) (.cons (t := 39) rfl (lendRow (.head _)) .nil) (Flat.res1 (Flat.V KFlat.bool)) (fun _ => ob_callD (args := [_, _, _]) rfl .direct hb93 (fun a w s fs gs hf hg => by obtain rfl := hf.unnil; obtain rfl := hg.unnil; exact c_graph_turn k _ _ _ _ (ite_t hb e_x6) _ _ _ _ _ (s.arg (.tmp rfl)) (s.arg (.tmp rfl)) (s.arg (.tmp rfl)))))))))))) fun a41 w41 s41 => ?_; clear s40
  refine seq_op s41 rfl rfl (of_decide_eq_true rfl) (ob_and2 rfl (.tmp rfl) (.tmp rfl) opd_bool) fun a42 w42 s42 => ?_; clear s41
  refine seq_op s42 rfl rfl (of_decide_eq_true rfl) (ob_assign rfl (.tmp rfl)) fun a43 w43 s43 => ?_; clear s42
  refine wpList_nil ?_
  refine then_normal ?_
  refine hK3 _ _ ?_
  have s44 := s43.sub (.cons (t := 4) rfl .nil); clear s43
  have s45 := St.drop (A := []) s44; clear s44
  have s46 := St.drop (A := []) s45; clear s45
  refine wp_ret ?_
  obtain rfl := Option.some.inj h6
  exact leave s46 (.inl rfl) rfl (.cons (.tmp rfl) .nil)

/- 24 cabal/graph.Right -/
theorem c_graph_Right (k : Nat) (p1 : (List api_Node)) (r : Bool) (h0 : graph_Right k p1 = some r) (ok : Ok) (w0 : World) (z0 : Value) (u0 : ((ksl k_api_Node).V p1).holds ok w0 z0) :
    Gives Try.prog 24 [z0] ok w0 (resFact [kbool.V r]) := by
  unfold graph_Right at h0
  refine enter (N := 22) Try.func24 rfl rfl (of_decide_eq_true rfl) (.cons u0 .nil) fun a1 s1 => ?_
  refine wp_seq_k fun K1 hK1 => ?_
  refine wp_region_lit ?_
  refine seq_op s1 rfl rfl (of_decide_eq_true rfl) (ob_assign rfl opd_bool) fun a2 w2 s2 => ?_; clear s1
  refine wpList_nil ?_
  refine then_normal ?_
  refine hK1 _ _ ?_
  have s3 := s2.sub (.cons (t := 0) rfl .nil); clear s2
  refine wp_seq_k fun K2 hK2 => ?_
  refine wp_seq_k fun K3 hK3 => ?_
  refine wp_region_lit ?_
  refine seq_op s3 rfl rfl (of_decide_eq_true rfl) (ob_move rfl (.tmp rfl)) fun a4 w4 s4 => ?_; clear s3
  refine seq_op s4 rfl rfl (of_decide_eq_true rfl) (ob_lens rfl Try.underlying22 (.tmp rfl)) fun a5 w5 s5 => ?_; clear s4
  refine seq_op s5 rfl rfl (of_decide_eq_true rfl) (ob_gtr rfl (.tmp rfl) (opd_int rfl)) fun a6 w6 s6 => ?_; clear s5
  refine wpList_nil ?_
  refine then_normal ?_
  refine hK3 _ _ ?_
  have s7 := s6.sub (.cons (t := 0) rfl (.cons (t := 7) rfl .nil)); clear s6
  refine cond_split s7 (.tmp rfl) (fun hc1 => ?_) (fun hc1 => ?_)
  · replace h0 := ite_t hc1 h0
    have h1 := h0; clear h0
    refine wp_seq_k fun K4 hK4 => ?_
    refine wp_region_lit ?_
    refine seq_op s7 rfl rfl (of_decide_eq_true rfl) (ob_assign rfl opd_bool) fun a8 w8 s8 => ?_; clear s7
    refine wpList_nil ?_
    refine then_normal ?_
    refine hK4 _ _ ?_
    have s9 := s8.sub (.cons (t := 2) rfl .nil); clear s8
    refine wp_ret ?_
    obtain rfl := Option.some.inj h1
    exact leave s9 (.inl rfl) rfl (.cons (.tmp rfl) .nil)
  · replace h0 := ite_f hc1 h0
    have h2 := h0; clear h0
    refine wp_skip ?_
    refine then_normal ?_
    refine hK2 _ _ ?_
    have s10 := s7.sub (.cons (t := 0) rfl .nil); clear s7
    refine wp_seq_k fun K5 hK5 => ?_
    refine wp_seq_k fun K6 hK6 => ?_
    refine wp_region_lit ?_
    refine seq_op s10 rfl rfl (of_decide_eq_true rfl) (ob_move rfl (.tmp rfl)) fun a11 w11 s11 => ?_; clear s10
    refine seq_op s11 rfl rfl (of_decide_eq_true rfl) (ob_lens rfl Try.underlying22 (.tmp rfl)) fun a12 w12 s12 => ?_; clear s11
    refine seq_op s12 rfl rfl (of_decide_eq_true rfl) (ob_move rfl (opd_int rfl)) fun a13 w13 s13 => ?_; clear s12
    refine wpList_nil ?_
    refine then_normal ?_
    refine hK6 _ _ ?_
    have s14 := s13.sub (.cons (t := 0) rfl (.cons (t := 8) rfl (.cons (t := 9) rfl (.cons (t := 10) rfl .nil)))); clear s13
    have hj1 : ∀ (a : Act) (w : World), (graph_Right.j1 k) = some r → St ⟨22, w0, ok, []⟩ [] [] a w → K5 a w := by
      intro a15 w15 h3 s15
      unfold graph_Right.j1 at h3
      refine hK5 _ _ ?_
      refine wp_seq_k fun K7 hK7 => ?_
      refine wp_region_lit ?_
      refine seq_op s15 rfl rfl (of_decide_eq_true rfl) (ob_assign rfl opd_bool) fun a16 w16 s16 => ?_; clear s15
      refine wpList_nil ?_
      refine then_normal ?_
      refine hK7 _ _ ?_
      have s17 := s16.sub (.cons (t := 2) rfl .nil); clear s16
      refine wp_ret ?_
      obtain rfl := Option.some.inj h3
      exact leave s17 (.inl rfl) rfl (.cons (.tmp rfl) .nil)
    refine wp_block ?_
    refine wp_loop_fuel (fun m (q : Int) => graph_Right.l1 k p1 m q) r (fun _ => rfl) (fun q a w => St ⟨22, w0, ok, []⟩ [] [(0, ((ksl k_api_Node).V p1)), (8, ((ksl k_api_Node).V p1)), (9, ((kint .i64).V (p1.length : Int))), (10, ((kint .i64).V q))] a w) ?_ k (0 : Int) _ _ h2 (s14.sub (.cons rfl (.cons rfl (.cons rfl (.cons rfl .nil)))))
    rintro n1 y1 a18 w18 h4 s18 K8 hK8
    replace h4 : graph_Right.l1 k p1 (n1 + 1) y1 = some r := h4; rw [graph_Right.l1] at h4
    have h5 := h4; clear h4
    refine wp_seq_k fun K9 hK9 => ?_
    refine wp_region_lit ?_
    refine seq_op s18 rfl rfl (of_decide_eq_true rfl) (ob_lss rfl (.tmp rfl) (.tmp rfl)) fun a19 w19 s19 => ?_; clear s18
    refine wpList_nil ?_
    refine then_normal ?_
    refine hK9 _ _ ?_
    have s20 := s19.sub (.cons (t := 0) rfl (.cons (t := 8) rfl (.cons (t := 9) rfl (.cons (t := 10) rfl (.cons (t := 11) rfl .nil))))); clear s19
    refine wp_seq_k fun K10 hK10 => ?_
    refine cond_split s20 (.tmp rfl) (fun hc2 => ?_) (fun hc2 => ?_)
    · replace h5 := ite_t hc2 h5
      have h6 := h5; clear h5
      refine wp_skip ?_
      refine then_normal ?_
      refine hK10 _ _ ?_
      have s21 := s20.sub (.cons (t := 0) rfl (.cons (t := 8) rfl (.cons (t := 9) rfl (.cons (t := 10) rfl .nil)))); clear s20
      refine wp_seq_k fun K11 hK11 => ?_
      refine wp_block ?_
      refine wp_seq_k fun K12 hK12 => ?_
      refine wp_region_lit ?_
      refine seq_op s21 rfl rfl (of_decide_eq_true rfl) (ob_move rfl (.tmp rfl)) fun a22 w22 s22 => ?_; clear s21
      obtain ⟨x1, e_x1, h7⟩ := bind_some h6; clear h6
      refine seq_op s22 rfl rfl (of_decide_eq_true rfl) (ob_indexAddrs rfl Try.underlying22 sz46 (.tmp rfl) (.tmp rfl) e_x1) fun a23 w23 s23 => ?_; clear s22
      refine seq_op s23 rfl rfl (of_decide_eq_true rfl) (ob_loadr rfl tk46 (.tmp rfl)) fun a24 w24 s24 => ?_; clear s23
      refine seq_opx (B' := (fun b1 : Nat => [BF b1 46 k_api_Node (⟨(List.replicate 32 (0 : Int)), (⟨(0 : Int), (0 : Int), [], (0 : Int), [], (List.replicate 32 (0 : Int)), (List.replicate 32 (0 : Int)), [], []⟩ : api_Op), []⟩ : api_Node)])) s24 rfl rfl (of_decide_eq_true rfl) (ob_new (k := k_api_Node) rfl zz46 (Zr.iso (f := t_api_Node) (x := (⟨(List.replicate 32 (0 : Int)), (⟨(0 : Int), (0 : Int), [], (0 : Int), [], (List.replicate 32 (0 : Int)), (List.replicate 32 (0 : Int)), [], []⟩ : api_Op), []⟩ : api_Node)) (Zr.pair (Zr.arr 32 (Zr.int .u8)) (Zr.pair (Zr.iso (f := t_api_Op) (x := (⟨(0 : Int), (0 : Int), [], (0 : Int), [], (List.replicate 32 (0 : Int)), (List.replicate 32 (0 : Int)), [], []⟩ : api_Op)) (Zr.pair (Zr.int .i64) (Zr.pair (Zr.int .u32) (Zr.pair (Zr.sl _) (Zr.pair (Zr.int .i64) (Zr.pair (Zr.sl _) (Zr.pair (Zr.arr 32 (Zr.int .u8)) (Zr.pair (Zr.arr 32 (Zr.int .u8)) (Zr.pair Zr.str (Zr.pair (Zr.sl _) Zr.nil)))))))))) (Zr.pair (Zr.sl _) Zr.nil))))) fun b1 a25 w25 s25 => ?_; clear s24
      refine seq_op s25 rfl rfl (of_decide_eq_true rfl) (ob_assign rfl (.tmp rfl)) fun a26 w26 s26 => ?_; clear s25
      refine seq_opx0 (B' := (fun _ : Unit => [BF b1 46 k_api_Node x1])) s26 rfl rfl (ob_store (A := []) rfl tk46 (.tmp rfl) (.tmp rfl) rfl (LS.refl _ _ _) rfl) fun _ a27 w27 s27 => ?_; clear s26
      refine wpList_nil ?_
      refine then_normal ?_
      refine hK12 _ _ ?_
      have s28 := s27.sub (.cons (t := 0) rfl (.cons (t := 3) rfl (.cons (t := 4) rfl (.cons (t := 8) rfl (.cons (t := 9) rfl (.cons (t := 10) rfl .nil)))))); clear s27
      refine wp_seq_k fun K13 hK13 => ?_
      obtain ⟨x2, e_x2, h8⟩ := bind_some h7; clear h7
      refine wp_goes (Fs := [((ksl k_api_Node).V p1), ((kint .i64).V y1), ((ksl k_api_Node).V x2), (k_api_Node.V x1)]) (bits := [0, 0, 3, 0, 15, 31]) (m := 4) (todo := 0) mx s28 ?_; clear s28
      refine goes_last (by kernel_rfl) rfl (opsS_cons (.plain _ (Av.old (t := 0) rfl rfl Av.nil) rfl rfl (ob_move rfl (.tmp rfl))) (opsS_cons (.plain _ (Av.old (t := 3) rfl rfl Av.nil) rfl rfl (ob_move rfl (.tmp rfl))) (opsS_cons (.plain _ (Av.new (j := 0) rfl rfl rfl (Av.new (j := 1) rfl rfl rfl Av.nil)) rfl rfl (ob_cuts rfl Try.underlying22 sz46 (.tmp rfl) .none (.some (.tmp rfl)) e_x2)) (opsS_cons (.plain _ (Av.old (t := 4) rfl rfl Av.nil) rfl rfl (ob_load rfl tk46 (.tmp rfl) (.head _) (LG.refl _ _))) opsS_nil)))) (out_old (t := 0) rfl rfl (out_old (t := 8) rfl rfl (out_old (t := 9) rfl rfl (out_old (t := 10) rfl rfl (out_new (i := 2) (by decide) rfl rfl (out_new (i := 3) (by decide) rfl rfl out_nil)))))) fun a29 w29 s29 => ?_
      obtain ⟨x3, e_x3, h9⟩ := bind_some h8; clear h8
      refine seq_op s29 rfl rfl (of_decide_eq_true rfl) (ob_callD (args := [_, _]) rfl .direct hb78 (fun a w s fs gs hf hg => by obtain rfl := hf.unnil; obtain rfl := hg.unnil; exact c_graph_fits k _ _ _ e_x3 _ _ _ _ (s.arg (.tmp rfl)) (s.arg (.tmp rfl)))) fun a30 w30 s30 => ?_; clear s29
      refine seq_op s30 rfl rfl (of_decide_eq_true rfl) (ob_not rfl (.tmp rfl)) fun a31 w31 s31 => ?_; clear s30
      refine wpList_nil ?_
      refine then_normal ?_
      refine hK13 _ _ ?_
      have s32 := s31.sub (.cons (t := 0) rfl (.cons (t := 8) rfl (.cons (t := 9) rfl (.cons (t := 10) rfl (.cons (t := 20) rfl .nil))))); clear s31
      have s33 := St.drop (A := []) s32; clear s32
      refine cond_split s33 (.tmp rfl) (fun hc3 => ?_) (fun hc3 => ?_)
      · replace h9 := ite_t hc3 h9
        have h10 := h9; clear h9
        refine wp_seq_k fun K14 hK14 => ?_
        refine wp_region_lit ?_
        refine seq_op s33 rfl rfl (of_decide_eq_true rfl) (ob_assign rfl opd_bool) fun a34 w34 s34 => ?_; clear s33
        refine wpList_nil ?_
        refine then_normal ?_
        refine hK14 _ _ ?_
        have s35 := s34.sub (.cons (t := 2) rfl .nil); clear s34
        refine wp_ret ?_
        obtain rfl := Option.some.inj h10
        exact leave s35 (.inl rfl) rfl (.cons (.tmp rfl) .nil)
      · replace h9 := ite_f hc3 h9
        have h11 := h9; clear h9
        refine wp_skip ?_
        refine in_normal ?_
        refine then_normal ?_
        refine hK11 _ _ ?_
        have s36 := s33.sub (.cons (t := 0) rfl (.cons (t := 8) rfl (.cons (t := 9) rfl (.cons (t := 10) rfl .nil)))); clear s33
        refine wp_region_lit ?_
        refine seq_op s36 rfl rfl (of_decide_eq_true rfl) (ob_add rfl (.tmp rfl) (opd_int rfl)) fun a37 w37 s37 => ?_; clear s36
        refine seq_op s37 rfl rfl (of_decide_eq_true rfl) (ob_move rfl (.tmp rfl)) fun a38 w38 s38 => ?_; clear s37
        refine wpList_nil ?_
        refine then_normal ?_
        exact hK8 (iadd .i64 y1 (1 : Int)) _ _ h11 (s38.sub (.cons rfl (.cons rfl (.cons rfl (.cons rfl .nil)))))
    · replace h5 := ite_f hc2 h5
      have h12 := h5; clear h5
      refine wp_exit ?_
      refine (then_exit (then_exit (in_here ?_)))
      refine then_normal ?_
      exact hj1 _ _ h12 (s20.sub .nil)

/- 80 slices.Clone[[]int,int] -/
theorem c_slices_Clone_int_int (k : Nat) (p1 : (List Int)) (r : (List Int)) (h0 : slices_Clone_int_int k p1 = some r) (ok : Ok) (w0 : World) (z0 : Value) (u0 : ((ksl (kint .i64)).V p1).holds ok w0 z0) :
    GivesX Try.prog 80 [z0] ok w0 [] (fun g : Value => resFact [is g]) (fun g : Value => [RowF (g) 3 (kint .i64) r]) := by
  unfold slices_Clone_int_int at h0
  refine enterX (N := 8) Try.func80 rfl rfl (of_decide_eq_true rfl) (.cons u0 .nil) List.nodup_nil (fun _ h => by cases h) (fun _ h => by cases h) fun a1 s1 => ?_
  refine wp_seq_k fun K1 hK1 => ?_
  refine wp_region_lit ?_
  refine seq_op s1 rfl rfl (of_decide_eq_true rfl) (ob_assign rfl opd_is) fun a2 w2 s2 => ?_; clear s1
  have s3 := St.adopt s2 (G := RowF (nilRow 6) 3 (kint .i64) []) rfl (rowNilN _ _ _ _ _); clear s2
  refine wpList_nil ?_
  refine then_normal ?_
  refine hK1 _ _ ?_
  have s4 := s3.sub (.cons (t := 0) rfl .nil); clear s3
  have s5 := St.drop (A := []) s4; clear s4
  refine wp_seq_k fun K2 hK2 => ?_
  refine wp_seq_k fun K3 hK3 => ?_
  refine wp_region_lit ?_
  refine seq_op s5 rfl rfl (of_decide_eq_true rfl) (ob_move rfl (.tmp rfl)) fun a6 w6 s6 => ?_; clear s5
  refine seq_op s6 rfl rfl (of_decide_eq_true rfl) (ob_slNil rfl Try.underlying41 (.tmp rfl)) fun a7 w7 s7 => ?_; clear s6
  refine wpList_nil ?_
  refine then_normal ?_
  refine hK3 _ _ ?_
  have s8 := s7.sub (.cons (t := 0) rfl (.cons (t := 4) rfl .nil)); clear s7
  refine cond_nil s8 (.tmp rfl) (fun hnil => ?_) ?_
  · subst hnil
    have h1 : some [] = some r := by first | exact h0 | simpa using h0
    refine wp_seq_k fun K4 hK4 => ?_
    refine wp_region_lit ?_
    refine seq_op s8 rfl rfl (of_decide_eq_true rfl) (ob_assign rfl opd_is) fun a9 w9 s9 => ?_; clear s8
    have s10 := St.adopt s9 (G := RowF (nilRow 7) 3 (kint .i64) []) rfl (rowNilN _ _ _ _ _); clear s9
    refine wpList_nil ?_
    refine then_normal ?_
    refine hK4 _ _ ?_
    have s11 := s10.sub (.cons (t := 2) rfl .nil); clear s10
    refine wp_ret ?_
    obtain rfl := Option.some.inj h1
    exact leaveXD (D := []) (nilRow 7) s11 rfl (.inl rfl) rfl (.cons (.tmp rfl) .nil) rfl
  ·
    refine wp_skip ?_
    refine then_normal ?_
    refine hK2 _ _ ?_
    have s12 := s8.sub (.cons (t := 0) rfl .nil); clear s8
    refine wp_seq_k fun K5 hK5 => ?_
    refine wp_region_lit ?_
    refine seq_opx (B' := (fun v1 : Value => [RowF v1 3 (kint .i64) ([] : List Int)])) s12 rfl rfl (of_decide_eq_true rfl) (ob_emptyRow (k := (kint .i64)) rfl Try.underlying41 sz3) fun v1 a13 w13 s13 => ?_; clear s12
    refine seq_op s13 rfl rfl (of_decide_eq_true rfl) (ob_move rfl (.tmp rfl)) fun a14 w14 s14 => ?_; clear s13
    obtain ⟨g1, h2⟩ := guard_some h0; clear h0
    refine seq_opx (B' := (fun v2 : Value => [RowF v2 3 (kint .i64) (([] : List Int) ++ p1)])) s14 rfl rfl (of_decide_eq_true rfl) (ob_appendL2 (A := []) rfl Try.underlying41 ap3 (Zr.int .i64) (by decide) (.tmp rfl) (.tmp rfl) rfl g1) fun v2 a15 w15 s15 => ?_; clear s14
    refine seq_op s15 rfl rfl (of_decide_eq_true rfl) (ob_assign rfl (.tmp rfl)) fun a16 w16 s16 => ?_; clear s15
    refine wpList_nil ?_
    refine then_normal ?_
    refine hK5 _ _ ?_
    have s17 := s16.sub (.cons (t := 2) rfl .nil); clear s16
    refine wp_ret ?_
    obtain rfl := Option.some.inj h2
    exact leaveXD (D := []) v2 s17 rfl (.inl rfl) rfl (.cons (.tmp rfl) .nil) rfl

/- 79 cabal/clock.count -/
theorem c_clock_count (k : Nat) (p1 : (List api_Node)) (p2 : (List Int)) (r : (List Int)) (h0 : clock_count k p1 p2 = some r) (ok : Ok) (w0 : World) (z0 : Value) (z1 : Value) (u0 : ((ksl k_api_Node).V p1).holds ok w0 z0) (u1 : ((ksl (kint .i64)).V p2).holds ok w0 z1) :
    Gives Try.prog 79 [z0, z1] ok w0 (resFact [(karr 8 (kint .u32)).V r]) := by
  unfold clock_count at h0
  refine enter (N := 26) Try.func79 rfl rfl (of_decide_eq_true rfl) (.cons u0 (.cons u1 .nil)) fun a1 s1 => ?_
  refine wp_seq_k fun K1 hK1 => ?_
  refine wp_region_lit ?_
  refine seq_opx (B' := (fun b1 : Nat => [BF b1 27 (karr 8 (kint .u32)) (List.replicate 8 (0 : Int))])) s1 rfl rfl (of_decide_eq_true rfl) (ob_new (k := (karr 8 (kint .u32))) rfl zz27 (Zr.arr 8 (Zr.int .u32))) fun b1 a2 w2 s2 => ?_; clear s1
  refine wpList_nil ?_
  refine then_normal ?_
  refine hK1 _ _ ?_
  have s3 := s2.sub (.cons (t := 0) rfl (.cons (t := 1) rfl (.cons (t := 4) rfl .nil))); clear s2
  refine wp_seq_k fun K2 hK2 => ?_
  refine wp_region_lit ?_
  refine seq_opx (B' := (fun b2 : Nat => [BF b2 27 (karr 8 (kint .u32)) (List.replicate 8 (0 : Int)), BF b1 27 (karr 8 (kint .u32)) (List.replicate 8 (0 : Int))])) s3 rfl rfl (of_decide_eq_true rfl) (ob_new (k := (karr 8 (kint .u32))) rfl zz27 (Zr.arr 8 (Zr.int .u32))) fun b2 a4 w4 s4 => ?_; clear s3
  refine wpList_nil ?_
  refine then_normal ?_
  refine hK2 _ _ ?_
  have s5 := s4.sub (.cons (t := 0) rfl (.cons (t := 1) rfl (.cons (t := 4) rfl (.cons (t := 5) rfl .nil)))); clear s4
  refine wp_seq_k fun K3 hK3 => ?_
  refine wp_seq_k fun K4 hK4 => ?_
  refine wp_region_lit ?_
  refine seq_op s5 rfl rfl (of_decide_eq_true rfl) (ob_move rfl (.tmp rfl)) fun a6 w6 s6 => ?_; clear s5
  refine seq_op s6 rfl rfl (of_decide_eq_true rfl) (ob_lens rfl Try.underlying41 (.tmp rfl)) fun a7 w7 s7 => ?_; clear s6
  refine seq_op s7 rfl rfl (of_decide_eq_true rfl) (ob_move rfl (opd_int rfl)) fun a8 w8 s8 => ?_; clear s7
  refine wpList_nil ?_
  refine then_normal ?_
  refine hK4 _ _ ?_
  have s9 := s8.sub (.cons (t := 0) rfl (.cons (t := 4) rfl (.cons (t := 5) rfl (.cons (t := 8) rfl (.cons (t := 9) rfl (.cons (t := 10) rfl .nil)))))); clear s8
  have hj1 : ∀ (y1 : (List Int)) (a : Act) (w : World), (clock_count.j1 k) y1 = some r → St ⟨26, w0, ok, []⟩ [BF b1 27 (karr 8 (kint .u32)) (List.replicate 8 (0 : Int)), BF b2 27 (karr 8 (kint .u32)) y1] [(4, (ptrB b1 0)), (5, (ptrB b2 0))] a w → K3 a w := by
    intro y1 a10 w10 h1 s10
    unfold clock_count.j1 at h1
    refine hK3 _ _ ?_
    refine wp_seq_k fun K5 hK5 => ?_
    refine wp_region_lit ?_
    refine seq_op s10 rfl rfl (of_decide_eq_true rfl) (ob_load rfl tk27 (.tmp rfl) (.tail _ (.head _)) (LG.refl _ _)) fun a11 w11 s11 => ?_; clear s10
    refine seq_opx0 (B' := (fun _ : Unit => [BF b1 27 (karr 8 (kint .u32)) y1, BF b2 27 (karr 8 (kint .u32)) y1])) s11 rfl rfl (ob_store (A := []) rfl tk27 (.tmp rfl) (.tmp rfl) rfl (LS.refl _ _ _) rfl) fun _ a12 w12 s12 => ?_; clear s11
    refine wpList_nil ?_
    refine then_normal ?_
    refine hK5 _ _ ?_
    have s13 := s12.sub (.cons (t := 4) rfl .nil); clear s12
    have s14 := St.drop (A := [_]) s13; clear s13
    refine wp_ret ?_
    obtain rfl := Option.some.inj h1
    exact leave s14 (.inl rfl) rfl (.cons (.cell rfl tk27 (.head _) (LG.refl _ _)) .nil)
  refine wp_block ?_
  have s15 := s9.perm (toFront [_] (toFront [] (List.Perm.refl _))); clear s9
  refine wp_loop_fuel (fun m (q : Int × (List Int)) => clock_count.l1 k p2 p1 m q.1 q.2) r (fun _ => rfl) (fun q a w => St ⟨26, w0, ok, []⟩ [BF b1 27 (karr 8 (kint .u32)) (List.replicate 8 (0 : Int)), BF b2 27 (karr 8 (kint .u32)) q.2] [(0, ((ksl k_api_Node).V p1)), (4, (ptrB b1 0)), (5, (ptrB b2 0)), (8, ((ksl (kint .i64)).V p2)), (9, ((kint .i64).V (p2.length : Int))), (10, ((kint .i64).V q.1))] a w) ?_ k ((0 : Int), (List.replicate 8 (0 : Int))) _ _ h0 (s15.sub (.cons rfl (.cons rfl (.cons rfl (.cons rfl (.cons rfl (.cons rfl .nil)))))))
  rintro n1 ⟨y2, y3⟩ a16 w16 h2 s16 K6 hK6
  replace h2 : clock_count.l1 k p2 p1 (n1 + 1) y2 y3 = some r := h2; rw [clock_count.l1] at h2
  have h3 := h2; clear h2
  refine wp_seq_k fun K7 hK7 => ?_
  refine wp_region_lit ?_
  refine seq_op s16 rfl rfl (of_decide_eq_true rfl) (ob_lss rfl (.tmp rfl) (.tmp rfl)) fun a17 w17 s17 => ?_; clear s16
  refine wpList_nil ?_
  refine then_normal ?_
  refine hK7 _ _ ?_
  have s18 := s17.sub (.cons (t := 0) rfl (.cons (t := 4) rfl (.cons (t := 5) rfl (.cons (t := 8) rfl (.cons (t := 9) rfl (.cons (t := 10) rfl (.cons (t := 11) rfl .nil))))))); clear s17
  refine wp_seq_k fun K8 hK8 => ?_
  refine cond_split s18 (.tmp rfl) (fun hc1 => ?_) (fun hc1 => ?_)
  · replace h3 := ite_t hc1 h3
    have h4 := h3; clear h3
    refine wp_skip ?_
    refine then_normal ?_
    refine hK8 _ _ ?_
    have s19 := s18.sub (.cons (t := 0) rfl (.cons (t := 4) rfl (.cons (t := 5) rfl (.cons (t := 8) rfl (.cons (t := 9) rfl (.cons (t := 10) rfl .nil)))))); clear s18
    refine wp_seq_k fun K9 hK9 => ?_
    refine wp_block ?_
    refine wp_seq_k fun K10 hK10 => ?_
    refine wp_region_lit ?_
    obtain ⟨x1, e_x1, h5⟩ := bind_some h4; clear h4
    refine seq_op s19 rfl rfl (of_decide_eq_true rfl) (ob_indexAddrs rfl Try.underlying41 sz3 (.tmp rfl) (.tmp rfl) e_x1) fun a20 w20 s20 => ?_; clear s19
    refine seq_op s20 rfl rfl (of_decide_eq_true rfl) (ob_loadr rfl tk3 (.tmp rfl)) fun a21 w21 s21 => ?_; clear s20
    refine seq_op s21 rfl rfl (of_decide_eq_true rfl) (ob_assign rfl (.tmp rfl)) fun a22 w22 s22 => ?_; clear s21
    refine wpList_nil ?_
    refine then_normal ?_
    refine hK10 _ _ ?_
    have s23 := s22.sub (.cons (t := 0) rfl (.cons (t := 4) rfl (.cons (t := 5) rfl (.cons (t := 7) rfl (.cons (t := 8) rfl (.cons (t := 9) rfl (.cons (t := 10) rfl .nil))))))); clear s22
    refine wp_region_lit ?_
    refine seq_op s23 rfl rfl (of_decide_eq_true rfl) (ob_move rfl (.tmp rfl)) fun a24 w24 s24 => ?_; clear s23
    refine seq_op s24 rfl rfl (of_decide_eq_true rfl) (ob_move rfl (.tmp rfl)) fun a25 w25 s25 => ?_; clear s24
    obtain ⟨x2, e_x2, h6⟩ := bind_some h5; clear h5
    refine seq_op s25 rfl rfl (of_decide_eq_true rfl) (ob_indexAddrs rfl Try.underlying22 sz46 (.tmp rfl) (.tmp rfl) e_x2) fun a26 w26 s26 => ?_; clear s25
    refine seq_op s26 rfl rfl (of_decide_eq_true rfl) (ob_fieldAddrr rfl Try.underlying46 rfl sz44 (by decide) (.tmp rfl) (lg_api_Node_Op x2)) fun a27 w27 s27 => ?_; clear s26
    refine seq_op s27 rfl rfl (of_decide_eq_true rfl) (ob_fieldAddrr rfl Try.underlying44 rfl sz3 (by decide) (.tmp rfl) (lg_api_Op_Author x2.Op)) fun a28 w28 s28 => ?_; clear s27
    refine seq_op s28 rfl rfl (of_decide_eq_true rfl) (ob_loadr rfl tk3 (.tmp rfl)) fun a29 w29 s29 => ?_; clear s28
    obtain ⟨g1, h7⟩ := guard_some h6; clear h6
    refine seq_op s29 rfl rfl (of_decide_eq_true rfl) (ob_indexAddr rfl Try.underlying27 sz25 (.tmp rfl) (.tmp rfl) g1.1 g1.2 (Nat.zero_add _)) fun a30 w30 s30 => ?_; clear s29
    obtain ⟨x3, e_x3, h8⟩ := bind_some h7; clear h7
    refine seq_op s30 rfl rfl (of_decide_eq_true rfl) (ob_load rfl tk25 (.tmp rfl) (.tail _ (.head _)) (LG.arrA e_x3)) fun a31 w31 s31 => ?_; clear s30
    refine seq_op s31 rfl rfl (of_decide_eq_true rfl) (ob_add rfl (.tmp rfl) (opd_int rfl)) fun a32 w32 s32 => ?_; clear s31
    obtain ⟨g2, h9⟩ := guard_some h8; clear h8
    refine seq_op s32 rfl rfl (of_decide_eq_true rfl) (ob_indexAddr rfl Try.underlying27 sz25 (.tmp rfl) (.tmp rfl) g2.1 g2.2 (Nat.zero_add _)) fun a33 w33 s33 => ?_; clear s32
    obtain ⟨x4, e_x4, h10⟩ := bind_some h9; clear h9
    refine seq_opx0 (B' := (fun _ : Unit => [BF b1 27 (karr 8 (kint .u32)) (List.replicate 8 (0 : Int)), BF b2 27 (karr 8 (kint .u32)) x4])) s33 rfl rfl (ob_store (A := [_]) rfl tk25 (.tmp rfl) (.tmp rfl) rfl (LS.arrS e_x4) rfl) fun _ a34 w34 s34 => ?_; clear s33
    refine wpList_nil ?_
    refine in_normal ?_
    refine then_normal ?_
    refine hK9 _ _ ?_
    have s35 := s34.sub (.cons (t := 0) rfl (.cons (t := 4) rfl (.cons (t := 5) rfl (.cons (t := 8) rfl (.cons (t := 9) rfl (.cons (t := 10) rfl .nil)))))); clear s34
    refine wp_region_lit ?_
    refine seq_op s35 rfl rfl (of_decide_eq_true rfl) (ob_add rfl (.tmp rfl) (opd_int rfl)) fun a36 w36 s36 => ?_; clear s35
    refine seq_op s36 rfl rfl (of_decide_eq_true rfl) (ob_move rfl (.tmp rfl)) fun a37 w37 s37 => ?_; clear s36
    refine wpList_nil ?_
    refine then_normal ?_
    exact hK6 ((iadd .i64 y2 (1 : Int)), x4) _ _ h10 (s37.sub (.cons rfl (.cons rfl (.cons rfl (.cons rfl (.cons rfl (.cons rfl .nil)))))))
  · replace h3 := ite_f hc1 h3
    have h11 := h3; clear h3
    refine wp_exit ?_
    refine (then_exit (then_exit (in_here ?_)))
    refine then_normal ?_
    exact hj1 y3 _ _ h11 (s18.sub (.cons rfl (.cons rfl .nil)))

/- 25 cabal/clock.Of -/
theorem c_clock_Of (k : Nat) (p1 : (List api_Node)) (p2 : Int) (r : ((List Int) × Int)) (h0 : clock_Of k p1 p2 = some r) (ok : Ok) (w0 : World) (z0 : Value) (z1 : Value) (u0 : ((ksl k_api_Node).V p1).holds ok w0 z0) (u1 : ((kint .i64).V p2).holds ok w0 z1) :
    Gives Try.prog 25 [z0, z1] ok w0 (resFact [(karr 8 (kint .u32)).V r.1, (kint .i64).V r.2]) := by
  unfold clock_Of at h0
  refine enter (N := 32) Try.func25 rfl rfl (of_decide_eq_true rfl) (.cons u0 (.cons u1 .nil)) fun a1 s1 => ?_
  refine wp_seq_k fun K1 hK1 => ?_
  refine wp_region_lit ?_
  refine seq_opx (B' := (fun b1 : Nat => [BF b1 27 (karr 8 (kint .u32)) (List.replicate 8 (0 : Int))])) s1 rfl rfl (of_decide_eq_true rfl) (ob_new (k := (karr 8 (kint .u32))) rfl zz27 (Zr.arr 8 (Zr.int .u32))) fun b1 a2 w2 s2 => ?_; clear s1
  refine seq_op s2 rfl rfl (of_decide_eq_true rfl) (ob_assign rfl (opd_int rfl)) fun a3 w3 s3 => ?_; clear s2
  refine wpList_nil ?_
  refine then_normal ?_
  refine hK1 _ _ ?_
  have s4 := s3.sub (.cons (t := 0) rfl (.cons (t := 1) rfl (.cons (t := 4) rfl .nil))); clear s3
  refine wp_seq_k fun K2 hK2 => ?_
  refine wp_block ?_
  refine wp_seq_k fun K3 hK3 => ?_
  refine wp_region_lit ?_
  refine seq_op s4 rfl rfl (of_decide_eq_true rfl) (ob_move rfl (.tmp rfl)) fun a5 w5 s5 => ?_; clear s4
  obtain ⟨x1, e_x1, h1⟩ := bind_some h0; clear h0
  refine seq_op s5 rfl rfl (of_decide_eq_true rfl) (ob_callD (args := [_]) rfl .direct hb24 (fun a w s fs gs hf hg => by obtain rfl := hf.unnil; obtain rfl := hg.unnil; exact c_graph_Right k _ _ e_x1 _ _ _ (s.arg (.tmp rfl)))) fun a6 w6 s6 => ?_; clear s5
  refine seq_op s6 rfl rfl (of_decide_eq_true rfl) (ob_not rfl (.tmp rfl)) fun a7 w7 s7 => ?_; clear s6
  refine seq_op s7 rfl rfl (of_decide_eq_true rfl) (ob_assign rfl (.tmp rfl)) fun a8 w8 s8 => ?_; clear s7
  refine wpList_nil ?_
  refine then_normal ?_
  refine hK3 _ _ ?_
  have s9 := s8.sub (.cons (t := 0) rfl (.cons (t := 1) rfl (.cons (t := 4) rfl (.cons (t := 6) rfl .nil)))); clear s8
  refine cond_split s9 (.tmp rfl) (fun hc1 => ?_) (fun hc1 => ?_)
  · replace h1 := ite_t hc1 h1
    have h2 := h1; clear h1
    refine wp_seq_k fun K4 hK4 => ?_
    refine wp_region_lit ?_
    obtain ⟨x2, e_x2, h3⟩ := bind_some h2; clear h2; replace e_x2 := Option.some.inj e_x2
    refine seq_op s9 rfl rfl (of_decide_eq_true rfl) (((ob_mkArr (k := (kint .u32)) rfl Try.underlying27 zz27 sz25 (Zr.arr 8 (Zr.int .u32)) (.nil _) : Ob _ _ _ _ _ ((karr 8 (kint .u32)).V ([(0 : Int), (0 : Int), (0 : Int), (0 : Int), (0 : Int), (0 : Int), (0 : Int), (0 : Int)] : (List Int))))).nm e_x2) fun a10 w10 s10 => ?_; clear s9
    refine seq_opx0 (B' := (fun _ : Unit => [BF b1 27 (karr 8 (kint .u32)) x2])) s10 rfl rfl (ob_store (A := []) rfl tk27 (.tmp rfl) (.tmp rfl) rfl (LS.refl _ _ _) rfl) fun _ a11 w11 s11 => ?_; clear s10
    refine seq_op s11 rfl rfl (of_decide_eq_true rfl) (ob_assign rfl (opd_int rfl)) fun a12 w12 s12 => ?_; clear s11
    refine wpList_nil ?_
    refine then_normal ?_
    refine hK4 _ _ ?_
    have s13 := s12.sub (.cons (t := 4) rfl (.cons (t := 5) rfl .nil)); clear s12
    refine wp_ret ?_
    obtain rfl := Option.some.inj h3
    exact leave s13 (.inl rfl) rfl (.cons (.cell rfl tk27 (.head _) (LG.refl _ _)) (.cons (.tmp rfl) .nil))
  · replace h1 := ite_f hc1 h1
    have h4 := h1; clear h1
    refine wp_seq_k fun K5 hK5 => ?_
    refine wp_region_lit ?_
    refine seq_op s9 rfl rfl (of_decide_eq_true rfl) (ob_move rfl (.tmp rfl)) fun a14 w14 s14 => ?_; clear s9
    refine seq_op s14 rfl rfl (of_decide_eq_true rfl) (ob_lss rfl (.tmp rfl) (opd_int rfl)) fun a15 w15 s15 => ?_; clear s14
    refine seq_op s15 rfl rfl (of_decide_eq_true rfl) (ob_move rfl (.tmp rfl)) fun a16 w16 s16 => ?_; clear s15
    refine seq_opg s16 rfl rfl rfl rfl (of_decide_eq_true rfl) (fun hb => ob_move rfl (.tmp rfl)) fun a17 w17 s17 => ?_; clear s16
    refine seq_opg s17 rfl rfl rfl rfl (of_decide_eq_true rfl) (fun hb => ob_move rfl (.tmp rfl)) fun a18 w18 s18 => ?_; clear s17
    refine seq_opg s18 rfl rfl rfl rfl (of_decide_eq_true rfl) (fun hb => (Ob.uncond (t := 16) hb rfl (ob_lens rfl Try.underlying22 (.tmp rfl)))) fun a19 w19 s19 => ?_; clear s18
    refine seq_opg s19 rfl rfl rfl rfl (of_decide_eq_true rfl) (fun hb => (Ob.uncond (t := 17) hb rfl ((Ob.uncond (t := 15) hb rfl (ob_geq rfl (.tmp rfl) (.tmp rfl)))))) fun a20 w20 s20 => ?_; clear s19
    obtain ⟨x3, e_x3, h5⟩ := bind_some h4; clear h4; replace e_x3 := Option.some.inj e_x3
    refine seq_op s20 rfl rfl (of_decide_eq_true rfl) ((ob_or2 rfl (.tmp rfl) opd_bool (.tmp rfl)).nm e_x3) fun a21 w21 s21 => ?_; clear s20
    refine seq_op s21 rfl rfl (of_decide_eq_true rfl) (ob_assign rfl (.tmp rfl)) fun a22 w22 s22 => ?_; clear s21
    refine wpList_nil ?_
    refine then_normal ?_
    refine hK5 _ _ ?_
    have s23 := s22.sub (.cons (t := 0) rfl (.cons (t := 1) rfl (.cons (t := 4) rfl (.cons (t := 11) rfl .nil)))); clear s22
    refine cond_split s23 (.tmp rfl) (fun hc2 => ?_) (fun hc2 => ?_)
    · replace h5 := ite_t hc2 h5
      have h6 := h5; clear h5
      refine wp_seq_k fun K6 hK6 => ?_
      refine wp_region_lit ?_
      obtain ⟨x4, e_x4, h7⟩ := bind_some h6; clear h6; replace e_x4 := Option.some.inj e_x4
      refine seq_op s23 rfl rfl (of_decide_eq_true rfl) (((ob_mkArr (k := (kint .u32)) rfl Try.underlying27 zz27 sz25 (Zr.arr 8 (Zr.int .u32)) (.nil _) : Ob _ _ _ _ _ ((karr 8 (kint .u32)).V ([(0 : Int), (0 : Int), (0 : Int), (0 : Int), (0 : Int), (0 : Int), (0 : Int), (0 : Int)] : (List Int))))).nm e_x4) fun a24 w24 s24 => ?_; clear s23
      refine seq_opx0 (B' := (fun _ : Unit => [BF b1 27 (karr 8 (kint .u32)) x4])) s24 rfl rfl (ob_store (A := []) rfl tk27 (.tmp rfl) (.tmp rfl) rfl (LS.refl _ _ _) rfl) fun _ a25 w25 s25 => ?_; clear s24
      refine seq_op s25 rfl rfl (of_decide_eq_true rfl) (ob_assign rfl (opd_int rfl)) fun a26 w26 s26 => ?_; clear s25
      refine wpList_nil ?_
      refine then_normal ?_
      refine hK6 _ _ ?_
      have s27 := s26.sub (.cons (t := 4) rfl (.cons (t := 5) rfl .nil)); clear s26
      refine wp_ret ?_
      obtain rfl := Option.some.inj h7
      exact leave s27 (.inl rfl) rfl (.cons (.cell rfl tk27 (.head _) (LG.refl _ _)) (.cons (.tmp rfl) .nil))
    · replace h5 := ite_f hc2 h5
      have h8 := h5; clear h5
      refine wp_skip ?_
      refine in_normal ?_
      refine then_normal ?_
      refine hK2 _ _ ?_
      have s28 := s23.sub (.cons (t := 0) rfl (.cons (t := 1) rfl (.cons (t := 4) rfl .nil))); clear s23
      refine wp_seq_k fun K7 hK7 => ?_
      refine wp_region_lit ?_
      refine seq_op s28 rfl rfl (of_decide_eq_true rfl) (ob_move rfl (.tmp rfl)) fun a29 w29 s29 => ?_; clear s28
      refine seq_op s29 rfl rfl (of_decide_eq_true rfl) (ob_move rfl (.tmp rfl)) fun a30 w30 s30 => ?_; clear s29
      refine seq_op s30 rfl rfl (of_decide_eq_true rfl) (ob_move rfl (.tmp rfl)) fun a31 w31 s31 => ?_; clear s30
      obtain ⟨x5, e_x5, h9⟩ := bind_some h8; clear h8
      refine seq_op s31 rfl rfl (of_decide_eq_true rfl) (ob_indexAddrs rfl Try.underlying22 sz46 (.tmp rfl) (.tmp rfl) e_x5) fun a32 w32 s32 => ?_; clear s31
      refine seq_op s32 rfl rfl (of_decide_eq_true rfl) (ob_fieldAddrr rfl Try.underlying46 rfl sz41 (by decide) (.tmp rfl) (lg_api_Node_Past x5)) fun a33 w33 s33 => ?_; clear s32
      refine seq_op s33 rfl rfl (of_decide_eq_true rfl) (ob_loadr rfl tk41 (.tmp rfl)) fun a34 w34 s34 => ?_; clear s33
      obtain ⟨x6, e_x6, h10⟩ := bind_some h9; clear h9
      refine seq_opx (B' := (fun v1 : Value => [RowF v1 3 (kint .i64) x6, BF b1 27 (karr 8 (kint .u32)) (List.replicate 8 (0 : Int))])) s34 rfl rfl (of_decide_eq_true rfl) (ob_callL (args := [_]) (L := []) rfl .direct hb80 (List.Perm.refl _) (fun a w s fs gs hf hg => by obtain rfl := hf.unnil; obtain rfl := hg.unnil; exact c_slices_Clone_int_int k _ _ e_x6 _ _ _ (s.arg (.tmp rfl))) (by exact fun _ => rfl)) fun v1 a35 w35 s35 => ?_; clear s34
      refine seq_op s35 rfl rfl (of_decide_eq_true rfl) (ob_move rfl (.tmp rfl)) fun a36 w36 s36 => ?_; clear s35
      refine seq_op s36 rfl rfl (of_decide_eq_true rfl) (ob_mkSlice (k := (kint .i64)) (xs := ([p2] : (List Int))) rfl Try.underlying41 zz3 sz3 (Zr.int .i64) (by decide) (by decide) (.cons (.tmp rfl) rfl (LS.arr' (i := 0) (ys := ([p2] : (List Int))) (by simp) (by rfl)) (.nil _))) fun a37 w37 s37 => ?_; clear s36
      obtain ⟨g1, h11⟩ := guard_some h10; clear h10
      refine seq_opx (B' := (fun v2 : Value => [RowF v2 3 (kint .i64) (x6 ++ ([p2] : (List Int))), BF b1 27 (karr 8 (kint .u32)) (List.replicate 8 (0 : Int))])) s37 rfl rfl (of_decide_eq_true rfl) (ob_appendL2 (A := []) rfl Try.underlying41 ap3 (Zr.int .i64) (by decide) (.tmp rfl) (.tmp rfl) rfl g1) fun v2 a38 w38 s38 => ?_; clear s37
      obtain ⟨x7, e_x7, h12⟩ := bind_some h11; clear h11
      refine seq_op s38 rfl rfl (of_decide_eq_true rfl) ((ob_lendG (L := [_]) (List.Perm.refl _) (.cons (t := 30) rfl (lendRow (.head _)) .nil) (Flat.res1 (Flat.V (KFlat.arr (KFlat.int _)))) (fun _ => ob_callD (args := [_, _]) rfl .direct hb79 (fun a w s fs gs hf hg => by obtain rfl := hf.unnil; obtain rfl := hg.unnil; exact c_clock_count k _ _ _ e_x7 _ _ _ _ (s.arg (.tmp rfl)) (s.arg (.tmp rfl)))))) fun a39 w39 s39 => ?_; clear s38
      refine seq_opx0 (B' := (fun _ : Unit => [RowF v2 3 (kint .i64) (x6 ++ ([p2] : (List Int))), BF b1 27 (karr 8 (kint .u32)) x7])) s39 rfl rfl (ob_store (A := [_]) rfl tk27 (.tmp rfl) (.tmp rfl) rfl (LS.refl _ _ _) rfl) fun _ a40 w40 s40 => ?_; clear s39
      refine seq_op s40 rfl rfl (of_decide_eq_true rfl) (ob_assign rfl (opd_int rfl)) fun a41 w41 s41 => ?_; clear s40
      refine wpList_nil ?_
      refine then_normal ?_
      refine hK7 _ _ ?_
      have s42 := s41.sub (.cons (t := 4) rfl (.cons (t := 5) rfl .nil)); clear s41
      have s43 := St.drop (A := []) s42; clear s42
      refine wp_ret ?_
      obtain rfl := Option.some.inj h12
      exact leave s43 (.inl rfl) rfl (.cons (.cell rfl tk27 (.head _) (LG.refl _ _)) (.cons (.tmp rfl) .nil))

/- 82 cabal/graph.has -/
theorem c_graph_has (k : Nat) (p1 : (List api_Node)) (p2 : Int) (p3 : Int) (r : Bool) (h0 : graph_has k p1 p2 p3 = some r) (ok : Ok) (w0 : World) (z0 : Value) (z1 : Value) (z2 : Value) (u0 : ((ksl k_api_Node).V p1).holds ok w0 z0) (u1 : ((kint .i64).V p2).holds ok w0 z1) (u2 : ((kint .i64).V p3).holds ok w0 z2) :
    Gives Try.prog 82 [z0, z1, z2] ok w0 (resFact [kbool.V r]) := by
  unfold graph_has at h0
  refine enter (N := 29) Try.func82 rfl rfl (of_decide_eq_true rfl) (.cons u0 (.cons u1 (.cons u2 .nil))) fun a1 s1 => ?_
  refine wp_seq_k fun K1 hK1 => ?_
  refine wp_region_lit ?_
  refine seq_op s1 rfl rfl (of_decide_eq_true rfl) (ob_assign rfl opd_bool) fun a2 w2 s2 => ?_; clear s1
  refine wpList_nil ?_
  refine then_normal ?_
  refine hK1 _ _ ?_
  have s3 := s2.sub (.cons (t := 0) rfl (.cons (t := 1) rfl (.cons (t := 2) rfl .nil))); clear s2
  refine wp_seq_k fun K2 hK2 => ?_
  refine wp_region_lit ?_
  refine seq_op s3 rfl rfl (of_decide_eq_true rfl) (ob_move rfl (.tmp rfl)) fun a4 w4 s4 => ?_; clear s3
  refine seq_op s4 rfl rfl (of_decide_eq_true rfl) (ob_geq rfl (.tmp rfl) (opd_int rfl)) fun a5 w5 s5 => ?_; clear s4
  refine seq_op s5 rfl rfl (of_decide_eq_true rfl) (ob_move rfl (.tmp rfl)) fun a6 w6 s6 => ?_; clear s5
  refine seq_opg s6 rfl rfl rfl rfl (of_decide_eq_true rfl) (fun hb => ob_move rfl (.tmp rfl)) fun a7 w7 s7 => ?_; clear s6
  refine seq_opg s7 rfl rfl rfl rfl (of_decide_eq_true rfl) (fun hb => (Ob.uncond (t := 10) hb rfl (ob_geq rfl (.tmp rfl) (opd_int rfl)))) fun a8 w8 s8 => ?_; clear s7
  obtain ⟨x1, e_x1, h1⟩ := bind_some h0; clear h0; replace e_x1 := Option.some.inj e_x1
  refine seq_op s8 rfl rfl (of_decide_eq_true rfl) ((ob_and2 rfl (.tmp rfl) (.tmp rfl) opd_bool).nm e_x1) fun a9 w9 s9 => ?_; clear s8
  refine seq_op s9 rfl rfl (of_decide_eq_true rfl) (ob_move rfl (.tmp rfl)) fun a10 w10 s10 => ?_; clear s9
  refine seq_opg s10 rfl rfl rfl rfl (of_decide_eq_true rfl) (fun hb => ob_move rfl (.tmp rfl)) fun a11 w11 s11 => ?_; clear s10
  refine seq_opg s11 rfl rfl rfl rfl (of_decide_eq_true rfl) (fun hb => ob_move rfl (.tmp rfl)) fun a12 w12 s12 => ?_; clear s11
  refine seq_opg s12 rfl rfl rfl rfl (of_decide_eq_true rfl) (fun hb => (Ob.uncond (t := 15) hb rfl (ob_lens rfl Try.underlying22 (.tmp rfl)))) fun a13 w13 s13 => ?_; clear s12
  refine seq_opg s13 rfl rfl rfl rfl (of_decide_eq_true rfl) (fun hb => (Ob.uncond (t := 16) hb rfl ((Ob.uncond (t := 14) hb rfl (ob_lss rfl (.tmp rfl) (.tmp rfl)))))) fun a14 w14 s14 => ?_; clear s13
  refine seq_op s14 rfl rfl (of_decide_eq_true rfl) (ob_and2 rfl (.tmp rfl) (.tmp rfl) opd_bool) fun a15 w15 s15 => ?_; clear s14
  refine seq_op s15 rfl rfl (of_decide_eq_true rfl) (ob_move rfl (.tmp rfl)) fun a16 w16 s16 => ?_; clear s15
  refine seq_opg s16 rfl rfl rfl rfl (of_decide_eq_true rfl) (fun hb => ob_move rfl (.tmp rfl)) fun a17 w17 s17 => ?_; clear s16
  refine seq_opg s17 rfl rfl rfl rfl (of_decide_eq_true rfl) (fun hb => ob_move rfl (.tmp rfl)) fun a18 w18 s18 => ?_; clear s17
  refine seq_opg s18 rfl rfl rfl rfl (of_decide_eq_true rfl) (fun hb => (Ob.uncond (t := 21) hb rfl (ob_lens rfl Try.underlying22 (.tmp rfl)))) fun a19 w19 s19 => ?_; clear s18
  refine seq_opg s19 rfl rfl rfl rfl (of_decide_eq_true rfl) (fun hb => (Ob.uncond (t := 22) hb rfl ((Ob.uncond (t := 20) hb rfl (ob_lss rfl (.tmp rfl) (.tmp rfl)))))) fun a20 w20 s20 => ?_; clear s19
  obtain ⟨x2, e_x2, h2⟩ := bind_some h1; clear h1; replace e_x2 := Option.some.inj e_x2
  refine seq_op s20 rfl rfl (of_decide_eq_true rfl) ((ob_and2 rfl (.tmp rfl) (.tmp rfl) opd_bool).nm e_x2) fun a21 w21 s21 => ?_; clear s20
  refine seq_op s21 rfl rfl (of_decide_eq_true rfl) (ob_move rfl (.tmp rfl)) fun a22 w22 s22 => ?_; clear s21
  refine seq_opg s22 rfl rfl rfl rfl (of_decide_eq_true rfl) (fun hb => ob_move rfl (.tmp rfl)) fun a23 w23 s23 => ?_; clear s22
  obtain ⟨x3, e_x3, h3⟩ := bind_some h2; clear h2
  refine seq_opg s23 rfl rfl rfl rfl (of_decide_eq_true rfl) (fun hb => (Ob.uncond (t := 26) hb rfl (ob_callD (args := [_]) rfl .direct hb24 (fun a w s fs gs hf hg => by obtain rfl := hf.unnil; obtain rfl := hg.unnil; exact c_graph_Right k _ _ (ite_t hb e_x3) _ _ _ (s.arg (.tmp rfl)))))) fun a24 w24 s24 => ?_; clear s23
  refine seq_op s24 rfl rfl (of_decide_eq_true rfl) (ob_and2 rfl (.tmp rfl) (.tmp rfl) opd_bool) fun a25 w25 s25 => ?_; clear s24
  refine seq_op s25 rfl rfl (of_decide_eq_true rfl) (ob_assign rfl (.tmp rfl)) fun a26 w26 s26 => ?_; clear s25
  refine wpList_nil ?_
  refine then_normal ?_
  refine hK2 _ _ ?_
  have s27 := s26.sub (.cons (t := 6) rfl .nil); clear s26
  refine wp_ret ?_
  obtain rfl := Option.some.inj h3
  exact leave s27 (.inl rfl) rfl (.cons (.tmp rfl) .nil)

/- 27 cabal/graph.Ahead -/
theorem c_graph_Ahead (k : Nat) (p1 : (List api_Node)) (p2 : Int) (p3 : Int) (r : Bool) (h0 : graph_Ahead k p1 p2 p3 = some r) (ok : Ok) (w0 : World) (z0 : Value) (z1 : Value) (z2 : Value) (u0 : ((ksl k_api_Node).V p1).holds ok w0 z0) (u1 : ((kint .i64).V p2).holds ok w0 z1) (u2 : ((kint .i64).V p3).holds ok w0 z2) :
    Gives Try.prog 27 [z0, z1, z2] ok w0 (resFact [kbool.V r]) := by
  unfold graph_Ahead at h0
  refine enter (N := 20) Try.func27 rfl rfl (of_decide_eq_true rfl) (.cons u0 (.cons u1 (.cons u2 .nil))) fun a1 s1 => ?_
  refine wp_seq_k fun K1 hK1 => ?_
  refine wp_region_lit ?_
  refine seq_op s1 rfl rfl (of_decide_eq_true rfl) (ob_assign rfl opd_bool) fun a2 w2 s2 => ?_; clear s1
  refine wpList_nil ?_
  refine then_normal ?_
  refine hK1 _ _ ?_
  have s3 := s2.sub (.cons (t := 0) rfl (.cons (t := 1) rfl (.cons (t := 2) rfl .nil))); clear s2
  refine wp_seq_k fun K2 hK2 => ?_
  refine wp_region_lit ?_
  refine seq_op s3 rfl rfl (of_decide_eq_true rfl) (ob_move rfl (.tmp rfl)) fun a4 w4 s4 => ?_; clear s3
  refine seq_op s4 rfl rfl (of_decide_eq_true rfl) (ob_move rfl (.tmp rfl)) fun a5 w5 s5 => ?_; clear s4
  refine seq_op s5 rfl rfl (of_decide_eq_true rfl) (ob_move rfl (.tmp rfl)) fun a6 w6 s6 => ?_; clear s5
  obtain ⟨x1, e_x1, h1⟩ := bind_some h0; clear h0
  refine seq_op s6 rfl rfl (of_decide_eq_true rfl) (ob_callD (args := [_, _, _]) rfl .direct hb82 (fun a w s fs gs hf hg => by obtain rfl := hf.unnil; obtain rfl := hg.unnil; exact c_graph_has k _ _ _ _ e_x1 _ _ _ _ _ (s.arg (.tmp rfl)) (s.arg (.tmp rfl)) (s.arg (.tmp rfl)))) fun a7 w7 s7 => ?_; clear s6
  refine seq_op s7 rfl rfl (of_decide_eq_true rfl) (ob_move rfl (.tmp rfl)) fun a8 w8 s8 => ?_; clear s7
  refine seq_opg s8 rfl rfl rfl rfl (of_decide_eq_true rfl) (fun hb => ob_move rfl (.tmp rfl)) fun a9 w9 s9 => ?_; clear s8
  refine seq_opg s9 rfl rfl rfl rfl (of_decide_eq_true rfl) (fun hb => ob_move rfl (.tmp rfl)) fun a10 w10 s10 => ?_; clear s9
  obtain ⟨x2, e_x2, h2⟩ := bind_some h1; clear h1
  refine seq_opg s10 rfl rfl rfl rfl (of_decide_eq_true rfl) (fun hb => (Ob.uncond (t := 13) hb rfl ((Ob.uncond (t := 12) hb rfl (ob_indexAddrs rfl Try.underlying22 sz46 (.tmp rfl) (.tmp rfl) (ite_t hb e_x2)))))) fun a11 w11 s11 => ?_; clear s10
  refine seq_opg s11 rfl rfl rfl rfl (of_decide_eq_true rfl) (fun hb => (Ob.uncond (t := 14) hb rfl (ob_fieldAddrr rfl Try.underlying46 rfl sz41 (by decide) (.tmp rfl) (lg_api_Node_Past x2)))) fun a12 w12 s12 => ?_; clear s11
  refine seq_opg s12 rfl rfl rfl rfl (of_decide_eq_true rfl) (fun hb => (Ob.uncond (t := 15) hb rfl (ob_loadr rfl tk41 (.tmp rfl)))) fun a13 w13 s13 => ?_; clear s12
  refine seq_opg s13 rfl rfl rfl rfl (of_decide_eq_true rfl) (fun hb => ob_move rfl (.tmp rfl)) fun a14 w14 s14 => ?_; clear s13
  obtain ⟨x3, e_x3, h3⟩ := bind_some h2; clear h2
  refine seq_opg s14 rfl rfl rfl rfl (of_decide_eq_true rfl) (fun hb => (Ob.uncond (t := 17) hb rfl ((Ob.uncond (t := 16) hb rfl (ob_callD (args := [_, _]) rfl .direct hb83 (fun a w s fs gs hf hg => by obtain rfl := hf.unnil; obtain rfl := hg.unnil; exact c_slices_Contains_int_int k _ _ _ (ite_t hb e_x3) _ _ _ _ (s.arg (.tmp rfl)) (s.arg (.tmp rfl)))))))) fun a15 w15 s15 => ?_; clear s14
  refine seq_op s15 rfl rfl (of_decide_eq_true rfl) (ob_and2 rfl (.tmp rfl) (.tmp rfl) opd_bool) fun a16 w16 s16 => ?_; clear s15
  refine seq_op s16 rfl rfl (of_decide_eq_true rfl) (ob_assign rfl (.tmp rfl)) fun a17 w17 s17 => ?_; clear s16
  refine wpList_nil ?_
  refine then_normal ?_
  refine hK2 _ _ ?_
  have s18 := s17.sub (.cons (t := 6) rfl .nil); clear s17
  refine wp_ret ?_
  obtain rfl := Option.some.inj h3
  exact leave s18 (.inl rfl) rfl (.cons (.tmp rfl) .nil)

/- 28 cabal/graph.Apart -/
theorem c_graph_Apart (k : Nat) (p1 : (List api_Node)) (p2 : Int) (p3 : Int) (r : Bool) (h0 : graph_Apart k p1 p2 p3 = some r) (ok : Ok) (w0 : World) (z0 : Value) (z1 : Value) (z2 : Value) (u0 : ((ksl k_api_Node).V p1).holds ok w0 z0) (u1 : ((kint .i64).V p2).holds ok w0 z1) (u2 : ((kint .i64).V p3).holds ok w0 z2) :
    Gives Try.prog 28 [z0, z1, z2] ok w0 (resFact [kbool.V r]) := by
  unfold graph_Apart at h0
  refine enter (N := 36) Try.func28 rfl rfl (of_decide_eq_true rfl) (.cons u0 (.cons u1 (.cons u2 .nil))) fun a1 s1 => ?_
  refine wp_seq_k fun K1 hK1 => ?_
  refine wp_region_lit ?_
  refine seq_op s1 rfl rfl (of_decide_eq_true rfl) (ob_assign rfl opd_bool) fun a2 w2 s2 => ?_; clear s1
  refine wpList_nil ?_
  refine then_normal ?_
  refine hK1 _ _ ?_
  have s3 := s2.sub (.cons (t := 0) rfl (.cons (t := 1) rfl (.cons (t := 2) rfl .nil))); clear s2
  refine wp_seq_k fun K2 hK2 => ?_
  refine wp_region_lit ?_
  refine seq_op s3 rfl rfl (of_decide_eq_true rfl) (ob_move rfl (.tmp rfl)) fun a4 w4 s4 => ?_; clear s3
  refine seq_op s4 rfl rfl (of_decide_eq_true rfl) (ob_move rfl (.tmp rfl)) fun a5 w5 s5 => ?_; clear s4
  refine seq_op s5 rfl rfl (of_decide_eq_true rfl) (ob_move rfl (.tmp rfl)) fun a6 w6 s6 => ?_; clear s5
  obtain ⟨x1, e_x1, h1⟩ := bind_some h0; clear h0
  refine seq_op s6 rfl rfl (of_decide_eq_true rfl) (ob_callD (args := [_, _, _]) rfl .direct hb82 (fun a w s fs gs hf hg => by obtain rfl := hf.unnil; obtain rfl := hg.unnil; exact c_graph_has k _ _ _ _ e_x1 _ _ _ _ _ (s.arg (.tmp rfl)) (s.arg (.tmp rfl)) (s.arg (.tmp rfl)))) fun a7 w7 s7 => ?_; clear s6
  refine seq_op s7 rfl rfl (of_decide_eq_true rfl) (ob_move rfl (.tmp rfl)) fun a8 w8 s8 => ?_; clear s7
  refine seq_opg s8 rfl rfl rfl rfl (of_decide_eq_true rfl) (fun hb => ob_move rfl (.tmp rfl)) fun a9 w9 s9 => ?_; clear s8
  refine seq_opg s9 rfl rfl rfl rfl (of_decide_eq_true rfl) (fun hb => ob_move rfl (.tmp rfl)) fun a10 w10 s10 => ?_; clear s9
  refine seq_opg s10 rfl rfl rfl rfl (of_decide_eq_true rfl) (fun hb => (Ob.uncond (t := 13) hb rfl ((Ob.uncond (t := 12) hb rfl (ob_neq rfl (.tmp rfl) (.tmp rfl)))))) fun a11 w11 s11 => ?_; clear s10
  refine seq_op s11 rfl rfl (of_decide_eq_true rfl) (ob_and2 rfl (.tmp rfl) (.tmp rfl) opd_bool) fun a12 w12 s12 => ?_; clear s11
  refine seq_op s12 rfl rfl (of_decide_eq_true rfl) (ob_move rfl (.tmp rfl)) fun a13 w13 s13 => ?_; clear s12
  refine seq_opg s13 rfl rfl rfl rfl (of_decide_eq_true rfl) (fun hb => ob_move rfl (.tmp rfl)) fun a14 w14 s14 => ?_; clear s13
  refine seq_opg s14 rfl rfl rfl rfl (of_decide_eq_true rfl) (fun hb => ob_move rfl (.tmp rfl)) fun a15 w15 s15 => ?_; clear s14
  obtain ⟨x2, e_x2, h2⟩ := bind_some h1; clear h1
  refine seq_opg s15 rfl rfl rfl rfl (of_decide_eq_true rfl) (fun hb => (Ob.uncond (t := 18) hb rfl ((Ob.uncond (t := 17) hb rfl (ob_indexAddrs rfl Try.underlying22 sz46 (.tmp rfl) (.tmp rfl) (ite_t hb e_x2)))))) fun a16 w16 s16 => ?_; clear s15
  refine seq_opg s16 rfl rfl rfl rfl (of_decide_eq_true rfl) (fun hb => (Ob.uncond (t := 19) hb rfl (ob_fieldAddrr rfl Try.underlying46 rfl sz41 (by decide) (.tmp rfl) (lg_api_Node_Past x2)))) fun a17 w17 s17 => ?_; clear s16
  refine seq_opg s17 rfl rfl rfl rfl (of_decide_eq_true rfl) (fun hb => (Ob.uncond (t := 20) hb rfl (ob_loadr rfl tk41 (.tmp rfl)))) fun a18 w18 s18 => ?_; clear s17
  refine seq_opg s18 rfl rfl rfl rfl (of_decide_eq_true rfl) (fun hb => ob_move rfl (.tmp rfl)) fun a19 w19 s19 => ?_; clear s18
  obtain ⟨x3, e_x3, h3⟩ := bind_some h2; clear h2
  refine seq_opg s19 rfl rfl rfl rfl (of_decide_eq_true rfl) (fun hb => (Ob.uncond (t := 22) hb rfl ((Ob.uncond (t := 21) hb rfl (ob_callD (args := [_, _]) rfl .direct hb83 (fun a w s fs gs hf hg => by obtain rfl := hf.unnil; obtain rfl := hg.unnil; exact c_slices_Contains_int_int k _ _ _ (ite_t hb e_x3) _ _ _ _ (s.arg (.tmp rfl)) (s.arg (.tmp rfl)))))))) fun a20 w20 s20 => ?_; clear s19
  refine seq_opg s20 rfl rfl rfl rfl (of_decide_eq_true rfl) (fun hb => (Ob.uncond (t := 23) hb rfl (ob_not rfl (.tmp rfl)))) fun a21 w21 s21 => ?_; clear s20
  refine seq_op s21 rfl rfl (of_decide_eq_true rfl) (ob_and2 rfl (.tmp rfl) (.tmp rfl) opd_bool) fun a22 w22 s22 => ?_; clear s21
  refine seq_op s22 rfl rfl (of_decide_eq_true rfl) (ob_move rfl (.tmp rfl)) fun a23 w23 s23 => ?_; clear s22
  refine seq_opg s23 rfl rfl rfl rfl (of_decide_eq_true rfl) (fun hb => ob_move rfl (.tmp rfl)) fun a24 w24 s24 => ?_; clear s23
  refine seq_opg s24 rfl rfl rfl rfl (of_decide_eq_true rfl) (fun hb => ob_move rfl (.tmp rfl)) fun a25 w25 s25 => ?_; clear s24
  obtain ⟨x4, e_x4, h4⟩ := bind_some h3; clear h3
  refine seq_opg s25 rfl rfl rfl rfl (of_decide_eq_true rfl) (fun hb => (Ob.uncond (t := 28) hb rfl ((Ob.uncond (t := 27) hb rfl (ob_indexAddrs rfl Try.underlying22 sz46 (.tmp rfl) (.tmp rfl) (ite_t hb e_x4)))))) fun a26 w26 s26 => ?_; clear s25
  refine seq_opg s26 rfl rfl rfl rfl (of_decide_eq_true rfl) (fun hb => (Ob.uncond (t := 29) hb rfl (ob_fieldAddrr rfl Try.underlying46 rfl sz41 (by decide) (.tmp rfl) (lg_api_Node_Past x4)))) fun a27 w27 s27 => ?_; clear s26
  refine seq_opg s27 rfl rfl rfl rfl (of_decide_eq_true rfl) (fun hb => (Ob.uncond (t := 30) hb rfl (ob_loadr rfl tk41 (.tmp rfl)))) fun a28 w28 s28 => ?_; clear s27
  refine seq_opg s28 rfl rfl rfl rfl (of_decide_eq_true rfl) (fun hb => ob_move rfl (.tmp rfl)) fun a29 w29 s29 => ?_; clear s28
  obtain ⟨x5, e_x5, h5⟩ := bind_some h4; clear h4
  refine seq_opg s29 rfl rfl rfl rfl (of_decide_eq_true rfl) (fun hb => (Ob.uncond (t := 32) hb rfl ((Ob.uncond (t := 31) hb rfl (ob_callD (args := [_, _]) rfl .direct hb83 (fun a w s fs gs hf hg => by obtain rfl := hf.unnil; obtain rfl := hg.unnil; exact c_slices_Contains_int_int k _ _ _ (ite_t hb e_x5) _ _ _ _ (s.arg (.tmp rfl)) (s.arg (.tmp rfl)))))))) fun a30 w30 s30 => ?_; clear s29
  refine seq_opg s30 rfl rfl rfl rfl (of_decide_eq_true rfl) (fun hb => (Ob.uncond (t := 33) hb rfl (ob_not rfl (.tmp rfl)))) fun a31 w31 s31 => ?_; clear s30
  obtain ⟨x6, e_x6, h6⟩ := bind_some h5; clear h5; replace e_x6 := Option.some.inj e_x6
  refine seq_op s31 rfl rfl (of_decide_eq_true rfl) ((ob_and2 rfl (.tmp rfl) (.tmp rfl) opd_bool).nm e_x6) fun a32 w32 s32 => ?_; clear s31
  refine seq_op s32 rfl rfl (of_decide_eq_true rfl) (ob_assign rfl (.tmp rfl)) fun a33 w33 s33 => ?_; clear s32
  refine wpList_nil ?_
  refine then_normal ?_
  refine hK2 _ _ ?_
  have s34 := s33.sub (.cons (t := 6) rfl .nil); clear s33
  refine wp_ret ?_
  obtain rfl := Option.some.inj h6
  exact leave s34 (.inl rfl) rfl (.cons (.tmp rfl) .nil)

/- 3 cabal/caballaw26.ClockAhead -/
theorem c_caballaw26_ClockAhead (k : Nat) (p1 : (List api_Node)) (p2 : Int) (p3 : Int) (r : Bool) (h0 : caballaw26_ClockAhead k p1 p2 p3 = some r) (ok : Ok) (w0 : World) (z0 : Value) (z1 : Value) (z2 : Value) (u0 : ((ksl k_api_Node).V p1).holds ok w0 z0) (u1 : ((kint .i64).V p2).holds ok w0 z1) (u2 : ((kint .i64).V p3).holds ok w0 z2) :
    Gives Try.prog 3 [z0, z1, z2] ok w0 (resFact [kbool.V r]) := by
  unfold caballaw26_ClockAhead at h0
  refine enter (N := 101) Try.func3 rfl rfl (of_decide_eq_true rfl) (.cons u0 (.cons u1 (.cons u2 .nil))) fun a1 s1 => ?_
  refine wp_seq_k fun K1 hK1 => ?_
  refine wp_region_lit ?_
  refine seq_op s1 rfl rfl (of_decide_eq_true rfl) (ob_assign rfl opd_bool) fun a2 w2 s2 => ?_; clear s1
  refine wpList_nil ?_
  refine then_normal ?_
  refine hK1 _ _ ?_
  have s3 := s2.sub (.cons (t := 0) rfl (.cons (t := 1) rfl (.cons (t := 2) rfl .nil))); clear s2
  refine wp_seq_k fun K2 hK2 => ?_
  refine wp_seq_k fun K3 hK3 => ?_
  refine wp_region_lit ?_
  obtain ⟨x1, e_x1, h1⟩ := bind_some h0; clear h0
  refine seq_op s3 rfl rfl (of_decide_eq_true rfl) (ob_callD (args := []) rfl .direct hb22 (fun a w s fs gs hf hg => by obtain rfl := hf.unnil; obtain rfl := hg.unnil; exact c_caballaw26_alive k _ e_x1 _ _)) fun a4 w4 s4 => ?_; clear s3
  refine seq_op s4 rfl rfl (of_decide_eq_true rfl) (ob_not rfl (.tmp rfl)) fun a5 w5 s5 => ?_; clear s4
  refine wpList_nil ?_
  refine then_normal ?_
  refine hK3 _ _ ?_
  have s6 := s5.sub (.cons (t := 0) rfl (.cons (t := 1) rfl (.cons (t := 2) rfl (.cons (t := 13) rfl .nil)))); clear s5
  refine cond_split s6 (.tmp rfl) (fun hc1 => ?_) (fun hc1 => ?_)
  · replace h1 := ite_t hc1 h1
    have h2 := h1; clear h1
    refine wp_seq_k fun K4 hK4 => ?_
    refine wp_region_lit ?_
    refine seq_op s6 rfl rfl (of_decide_eq_true rfl) (ob_assign rfl opd_bool) fun a7 w7 s7 => ?_; clear s6
    refine wpList_nil ?_
    refine then_normal ?_
    refine hK4 _ _ ?_
    have s8 := s7.sub (.cons (t := 6) rfl .nil); clear s7
    refine wp_ret ?_
    obtain rfl := Option.some.inj h2
    exact leave s8 (.inl rfl) rfl (.cons (.tmp rfl) .nil)
  · replace h1 := ite_f hc1 h1
    have h3 := h1; clear h1
    refine wp_skip ?_
    refine then_normal ?_
    refine hK2 _ _ ?_
    have s9 := s6.sub (.cons (t := 0) rfl (.cons (t := 1) rfl (.cons (t := 2) rfl .nil))); clear s6
    refine wp_seq_k fun K5 hK5 => ?_
    refine wp_seq_k fun K6 hK6 => ?_
    refine wp_region_lit ?_
    refine seq_op s9 rfl rfl (of_decide_eq_true rfl) (ob_move rfl (.tmp rfl)) fun a10 w10 s10 => ?_; clear s9
    obtain ⟨x2, e_x2, h4⟩ := bind_some h3; clear h3
    refine seq_op s10 rfl rfl (of_decide_eq_true rfl) (ob_callD (args := [_]) rfl .direct hb23 (fun a w s fs gs hf hg => by obtain rfl := hf.unnil; obtain rfl := hg.unnil; exact c_cabalref15_Great k _ _ e_x2 _ _ _ (s.arg (.tmp rfl)))) fun a11 w11 s11 => ?_; clear s10
    refine seq_op s11 rfl rfl (of_decide_eq_true rfl) (ob_move rfl (.tmp rfl)) fun a12 w12 s12 => ?_; clear s11
    refine seq_opg s12 rfl rfl rfl rfl (of_decide_eq_true rfl) (fun hb => ob_move rfl (.tmp rfl)) fun a13 w13 s13 => ?_; clear s12
    obtain ⟨x3, e_x3, h5⟩ := bind_some h4; clear h4
    refine seq_opg s13 rfl rfl rfl rfl (of_decide_eq_true rfl) (fun hb => (Ob.uncond (t := 17) hb rfl (ob_callD (args := [_]) rfl .direct hb24 (fun a w s fs gs hf hg => by obtain rfl := hf.unnil; obtain rfl := hg.unnil; exact c_graph_Right k _ _ (ite_t hb e_x3) _ _ _ (s.arg (.tmp rfl)))))) fun a14 w14 s14 => ?_; clear s13
    refine seq_opg s14 rfl rfl rfl rfl (of_decide_eq_true rfl) (fun hb => (Ob.uncond (t := 18) hb rfl (ob_not rfl (.tmp rfl)))) fun a15 w15 s15 => ?_; clear s14
    refine seq_op s15 rfl rfl (of_decide_eq_true rfl) (ob_or2 rfl (.tmp rfl) opd_bool (.tmp rfl)) fun a16 w16 s16 => ?_; clear s15
    refine seq_op s16 rfl rfl (of_decide_eq_true rfl) (ob_move rfl (.tmp rfl)) fun a17 w17 s17 => ?_; clear s16
    refine seq_opg s17 rfl rfl rfl rfl (of_decide_eq_true rfl) (fun hb => ob_move rfl (.tmp rfl)) fun a18 w18 s18 => ?_; clear s17
    refine seq_opg s18 rfl rfl rfl rfl (of_decide_eq_true rfl) (fun hb => (Ob.uncond (t := 22) hb rfl (ob_lss rfl (.tmp rfl) (opd_int rfl)))) fun a19 w19 s19 => ?_; clear s18
    obtain ⟨x4, e_x4, h6⟩ := bind_some h5; clear h5; replace e_x4 := Option.some.inj e_x4
    refine seq_op s19 rfl rfl (of_decide_eq_true rfl) ((ob_or2 rfl (.tmp rfl) opd_bool (.tmp rfl)).nm e_x4) fun a20 w20 s20 => ?_; clear s19
    refine seq_op s20 rfl rfl (of_decide_eq_true rfl) (ob_move rfl (.tmp rfl)) fun a21 w21 s21 => ?_; clear s20
    refine seq_opg s21 rfl rfl rfl rfl (of_decide_eq_true rfl) (fun hb => ob_move rfl (.tmp rfl)) fun a22 w22 s22 => ?_; clear s21
    refine seq_opg s22 rfl rfl rfl rfl (of_decide_eq_true rfl) (fun hb => (Ob.uncond (t := 26) hb rfl (ob_lss rfl (.tmp rfl) (opd_int rfl)))) fun a23 w23 s23 => ?_; clear s22
    refine seq_op s23 rfl rfl (of_decide_eq_true rfl) (ob_or2 rfl (.tmp rfl) opd_bool (.tmp rfl)) fun a24 w24 s24 => ?_; clear s23
    refine seq_op s24 rfl rfl (of_decide_eq_true rfl) (ob_move rfl (.tmp rfl)) fun a25 w25 s25 => ?_; clear s24
    refine seq_opg s25 rfl rfl rfl rfl (of_decide_eq_true rfl) (fun hb => ob_move rfl (.tmp rfl)) fun a26 w26 s26 => ?_; clear s25
    refine seq_opg s26 rfl rfl rfl rfl (of_decide_eq_true rfl) (fun hb => ob_move rfl (.tmp rfl)) fun a27 w27 s27 => ?_; clear s26
    refine seq_opg s27 rfl rfl rfl rfl (of_decide_eq_true rfl) (fun hb => (Ob.uncond (t := 31) hb rfl (ob_lens rfl Try.underlying22 (.tmp rfl)))) fun a28 w28 s28 => ?_; clear s27
    refine seq_opg s28 rfl rfl rfl rfl (of_decide_eq_true rfl) (fun hb => (Ob.uncond (t := 32) hb rfl ((Ob.uncond (t := 30) hb rfl (ob_geq rfl (.tmp rfl) (.tmp rfl)))))) fun a29 w29 s29 => ?_; clear s28
    obtain ⟨x5, e_x5, h7⟩ := bind_some h6; clear h6; replace e_x5 := Option.some.inj e_x5
    refine seq_op s29 rfl rfl (of_decide_eq_true rfl) ((ob_or2 rfl (.tmp rfl) opd_bool (.tmp rfl)).nm e_x5) fun a30 w30 s30 => ?_; clear s29
    refine seq_op s30 rfl rfl (of_decide_eq_true rfl) (ob_move rfl (.tmp rfl)) fun a31 w31 s31 => ?_; clear s30
    refine seq_opg s31 rfl rfl rfl rfl (of_decide_eq_true rfl) (fun hb => ob_move rfl (.tmp rfl)) fun a32 w32 s32 => ?_; clear s31
    refine seq_opg s32 rfl rfl rfl rfl (of_decide_eq_true rfl) (fun hb => ob_move rfl (.tmp rfl)) fun a33 w33 s33 => ?_; clear s32
    refine seq_opg s33 rfl rfl rfl rfl (of_decide_eq_true rfl) (fun hb => (Ob.uncond (t := 37) hb rfl (ob_lens rfl Try.underlying22 (.tmp rfl)))) fun a34 w34 s34 => ?_; clear s33
    refine seq_opg s34 rfl rfl rfl rfl (of_decide_eq_true rfl) (fun hb => (Ob.uncond (t := 38) hb rfl ((Ob.uncond (t := 36) hb rfl (ob_geq rfl (.tmp rfl) (.tmp rfl)))))) fun a35 w35 s35 => ?_; clear s34
    refine seq_op s35 rfl rfl (of_decide_eq_true rfl) (ob_or2 rfl (.tmp rfl) opd_bool (.tmp rfl)) fun a36 w36 s36 => ?_; clear s35
    refine wpList_nil ?_
    refine then_normal ?_
    refine hK6 _ _ ?_
    have s37 := s36.sub (.cons (t := 0) rfl (.cons (t := 1) rfl (.cons (t := 2) rfl (.cons (t := 40) rfl .nil)))); clear s36
    refine cond_split s37 (.tmp rfl) (fun hc2 => ?_) (fun hc2 => ?_)
    · replace h7 := ite_t hc2 h7
      have h8 := h7; clear h7
      refine wp_seq_k fun K7 hK7 => ?_
      refine wp_region_lit ?_
      obtain ⟨x6, e_x6, h9⟩ := bind_some h8; clear h8
      refine seq_op s37 rfl rfl (of_decide_eq_true rfl) (ob_callD (args := []) rfl .direct hb22 (fun a w s fs gs hf hg => by obtain rfl := hf.unnil; obtain rfl := hg.unnil; exact c_caballaw26_alive k _ e_x6 _ _)) fun a38 w38 s38 => ?_; clear s37
      refine seq_op s38 rfl rfl (of_decide_eq_true rfl) (ob_assign rfl (.tmp rfl)) fun a39 w39 s39 => ?_; clear s38
      refine wpList_nil ?_
      refine then_normal ?_
      refine hK7 _ _ ?_
      have s40 := s39.sub (.cons (t := 6) rfl .nil); clear s39
      refine wp_ret ?_
      obtain rfl := Option.some.inj h9
      exact leave s40 (.inl rfl) rfl (.cons (.tmp rfl) .nil)
    · replace h7 := ite_f hc2 h7
      have h10 := h7; clear h7
      refine wp_skip ?_
      refine then_normal ?_
      refine hK5 _ _ ?_
      have s41 := s37.sub (.cons (t := 0) rfl (.cons (t := 1) rfl (.cons (t := 2) rfl .nil))); clear s37
      refine wp_seq_k fun K8 hK8 => ?_
      refine wp_region_lit ?_
      refine seq_op s41 rfl rfl (of_decide_eq_true rfl) (ob_move rfl (.tmp rfl)) fun a42 w42 s42 => ?_; clear s41
      refine seq_op s42 rfl rfl (of_decide_eq_true rfl) (ob_move rfl (.tmp rfl)) fun a43 w43 s43 => ?_; clear s42
      obtain ⟨x7, e_x7, h11⟩ := bind_some h10; clear h10
      refine seq_op s43 rfl rfl (of_decide_eq_true rfl) (ob_callD (args := [_, _]) rfl .direct hb25 (fun a w s fs gs hf hg => by obtain rfl := hf.unnil; obtain rfl := hg.unnil; exact c_clock_Of k _ _ _ e_x7 _ _ _ _ (s.arg (.tmp rfl)) (s.arg (.tmp rfl)))) fun a44 w44 s44 => ?_; clear s43
      refine seq_op s44 rfl rfl (of_decide_eq_true rfl) (ob_move rfl (.tmp rfl)) fun a45 w45 s45 => ?_; clear s44
      refine seq_op s45 rfl rfl (of_decide_eq_true rfl) (ob_extract rfl (.tmp rfl) rfl) fun a46 w46 s46 => ?_; clear s45
      refine seq_op s46 rfl rfl (of_decide_eq_true rfl) (ob_extract rfl (.tmp rfl) rfl) fun a47 w47 s47 => ?_; clear s46
      refine seq_opx (B' := (fun b1 : Nat => [BF b1 27 (karr 8 (kint .u32)) (List.replicate 8 (0 : Int))])) s47 rfl rfl (of_decide_eq_true rfl) (ob_new (k := (karr 8 (kint .u32))) rfl zz27 (Zr.arr 8 (Zr.int .u32))) fun b1 a48 w48 s48 => ?_; clear s47
      refine seq_opx0 (B' := (fun _ : Unit => [BF b1 27 (karr 8 (kint .u32)) x7.1])) s48 rfl rfl (ob_store (A := []) rfl tk27 (.tmp rfl) (.tmp rfl) rfl (LS.refl _ _ _) rfl) fun _ a49 w49 s49 => ?_; clear s48
      refine seq_op s49 rfl rfl (of_decide_eq_true rfl) (ob_assign rfl (.tmp rfl)) fun a50 w50 s50 => ?_; clear s49
      refine wpList_nil ?_
      refine then_normal ?_
      refine hK8 _ _ ?_
      have s51 := s50.sub (.cons (t := 0) rfl (.cons (t := 1) rfl (.cons (t := 2) rfl (.cons (t := 7) rfl (.cons (t := 8) rfl .nil))))); clear s50
      refine wp_seq_k fun K9 hK9 => ?_
      refine wp_region_lit ?_
      refine seq_op s51 rfl rfl (of_decide_eq_true rfl) (ob_move rfl (.tmp rfl)) fun a52 w52 s52 => ?_; clear s51
      refine seq_op s52 rfl rfl (of_decide_eq_true rfl) (ob_move rfl (.tmp rfl)) fun a53 w53 s53 => ?_; clear s52
      obtain ⟨x8, e_x8, h12⟩ := bind_some h11; clear h11
      refine seq_op s53 rfl rfl (of_decide_eq_true rfl) (ob_callD (args := [_, _]) rfl .direct hb25 (fun a w s fs gs hf hg => by obtain rfl := hf.unnil; obtain rfl := hg.unnil; exact c_clock_Of k _ _ _ e_x8 _ _ _ _ (s.arg (.tmp rfl)) (s.arg (.tmp rfl)))) fun a54 w54 s54 => ?_; clear s53
      refine seq_op s54 rfl rfl (of_decide_eq_true rfl) (ob_move rfl (.tmp rfl)) fun a55 w55 s55 => ?_; clear s54
      refine seq_op s55 rfl rfl (of_decide_eq_true rfl) (ob_extract rfl (.tmp rfl) rfl) fun a56 w56 s56 => ?_; clear s55
      refine seq_op s56 rfl rfl (of_decide_eq_true rfl) (ob_extract rfl (.tmp rfl) rfl) fun a57 w57 s57 => ?_; clear s56
      refine seq_opx (B' := (fun b2 : Nat => [BF b2 27 (karr 8 (kint .u32)) (List.replicate 8 (0 : Int)), BF b1 27 (karr 8 (kint .u32)) x7.1])) s57 rfl rfl (of_decide_eq_true rfl) (ob_new (k := (karr 8 (kint .u32))) rfl zz27 (Zr.arr 8 (Zr.int .u32))) fun b2 a58 w58 s58 => ?_; clear s57
      refine seq_opx0 (B' := (fun _ : Unit => [BF b2 27 (karr 8 (kint .u32)) x8.1, BF b1 27 (karr 8 (kint .u32)) x7.1])) s58 rfl rfl (ob_store (A := []) rfl tk27 (.tmp rfl) (.tmp rfl) rfl (LS.refl _ _ _) rfl) fun _ a59 w59 s59 => ?_; clear s58
      refine seq_op s59 rfl rfl (of_decide_eq_true rfl) (ob_assign rfl (.tmp rfl)) fun a60 w60 s60 => ?_; clear s59
      refine wpList_nil ?_
      refine then_normal ?_
      refine hK9 _ _ ?_
      have s61 := s60.sub (.cons (t := 0) rfl (.cons (t := 1) rfl (.cons (t := 2) rfl (.cons (t := 7) rfl (.cons (t := 8) rfl (.cons (t := 9) rfl (.cons (t := 10) rfl .nil))))))); clear s60
      refine wp_seq_k fun K10 hK10 => ?_
      refine wp_region_lit ?_
      refine seq_op s61 rfl rfl (of_decide_eq_true rfl) (ob_load rfl tk27 (.tmp rfl) (.tail _ (.head _)) (LG.refl _ _)) fun a62 w62 s62 => ?_; clear s61
      refine seq_op s62 rfl rfl (of_decide_eq_true rfl) (ob_load rfl tk27 (.tmp rfl) (.head _) (LG.refl _ _)) fun a63 w63 s63 => ?_; clear s62
      obtain ⟨x9, e_x9, h13⟩ := bind_some h12; clear h12
      refine seq_op s63 rfl rfl (of_decide_eq_true rfl) (ob_callD (args := [_, _]) rfl .direct hb26 (fun a w s fs gs hf hg => by obtain rfl := hf.unnil; obtain rfl := hg.unnil; exact c_clock_Order k _ _ _ e_x9 _ _ _ _ (s.arg (.tmp rfl)) (s.arg (.tmp rfl)))) fun a64 w64 s64 => ?_; clear s63
      refine seq_op s64 rfl rfl (of_decide_eq_true rfl) (ob_assign rfl (.tmp rfl)) fun a65 w65 s65 => ?_; clear s64
      refine wpList_nil ?_
      refine then_normal ?_
      refine hK10 _ _ ?_
      have s66 := s65.sub (.cons (t := 0) rfl (.cons (t := 1) rfl (.cons (t := 2) rfl (.cons (t := 8) rfl (.cons (t := 10) rfl (.cons (t := 11) rfl .nil)))))); clear s65
      have s67 := St.drop (A := []) s66; clear s66
      have s68 := St.drop (A := []) s67; clear s67
      refine wp_seq_k fun K11 hK11 => ?_
      refine wp_region_lit ?_
      obtain ⟨x10, e_x10, h14⟩ := bind_some h13; clear h13
      refine seq_op s68 rfl rfl (of_decide_eq_true rfl) (ob_callD (args := []) rfl .direct hb22 (fun a w s fs gs hf hg => by obtain rfl := hf.unnil; obtain rfl := hg.unnil; exact c_caballaw26_alive k _ e_x10 _ _)) fun a69 w69 s69 => ?_; clear s68
      refine seq_op s69 rfl rfl (of_decide_eq_true rfl) (ob_move rfl (.tmp rfl)) fun a70 w70 s70 => ?_; clear s69
      refine seq_opg s70 rfl rfl rfl rfl (of_decide_eq_true rfl) (fun hb => ob_move rfl (.tmp rfl)) fun a71 w71 s71 => ?_; clear s70
      refine seq_opg s71 rfl rfl rfl rfl (of_decide_eq_true rfl) (fun hb => (Ob.uncond (t := 59) hb rfl (ob_eql rfl (.tmp rfl) (opd_int rfl)))) fun a72 w72 s72 => ?_; clear s71
      refine seq_op s72 rfl rfl (of_decide_eq_true rfl) (ob_and2 rfl (.tmp rfl) (.tmp rfl) opd_bool) fun a73 w73 s73 => ?_; clear s72
      refine seq_op s73 rfl rfl (of_decide_eq_true rfl) (ob_move rfl (.tmp rfl)) fun a74 w74 s74 => ?_; clear s73
      refine seq_opg s74 rfl rfl rfl rfl (of_decide_eq_true rfl) (fun hb => ob_move rfl (.tmp rfl)) fun a75 w75 s75 => ?_; clear s74
      refine seq_opg s75 rfl rfl rfl rfl (of_decide_eq_true rfl) (fun hb => (Ob.uncond (t := 63) hb rfl (ob_eql rfl (.tmp rfl) (opd_int rfl)))) fun a76 w76 s76 => ?_; clear s75
      obtain ⟨x11, e_x11, h15⟩ := bind_some h14; clear h14; replace e_x11 := Option.some.inj e_x11
      refine seq_op s76 rfl rfl (of_decide_eq_true rfl) ((ob_and2 rfl (.tmp rfl) (.tmp rfl) opd_bool).nm e_x11) fun a77 w77 s77 => ?_; clear s76
      refine seq_op s77 rfl rfl (of_decide_eq_true rfl) (ob_move rfl (.tmp rfl)) fun a78 w78 s78 => ?_; clear s77
      refine seq_opg s78 rfl rfl rfl rfl (of_decide_eq_true rfl) (fun hb => ob_move rfl (.tmp rfl)) fun a79 w79 s79 => ?_; clear s78
      refine seq_opg s79 rfl rfl rfl rfl (of_decide_eq_true rfl) (fun hb => ob_move rfl (.tmp rfl)) fun a80 w80 s80 => ?_; clear s79
      refine seq_opg s80 rfl rfl rfl rfl (of_decide_eq_true rfl) (fun hb => ob_move rfl (.tmp rfl)) fun a81 w81 s81 => ?_; clear s80
      obtain ⟨x12, e_x12, h16⟩ := bind_some h15; clear h15
      refine seq_opg s81 rfl rfl rfl rfl (of_decide_eq_true rfl) (fun hb => (Ob.uncond (t := 69) hb rfl ((Ob.uncond (t := 68) hb rfl ((Ob.uncond (t := 67) hb rfl (ob_callD (args := [_, _, _]) rfl .direct hb27 (fun a w s fs gs hf hg => by obtain rfl := hf.unnil; obtain rfl := hg.unnil; exact c_graph_Ahead k _ _ _ _ (ite_t hb e_x12) _ _ _ _ _ (s.arg (.tmp rfl)) (s.arg (.tmp rfl)) (s.arg (.tmp rfl)))))))))) fun a82 w82 s82 => ?_; clear s81
      refine seq_opg s82 rfl rfl rfl rfl (of_decide_eq_true rfl) (fun hb => ob_move rfl (.tmp rfl)) fun a83 w83 s83 => ?_; clear s82
      refine seq_opg s83 rfl rfl rfl rfl (of_decide_eq_true rfl) (fun hb => (Ob.uncond (t := 71) hb rfl (ob_eql rfl (.tmp rfl) (opd_int rfl)))) fun a84 w84 s84 => ?_; clear s83
      refine seq_opg s84 rfl rfl rfl rfl (of_decide_eq_true rfl) (fun hb => (Ob.uncond (t := 72) hb rfl ((Ob.uncond (t := 70) hb rfl (ob_beql rfl Try.underlying4 (.tmp rfl) (.tmp rfl)))))) fun a85 w85 s85 => ?_; clear s84
      refine seq_op s85 rfl rfl (of_decide_eq_true rfl) (ob_and2 rfl (.tmp rfl) (.tmp rfl) opd_bool) fun a86 w86 s86 => ?_; clear s85
      refine seq_op s86 rfl rfl (of_decide_eq_true rfl) (ob_move rfl (.tmp rfl)) fun a87 w87 s87 => ?_; clear s86
      refine seq_opg s87 rfl rfl rfl rfl (of_decide_eq_true rfl) (fun hb => ob_move rfl (.tmp rfl)) fun a88 w88 s88 => ?_; clear s87
      refine seq_opg s88 rfl rfl rfl rfl (of_decide_eq_true rfl) (fun hb => ob_move rfl (.tmp rfl)) fun a89 w89 s89 => ?_; clear s88
      refine seq_opg s89 rfl rfl rfl rfl (of_decide_eq_true rfl) (fun hb => ob_move rfl (.tmp rfl)) fun a90 w90 s90 => ?_; clear s89
      obtain ⟨x13, e_x13, h17⟩ := bind_some h16; clear h16
      refine seq_opg s90 rfl rfl rfl rfl (of_decide_eq_true rfl) (fun hb => (Ob.uncond (t := 78) hb rfl ((Ob.uncond (t := 77) hb rfl ((Ob.uncond (t := 76) hb rfl (ob_callD (args := [_, _, _]) rfl .direct hb27 (fun a w s fs gs hf hg => by obtain rfl := hf.unnil; obtain rfl := hg.unnil; exact c_graph_Ahead k _ _ _ _ (ite_t hb e_x13) _ _ _ _ _ (s.arg (.tmp rfl)) (s.arg (.tmp rfl)) (s.arg (.tmp rfl)))))))))) fun a91 w91 s91 => ?_; clear s90
      refine seq_opg s91 rfl rfl rfl rfl (of_decide_eq_true rfl) (fun hb => ob_move rfl (.tmp rfl)) fun a92 w92 s92 => ?_; clear s91
      refine seq_opg s92 rfl rfl rfl rfl (of_decide_eq_true rfl) (fun hb => (Ob.uncond (t := 80) hb rfl (ob_eql rfl (.tmp rfl) (opd_int rfl)))) fun a93 w93 s93 => ?_; clear s92
      refine seq_opg s93 rfl rfl rfl rfl (of_decide_eq_true rfl) (fun hb => (Ob.uncond (t := 81) hb rfl ((Ob.uncond (t := 79) hb rfl (ob_beql rfl Try.underlying4 (.tmp rfl) (.tmp rfl)))))) fun a94 w94 s94 => ?_; clear s93
      obtain ⟨x14, e_x14, h18⟩ := bind_some h17; clear h17; replace e_x14 := Option.some.inj e_x14
      refine seq_op s94 rfl rfl (of_decide_eq_true rfl) ((ob_and2 rfl (.tmp rfl) (.tmp rfl) opd_bool).nm e_x14) fun a95 w95 s95 => ?_; clear s94
      refine seq_op s95 rfl rfl (of_decide_eq_true rfl) (ob_move rfl (.tmp rfl)) fun a96 w96 s96 => ?_; clear s95
      refine seq_opg s96 rfl rfl rfl rfl (of_decide_eq_true rfl) (fun hb => ob_move rfl (.tmp rfl)) fun a97 w97 s97 => ?_; clear s96
      refine seq_opg s97 rfl rfl rfl rfl (of_decide_eq_true rfl) (fun hb => ob_move rfl (.tmp rfl)) fun a98 w98 s98 => ?_; clear s97
      refine seq_opg s98 rfl rfl rfl rfl (of_decide_eq_true rfl) (fun hb => ob_move rfl (.tmp rfl)) fun a99 w99 s99 => ?_; clear s98
      obtain ⟨x15, e_x15, h19⟩ := bind_some h18; clear h18
      refine seq_opg s99 rfl rfl rfl rfl (of_decide_eq_true rfl) (fun hb => (Ob.uncond (t := 87) hb rfl ((Ob.uncond (t := 86) hb rfl ((Ob.uncond (t := 85) hb rfl (ob_callD (args := [_, _, _]) rfl .direct hb28 (fun a w s fs gs hf hg => by obtain rfl := hf.unnil; obtain rfl := hg.unnil; exact c_graph_Apart k _ _ _ _ (ite_t hb e_x15) _ _ _ _ _ (s.arg (.tmp rfl)) (s.arg (.tmp rfl)) (s.arg (.tmp rfl)))))))))) fun a100 w100 s100 => ?_; clear s99
      refine seq_opg s100 rfl rfl rfl rfl (of_decide_eq_true rfl) (fun hb => ob_move rfl (.tmp rfl)) fun a101 w101 s101 => ?_; clear s100
      refine seq_opg s101 rfl rfl rfl rfl (of_decide_eq_true rfl) (fun hb => (Ob.uncond (t := 89) hb rfl (ob_eql rfl (.tmp rfl) (opd_int rfl)))) fun a102 w102 s102 => ?_; clear s101
      refine seq_opg s102 rfl rfl rfl rfl (of_decide_eq_true rfl) (fun hb => (Ob.uncond (t := 90) hb rfl ((Ob.uncond (t := 88) hb rfl (ob_beql rfl Try.underlying4 (.tmp rfl) (.tmp rfl)))))) fun a103 w103 s103 => ?_; clear s102
      refine seq_op s103 rfl rfl (of_decide_eq_true rfl) (ob_and2 rfl (.tmp rfl) (.tmp rfl) opd_bool) fun a104 w104 s104 => ?_; clear s103
      refine seq_op s104 rfl rfl (of_decide_eq_true rfl) (ob_move rfl (.tmp rfl)) fun a105 w105 s105 => ?_; clear s104
      refine seq_opg s105 rfl rfl rfl rfl (of_decide_eq_true rfl) (fun hb => ob_move rfl (.tmp rfl)) fun a106 w106 s106 => ?_; clear s105
      refine seq_opg s106 rfl rfl rfl rfl (of_decide_eq_true rfl) (fun hb => ob_move rfl (.tmp rfl)) fun a107 w107 s107 => ?_; clear s106
      refine seq_opg s107 rfl rfl rfl rfl (of_decide_eq_true rfl) (fun hb => (Ob.uncond (t := 95) hb rfl ((Ob.uncond (t := 94) hb rfl (ob_eql rfl (.tmp rfl) (.tmp rfl)))))) fun a108 w108 s108 => ?_; clear s107
      refine seq_opg s108 rfl rfl rfl rfl (of_decide_eq_true rfl) (fun hb => ob_move rfl (.tmp rfl)) fun a109 w109 s109 => ?_; clear s108
      refine seq_opg s109 rfl rfl rfl rfl (of_decide_eq_true rfl) (fun hb => (Ob.uncond (t := 97) hb rfl (ob_eql rfl (.tmp rfl) (opd_int rfl)))) fun a110 w110 s110 => ?_; clear s109
      refine seq_opg s110 rfl rfl rfl rfl (of_decide_eq_true rfl) (fun hb => (Ob.uncond (t := 98) hb rfl ((Ob.uncond (t := 96) hb rfl (ob_beql rfl Try.underlying4 (.tmp rfl) (.tmp rfl)))))) fun a111 w111 s111 => ?_; clear s110
      obtain ⟨x16, e_x16, h20⟩ := bind_some h19; clear h19; replace e_x16 := Option.some.inj e_x16
      refine seq_op s111 rfl rfl (of_decide_eq_true rfl) ((ob_and2 rfl (.tmp rfl) (.tmp rfl) opd_bool).nm e_x16) fun a112 w112 s112 => ?_; clear s111
      refine seq_op s112 rfl rfl (of_decide_eq_true rfl) (ob_assign rfl (.tmp rfl)) fun a113 w113 s113 => ?_; clear s112
      refine wpList_nil ?_
      refine then_normal ?_
      refine hK11 _ _ ?_
      have s114 := s113.sub (.cons (t := 6) rfl .nil); clear s113
      refine wp_ret ?_
      obtain rfl := Option.some.inj h20
      exact leave s114 (.inl rfl) rfl (.cons (.tmp rfl) .nil)

/- 84 cabal/clock.plus -/
theorem c_clock_plus (k : Nat) (p1 : (List Int)) (p2 : (List Int)) (r : (List Int)) (h0 : clock_plus k p1 p2 = some r) (ok : Ok) (w0 : World) (z0 : Value) (z1 : Value) (u0 : ((karr 8 (kint .u32)).V p1).holds ok w0 z0) (u1 : ((karr 8 (kint .u32)).V p2).holds ok w0 z1) :
    Gives Try.prog 84 [z0, z1] ok w0 (resFact [(karr 8 (kint .u32)).V r]) := by
  unfold clock_plus at h0
  refine enter (N := 19) Try.func84 rfl rfl (of_decide_eq_true rfl) (.cons u0 (.cons u1 .nil)) fun a1 s1 => ?_
  refine wp_seq_k fun K1 hK1 => ?_
  refine wp_region_lit ?_
  refine seq_opx (B' := (fun b1 : Nat => [BF b1 27 (karr 8 (kint .u32)) p1])) s1 rfl rfl (of_decide_eq_true rfl) (ob_box rfl (.tmp rfl)) fun b1 a2 w2 s2 => ?_; clear s1
  refine seq_opx (B' := (fun b2 : Nat => [BF b2 27 (karr 8 (kint .u32)) p2, BF b1 27 (karr 8 (kint .u32)) p1])) s2 rfl rfl (of_decide_eq_true rfl) (ob_box rfl (.tmp rfl)) fun b2 a3 w3 s3 => ?_; clear s2
  refine seq_opx (B' := (fun b3 : Nat => [BF b3 27 (karr 8 (kint .u32)) (List.replicate 8 (0 : Int)), BF b2 27 (karr 8 (kint .u32)) p2, BF b1 27 (karr 8 (kint .u32)) p1])) s3 rfl rfl (of_decide_eq_true rfl) (ob_new (k := (karr 8 (kint .u32))) rfl zz27 (Zr.arr 8 (Zr.int .u32))) fun b3 a4 w4 s4 => ?_; clear s3
  refine wpList_nil ?_
  refine then_normal ?_
  refine hK1 _ _ ?_
  have s5 := s4.sub (.cons (t := 2) rfl (.cons (t := 3) rfl (.cons (t := 4) rfl .nil))); clear s4
  refine wp_seq_k fun K2 hK2 => ?_
  refine wp_seq_k fun K3 hK3 => ?_
  refine wp_region_lit ?_
  refine seq_op s5 rfl rfl (of_decide_eq_true rfl) (ob_move rfl (opd_int rfl)) fun a6 w6 s6 => ?_; clear s5
  refine wpList_nil ?_
  refine then_normal ?_
  refine hK3 _ _ ?_
  have s7 := s6.sub (.cons (t := 2) rfl (.cons (t := 3) rfl (.cons (t := 4) rfl (.cons (t := 6) rfl .nil)))); clear s6
  have hj1 : ∀ (y1 : (List Int)) (a : Act) (w : World), (clock_plus.j1 k) y1 = some r → St ⟨19, w0, ok, []⟩ [BF b1 27 (karr 8 (kint .u32)) y1, BF b3 27 (karr 8 (kint .u32)) (List.replicate 8 (0 : Int))] [(2, (ptrB b1 0)), (4, (ptrB b3 0))] a w → K2 a w := by
    intro y1 a8 w8 h1 s8
    unfold clock_plus.j1 at h1
    refine hK2 _ _ ?_
    refine wp_seq_k fun K4 hK4 => ?_
    refine wp_region_lit ?_
    refine seq_op s8 rfl rfl (of_decide_eq_true rfl) (ob_load rfl tk27 (.tmp rfl) (.head _) (LG.refl _ _)) fun a9 w9 s9 => ?_; clear s8
    refine seq_opx0 (B' := (fun _ : Unit => [BF b1 27 (karr 8 (kint .u32)) y1, BF b3 27 (karr 8 (kint .u32)) y1])) s9 rfl rfl (ob_store (A := [_]) rfl tk27 (.tmp rfl) (.tmp rfl) rfl (LS.refl _ _ _) rfl) fun _ a10 w10 s10 => ?_; clear s9
    refine wpList_nil ?_
    refine then_normal ?_
    refine hK4 _ _ ?_
    have s11 := s10.sub (.cons (t := 4) rfl .nil); clear s10
    have s12 := St.drop (A := []) s11; clear s11
    refine wp_ret ?_
    obtain rfl := Option.some.inj h1
    exact leave s12 (.inl rfl) rfl (.cons (.cell rfl tk27 (.head _) (LG.refl _ _)) .nil)
  refine wp_block ?_
  have s13 := s7.perm (toFront [_, _] (toFront [_] (toFront [] (List.Perm.refl _)))); clear s7
  refine wp_loop_fuel (fun m (q : Int × (List Int)) => clock_plus.l1 k p2 m q.1 q.2) r (fun _ => rfl) (fun q a w => St ⟨19, w0, ok, []⟩ [BF b1 27 (karr 8 (kint .u32)) q.2, BF b2 27 (karr 8 (kint .u32)) p2, BF b3 27 (karr 8 (kint .u32)) (List.replicate 8 (0 : Int))] [(2, (ptrB b1 0)), (3, (ptrB b2 0)), (4, (ptrB b3 0)), (6, ((kint .i64).V q.1))] a w) ?_ k ((0 : Int), p1) _ _ h0 (s13.sub (.cons rfl (.cons rfl (.cons rfl (.cons rfl .nil)))))
  rintro n1 ⟨y2, y3⟩ a14 w14 h2 s14 K5 hK5
  replace h2 : clock_plus.l1 k p2 (n1 + 1) y2 y3 = some r := h2; rw [clock_plus.l1] at h2
  have h3 := h2; clear h2
  refine wp_seq_k fun K6 hK6 => ?_
  refine wp_region_lit ?_
  refine seq_op s14 rfl rfl (of_decide_eq_true rfl) (ob_lss rfl (.tmp rfl) (opd_int rfl)) fun a15 w15 s15 => ?_; clear s14
  refine wpList_nil ?_
  refine then_normal ?_
  refine hK6 _ _ ?_
  have s16 := s15.sub (.cons (t := 2) rfl (.cons (t := 3) rfl (.cons (t := 4) rfl (.cons (t := 6) rfl (.cons (t := 7) rfl .nil))))); clear s15
  refine wp_seq_k fun K7 hK7 => ?_
  refine cond_split s16 (.tmp rfl) (fun hc1 => ?_) (fun hc1 => ?_)
  · replace h3 := ite_t hc1 h3
    have h4 := h3; clear h3
    refine wp_skip ?_
    refine then_normal ?_
    refine hK7 _ _ ?_
    have s17 := s16.sub (.cons (t := 2) rfl (.cons (t := 3) rfl (.cons (t := 4) rfl (.cons (t := 6) rfl .nil)))); clear s16
    refine wp_seq_k fun K8 hK8 => ?_
    refine wp_block ?_
    refine wp_seq_k fun K9 hK9 => ?_
    refine wp_region_lit ?_
    refine seq_op s17 rfl rfl (of_decide_eq_true rfl) (ob_move rfl (.tmp rfl)) fun a18 w18 s18 => ?_; clear s17
    refine seq_op s18 rfl rfl (of_decide_eq_true rfl) (ob_assign rfl (.tmp rfl)) fun a19 w19 s19 => ?_; clear s18
    refine wpList_nil ?_
    refine then_normal ?_
    refine hK9 _ _ ?_
    have s20 := s19.sub (.cons (t := 2) rfl (.cons (t := 3) rfl (.cons (t := 4) rfl (.cons (t := 5) rfl (.cons (t := 6) rfl .nil))))); clear s19
    obtain ⟨g1, h5⟩ := guard_some h4; clear h4
    obtain ⟨x1, e_x1, h6⟩ := bind_some h5; clear h5
    obtain ⟨g2, h7⟩ := guard_some h6; clear h6
    obtain ⟨x2, e_x2, h8⟩ := bind_some h7; clear h7
    refine wp_goes (Fs := [((kint .i64).V y2), (ptrB b1 (y2.toNat * 1)), ((kint .u32).V x1), ((kint .i64).V y2), (ptrB b2 (y2.toNat * 1)), ((kint .u32).V x2)]) (bits := [0, 1, 3, 0, 8, 24, 63, 127, 255]) (m := 6) (todo := 0) mx s20 ?_; clear s20
    refine goes_last (by kernel_rfl) rfl (opsS_cons (.plain _ (Av.old (t := 5) rfl rfl Av.nil) rfl rfl (ob_move rfl (.tmp rfl))) (opsS_cons (.plain _ (Av.old (t := 2) rfl rfl (Av.new (j := 0) rfl rfl rfl Av.nil)) rfl rfl (ob_indexAddr rfl Try.underlying27 sz25 (.tmp rfl) (.tmp rfl) g1.1 g1.2 (Nat.zero_add _))) (opsS_cons (.plain _ (Av.new (j := 1) rfl rfl rfl Av.nil) rfl rfl (ob_load rfl tk25 (.tmp rfl) (.head _) (LG.arrA e_x1))) (opsS_cons (.plain _ (Av.old (t := 5) rfl rfl Av.nil) rfl rfl (ob_move rfl (.tmp rfl))) (opsS_cons (.plain _ (Av.old (t := 3) rfl rfl (Av.new (j := 3) rfl rfl rfl Av.nil)) rfl rfl (ob_indexAddr rfl Try.underlying27 sz25 (.tmp rfl) (.tmp rfl) g2.1 g2.2 (Nat.zero_add _))) (opsS_cons (.plain _ (Av.new (j := 4) rfl rfl rfl Av.nil) rfl rfl (ob_load rfl tk25 (.tmp rfl) (.tail _ (.head _)) (LG.arrA e_x2))) opsS_nil)))))) (out_old (t := 2) rfl rfl (out_old (t := 3) rfl rfl (out_old (t := 4) rfl rfl (out_old (t := 6) rfl rfl (out_new (i := 0) (by decide) rfl rfl (out_new (i := 2) (by decide) rfl rfl (out_new (i := 5) (by decide) rfl rfl out_nil))))))) fun a21 w21 s21 => ?_
    refine seq_op s21 rfl rfl (of_decide_eq_true rfl) (ob_add rfl (.tmp rfl) (.tmp rfl)) fun a22 w22 s22 => ?_; clear s21
    obtain ⟨g3, h9⟩ := guard_some h8; clear h8
    refine seq_op s22 rfl rfl (of_decide_eq_true rfl) (ob_indexAddr rfl Try.underlying27 sz25 (.tmp rfl) (.tmp rfl) g3.1 g3.2 (Nat.zero_add _)) fun a23 w23 s23 => ?_; clear s22
    obtain ⟨x3, e_x3, h10⟩ := bind_some h9; clear h9
    refine seq_opx0 (B' := (fun _ : Unit => [BF b1 27 (karr 8 (kint .u32)) x3, BF b2 27 (karr 8 (kint .u32)) p2, BF b3 27 (karr 8 (kint .u32)) (List.replicate 8 (0 : Int))])) s23 rfl rfl (ob_store (A := []) rfl tk25 (.tmp rfl) (.tmp rfl) rfl (LS.arrS e_x3) rfl) fun _ a24 w24 s24 => ?_; clear s23
    refine wpList_nil ?_
    refine in_normal ?_
    refine then_normal ?_
    refine hK8 _ _ ?_
    have s25 := s24.sub (.cons (t := 2) rfl (.cons (t := 3) rfl (.cons (t := 4) rfl (.cons (t := 6) rfl .nil)))); clear s24
    refine wp_region_lit ?_
    refine seq_op s25 rfl rfl (of_decide_eq_true rfl) (ob_add rfl (.tmp rfl) (opd_int rfl)) fun a26 w26 s26 => ?_; clear s25
    refine seq_op s26 rfl rfl (of_decide_eq_true rfl) (ob_move rfl (.tmp rfl)) fun a27 w27 s27 => ?_; clear s26
    refine wpList_nil ?_
    refine then_normal ?_
    exact hK5 ((iadd .i64 y2 (1 : Int)), x3) _ _ h10 (s27.sub (.cons rfl (.cons rfl (.cons rfl (.cons rfl .nil)))))
  · replace h3 := ite_f hc1 h3
    have h11 := h3; clear h3
    refine wp_exit ?_
    refine (then_exit (then_exit (in_here ?_)))
    refine then_normal ?_
    have s28 := St.drop (A := [_]) s16; clear s16
    exact hj1 y3 _ _ h11 (s28.sub (.cons rfl (.cons rfl .nil)))

/- 29 cabal/clock.All -/
theorem c_clock_All (k : Nat) (p1 : (List api_Node)) (r : ((List Int) × Int)) (h0 : clock_All k p1 = some r) (ok : Ok) (w0 : World) (z0 : Value) (u0 : ((ksl k_api_Node).V p1).holds ok w0 z0) :
    Gives Try.prog 29 [z0] ok w0 (resFact [(karr 8 (kint .u32)).V r.1, (kint .i64).V r.2]) := by
  unfold clock_All at h0
  refine enter (N := 26) Try.func29 rfl rfl (of_decide_eq_true rfl) (.cons u0 .nil) fun a1 s1 => ?_
  refine wp_seq_k fun K1 hK1 => ?_
  refine wp_region_lit ?_
  refine seq_opx (B' := (fun b1 : Nat => [BF b1 27 (karr 8 (kint .u32)) (List.replicate 8 (0 : Int))])) s1 rfl rfl (of_decide_eq_true rfl) (ob_new (k := (karr 8 (kint .u32))) rfl zz27 (Zr.arr 8 (Zr.int .u32))) fun b1 a2 w2 s2 => ?_; clear s1
  refine seq_op s2 rfl rfl (of_decide_eq_true rfl) (ob_assign rfl (opd_int rfl)) fun a3 w3 s3 => ?_; clear s2
  refine wpList_nil ?_
  refine then_normal ?_
  refine hK1 _ _ ?_
  have s4 := s3.sub (.cons (t := 0) rfl (.cons (t := 2) rfl .nil)); clear s3
  refine wp_seq_k fun K2 hK2 => ?_
  refine wp_seq_k fun K3 hK3 => ?_
  refine wp_region_lit ?_
  refine seq_op s4 rfl rfl (of_decide_eq_true rfl) (ob_move rfl (.tmp rfl)) fun a5 w5 s5 => ?_; clear s4
  obtain ⟨x1, e_x1, h1⟩ := bind_some h0; clear h0
  refine seq_op s5 rfl rfl (of_decide_eq_true rfl) (ob_callD (args := [_]) rfl .direct hb24 (fun a w s fs gs hf hg => by obtain rfl := hf.unnil; obtain rfl := hg.unnil; exact c_graph_Right k _ _ e_x1 _ _ _ (s.arg (.tmp rfl)))) fun a6 w6 s6 => ?_; clear s5
  refine seq_op s6 rfl rfl (of_decide_eq_true rfl) (ob_not rfl (.tmp rfl)) fun a7 w7 s7 => ?_; clear s6
  refine wpList_nil ?_
  refine then_normal ?_
  refine hK3 _ _ ?_
  have s8 := s7.sub (.cons (t := 0) rfl (.cons (t := 2) rfl (.cons (t := 8) rfl .nil))); clear s7
  refine cond_split s8 (.tmp rfl) (fun hc1 => ?_) (fun hc1 => ?_)
  · replace h1 := ite_t hc1 h1
    have h2 := h1; clear h1
    refine wp_seq_k fun K4 hK4 => ?_
    refine wp_region_lit ?_
    obtain ⟨x2, e_x2, h3⟩ := bind_some h2; clear h2; replace e_x2 := Option.some.inj e_x2
    refine seq_op s8 rfl rfl (of_decide_eq_true rfl) (((ob_mkArr (k := (kint .u32)) rfl Try.underlying27 zz27 sz25 (Zr.arr 8 (Zr.int .u32)) (.nil _) : Ob _ _ _ _ _ ((karr 8 (kint .u32)).V ([(0 : Int), (0 : Int), (0 : Int), (0 : Int), (0 : Int), (0 : Int), (0 : Int), (0 : Int)] : (List Int))))).nm e_x2) fun a9 w9 s9 => ?_; clear s8
    refine seq_opx0 (B' := (fun _ : Unit => [BF b1 27 (karr 8 (kint .u32)) x2])) s9 rfl rfl (ob_store (A := []) rfl tk27 (.tmp rfl) (.tmp rfl) rfl (LS.refl _ _ _) rfl) fun _ a10 w10 s10 => ?_; clear s9
    refine seq_op s10 rfl rfl (of_decide_eq_true rfl) (ob_assign rfl (opd_int rfl)) fun a11 w11 s11 => ?_; clear s10
    refine wpList_nil ?_
    refine then_normal ?_
    refine hK4 _ _ ?_
    have s12 := s11.sub (.cons (t := 2) rfl (.cons (t := 3) rfl .nil)); clear s11
    refine wp_ret ?_
    obtain rfl := Option.some.inj h3
    exact leave s12 (.inl rfl) rfl (.cons (.cell rfl tk27 (.head _) (LG.refl _ _)) (.cons (.tmp rfl) .nil))
  · replace h1 := ite_f hc1 h1
    have h4 := h1; clear h1
    refine wp_skip ?_
    refine then_normal ?_
    refine hK2 _ _ ?_
    have s13 := s8.sub (.cons (t := 0) rfl (.cons (t := 2) rfl .nil)); clear s8
    refine wp_seq_k fun K5 hK5 => ?_
    refine wp_region_lit ?_
    refine seq_opx (B' := (fun b2 : Nat => [BF b2 27 (karr 8 (kint .u32)) (List.replicate 8 (0 : Int)), BF b1 27 (karr 8 (kint .u32)) (List.replicate 8 (0 : Int))])) s13 rfl rfl (of_decide_eq_true rfl) (ob_new (k := (karr 8 (kint .u32))) rfl zz27 (Zr.arr 8 (Zr.int .u32))) fun b2 a14 w14 s14 => ?_; clear s13
    refine wpList_nil ?_
    refine then_normal ?_
    refine hK5 _ _ ?_
    have s15 := s14.sub (.cons (t := 0) rfl (.cons (t := 2) rfl (.cons (t := 4) rfl .nil))); clear s14
    refine wp_seq_k fun K6 hK6 => ?_
    refine wp_seq_k fun K7 hK7 => ?_
    refine wp_region_lit ?_
    refine seq_op s15 rfl rfl (of_decide_eq_true rfl) (ob_move rfl (.tmp rfl)) fun a16 w16 s16 => ?_; clear s15
    refine seq_op s16 rfl rfl (of_decide_eq_true rfl) (ob_lens rfl Try.underlying22 (.tmp rfl)) fun a17 w17 s17 => ?_; clear s16
    refine seq_op s17 rfl rfl (of_decide_eq_true rfl) (ob_move rfl (opd_int rfl)) fun a18 w18 s18 => ?_; clear s17
    refine wpList_nil ?_
    refine then_normal ?_
    refine hK7 _ _ ?_
    have s19 := s18.sub (.cons (t := 0) rfl (.cons (t := 2) rfl (.cons (t := 4) rfl (.cons (t := 11) rfl (.cons (t := 12) rfl .nil))))); clear s18
    have hj1 : ∀ (y1 : (List Int)) (a : Act) (w : World), (clock_All.j1 k) y1 = some r → St ⟨26, w0, ok, []⟩ [BF b1 27 (karr 8 (kint .u32)) (List.replicate 8 (0 : Int)), BF b2 27 (karr 8 (kint .u32)) y1] [(2, (ptrB b1 0)), (4, (ptrB b2 0))] a w → K6 a w := by
      intro y1 a20 w20 h5 s20
      unfold clock_All.j1 at h5
      refine hK6 _ _ ?_
      refine wp_seq_k fun K8 hK8 => ?_
      refine wp_region_lit ?_
      refine seq_op s20 rfl rfl (of_decide_eq_true rfl) (ob_load rfl tk27 (.tmp rfl) (.tail _ (.head _)) (LG.refl _ _)) fun a21 w21 s21 => ?_; clear s20
      refine seq_opx0 (B' := (fun _ : Unit => [BF b1 27 (karr 8 (kint .u32)) y1, BF b2 27 (karr 8 (kint .u32)) y1])) s21 rfl rfl (ob_store (A := []) rfl tk27 (.tmp rfl) (.tmp rfl) rfl (LS.refl _ _ _) rfl) fun _ a22 w22 s22 => ?_; clear s21
      refine seq_op s22 rfl rfl (of_decide_eq_true rfl) (ob_assign rfl (opd_int rfl)) fun a23 w23 s23 => ?_; clear s22
      refine wpList_nil ?_
      refine then_normal ?_
      refine hK8 _ _ ?_
      have s24 := s23.sub (.cons (t := 2) rfl (.cons (t := 3) rfl .nil)); clear s23
      have s25 := St.drop (A := [_]) s24; clear s24
      refine wp_ret ?_
      obtain rfl := Option.some.inj h5
      exact leave s25 (.inl rfl) rfl (.cons (.cell rfl tk27 (.head _) (LG.refl _ _)) (.cons (.tmp rfl) .nil))
    refine wp_block ?_
    have s26 := s19.perm (toFront [_] (toFront [] (List.Perm.refl _))); clear s19
    refine wp_loop_fuel (fun m (q : Int × (List Int)) => clock_All.l1 k p1 m q.1 q.2) r (fun _ => rfl) (fun q a w => St ⟨26, w0, ok, []⟩ [BF b1 27 (karr 8 (kint .u32)) (List.replicate 8 (0 : Int)), BF b2 27 (karr 8 (kint .u32)) q.2] [(0, ((ksl k_api_Node).V p1)), (2, (ptrB b1 0)), (4, (ptrB b2 0)), (11, ((kint .i64).V (p1.length : Int))), (12, ((kint .i64).V q.1))] a w) ?_ k ((0 : Int), (List.replicate 8 (0 : Int))) _ _ h4 (s26.sub (.cons rfl (.cons rfl (.cons rfl (.cons rfl (.cons rfl .nil))))))
    rintro n1 ⟨y2, y3⟩ a27 w27 h6 s27 K9 hK9
    replace h6 : clock_All.l1 k p1 (n1 + 1) y2 y3 = some r := h6; rw [clock_All.l1] at h6
    have h7 := h6; clear h6
    refine wp_seq_k fun K10 hK10 => ?_
    refine wp_region_lit ?_
    refine seq_op s27 rfl rfl (of_decide_eq_true rfl) (ob_lss rfl (.tmp rfl) (.tmp rfl)) fun a28 w28 s28 => ?_; clear s27
    refine wpList_nil ?_
    refine then_normal ?_
    refine hK10 _ _ ?_
    have s29 := s28.sub (.cons (t := 0) rfl (.cons (t := 2) rfl (.cons (t := 4) rfl (.cons (t := 11) rfl (.cons (t := 12) rfl (.cons (t := 13) rfl .nil)))))); clear s28
    refine wp_seq_k fun K11 hK11 => ?_
    refine cond_split s29 (.tmp rfl) (fun hc2 => ?_) (fun hc2 => ?_)
    · replace h7 := ite_t hc2 h7
      have h8 := h7; clear h7
      refine wp_skip ?_
      refine then_normal ?_
      refine hK11 _ _ ?_
      have s30 := s29.sub (.cons (t := 0) rfl (.cons (t := 2) rfl (.cons (t := 4) rfl (.cons (t := 11) rfl (.cons (t := 12) rfl .nil))))); clear s29
      refine wp_seq_k fun K12 hK12 => ?_
      refine wp_block ?_
      refine wp_seq_k fun K13 hK13 => ?_
      refine wp_region_lit ?_
      refine seq_op s30 rfl rfl (of_decide_eq_true rfl) (ob_move rfl (.tmp rfl)) fun a31 w31 s31 => ?_; clear s30
      refine seq_op s31 rfl rfl (of_decide_eq_true rfl) (ob_assign rfl (.tmp rfl)) fun a32 w32 s32 => ?_; clear s31
      refine wpList_nil ?_
      refine then_normal ?_
      refine hK13 _ _ ?_
      have s33 := s32.sub (.cons (t := 0) rfl (.cons (t := 2) rfl (.cons (t := 4) rfl (.cons (t := 5) rfl (.cons (t := 11) rfl (.cons (t := 12) rfl .nil)))))); clear s32
      obtain ⟨x3, e_x3, h9⟩ := bind_some h8; clear h8
      obtain ⟨x4, e_x4, h10⟩ := bind_some h9; clear h9
      refine wp_goes (Fs := [((karr 8 (kint .u32)).V y3), ((karr 8 (kint .u32)).V y3), ((ksl k_api_Node).V p1), ((kint .i64).V y2), ((ksl (kint .i64)).V ([y2] : (List Int))), ((karr 8 (kint .u32)).V x3), ((karr 8 (kint .u32)).V x4)]) (bits := [0, 0, 0, 0, 8, 28, 62, 127, 255, 511]) (m := 7) (todo := 0) mx s33 ?_; clear s33
      refine goes_last (by kernel_rfl) rfl (opsS_cons (.plain _ (Av.old (t := 4) rfl rfl Av.nil) rfl rfl (ob_load rfl tk27 (.tmp rfl) (.tail _ (.head _)) (LG.refl _ _))) (opsS_cons (.plain _ (Av.old (t := 4) rfl rfl Av.nil) rfl rfl (ob_load rfl tk27 (.tmp rfl) (.tail _ (.head _)) (LG.refl _ _))) (opsS_cons (.plain _ (Av.old (t := 0) rfl rfl Av.nil) rfl rfl (ob_move rfl (.tmp rfl))) (opsS_cons (.plain _ (Av.old (t := 5) rfl rfl Av.nil) rfl rfl (ob_move rfl (.tmp rfl))) (opsS_cons (.plain _ (Av.new (j := 3) rfl rfl rfl Av.nil) rfl rfl (ob_mkSlice (k := (kint .i64)) (xs := ([y2] : (List Int))) rfl Try.underlying41 zz3 sz3 (Zr.int .i64) (by decide) (by decide) (.cons (.tmp rfl) rfl (LS.arr' (i := 0) (ys := ([y2] : (List Int))) (by simp) (by rfl)) (.nil _)))) (opsS_cons (.plain _ (Av.new (j := 2) rfl rfl rfl (Av.new (j := 4) rfl rfl rfl Av.nil)) rfl rfl (ob_callD (args := [_, _]) rfl .direct hb79 (fun a w s fs gs hf hg => by obtain rfl := hf.unnil; obtain rfl := hg.unnil; exact c_clock_count k _ _ _ e_x3 _ _ _ _ (s.arg (.tmp rfl)) (s.arg (.tmp rfl))))) (opsS_cons (.plain _ (Av.new (j := 1) rfl rfl rfl (Av.new (j := 5) rfl rfl rfl Av.nil)) rfl rfl (ob_callD (args := [_, _]) rfl .direct hb84 (fun a w s fs gs hf hg => by obtain rfl := hf.unnil; obtain rfl := hg.unnil; exact c_clock_plus k _ _ _ e_x4 _ _ _ _ (s.arg (.tmp rfl)) (s.arg (.tmp rfl))))) opsS_nil))))))) (out_old (t := 0) rfl rfl (out_old (t := 2) rfl rfl (out_old (t := 4) rfl rfl (out_old (t := 11) rfl rfl (out_old (t := 12) rfl rfl (out_new (i := 0) (by decide) rfl rfl (out_new (i := 6) (by decide) rfl rfl out_nil))))))) fun a34 w34 s34 => ?_
      refine seq_op s34 rfl rfl (of_decide_eq_true rfl) (ob_mkSlice (k := (karr 8 (kint .u32))) (xs := ([y3, x4] : (List (List Int)))) rfl Try.underlying147 zz27 sz27 (Zr.arr 8 (Zr.int .u32)) (by decide) (by decide) (.cons (.tmp rfl) rfl (LS.arr' (i := 0) (ys := ([y3, (List.replicate 8 (0 : Int))] : (List (List Int)))) (by simp) (by rfl)) (.cons (.tmp rfl) rfl (LS.arr' (i := 1) (ys := ([y3, x4] : (List (List Int)))) (by simp) (by rfl)) (.nil _)))) fun a35 w35 s35 => ?_; clear s34
      obtain ⟨x5, e_x5, h11⟩ := bind_some h10; clear h10
      refine seq_op s35 rfl rfl (of_decide_eq_true rfl) (ob_callD (args := [_]) rfl .direct hb77 (fun a w s fs gs hf hg => by obtain rfl := hf.unnil; obtain rfl := hg.unnil; exact c_clock_Join k _ _ e_x5 _ _ _ (s.arg (.tmp rfl)))) fun a36 w36 s36 => ?_; clear s35
      refine seq_opx0 (B' := (fun _ : Unit => [BF b1 27 (karr 8 (kint .u32)) (List.replicate 8 (0 : Int)), BF b2 27 (karr 8 (kint .u32)) x5])) s36 rfl rfl (ob_store (A := [_]) rfl tk27 (.tmp rfl) (.tmp rfl) rfl (LS.refl _ _ _) rfl) fun _ a37 w37 s37 => ?_; clear s36
      refine wpList_nil ?_
      refine in_normal ?_
      refine then_normal ?_
      refine hK12 _ _ ?_
      have s38 := s37.sub (.cons (t := 0) rfl (.cons (t := 2) rfl (.cons (t := 4) rfl (.cons (t := 11) rfl (.cons (t := 12) rfl .nil))))); clear s37
      refine wp_region_lit ?_
      refine seq_op s38 rfl rfl (of_decide_eq_true rfl) (ob_add rfl (.tmp rfl) (opd_int rfl)) fun a39 w39 s39 => ?_; clear s38
      refine seq_op s39 rfl rfl (of_decide_eq_true rfl) (ob_move rfl (.tmp rfl)) fun a40 w40 s40 => ?_; clear s39
      refine wpList_nil ?_
      refine then_normal ?_
      exact hK9 ((iadd .i64 y2 (1 : Int)), x5) _ _ h11 (s40.sub (.cons rfl (.cons rfl (.cons rfl (.cons rfl (.cons rfl .nil))))))
    · replace h7 := ite_f hc2 h7
      have h12 := h7; clear h7
      refine wp_exit ?_
      refine (then_exit (then_exit (in_here ?_)))
      refine then_normal ?_
      exact hj1 y3 _ _ h12 (s29.sub (.cons rfl (.cons rfl .nil)))

/- 56 cabal/cabalref15.Find -/
theorem c_cabalref15_Find (k : Nat) (p1 : (List api_Node)) (p2 : (List Int)) (r : Int) (h0 : cabalref15_Find k p1 p2 = some r) (ok : Ok) (w0 : World) (z0 : Value) (z1 : Value) (u0 : ((ksl k_api_Node).V p1).holds ok w0 z0) (u1 : ((karr 32 (kint .u8)).V p2).holds ok w0 z1) :
    Gives Try.prog 56 [z0, z1] ok w0 (resFact [(kint .i64).V r]) := by
  unfold cabalref15_Find at h0
  refine enter (N := 20) Try.func56 rfl rfl (of_decide_eq_true rfl) (.cons u0 (.cons u1 .nil)) fun a1 s1 => ?_
  refine wp_seq_k fun K1 hK1 => ?_
  refine wp_region_lit ?_
  refine seq_opx (B' := (fun b1 : Nat => [BF b1 39 (karr 32 (kint .u8)) p2])) s1 rfl rfl (of_decide_eq_true rfl) (ob_box rfl (.tmp rfl)) fun b1 a2 w2 s2 => ?_; clear s1
  refine seq_op s2 rfl rfl (of_decide_eq_true rfl) (ob_assign rfl (opd_int rfl)) fun a3 w3 s3 => ?_; clear s2
  refine wpList_nil ?_
  refine then_normal ?_
  refine hK1 _ _ ?_
  have s4 := s3.sub (.cons (t := 0) rfl (.cons (t := 3) rfl .nil)); clear s3
  refine wp_seq_k fun K2 hK2 => ?_
  refine wp_seq_k fun K3 hK3 => ?_
  refine wp_region_lit ?_
  refine seq_op s4 rfl rfl (of_decide_eq_true rfl) (ob_assign rfl (opd_int rfl)) fun a5 w5 s5 => ?_; clear s4
  refine wpList_nil ?_
  refine then_normal ?_
  refine hK3 _ _ ?_
  have s6 := s5.sub (.cons (t := 0) rfl (.cons (t := 3) rfl (.cons (t := 5) rfl .nil))); clear s5
  have hj1 : ∀ (a : Act) (w : World), (cabalref15_Find.j1 k) = some r → St ⟨20, w0, ok, []⟩ [] [] a w → K2 a w := by
    intro a7 w7 h1 s7
    unfold cabalref15_Find.j1 at h1
    refine hK2 _ _ ?_
    refine wp_seq_k fun K4 hK4 => ?_
    refine wp_region_lit ?_
    refine seq_op s7 rfl rfl (of_decide_eq_true rfl) (ob_assign rfl (opd_int rfl)) fun a8 w8 s8 => ?_; clear s7
    refine wpList_nil ?_
    refine then_normal ?_
    refine hK4 _ _ ?_
    have s9 := s8.sub (.cons (t := 4) rfl .nil); clear s8
    refine wp_ret ?_
    obtain rfl := Option.some.inj h1
    exact leave s9 (.inl rfl) rfl (.cons (.tmp rfl) .nil)
  refine wp_block ?_
  refine wp_loop_fuel (fun m (q : Int) => cabalref15_Find.l1 k p1 p2 m q) r (fun _ => rfl) (fun q a w => St ⟨20, w0, ok, []⟩ [BF b1 39 (karr 32 (kint .u8)) p2] [(0, ((ksl k_api_Node).V p1)), (3, (ptrB b1 0)), (5, ((kint .i64).V q))] a w) ?_ k (0 : Int) _ _ h0 (s6.sub (.cons rfl (.cons rfl (.cons rfl .nil))))
  rintro n1 y1 a10 w10 h2 s10 K5 hK5
  replace h2 : cabalref15_Find.l1 k p1 p2 (n1 + 1) y1 = some r := h2; rw [cabalref15_Find.l1] at h2
  have h3 := h2; clear h2
  refine wp_seq_k fun K6 hK6 => ?_
  refine wp_seq_k fun K7 hK7 => ?_
  refine wp_region_lit ?_
  refine seq_op s10 rfl rfl (of_decide_eq_true rfl) (ob_move rfl (.tmp rfl)) fun a11 w11 s11 => ?_; clear s10
  refine seq_op s11 rfl rfl (of_decide_eq_true rfl) (ob_move rfl (.tmp rfl)) fun a12 w12 s12 => ?_; clear s11
  refine seq_op s12 rfl rfl (of_decide_eq_true rfl) (ob_lens rfl Try.underlying22 (.tmp rfl)) fun a13 w13 s13 => ?_; clear s12
  refine seq_op s13 rfl rfl (of_decide_eq_true rfl) (ob_lss rfl (.tmp rfl) (.tmp rfl)) fun a14 w14 s14 => ?_; clear s13
  refine wpList_nil ?_
  refine then_normal ?_
  refine hK7 _ _ ?_
  have s15 := s14.sub (.cons (t := 0) rfl (.cons (t := 3) rfl (.cons (t := 5) rfl (.cons (t := 9) rfl .nil)))); clear s14
  refine cond_split s15 (.tmp rfl) (fun hc1 => ?_) (fun hc1 => ?_)
  · replace h3 := ite_t hc1 h3
    have h4 := h3; clear h3
    refine wp_skip ?_
    refine then_normal ?_
    refine hK6 _ _ ?_
    have s16 := s15.sub (.cons (t := 0) rfl (.cons (t := 3) rfl (.cons (t := 5) rfl .nil))); clear s15
    refine wp_seq_k fun K8 hK8 => ?_
    refine wp_block ?_
    refine wp_seq_k fun K9 hK9 => ?_
    obtain ⟨x1, e_x1, h5⟩ := bind_some h4; clear h4
    refine wp_goes (Fs := [((ksl k_api_Node).V p1), ((kint .i64).V y1), (ptrTo k_api_Node x1), (ptrTo (karr 32 (kint .u8)) x1.Id), ((karr 32 (kint .u8)).V x1.Id), ((karr 32 (kint .u8)).V p2)]) (bits := [0, 0, 3, 7, 15, 0, 63]) (m := 6) (todo := 0) mx s16 ?_; clear s16
    refine goes_last (by kernel_rfl) rfl (opsS_cons (.plain _ (Av.old (t := 0) rfl rfl Av.nil) rfl rfl (ob_move rfl (.tmp rfl))) (opsS_cons (.plain _ (Av.old (t := 5) rfl rfl Av.nil) rfl rfl (ob_move rfl (.tmp rfl))) (opsS_cons (.plain _ (Av.new (j := 0) rfl rfl rfl (Av.new (j := 1) rfl rfl rfl Av.nil)) rfl rfl (ob_indexAddrs rfl Try.underlying22 sz46 (.tmp rfl) (.tmp rfl) e_x1)) (opsS_cons (.plain _ (Av.new (j := 2) rfl rfl rfl Av.nil) rfl rfl (ob_fieldAddrr rfl Try.underlying46 rfl sz39 (by decide) (.tmp rfl) (lg_api_Node_Id x1))) (opsS_cons (.plain _ (Av.new (j := 3) rfl rfl rfl Av.nil) rfl rfl (ob_loadr rfl tk39 (.tmp rfl))) (opsS_cons (.plain _ (Av.old (t := 3) rfl rfl Av.nil) rfl rfl (ob_load rfl tk39 (.tmp rfl) (.head _) (LG.refl _ _))) opsS_nil)))))) (out_old (t := 0) rfl rfl (out_old (t := 3) rfl rfl (out_old (t := 5) rfl rfl (out_new (i := 4) (by decide) rfl rfl (out_new (i := 5) (by decide) rfl rfl out_nil))))) fun a17 w17 s17 => ?_
    refine seq_op s17 rfl rfl (of_decide_eq_true rfl) (ob_eqAgg rfl rfl (by kernel_rfl) eq39 (by decide) (.tmp rfl) (.tmp rfl)) fun a18 w18 s18 => ?_; clear s17
    refine wpList_nil ?_
    refine then_normal ?_
    refine hK9 _ _ ?_
    have s19 := s18.sub (.cons (t := 0) rfl (.cons (t := 3) rfl (.cons (t := 5) rfl (.cons (t := 18) rfl .nil)))); clear s18
    refine cond_split s19 (.tmp rfl) (fun hc2 => ?_) (fun hc2 => ?_)
    · replace h5 := ite_t hc2 h5
      have h6 := h5; clear h5
      refine wp_seq_k fun K10 hK10 => ?_
      refine wp_region_lit ?_
      refine seq_op s19 rfl rfl (of_decide_eq_true rfl) (ob_move rfl (.tmp rfl)) fun a20 w20 s20 => ?_; clear s19
      refine seq_op s20 rfl rfl (of_decide_eq_true rfl) (ob_assign rfl (.tmp rfl)) fun a21 w21 s21 => ?_; clear s20
      refine wpList_nil ?_
      refine then_normal ?_
      refine hK10 _ _ ?_
      have s22 := s21.sub (.cons (t := 4) rfl .nil); clear s21
      have s23 := St.drop (A := []) s22; clear s22
      refine wp_ret ?_
      obtain rfl := Option.some.inj h6
      exact leave s23 (.inl rfl) rfl (.cons (.tmp rfl) .nil)
    · replace h5 := ite_f hc2 h5
      have h7 := h5; clear h5
      refine wp_skip ?_
      refine in_normal ?_
      refine then_normal ?_
      refine hK8 _ _ ?_
      have s24 := s19.sub (.cons (t := 0) rfl (.cons (t := 3) rfl (.cons (t := 5) rfl .nil))); clear s19
      refine wp_region_lit ?_
      refine seq_op s24 rfl rfl (of_decide_eq_true rfl) (ob_move rfl (.tmp rfl)) fun a25 w25 s25 => ?_; clear s24
      refine seq_op s25 rfl rfl (of_decide_eq_true rfl) (ob_add rfl (.tmp rfl) (opd_int rfl)) fun a26 w26 s26 => ?_; clear s25
      refine seq_op s26 rfl rfl (of_decide_eq_true rfl) (ob_assign rfl (.tmp rfl)) fun a27 w27 s27 => ?_; clear s26
      refine wpList_nil ?_
      refine then_normal ?_
      exact hK5 (iadd .i64 y1 (1 : Int)) _ _ h7 (s27.sub (.cons rfl (.cons rfl (.cons rfl .nil))))
  · replace h3 := ite_f hc1 h3
    have h8 := h3; clear h3
    refine wp_exit ?_
    refine (then_exit (then_exit (in_here ?_)))
    refine then_normal ?_
    have s28 := St.drop (A := []) s15; clear s15
    exact hj1 _ _ h8 (s28.sub .nil)

/- 44 cabal/cabalref15.In -/
theorem c_cabalref15_In (k : Nat) (p1 : (List Int)) (p2 : Int) (r : Bool) (h0 : cabalref15_In k p1 p2 = some r) (ok : Ok) (w0 : World) (z0 : Value) (z1 : Value) (u0 : ((ksl (kint .i64)).V p1).holds ok w0 z0) (u1 : ((kint .i64).V p2).holds ok w0 z1) :
    Gives Try.prog 44 [z0, z1] ok w0 (resFact [kbool.V r]) := by
  unfold cabalref15_In at h0
  refine enter (N := 18) Try.func44 rfl rfl (of_decide_eq_true rfl) (.cons u0 (.cons u1 .nil)) fun a1 s1 => ?_
  refine wp_seq_k fun K1 hK1 => ?_
  refine wp_region_lit ?_
  refine seq_op s1 rfl rfl (of_decide_eq_true rfl) (ob_assign rfl opd_bool) fun a2 w2 s2 => ?_; clear s1
  refine wpList_nil ?_
  refine then_normal ?_
  refine hK1 _ _ ?_
  have s3 := s2.sub (.cons (t := 0) rfl (.cons (t := 1) rfl .nil)); clear s2
  refine wp_seq_k fun K2 hK2 => ?_
  refine wp_seq_k fun K3 hK3 => ?_
  refine wp_region_lit ?_
  refine seq_op s3 rfl rfl (of_decide_eq_true rfl) (ob_assign rfl (opd_int rfl)) fun a4 w4 s4 => ?_; clear s3
  refine wpList_nil ?_
  refine then_normal ?_
  refine hK3 _ _ ?_
  have s5 := s4.sub (.cons (t := 0) rfl (.cons (t := 1) rfl (.cons (t := 5) rfl .nil))); clear s4
  have hj1 : ∀ (a : Act) (w : World), (cabalref15_In.j1 k) = some r → St ⟨18, w0, ok, []⟩ [] [] a w → K2 a w := by
    intro a6 w6 h1 s6
    unfold cabalref15_In.j1 at h1
    refine hK2 _ _ ?_
    refine wp_seq_k fun K4 hK4 => ?_
    refine wp_region_lit ?_
    refine seq_op s6 rfl rfl (of_decide_eq_true rfl) (ob_assign rfl opd_bool) fun a7 w7 s7 => ?_; clear s6
    refine wpList_nil ?_
    refine then_normal ?_
    refine hK4 _ _ ?_
    have s8 := s7.sub (.cons (t := 4) rfl .nil); clear s7
    refine wp_ret ?_
    obtain rfl := Option.some.inj h1
    exact leave s8 (.inl rfl) rfl (.cons (.tmp rfl) .nil)
  refine wp_block ?_
  refine wp_loop_fuel (fun m (q : Int) => cabalref15_In.l1 k p1 p2 m q) r (fun _ => rfl) (fun q a w => St ⟨18, w0, ok, []⟩ [] [(0, ((ksl (kint .i64)).V p1)), (1, ((kint .i64).V p2)), (5, ((kint .i64).V q))] a w) ?_ k (0 : Int) _ _ h0 (s5.sub (.cons rfl (.cons rfl (.cons rfl .nil))))
  rintro n1 y1 a9 w9 h2 s9 K5 hK5
  replace h2 : cabalref15_In.l1 k p1 p2 (n1 + 1) y1 = some r := h2; rw [cabalref15_In.l1] at h2
  have h3 := h2; clear h2
  refine wp_seq_k fun K6 hK6 => ?_
  refine wp_seq_k fun K7 hK7 => ?_
  refine wp_region_lit ?_
  refine seq_op s9 rfl rfl (of_decide_eq_true rfl) (ob_move rfl (.tmp rfl)) fun a10 w10 s10 => ?_; clear s9
  refine seq_op s10 rfl rfl (of_decide_eq_true rfl) (ob_move rfl (.tmp rfl)) fun a11 w11 s11 => ?_; clear s10
  refine seq_op s11 rfl rfl (of_decide_eq_true rfl) (ob_lens rfl Try.underlying41 (.tmp rfl)) fun a12 w12 s12 => ?_; clear s11
  refine seq_op s12 rfl rfl (of_decide_eq_true rfl) (ob_lss rfl (.tmp rfl) (.tmp rfl)) fun a13 w13 s13 => ?_; clear s12
  refine wpList_nil ?_
  refine then_normal ?_
  refine hK7 _ _ ?_
  have s14 := s13.sub (.cons (t := 0) rfl (.cons (t := 1) rfl (.cons (t := 5) rfl (.cons (t := 9) rfl .nil)))); clear s13
  refine cond_split s14 (.tmp rfl) (fun hc1 => ?_) (fun hc1 => ?_)
  · replace h3 := ite_t hc1 h3
    have h4 := h3; clear h3
    refine wp_skip ?_
    refine then_normal ?_
    refine hK6 _ _ ?_
    have s15 := s14.sub (.cons (t := 0) rfl (.cons (t := 1) rfl (.cons (t := 5) rfl .nil))); clear s14
    refine wp_seq_k fun K8 hK8 => ?_
    refine wp_block ?_
    refine wp_seq_k fun K9 hK9 => ?_
    refine wp_region_lit ?_
    refine seq_op s15 rfl rfl (of_decide_eq_true rfl) (ob_move rfl (.tmp rfl)) fun a16 w16 s16 => ?_; clear s15
    refine seq_op s16 rfl rfl (of_decide_eq_true rfl) (ob_move rfl (.tmp rfl)) fun a17 w17 s17 => ?_; clear s16
    obtain ⟨x1, e_x1, h5⟩ := bind_some h4; clear h4
    refine seq_op s17 rfl rfl (of_decide_eq_true rfl) (ob_indexAddrs rfl Try.underlying41 sz3 (.tmp rfl) (.tmp rfl) e_x1) fun a18 w18 s18 => ?_; clear s17
    refine seq_op s18 rfl rfl (of_decide_eq_true rfl) (ob_loadr rfl tk3 (.tmp rfl)) fun a19 w19 s19 => ?_; clear s18
    refine seq_op s19 rfl rfl (of_decide_eq_true rfl) (ob_move rfl (.tmp rfl)) fun a20 w20 s20 => ?_; clear s19
    refine seq_op s20 rfl rfl (of_decide_eq_true rfl) (ob_eql rfl (.tmp rfl) (.tmp rfl)) fun a21 w21 s21 => ?_; clear s20
    refine wpList_nil ?_
    refine then_normal ?_
    refine hK9 _ _ ?_
    have s22 := s21.sub (.cons (t := 0) rfl (.cons (t := 1) rfl (.cons (t := 5) rfl (.cons (t := 17) rfl .nil)))); clear s21
    refine cond_split s22 (.tmp rfl) (fun hc2 => ?_) (fun hc2 => ?_)
    · replace h5 := ite_t hc2 h5
      have h6 := h5; clear h5
      refine wp_seq_k fun K10 hK10 => ?_
      refine wp_region_lit ?_
      refine seq_op s22 rfl rfl (of_decide_eq_true rfl) (ob_assign rfl opd_bool) fun a23 w23 s23 => ?_; clear s22
      refine wpList_nil ?_
      refine then_normal ?_
      refine hK10 _ _ ?_
      have s24 := s23.sub (.cons (t := 4) rfl .nil); clear s23
      refine wp_ret ?_
      obtain rfl := Option.some.inj h6
      exact leave s24 (.inl rfl) rfl (.cons (.tmp rfl) .nil)
    · replace h5 := ite_f hc2 h5
      have h7 := h5; clear h5
      refine wp_skip ?_
      refine in_normal ?_
      refine then_normal ?_
      refine hK8 _ _ ?_
      have s25 := s22.sub (.cons (t := 0) rfl (.cons (t := 1) rfl (.cons (t := 5) rfl .nil))); clear s22
      refine wp_region_lit ?_
      refine seq_op s25 rfl rfl (of_decide_eq_true rfl) (ob_move rfl (.tmp rfl)) fun a26 w26 s26 => ?_; clear s25
      refine seq_op s26 rfl rfl (of_decide_eq_true rfl) (ob_add rfl (.tmp rfl) (opd_int rfl)) fun a27 w27 s27 => ?_; clear s26
      refine seq_op s27 rfl rfl (of_decide_eq_true rfl) (ob_assign rfl (.tmp rfl)) fun a28 w28 s28 => ?_; clear s27
      refine wpList_nil ?_
      refine then_normal ?_
      exact hK5 (iadd .i64 y1 (1 : Int)) _ _ h7 (s28.sub (.cons rfl (.cons rfl (.cons rfl .nil))))
  · replace h3 := ite_f hc1 h3
    have h8 := h3; clear h3
    refine wp_exit ?_
    refine (then_exit (then_exit (in_here ?_)))
    refine then_normal ?_
    exact hj1 _ _ h8 (s14.sub .nil)

/- 55 cabal/cabalref15.Past -/
theorem c_cabalref15_Past (k : Nat) (p1 : (List api_Node)) (p2 : (List (List Int))) (r : ((List Int) × Bool)) (h0 : cabalref15_Past k p1 p2 = some r) (ok : Ok) (w0 : World) (z0 : Value) (z1 : Value) (u0 : ((ksl k_api_Node).V p1).holds ok w0 z0) (u1 : ((ksl (karr 32 (kint .u8))).V p2).holds ok w0 z1) :
    GivesX Try.prog 55 [z0, z1] ok w0 [] (fun g : Value => resFact [is g, kbool.V r.2]) (fun g : Value => [RowF (g) 3 (kint .i64) r.1]) := by
  unfold cabalref15_Past at h0
  refine enterX (N := 64) Try.func55 rfl rfl (of_decide_eq_true rfl) (.cons u0 (.cons u1 .nil)) List.nodup_nil (fun _ h => by cases h) (fun _ h => by cases h) fun a1 s1 => ?_
  refine wp_seq_k fun K1 hK1 => ?_
  refine wp_region_lit ?_
  refine seq_op s1 rfl rfl (of_decide_eq_true rfl) (ob_assign rfl opd_is) fun a2 w2 s2 => ?_; clear s1
  have s3 := St.adopt s2 (G := RowF (nilRow 8) 3 (kint .i64) []) rfl (rowNilN _ _ _ _ _); clear s2
  refine seq_op s3 rfl rfl (of_decide_eq_true rfl) (ob_assign rfl opd_bool) fun a4 w4 s4 => ?_; clear s3
  refine wpList_nil ?_
  refine then_normal ?_
  refine hK1 _ _ ?_
  have s5 := s4.sub (.cons (t := 0) rfl (.cons (t := 1) rfl .nil)); clear s4
  have s6 := St.drop (A := []) s5; clear s5
  refine wp_seq_k fun K2 hK2 => ?_
  refine wp_seq_k fun K3 hK3 => ?_
  refine wp_region_lit ?_
  refine seq_op s6 rfl rfl (of_decide_eq_true rfl) (ob_assign rfl (opd_int rfl)) fun a7 w7 s7 => ?_; clear s6
  refine wpList_nil ?_
  refine then_normal ?_
  refine hK3 _ _ ?_
  have s8 := s7.sub (.cons (t := 0) rfl (.cons (t := 1) rfl (.cons (t := 6) rfl .nil))); clear s7
  have hj1 : ∀ (a : Act) (w : World), (cabalref15_Past.j1 k p1 p2) = some r → St ⟨64, w0, ok, (idsOf [])⟩ [] [(0, ((ksl k_api_Node).V p1)), (1, ((ksl (karr 32 (kint .u8))).V p2))] a w → K2 a w := by
    intro a9 w9 h1 s9
    unfold cabalref15_Past.j1 at h1
    refine hK2 _ _ ?_
    refine wp_seq_k fun K4 hK4 => ?_
    refine wp_region_lit ?_
    refine seq_op s9 rfl rfl (of_decide_eq_true rfl) (ob_assign rfl opd_is) fun a10 w10 s10 => ?_; clear s9
    have s11 := St.adopt s10 (G := RowF (nilRow 10) 3 (kint .i64) []) rfl (rowNilN _ _ _ _ _); clear s10
    refine wpList_nil ?_
    refine then_normal ?_
    refine hK4 _ _ ?_
    have s12 := s11.sub (.cons (t := 0) rfl (.cons (t := 1) rfl (.cons (t := 7) rfl .nil))); clear s11
    refine wp_seq_k fun K5 hK5 => ?_
    refine wp_seq_k fun K6 hK6 => ?_
    refine wp_region_lit ?_
    refine seq_op s12 rfl rfl (of_decide_eq_true rfl) (ob_assign rfl (opd_int rfl)) fun a13 w13 s13 => ?_; clear s12
    refine wpList_nil ?_
    refine then_normal ?_
    refine hK6 _ _ ?_
    have s14 := s13.sub (.cons (t := 0) rfl (.cons (t := 1) rfl (.cons (t := 7) rfl (.cons (t := 8) rfl .nil)))); clear s13
    have hj2 : ∀ (y1 : (List Int)) (v1 : Value) (a : Act) (w : World), (cabalref15_Past.j2 k) y1 = some r → St ⟨64, w0, ok, (idsOf [])⟩ [RowF v1 3 (kint .i64) y1] [(7, (is v1))] a w → K5 a w := by
      intro y1 v1 a15 w15 h2 s15
      unfold cabalref15_Past.j2 at h2
      refine hK5 _ _ ?_
      refine wp_seq_k fun K7 hK7 => ?_
      refine wp_region_lit ?_
      refine seq_op s15 rfl rfl (of_decide_eq_true rfl) (ob_move rfl (.tmp rfl)) fun a16 w16 s16 => ?_; clear s15
      refine seq_op s16 rfl rfl (of_decide_eq_true rfl) (ob_assign rfl (.tmp rfl)) fun a17 w17 s17 => ?_; clear s16
      refine seq_op s17 rfl rfl (of_decide_eq_true rfl) (ob_assign rfl opd_bool) fun a18 w18 s18 => ?_; clear s17
      refine wpList_nil ?_
      refine then_normal ?_
      refine hK7 _ _ ?_
      have s19 := s18.sub (.cons (t := 4) rfl (.cons (t := 5) rfl .nil)); clear s18
      refine wp_ret ?_
      obtain rfl := Option.some.inj h2
      exact leaveXD (D := []) v1 s19 rfl (.inl rfl) rfl (.cons (.tmp rfl) (.cons (.tmp rfl) .nil)) rfl
    refine wp_block ?_
    refine wp_loop_fuel (fun m (q : Int × (List Int)) => cabalref15_Past.l1 k p1 p2 m q.1 q.2) r (fun _ => rfl) (fun q a w => ∃ (v2 : Value), St ⟨64, w0, ok, (idsOf [])⟩ [RowF v2 3 (kint .i64) q.2] [(0, ((ksl k_api_Node).V p1)), (1, ((ksl (karr 32 (kint .u8))).V p2)), (7, (is v2)), (8, ((kint .i64).V q.1))] a w) ?_ k ((0 : Int), []) _ _ h1 ⟨(nilRow 10), (s14.sub (.cons rfl (.cons rfl (.cons rfl (.cons rfl .nil)))))⟩
    rintro n1 ⟨y2, y3⟩ a20 w20 h3 ⟨v2, s20⟩ K8 hK8
    replace h3 : cabalref15_Past.l1 k p1 p2 (n1 + 1) y2 y3 = some r := h3; rw [cabalref15_Past.l1] at h3
    have h4 := h3; clear h3
    refine wp_seq_k fun K9 hK9 => ?_
    refine wp_seq_k fun K10 hK10 => ?_
    refine wp_region_lit ?_
    refine seq_op s20 rfl rfl (of_decide_eq_true rfl) (ob_move rfl (.tmp rfl)) fun a21 w21 s21 => ?_; clear s20
    refine seq_op s21 rfl rfl (of_decide_eq_true rfl) (ob_move rfl (.tmp rfl)) fun a22 w22 s22 => ?_; clear s21
    refine seq_op s22 rfl rfl (of_decide_eq_true rfl) (ob_lens rfl Try.underlying22 (.tmp rfl)) fun a23 w23 s23 => ?_; clear s22
    refine seq_op s23 rfl rfl (of_decide_eq_true rfl) (ob_lss rfl (.tmp rfl) (.tmp rfl)) fun a24 w24 s24 => ?_; clear s23
    refine wpList_nil ?_
    refine then_normal ?_
    refine hK10 _ _ ?_
    have s25 := s24.sub (.cons (t := 0) rfl (.cons (t := 1) rfl (.cons (t := 7) rfl (.cons (t := 8) rfl (.cons (t := 28) rfl .nil))))); clear s24
    refine cond_split s25 (.tmp rfl) (fun hc1 => ?_) (fun hc1 => ?_)
    · replace h4 := ite_t hc1 h4
      have h5 := h4; clear h4
      refine wp_skip ?_
      refine then_normal ?_
      refine hK9 _ _ ?_
      have s26 := s25.sub (.cons (t := 0) rfl (.cons (t := 1) rfl (.cons (t := 7) rfl (.cons (t := 8) rfl .nil)))); clear s25
      refine wp_seq_k fun K11 hK11 => ?_
      have hj3 : ∀ (y4 : (List Int)) (v3 : Value) (a : Act) (w : World), (cabalref15_Past.j3 k y2 (cabalref15_Past.l1 k p1 p2 n1)) y4 = some r → St ⟨64, w0, ok, (idsOf [])⟩ [RowF v3 3 (kint .i64) y4] [(0, ((ksl k_api_Node).V p1)), (1, ((ksl (karr 32 (kint .u8))).V p2)), (7, (is v3)), (8, ((kint .i64).V y2))] a w → K11 a w := by
        intro y4 v3 a27 w27 h6 s27
        unfold cabalref15_Past.j3 at h6
        refine hK11 _ _ ?_
        refine wp_region_lit ?_
        refine seq_op s27 rfl rfl (of_decide_eq_true rfl) (ob_move rfl (.tmp rfl)) fun a28 w28 s28 => ?_; clear s27
        refine seq_op s28 rfl rfl (of_decide_eq_true rfl) (ob_add rfl (.tmp rfl) (opd_int rfl)) fun a29 w29 s29 => ?_; clear s28
        refine seq_op s29 rfl rfl (of_decide_eq_true rfl) (ob_assign rfl (.tmp rfl)) fun a30 w30 s30 => ?_; clear s29
        refine wpList_nil ?_
        refine then_normal ?_
        exact hK8 ((iadd .i64 y2 (1 : Int)), y4) _ _ h6 ⟨v3, (s30.sub (.cons rfl (.cons rfl (.cons rfl (.cons rfl .nil)))))⟩
      refine wp_block ?_
      refine wp_seq_k fun K12 hK12 => ?_
      refine wp_region_lit ?_
      refine seq_op s26 rfl rfl (of_decide_eq_true rfl) (ob_assign rfl opd_bool) fun a31 w31 s31 => ?_; clear s26
      refine wpList_nil ?_
      refine then_normal ?_
      refine hK12 _ _ ?_
      have s32 := s31.sub (.cons (t := 0) rfl (.cons (t := 1) rfl (.cons (t := 7) rfl (.cons (t := 8) rfl (.cons (t := 9) rfl .nil))))); clear s31
      refine wp_seq_k fun K13 hK13 => ?_
      refine wp_seq_k fun K14 hK14 => ?_
      refine wp_region_lit ?_
      refine seq_op s32 rfl rfl (of_decide_eq_true rfl) (ob_assign rfl (opd_int rfl)) fun a33 w33 s33 => ?_; clear s32
      refine wpList_nil ?_
      refine then_normal ?_
      refine hK14 _ _ ?_
      have s34 := s33.sub (.cons (t := 0) rfl (.cons (t := 1) rfl (.cons (t := 7) rfl (.cons (t := 8) rfl (.cons (t := 9) rfl (.cons (t := 10) rfl .nil)))))); clear s33
      have hj4 : ∀ (y5 : Bool) (a : Act) (w : World), (cabalref15_Past.j4 k y3 y2 (cabalref15_Past.l1 k p1 p2 n1)) y5 = some r → St ⟨64, w0, ok, (idsOf [])⟩ [RowF v2 3 (kint .i64) y3] [(0, ((ksl k_api_Node).V p1)), (1, ((ksl (karr 32 (kint .u8))).V p2)), (7, (is v2)), (8, ((kint .i64).V y2)), (9, (kbool.V y5))] a w → K13 a w := by
        intro y5 a35 w35 h7 s35
        unfold cabalref15_Past.j4 at h7
        refine hK13 _ _ ?_
        refine wp_seq_k fun K15 hK15 => ?_
        refine wp_region_lit ?_
        refine seq_op s35 rfl rfl (of_decide_eq_true rfl) (ob_move rfl (.tmp rfl)) fun a36 w36 s36 => ?_; clear s35
        refine wpList_nil ?_
        refine then_normal ?_
        refine hK15 _ _ ?_
        have s37 := s36.sub (.cons (t := 0) rfl (.cons (t := 1) rfl (.cons (t := 7) rfl (.cons (t := 8) rfl (.cons (t := 58) rfl .nil))))); clear s36
        refine cond_split s37 (.tmp rfl) (fun hc2 => ?_) (fun hc2 => ?_)
        · replace h7 := ite_t hc2 h7
          have h8 := h7; clear h7
          refine wp_region_lit ?_
          refine seq_op s37 rfl rfl (of_decide_eq_true rfl) (ob_move rfl (.tmp rfl)) fun a38 w38 s38 => ?_; clear s37
          refine seq_op s38 rfl rfl (of_decide_eq_true rfl) (ob_move rfl (.tmp rfl)) fun a39 w39 s39 => ?_; clear s38
          refine seq_op s39 rfl rfl (of_decide_eq_true rfl) (ob_mkSlice (k := (kint .i64)) (xs := ([y2] : (List Int))) rfl Try.underlying41 zz3 sz3 (Zr.int .i64) (by decide) (by decide) (.cons (.tmp rfl) rfl (LS.arr' (i := 0) (ys := ([y2] : (List Int))) (by simp) (by rfl)) (.nil _))) fun a40 w40 s40 => ?_; clear s39
          obtain ⟨g1, h9⟩ := guard_some h8; clear h8
          refine seq_opx (B' := (fun v4 : Value => [RowF v4 3 (kint .i64) (y3 ++ ([y2] : (List Int)))])) s40 rfl rfl (of_decide_eq_true rfl) (ob_appendL2 (A := []) rfl Try.underlying41 ap3 (Zr.int .i64) (by decide) (.tmp rfl) (.tmp rfl) rfl g1) fun v4 a41 w41 s41 => ?_; clear s40
          refine seq_op s41 rfl rfl (of_decide_eq_true rfl) (ob_assign rfl (.tmp rfl)) fun a42 w42 s42 => ?_; clear s41
          refine wpList_nil ?_
          refine in_normal ?_
          refine then_normal ?_
          exact hj3 (y3 ++ ([y2] : (List Int))) v4 _ _ h9 (s42.sub (.cons rfl (.cons rfl (.cons rfl (.cons rfl .nil)))))
        · replace h7 := ite_f hc2 h7
          have h10 := h7; clear h7
          refine wp_skip ?_
          refine in_normal ?_
          refine then_normal ?_
          exact hj3 y3 v2 _ _ h10 (s37.sub (.cons rfl (.cons rfl (.cons rfl (.cons rfl .nil)))))
      refine wp_block ?_
      refine wp_loop_fuel (fun m (q : Bool × Int) => cabalref15_Past.l2 k p2 p1 y2 y3 (cabalref15_Past.l1 k p1 p2 n1) m q.1 q.2) r (fun _ => rfl) (fun q a w => St ⟨64, w0, ok, (idsOf [])⟩ [RowF v2 3 (kint .i64) y3] [(0, ((ksl k_api_Node).V p1)), (1, ((ksl (karr 32 (kint .u8))).V p2)), (7, (is v2)), (8, ((kint .i64).V y2)), (9, (kbool.V q.1)), (10, ((kint .i64).V q.2))] a w) ?_ k (false, (0 : Int)) _ _ h5 (s34.sub (.cons rfl (.cons rfl (.cons rfl (.cons rfl (.cons rfl (.cons rfl .nil)))))))
      rintro n2 ⟨y6, y7⟩ a43 w43 h11 s43 K16 hK16
      replace h11 : cabalref15_Past.l2 k p2 p1 y2 y3 (cabalref15_Past.l1 k p1 p2 n1) (n2 + 1) y6 y7 = some r := h11; rw [cabalref15_Past.l2] at h11
      have h12 := h11; clear h11
      refine wp_seq_k fun K17 hK17 => ?_
      refine wp_seq_k fun K18 hK18 => ?_
      refine wp_region_lit ?_
      refine seq_op s43 rfl rfl (of_decide_eq_true rfl) (ob_move rfl (.tmp rfl)) fun a44 w44 s44 => ?_; clear s43
      refine seq_op s44 rfl rfl (of_decide_eq_true rfl) (ob_move rfl (.tmp rfl)) fun a45 w45 s45 => ?_; clear s44
      refine seq_op s45 rfl rfl (of_decide_eq_true rfl) (ob_lens rfl Try.underlying40 (.tmp rfl)) fun a46 w46 s46 => ?_; clear s45
      refine seq_op s46 rfl rfl (of_decide_eq_true rfl) (ob_lss rfl (.tmp rfl) (.tmp rfl)) fun a47 w47 s47 => ?_; clear s46
      refine wpList_nil ?_
      refine then_normal ?_
      refine hK18 _ _ ?_
      have s48 := s47.sub (.cons (t := 0) rfl (.cons (t := 1) rfl (.cons (t := 7) rfl (.cons (t := 8) rfl (.cons (t := 9) rfl (.cons (t := 10) rfl (.cons (t := 34) rfl .nil))))))); clear s47
      refine cond_split s48 (.tmp rfl) (fun hc3 => ?_) (fun hc3 => ?_)
      · replace h12 := ite_t hc3 h12
        have h13 := h12; clear h12
        refine wp_skip ?_
        refine then_normal ?_
        refine hK17 _ _ ?_
        have s49 := s48.sub (.cons (t := 0) rfl (.cons (t := 1) rfl (.cons (t := 7) rfl (.cons (t := 8) rfl (.cons (t := 9) rfl (.cons (t := 10) rfl .nil)))))); clear s48
        refine wp_seq_k fun K19 hK19 => ?_
        refine wp_block ?_
        refine wp_seq_k fun K20 hK20 => ?_
        refine wp_region_lit ?_
        refine seq_op s49 rfl rfl (of_decide_eq_true rfl) (ob_move rfl (.tmp rfl)) fun a50 w50 s50 => ?_; clear s49
        refine seq_op s50 rfl rfl (of_decide_eq_true rfl) (ob_move rfl (.tmp rfl)) fun a51 w51 s51 => ?_; clear s50
        refine seq_op s51 rfl rfl (of_decide_eq_true rfl) (ob_move rfl (.tmp rfl)) fun a52 w52 s52 => ?_; clear s51
        obtain ⟨x1, e_x1, h14⟩ := bind_some h13; clear h13
        refine seq_op s52 rfl rfl (of_decide_eq_true rfl) (ob_indexAddrs rfl Try.underlying40 sz39 (.tmp rfl) (.tmp rfl) e_x1) fun a53 w53 s53 => ?_; clear s52
        refine seq_op s53 rfl rfl (of_decide_eq_true rfl) (ob_loadr rfl tk39 (.tmp rfl)) fun a54 w54 s54 => ?_; clear s53
        obtain ⟨x2, e_x2, h15⟩ := bind_some h14; clear h14
        refine seq_op s54 rfl rfl (of_decide_eq_true rfl) (ob_callD (args := [_, _]) rfl .direct hb56 (fun a w s fs gs hf hg => by obtain rfl := hf.unnil; obtain rfl := hg.unnil; exact c_cabalref15_Find k _ _ _ e_x2 _ _ _ _ (s.arg (.tmp rfl)) (s.arg (.tmp rfl)))) fun a55 w55 s55 => ?_; clear s54
        refine seq_op s55 rfl rfl (of_decide_eq_true rfl) (ob_assign rfl (.tmp rfl)) fun a56 w56 s56 => ?_; clear s55
        refine wpList_nil ?_
        refine then_normal ?_
        refine hK20 _ _ ?_
        have s57 := s56.sub (.cons (t := 0) rfl (.cons (t := 1) rfl (.cons (t := 7) rfl (.cons (t := 8) rfl (.cons (t := 9) rfl (.cons (t := 10) rfl (.cons (t := 11) rfl .nil))))))); clear s56
        refine wp_region_lit ?_
        refine seq_op s57 rfl rfl (of_decide_eq_true rfl) (ob_move rfl (.tmp rfl)) fun a58 w58 s58 => ?_; clear s57
        refine seq_op s58 rfl rfl (of_decide_eq_true rfl) (ob_move rfl (.tmp rfl)) fun a59 w59 s59 => ?_; clear s58
        refine seq_opg s59 rfl rfl rfl rfl (of_decide_eq_true rfl) (fun hb => ob_move rfl (.tmp rfl)) fun a60 w60 s60 => ?_; clear s59
        refine seq_opg s60 rfl rfl rfl rfl (of_decide_eq_true rfl) (fun hb => ob_move rfl (.tmp rfl)) fun a61 w61 s61 => ?_; clear s60
        refine seq_opg s61 rfl rfl rfl rfl (of_decide_eq_true rfl) (fun hb => (Ob.uncond (t := 46) hb rfl ((Ob.uncond (t := 45) hb rfl (ob_eql rfl (.tmp rfl) (.tmp rfl)))))) fun a62 w62 s62 => ?_; clear s61
        refine seq_op s62 rfl rfl (of_decide_eq_true rfl) (ob_or2 rfl (.tmp rfl) opd_bool (.tmp rfl)) fun a63 w63 s63 => ?_; clear s62
        refine seq_op s63 rfl rfl (of_decide_eq_true rfl) (ob_move rfl (.tmp rfl)) fun a64 w64 s64 => ?_; clear s63
        refine seq_opg s64 rfl rfl rfl rfl (of_decide_eq_true rfl) (fun hb => ob_move rfl (.tmp rfl)) fun a65 w65 s65 => ?_; clear s64
        refine seq_opg s65 rfl rfl rfl rfl (of_decide_eq_true rfl) (fun hb => ob_move rfl (.tmp rfl)) fun a66 w66 s66 => ?_; clear s65
        obtain ⟨x3, e_x3, h16⟩ := bind_some h15; clear h15
        refine seq_opg s66 rfl rfl rfl rfl (of_decide_eq_true rfl) (fun hb => (Ob.uncond (t := 51) hb rfl ((Ob.uncond (t := 50) hb rfl (ob_indexAddrs rfl Try.underlying22 sz46 (.tmp rfl) (.tmp rfl) (ite_t hb e_x3)))))) fun a67 w67 s67 => ?_; clear s66
        refine seq_opg s67 rfl rfl rfl rfl (of_decide_eq_true rfl) (fun hb => (Ob.uncond (t := 52) hb rfl (ob_fieldAddrr rfl Try.underlying46 rfl sz41 (by decide) (.tmp rfl) (lg_api_Node_Past x3)))) fun a68 w68 s68 => ?_; clear s67
        refine seq_opg s68 rfl rfl rfl rfl (of_decide_eq_true rfl) (fun hb => (Ob.uncond (t := 53) hb rfl (ob_loadr rfl tk41 (.tmp rfl)))) fun a69 w69 s69 => ?_; clear s68
        refine seq_opg s69 rfl rfl rfl rfl (of_decide_eq_true rfl) (fun hb => ob_move rfl (.tmp rfl)) fun a70 w70 s70 => ?_; clear s69
        obtain ⟨x4, e_x4, h17⟩ := bind_some h16; clear h16
        refine seq_opg s70 rfl rfl rfl rfl (of_decide_eq_true rfl) (fun hb => (Ob.uncond (t := 55) hb rfl ((Ob.uncond (t := 54) hb rfl (ob_callD (args := [_, _]) rfl .direct hb44 (fun a w s fs gs hf hg => by obtain rfl := hf.unnil; obtain rfl := hg.unnil; exact c_cabalref15_In k _ _ _ (ite_t hb e_x4) _ _ _ _ (s.arg (.tmp rfl)) (s.arg (.tmp rfl)))))))) fun a71 w71 s71 => ?_; clear s70
        refine seq_op s71 rfl rfl (of_decide_eq_true rfl) (ob_or2 rfl (.tmp rfl) opd_bool (.tmp rfl)) fun a72 w72 s72 => ?_; clear s71
        refine seq_op s72 rfl rfl (of_decide_eq_true rfl) (ob_assign rfl (.tmp rfl)) fun a73 w73 s73 => ?_; clear s72
        refine wpList_nil ?_
        refine in_normal ?_
        refine then_normal ?_
        refine hK19 _ _ ?_
        have s74 := s73.sub (.cons (t := 0) rfl (.cons (t := 1) rfl (.cons (t := 7) rfl (.cons (t := 8) rfl (.cons (t := 9) rfl (.cons (t := 10) rfl .nil)))))); clear s73
        refine wp_region_lit ?_
        refine seq_op s74 rfl rfl (of_decide_eq_true rfl) (ob_move rfl (.tmp rfl)) fun a75 w75 s75 => ?_; clear s74
        refine seq_op s75 rfl rfl (of_decide_eq_true rfl) (ob_add rfl (.tmp rfl) (opd_int rfl)) fun a76 w76 s76 => ?_; clear s75
        refine seq_op s76 rfl rfl (of_decide_eq_true rfl) (ob_assign rfl (.tmp rfl)) fun a77 w77 s77 => ?_; clear s76
        refine wpList_nil ?_
        refine then_normal ?_
        exact hK16 ((if (if y6 then true else (x2 == y2)) then true else x4), (iadd .i64 y7 (1 : Int))) _ _ h17 (s77.sub (.cons rfl (.cons rfl (.cons rfl (.cons rfl (.cons rfl (.cons rfl .nil)))))))
      · replace h12 := ite_f hc3 h12
        have h18 := h12; clear h12
        refine wp_exit ?_
        refine (then_exit (then_exit (in_here ?_)))
        refine then_normal ?_
        exact hj4 y6 _ _ h18 (s48.sub (.cons rfl (.cons rfl (.cons rfl (.cons rfl (.cons rfl .nil))))))
    · replace h4 := ite_f hc1 h4
      have h19 := h4; clear h4
      refine wp_exit ?_
      refine (then_exit (then_exit (in_here ?_)))
      refine then_normal ?_
      exact hj2 y3 v2 _ _ h19 (s25.sub (.cons rfl .nil))
  refine wp_block ?_
  refine wp_loop_fuel (fun m (q : Int) => cabalref15_Past.l3 k p2 p1 m q) r (fun _ => rfl) (fun q a w => St ⟨64, w0, ok, (idsOf [])⟩ [] [(0, ((ksl k_api_Node).V p1)), (1, ((ksl (karr 32 (kint .u8))).V p2)), (6, ((kint .i64).V q))] a w) ?_ k (0 : Int) _ _ h0 (s8.sub (.cons rfl (.cons rfl (.cons rfl .nil))))
  rintro n3 y8 a78 w78 h20 s78 K21 hK21
  replace h20 : cabalref15_Past.l3 k p2 p1 (n3 + 1) y8 = some r := h20; rw [cabalref15_Past.l3] at h20
  have h21 := h20; clear h20
  refine wp_seq_k fun K22 hK22 => ?_
  refine wp_seq_k fun K23 hK23 => ?_
  refine wp_region_lit ?_
  refine seq_op s78 rfl rfl (of_decide_eq_true rfl) (ob_move rfl (.tmp rfl)) fun a79 w79 s79 => ?_; clear s78
  refine seq_op s79 rfl rfl (of_decide_eq_true rfl) (ob_move rfl (.tmp rfl)) fun a80 w80 s80 => ?_; clear s79
  refine seq_op s80 rfl rfl (of_decide_eq_true rfl) (ob_lens rfl Try.underlying40 (.tmp rfl)) fun a81 w81 s81 => ?_; clear s80
  refine seq_op s81 rfl rfl (of_decide_eq_true rfl) (ob_lss rfl (.tmp rfl) (.tmp rfl)) fun a82 w82 s82 => ?_; clear s81
  refine wpList_nil ?_
  refine then_normal ?_
  refine hK23 _ _ ?_
  have s83 := s82.sub (.cons (t := 0) rfl (.cons (t := 1) rfl (.cons (t := 6) rfl (.cons (t := 15) rfl .nil)))); clear s82
  refine cond_split s83 (.tmp rfl) (fun hc4 => ?_) (fun hc4 => ?_)
  · replace h21 := ite_t hc4 h21
    have h22 := h21; clear h21
    refine wp_skip ?_
    refine then_normal ?_
    refine hK22 _ _ ?_
    have s84 := s83.sub (.cons (t := 0) rfl (.cons (t := 1) rfl (.cons (t := 6) rfl .nil))); clear s83
    refine wp_seq_k fun K24 hK24 => ?_
    refine wp_block ?_
    refine wp_seq_k fun K25 hK25 => ?_
    refine wp_region_lit ?_
    refine seq_op s84 rfl rfl (of_decide_eq_true rfl) (ob_move rfl (.tmp rfl)) fun a85 w85 s85 => ?_; clear s84
    refine seq_op s85 rfl rfl (of_decide_eq_true rfl) (ob_move rfl (.tmp rfl)) fun a86 w86 s86 => ?_; clear s85
    refine seq_op s86 rfl rfl (of_decide_eq_true rfl) (ob_move rfl (.tmp rfl)) fun a87 w87 s87 => ?_; clear s86
    obtain ⟨x5, e_x5, h23⟩ := bind_some h22; clear h22
    refine seq_op s87 rfl rfl (of_decide_eq_true rfl) (ob_indexAddrs rfl Try.underlying40 sz39 (.tmp rfl) (.tmp rfl) e_x5) fun a88 w88 s88 => ?_; clear s87
    refine seq_op s88 rfl rfl (of_decide_eq_true rfl) (ob_loadr rfl tk39 (.tmp rfl)) fun a89 w89 s89 => ?_; clear s88
    obtain ⟨x6, e_x6, h24⟩ := bind_some h23; clear h23
    refine seq_op s89 rfl rfl (of_decide_eq_true rfl) (ob_callD (args := [_, _]) rfl .direct hb56 (fun a w s fs gs hf hg => by obtain rfl := hf.unnil; obtain rfl := hg.unnil; exact c_cabalref15_Find k _ _ _ e_x6 _ _ _ _ (s.arg (.tmp rfl)) (s.arg (.tmp rfl)))) fun a90 w90 s90 => ?_; clear s89
    refine seq_op s90 rfl rfl (of_decide_eq_true rfl) (ob_lss rfl (.tmp rfl) (opd_int rfl)) fun a91 w91 s91 => ?_; clear s90
    refine wpList_nil ?_
    refine then_normal ?_
    refine hK25 _ _ ?_
    have s92 := s91.sub (.cons (t := 0) rfl (.cons (t := 1) rfl (.cons (t := 6) rfl (.cons (t := 24) rfl .nil)))); clear s91
    refine cond_split s92 (.tmp rfl) (fun hc5 => ?_) (fun hc5 => ?_)
    · replace h24 := ite_t hc5 h24
      have h25 := h24; clear h24
      refine wp_seq_k fun K26 hK26 => ?_
      refine wp_region_lit ?_
      refine seq_op s92 rfl rfl (of_decide_eq_true rfl) (ob_assign rfl opd_is) fun a93 w93 s93 => ?_; clear s92
      have s94 := St.adopt s93 (G := RowF (nilRow 9) 3 (kint .i64) []) rfl (rowNilN _ _ _ _ _); clear s93
      refine seq_op s94 rfl rfl (of_decide_eq_true rfl) (ob_assign rfl opd_bool) fun a95 w95 s95 => ?_; clear s94
      refine wpList_nil ?_
      refine then_normal ?_
      refine hK26 _ _ ?_
      have s96 := s95.sub (.cons (t := 4) rfl (.cons (t := 5) rfl .nil)); clear s95
      refine wp_ret ?_
      obtain rfl := Option.some.inj h25
      exact leaveXD (D := []) (nilRow 9) s96 rfl (.inl rfl) rfl (.cons (.tmp rfl) (.cons (.tmp rfl) .nil)) rfl
    · replace h24 := ite_f hc5 h24
      have h26 := h24; clear h24
      refine wp_skip ?_
      refine in_normal ?_
      refine then_normal ?_
      refine hK24 _ _ ?_
      have s97 := s92.sub (.cons (t := 0) rfl (.cons (t := 1) rfl (.cons (t := 6) rfl .nil))); clear s92
      refine wp_region_lit ?_
      refine seq_op s97 rfl rfl (of_decide_eq_true rfl) (ob_move rfl (.tmp rfl)) fun a98 w98 s98 => ?_; clear s97
      refine seq_op s98 rfl rfl (of_decide_eq_true rfl) (ob_add rfl (.tmp rfl) (opd_int rfl)) fun a99 w99 s99 => ?_; clear s98
      refine seq_op s99 rfl rfl (of_decide_eq_true rfl) (ob_assign rfl (.tmp rfl)) fun a100 w100 s100 => ?_; clear s99
      refine wpList_nil ?_
      refine then_normal ?_
      exact hK21 (iadd .i64 y8 (1 : Int)) _ _ h26 (s100.sub (.cons rfl (.cons rfl (.cons rfl .nil))))
  · replace h21 := ite_f hc4 h21
    have h27 := h21; clear h21
    refine wp_exit ?_
    refine (then_exit (then_exit (in_here ?_)))
    refine then_normal ?_
    exact hj1 _ _ h27 (s83.sub (.cons rfl (.cons rfl .nil)))

/- 129 cabal/cabalref11.Member -/
theorem c_cabalref11_Member (k : Nat) (p1 : Int) (r : Bool) (h0 : cabalref11_Member k p1 = some r) (ok : Ok) (w0 : World) (z0 : Value) (u0 : ((kint .i64).V p1).holds ok w0 z0) :
    Gives Try.prog 129 [z0] ok w0 (resFact [kbool.V r]) := by
  unfold cabalref11_Member at h0
  refine enter (N := 9) Try.func129 rfl rfl (of_decide_eq_true rfl) (.cons u0 .nil) fun a1 s1 => ?_
  refine wp_seq_k fun K1 hK1 => ?_
  refine wp_region_lit ?_
  refine seq_op s1 rfl rfl (of_decide_eq_true rfl) (ob_assign rfl opd_bool) fun a2 w2 s2 => ?_; clear s1
  refine wpList_nil ?_
  refine then_normal ?_
  refine hK1 _ _ ?_
  have s3 := s2.sub (.cons (t := 0) rfl .nil); clear s2
  refine wp_seq_k fun K2 hK2 => ?_
  refine wp_region_lit ?_
  refine seq_op s3 rfl rfl (of_decide_eq_true rfl) (ob_move rfl (.tmp rfl)) fun a4 w4 s4 => ?_; clear s3
  refine seq_op s4 rfl rfl (of_decide_eq_true rfl) (ob_geq rfl (.tmp rfl) (opd_int rfl)) fun a5 w5 s5 => ?_; clear s4
  refine seq_op s5 rfl rfl (of_decide_eq_true rfl) (ob_move rfl (.tmp rfl)) fun a6 w6 s6 => ?_; clear s5
  refine seq_opg s6 rfl rfl rfl rfl (of_decide_eq_true rfl) (fun hb => ob_move rfl (.tmp rfl)) fun a7 w7 s7 => ?_; clear s6
  refine seq_opg s7 rfl rfl rfl rfl (of_decide_eq_true rfl) (fun hb => (Ob.uncond (t := 6) hb rfl (ob_leq rfl (.tmp rfl) (opd_int rfl)))) fun a8 w8 s8 => ?_; clear s7
  obtain ⟨x1, e_x1, h1⟩ := bind_some h0; clear h0; replace e_x1 := Option.some.inj e_x1
  refine seq_op s8 rfl rfl (of_decide_eq_true rfl) ((ob_and2 rfl (.tmp rfl) (.tmp rfl) opd_bool).nm e_x1) fun a9 w9 s9 => ?_; clear s8
  refine seq_op s9 rfl rfl (of_decide_eq_true rfl) (ob_assign rfl (.tmp rfl)) fun a10 w10 s10 => ?_; clear s9
  refine wpList_nil ?_
  refine then_normal ?_
  refine hK2 _ _ ?_
  have s11 := s10.sub (.cons (t := 2) rfl .nil); clear s10
  refine wp_ret ?_
  obtain rfl := Option.some.inj h1
  exact leave s11 (.inl rfl) rfl (.cons (.tmp rfl) .nil)

/- 108 cabal/cabalref11.Less -/
theorem c_cabalref11_Less (k : Nat) (p1 : (List Int)) (p2 : (List Int)) (r : Bool) (h0 : cabalref11_Less k p1 p2 = some r) (ok : Ok) (w0 : World) (z0 : Value) (z1 : Value) (u0 : ((karr 32 (kint .u8)).V p1).holds ok w0 z0) (u1 : ((karr 32 (kint .u8)).V p2).holds ok w0 z1) :
    Gives Try.prog 108 [z0, z1] ok w0 (resFact [kbool.V r]) := by
  unfold cabalref11_Less at h0
  refine enter (N := 24) Try.func108 rfl rfl (of_decide_eq_true rfl) (.cons u0 (.cons u1 .nil)) fun a1 s1 => ?_
  refine wp_seq_k fun K1 hK1 => ?_
  refine wp_region_lit ?_
  refine seq_opx (B' := (fun b1 : Nat => [BF b1 39 (karr 32 (kint .u8)) p1])) s1 rfl rfl (of_decide_eq_true rfl) (ob_box rfl (.tmp rfl)) fun b1 a2 w2 s2 => ?_; clear s1
  refine seq_opx (B' := (fun b2 : Nat => [BF b2 39 (karr 32 (kint .u8)) p2, BF b1 39 (karr 32 (kint .u8)) p1])) s2 rfl rfl (of_decide_eq_true rfl) (ob_box rfl (.tmp rfl)) fun b2 a3 w3 s3 => ?_; clear s2
  refine seq_op s3 rfl rfl (of_decide_eq_true rfl) (ob_assign rfl opd_bool) fun a4 w4 s4 => ?_; clear s3
  refine wpList_nil ?_
  refine then_normal ?_
  refine hK1 _ _ ?_
  have s5 := s4.sub (.cons (t := 2) rfl (.cons (t := 3) rfl .nil)); clear s4
  refine wp_seq_k fun K2 hK2 => ?_
  refine wp_seq_k fun K3 hK3 => ?_
  refine wp_region_lit ?_
  refine seq_op s5 rfl rfl (of_decide_eq_true rfl) (ob_assign rfl (opd_int rfl)) fun a6 w6 s6 => ?_; clear s5
  refine wpList_nil ?_
  refine then_normal ?_
  refine hK3 _ _ ?_
  have s7 := s6.sub (.cons (t := 2) rfl (.cons (t := 3) rfl (.cons (t := 5) rfl .nil))); clear s6
  have hj1 : ∀ (a : Act) (w : World), (cabalref11_Less.j1 k) = some r → St ⟨24, w0, ok, []⟩ [] [] a w → K2 a w := by
    intro a8 w8 h1 s8
    unfold cabalref11_Less.j1 at h1
    refine hK2 _ _ ?_
    refine wp_seq_k fun K4 hK4 => ?_
    refine wp_region_lit ?_
    refine seq_op s8 rfl rfl (of_decide_eq_true rfl) (ob_assign rfl opd_bool) fun a9 w9 s9 => ?_; clear s8
    refine wpList_nil ?_
    refine then_normal ?_
    refine hK4 _ _ ?_
    have s10 := s9.sub (.cons (t := 4) rfl .nil); clear s9
    refine wp_ret ?_
    obtain rfl := Option.some.inj h1
    exact leave s10 (.inl rfl) rfl (.cons (.tmp rfl) .nil)
  refine wp_block ?_
  have s11 := s7.perm (toFront [_] (toFront [] (List.Perm.refl _))); clear s7
  refine wp_loop_fuel (fun m (q : Int) => cabalref11_Less.l1 k p1 p2 m q) r (fun _ => rfl) (fun q a w => St ⟨24, w0, ok, []⟩ [BF b1 39 (karr 32 (kint .u8)) p1, BF b2 39 (karr 32 (kint .u8)) p2] [(2, (ptrB b1 0)), (3, (ptrB b2 0)), (5, ((kint .i64).V q))] a w) ?_ k (0 : Int) _ _ h0 (s11.sub (.cons rfl (.cons rfl (.cons rfl .nil))))
  rintro n1 y1 a12 w12 h2 s12 K5 hK5
  replace h2 : cabalref11_Less.l1 k p1 p2 (n1 + 1) y1 = some r := h2; rw [cabalref11_Less.l1] at h2
  have h3 := h2; clear h2
  refine wp_seq_k fun K6 hK6 => ?_
  refine wp_seq_k fun K7 hK7 => ?_
  refine wp_region_lit ?_
  refine seq_op s12 rfl rfl (of_decide_eq_true rfl) (ob_move rfl (.tmp rfl)) fun a13 w13 s13 => ?_; clear s12
  refine seq_op s13 rfl rfl (of_decide_eq_true rfl) (ob_lss rfl (.tmp rfl) (opd_int rfl)) fun a14 w14 s14 => ?_; clear s13
  refine wpList_nil ?_
  refine then_normal ?_
  refine hK7 _ _ ?_
  have s15 := s14.sub (.cons (t := 2) rfl (.cons (t := 3) rfl (.cons (t := 5) rfl (.cons (t := 7) rfl .nil)))); clear s14
  refine cond_split s15 (.tmp rfl) (fun hc1 => ?_) (fun hc1 => ?_)
  · replace h3 := ite_t hc1 h3
    have h4 := h3; clear h3
    refine wp_skip ?_
    refine then_normal ?_
    refine hK6 _ _ ?_
    have s16 := s15.sub (.cons (t := 2) rfl (.cons (t := 3) rfl (.cons (t := 5) rfl .nil))); clear s15
    refine wp_seq_k fun K8 hK8 => ?_
    refine wp_block ?_
    refine wp_seq_k fun K9 hK9 => ?_
    obtain ⟨g1, h5⟩ := guard_some h4; clear h4
    obtain ⟨x1, e_x1, h6⟩ := bind_some h5; clear h5
    obtain ⟨g2, h7⟩ := guard_some h6; clear h6
    obtain ⟨x2, e_x2, h8⟩ := bind_some h7; clear h7
    refine wp_goes (Fs := [((kint .i64).V y1), (ptrB b1 (y1.toNat * 1)), ((kint .u8).V x1), ((kint .i64).V y1), (ptrB b2 (y1.toNat * 1)), ((kint .u8).V x2)]) (bits := [0, 1, 3, 0, 8, 24, 63]) (m := 6) (todo := 0) mx s16 ?_; clear s16
    refine goes_last (by kernel_rfl) rfl (opsS_cons (.plain _ (Av.old (t := 5) rfl rfl Av.nil) rfl rfl (ob_move rfl (.tmp rfl))) (opsS_cons (.plain _ (Av.old (t := 2) rfl rfl (Av.new (j := 0) rfl rfl rfl Av.nil)) rfl rfl (ob_indexAddr rfl Try.underlying39 sz5 (.tmp rfl) (.tmp rfl) g1.1 g1.2 (Nat.zero_add _))) (opsS_cons (.plain _ (Av.new (j := 1) rfl rfl rfl Av.nil) rfl rfl (ob_load rfl tk5 (.tmp rfl) (.head _) (LG.arrA e_x1))) (opsS_cons (.plain _ (Av.old (t := 5) rfl rfl Av.nil) rfl rfl (ob_move rfl (.tmp rfl))) (opsS_cons (.plain _ (Av.old (t := 3) rfl rfl (Av.new (j := 3) rfl rfl rfl Av.nil)) rfl rfl (ob_indexAddr rfl Try.underlying39 sz5 (.tmp rfl) (.tmp rfl) g2.1 g2.2 (Nat.zero_add _))) (opsS_cons (.plain _ (Av.new (j := 4) rfl rfl rfl Av.nil) rfl rfl (ob_load rfl tk5 (.tmp rfl) (.tail _ (.head _)) (LG.arrA e_x2))) opsS_nil)))))) (out_old (t := 2) rfl rfl (out_old (t := 3) rfl rfl (out_old (t := 5) rfl rfl (out_new (i := 2) (by decide) rfl rfl (out_new (i := 5) (by decide) rfl rfl out_nil))))) fun a17 w17 s17 => ?_
    refine seq_op s17 rfl rfl (of_decide_eq_true rfl) (ob_neq rfl (.tmp rfl) (.tmp rfl)) fun a18 w18 s18 => ?_; clear s17
    refine wpList_nil ?_
    refine then_normal ?_
    refine hK9 _ _ ?_
    have s19 := s18.sub (.cons (t := 2) rfl (.cons (t := 3) rfl (.cons (t := 5) rfl (.cons (t := 16) rfl .nil)))); clear s18
    refine cond_split s19 (.tmp rfl) (fun hc2 => ?_) (fun hc2 => ?_)
    · replace h8 := ite_t hc2 h8
      have h9 := h8; clear h8
      refine wp_seq_k fun K10 hK10 => ?_
      obtain ⟨g3, h10⟩ := guard_some h9; clear h9
      obtain ⟨x3, e_x3, h11⟩ := bind_some h10; clear h10
      obtain ⟨g4, h12⟩ := guard_some h11; clear h11
      obtain ⟨x4, e_x4, h13⟩ := bind_some h12; clear h12
      refine wp_goes (Fs := [((kint .i64).V y1), (ptrB b1 (y1.toNat * 1)), ((kint .u8).V x3), ((kint .i64).V y1), (ptrB b2 (y1.toNat * 1)), ((kint .u8).V x4)]) (bits := [0, 1, 3, 0, 8, 24, 63, 127]) (m := 6) (todo := 0) mx s19 ?_; clear s19
      refine goes_last (by kernel_rfl) rfl (opsS_cons (.plain _ (Av.old (t := 5) rfl rfl Av.nil) rfl rfl (ob_move rfl (.tmp rfl))) (opsS_cons (.plain _ (Av.old (t := 2) rfl rfl (Av.new (j := 0) rfl rfl rfl Av.nil)) rfl rfl (ob_indexAddr rfl Try.underlying39 sz5 (.tmp rfl) (.tmp rfl) g3.1 g3.2 (Nat.zero_add _))) (opsS_cons (.plain _ (Av.new (j := 1) rfl rfl rfl Av.nil) rfl rfl (ob_load rfl tk5 (.tmp rfl) (.head _) (LG.arrA e_x3))) (opsS_cons (.plain _ (Av.old (t := 5) rfl rfl Av.nil) rfl rfl (ob_move rfl (.tmp rfl))) (opsS_cons (.plain _ (Av.old (t := 3) rfl rfl (Av.new (j := 3) rfl rfl rfl Av.nil)) rfl rfl (ob_indexAddr rfl Try.underlying39 sz5 (.tmp rfl) (.tmp rfl) g4.1 g4.2 (Nat.zero_add _))) (opsS_cons (.plain _ (Av.new (j := 4) rfl rfl rfl Av.nil) rfl rfl (ob_load rfl tk5 (.tmp rfl) (.tail _ (.head _)) (LG.arrA e_x4))) opsS_nil)))))) (out_new (i := 2) (by decide) rfl rfl (out_new (i := 5) (by decide) rfl rfl out_nil)) fun a20 w20 s20 => ?_
      refine seq_op s20 rfl rfl (of_decide_eq_true rfl) (ob_lss rfl (.tmp rfl) (.tmp rfl)) fun a21 w21 s21 => ?_; clear s20
      refine seq_op s21 rfl rfl (of_decide_eq_true rfl) (ob_assign rfl (.tmp rfl)) fun a22 w22 s22 => ?_; clear s21
      refine wpList_nil ?_
      refine then_normal ?_
      refine hK10 _ _ ?_
      have s23 := s22.sub (.cons (t := 4) rfl .nil); clear s22
      have s24 := St.drop (A := []) s23; clear s23
      have s25 := St.drop (A := []) s24; clear s24
      refine wp_ret ?_
      obtain rfl := Option.some.inj h13
      exact leave s25 (.inl rfl) rfl (.cons (.tmp rfl) .nil)
    · replace h8 := ite_f hc2 h8
      have h14 := h8; clear h8
      refine wp_skip ?_
      refine in_normal ?_
      refine then_normal ?_
      refine hK8 _ _ ?_
      have s26 := s19.sub (.cons (t := 2) rfl (.cons (t := 3) rfl (.cons (t := 5) rfl .nil))); clear s19
      refine wp_region_lit ?_
      refine seq_op s26 rfl rfl (of_decide_eq_true rfl) (ob_move rfl (.tmp rfl)) fun a27 w27 s27 => ?_; clear s26
      refine seq_op s27 rfl rfl (of_decide_eq_true rfl) (ob_add rfl (.tmp rfl) (opd_int rfl)) fun a28 w28 s28 => ?_; clear s27
      refine seq_op s28 rfl rfl (of_decide_eq_true rfl) (ob_assign rfl (.tmp rfl)) fun a29 w29 s29 => ?_; clear s28
      refine wpList_nil ?_
      refine then_normal ?_
      exact hK5 (iadd .i64 y1 (1 : Int)) _ _ h14 (s29.sub (.cons rfl (.cons rfl (.cons rfl .nil))))
  · replace h3 := ite_f hc1 h3
    have h15 := h3; clear h3
    refine wp_exit ?_
    refine (then_exit (then_exit (in_here ?_)))
    refine then_normal ?_
    have s30 := St.drop (A := []) s15; clear s15
    have s31 := St.drop (A := []) s30; clear s30
    exact hj1 _ _ h15 (s31.sub .nil)

end Go.Proofs.Ytdlnfgpcnfbjiaa
