/- Each function's code comes to what its plain function answers. No condition. -/
import Derived.Test.YtdlnfgpcnfbjiaaYWalk3
namespace Go.Proofs.Ytdlnfgpcnfbjiaa
open Go Go.RowKit Go.Proofs.Kit Go.Proofs.Pure
set_option linter.unusedVariables false
set_option linter.unusedSimpArgs false
set_option maxRecDepth 100000
set_option maxHeartbeats 2000000

/- 85 cabal/cabalref11.Right -/
theorem c_cabalref11_Right (k : Nat) (p1 : api_Op) (r : Bool) (h0 : cabalref11_Right k p1 = some r) (ok : Ok) (w0 : World) (z0 : Value) (u0 : (k_api_Op.V p1).holds ok w0 z0) :
    Gives Try.prog 85 [z0] ok w0 (resFact [kbool.V r]) := by
  unfold cabalref11_Right at h0
  refine enter (N := 156) Try.func85 rfl rfl (of_decide_eq_true rfl) (.cons u0 .nil) fun a1 s1 => ?_
  refine wp_seq_k fun K1 hK1 => ?_
  refine wp_region_lit ?_
  refine seq_opx (B' := (fun b1 : Nat => [BF b1 44 k_api_Op p1])) s1 rfl rfl (of_decide_eq_true rfl) (ob_box rfl (.tmp rfl)) fun b1 a2 w2 s2 => ?_; clear s1
  refine seq_op s2 rfl rfl (of_decide_eq_true rfl) (ob_assign rfl opd_bool) fun a3 w3 s3 => ?_; clear s2
  refine wpList_nil ?_
  refine then_normal ?_
  refine hK1 _ _ ?_
  have s4 := s3.sub (.cons (t := 1) rfl .nil); clear s3
  refine wp_seq_k fun K2 hK2 => ?_
  refine wp_seq_k fun K3 hK3 => ?_
  refine wp_region_lit ?_
  refine seq_op s4 rfl rfl (of_decide_eq_true rfl) (ob_fieldAddr (off' := 0) rfl Try.underlying44 rfl sz3 (by decide) (.tmp rfl) rfl) fun a5 w5 s5 => ?_; clear s4
  refine seq_op s5 rfl rfl (of_decide_eq_true rfl) (ob_load rfl tk3 (.tmp rfl) (.head _) (lg_api_Op_Author p1)) fun a6 w6 s6 => ?_; clear s5
  obtain ⟨x1, e_x1, h1⟩ := bind_some h0; clear h0
  refine seq_op s6 rfl rfl (of_decide_eq_true rfl) (ob_callD (args := [_]) rfl .direct hb129 (fun a w s fs gs hf hg => by obtain rfl := hf.unnil; obtain rfl := hg.unnil; exact c_cabalref11_Member k _ _ e_x1 _ _ _ (s.arg (.tmp rfl)))) fun a7 w7 s7 => ?_; clear s6
  refine seq_op s7 rfl rfl (of_decide_eq_true rfl) (ob_not rfl (.tmp rfl)) fun a8 w8 s8 => ?_; clear s7
  refine seq_op s8 rfl rfl (of_decide_eq_true rfl) (ob_move rfl (.tmp rfl)) fun a9 w9 s9 => ?_; clear s8
  refine seq_opg s9 rfl rfl rfl rfl (of_decide_eq_true rfl) (fun hb => ob_fieldAddr (off' := 1) rfl Try.underlying44 rfl sz25 (by decide) (.tmp rfl) rfl) fun a10 w10 s10 => ?_; clear s9
  refine seq_opg s10 rfl rfl rfl rfl (of_decide_eq_true rfl) (fun hb => (Ob.uncond (t := 13) hb rfl (ob_load rfl tk25 (.tmp rfl) (.head _) (lg_api_Op_Seq p1)))) fun a11 w11 s11 => ?_; clear s10
  refine seq_opg s11 rfl rfl rfl rfl (of_decide_eq_true rfl) (fun hb => (Ob.uncond (t := 14) hb rfl (ob_eql rfl (.tmp rfl) (opd_int rfl)))) fun a12 w12 s12 => ?_; clear s11
  refine seq_op s12 rfl rfl (of_decide_eq_true rfl) (ob_or2 rfl (.tmp rfl) opd_bool (.tmp rfl)) fun a13 w13 s13 => ?_; clear s12
  refine seq_op s13 rfl rfl (of_decide_eq_true rfl) (ob_move rfl (.tmp rfl)) fun a14 w14 s14 => ?_; clear s13
  refine seq_opg s14 rfl rfl rfl rfl (of_decide_eq_true rfl) (fun hb => ob_fieldAddr (off' := 3) rfl Try.underlying44 rfl sz3 (by decide) (.tmp rfl) rfl) fun a15 w15 s15 => ?_; clear s14
  refine seq_opg s15 rfl rfl rfl rfl (of_decide_eq_true rfl) (fun hb => (Ob.uncond (t := 18) hb rfl (ob_load rfl tk3 (.tmp rfl) (.head _) (lg_api_Op_Kind p1)))) fun a16 w16 s16 => ?_; clear s15
  refine seq_opg s16 rfl rfl rfl rfl (of_decide_eq_true rfl) (fun hb => (Ob.uncond (t := 19) hb rfl (ob_lss rfl (.tmp rfl) (opd_int rfl)))) fun a17 w17 s17 => ?_; clear s16
  obtain ⟨x2, e_x2, h2⟩ := bind_some h1; clear h1; replace e_x2 := Option.some.inj e_x2
  refine seq_op s17 rfl rfl (of_decide_eq_true rfl) ((ob_or2 rfl (.tmp rfl) opd_bool (.tmp rfl)).nm e_x2) fun a18 w18 s18 => ?_; clear s17
  refine seq_op s18 rfl rfl (of_decide_eq_true rfl) (ob_move rfl (.tmp rfl)) fun a19 w19 s19 => ?_; clear s18
  refine seq_opg s19 rfl rfl rfl rfl (of_decide_eq_true rfl) (fun hb => ob_fieldAddr (off' := 3) rfl Try.underlying44 rfl sz3 (by decide) (.tmp rfl) rfl) fun a20 w20 s20 => ?_; clear s19
  refine seq_opg s20 rfl rfl rfl rfl (of_decide_eq_true rfl) (fun hb => (Ob.uncond (t := 23) hb rfl (ob_load rfl tk3 (.tmp rfl) (.head _) (lg_api_Op_Kind p1)))) fun a21 w21 s21 => ?_; clear s20
  refine seq_opg s21 rfl rfl rfl rfl (of_decide_eq_true rfl) (fun hb => (Ob.uncond (t := 24) hb rfl (ob_gtr rfl (.tmp rfl) (opd_int rfl)))) fun a22 w22 s22 => ?_; clear s21
  refine seq_op s22 rfl rfl (of_decide_eq_true rfl) (ob_or2 rfl (.tmp rfl) opd_bool (.tmp rfl)) fun a23 w23 s23 => ?_; clear s22
  refine seq_op s23 rfl rfl (of_decide_eq_true rfl) (ob_move rfl (.tmp rfl)) fun a24 w24 s24 => ?_; clear s23
  refine seq_opg s24 rfl rfl rfl rfl (of_decide_eq_true rfl) (fun hb => ob_fieldAddr (off' := 2) rfl Try.underlying44 rfl sz40 (by decide) (.tmp rfl) rfl) fun a25 w25 s25 => ?_; clear s24
  refine seq_opg s25 rfl rfl rfl rfl (of_decide_eq_true rfl) (fun hb => (Ob.uncond (t := 28) hb rfl (ob_load rfl tk40 (.tmp rfl) (.head _) (lg_api_Op_Parents p1)))) fun a26 w26 s26 => ?_; clear s25
  refine seq_opg s26 rfl rfl rfl rfl (of_decide_eq_true rfl) (fun hb => (Ob.uncond (t := 29) hb rfl (ob_lens rfl Try.underlying40 (.tmp rfl)))) fun a27 w27 s27 => ?_; clear s26
  refine seq_opg s27 rfl rfl rfl rfl (of_decide_eq_true rfl) (fun hb => (Ob.uncond (t := 30) hb rfl (ob_gtr rfl (.tmp rfl) (opd_int rfl)))) fun a28 w28 s28 => ?_; clear s27
  obtain ⟨x3, e_x3, h3⟩ := bind_some h2; clear h2; replace e_x3 := Option.some.inj e_x3
  refine seq_op s28 rfl rfl (of_decide_eq_true rfl) ((ob_or2 rfl (.tmp rfl) opd_bool (.tmp rfl)).nm e_x3) fun a29 w29 s29 => ?_; clear s28
  refine seq_op s29 rfl rfl (of_decide_eq_true rfl) (ob_move rfl (.tmp rfl)) fun a30 w30 s30 => ?_; clear s29
  refine seq_opg s30 rfl rfl rfl rfl (of_decide_eq_true rfl) (fun hb => ob_fieldAddr (off' := 70) rfl Try.underlying44 rfl sz42 (by decide) (.tmp rfl) rfl) fun a31 w31 s31 => ?_; clear s30
  refine seq_opg s31 rfl rfl rfl rfl (of_decide_eq_true rfl) (fun hb => (Ob.uncond (t := 34) hb rfl (ob_load rfl tk42 (.tmp rfl) (.head _) (lg_api_Op_Boxes p1)))) fun a32 w32 s32 => ?_; clear s31
  refine seq_opg s32 rfl rfl rfl rfl (of_decide_eq_true rfl) (fun hb => (Ob.uncond (t := 35) hb rfl (ob_lens rfl Try.underlying42 (.tmp rfl)))) fun a33 w33 s33 => ?_; clear s32
  refine seq_opg s33 rfl rfl rfl rfl (of_decide_eq_true rfl) (fun hb => (Ob.uncond (t := 36) hb rfl (ob_gtr rfl (.tmp rfl) (opd_int rfl)))) fun a34 w34 s34 => ?_; clear s33
  refine seq_op s34 rfl rfl (of_decide_eq_true rfl) (ob_or2 rfl (.tmp rfl) opd_bool (.tmp rfl)) fun a35 w35 s35 => ?_; clear s34
  refine seq_op s35 rfl rfl (of_decide_eq_true rfl) (ob_move rfl (.tmp rfl)) fun a36 w36 s36 => ?_; clear s35
  refine seq_opg s36 rfl rfl rfl rfl (of_decide_eq_true rfl) (fun hb => ob_fieldAddr (off' := 69) rfl Try.underlying44 rfl sz9 (by decide) (.tmp rfl) rfl) fun a37 w37 s37 => ?_; clear s36
  refine seq_opg s37 rfl rfl rfl rfl (of_decide_eq_true rfl) (fun hb => (Ob.uncond (t := 40) hb rfl (ob_load rfl tk9 (.tmp rfl) (.head _) (lg_api_Op_Text p1)))) fun a38 w38 s38 => ?_; clear s37
  refine seq_opg s38 rfl rfl rfl rfl (of_decide_eq_true rfl) (fun hb => (Ob.uncond (t := 41) hb rfl (ob_lenStr rfl Try.underlying9 (.tmp rfl)))) fun a39 w39 s39 => ?_; clear s38
  refine seq_opg s39 rfl rfl rfl rfl (of_decide_eq_true rfl) (fun hb => (Ob.uncond (t := 42) hb rfl (ob_gtr rfl (.tmp rfl) (opd_int rfl)))) fun a40 w40 s40 => ?_; clear s39
  obtain ⟨x4, e_x4, h4⟩ := bind_some h3; clear h3; replace e_x4 := Option.some.inj e_x4
  refine seq_op s40 rfl rfl (of_decide_eq_true rfl) ((ob_or2 rfl (.tmp rfl) opd_bool (.tmp rfl)).nm e_x4) fun a41 w41 s41 => ?_; clear s40
  refine wpList_nil ?_
  refine then_normal ?_
  refine hK3 _ _ ?_
  have s42 := s41.sub (.cons (t := 1) rfl (.cons (t := 44) rfl .nil)); clear s41
  refine cond_split s42 (.tmp rfl) (fun hc1 => ?_) (fun hc1 => ?_)
  · replace h4 := ite_t hc1 h4
    have h5 := h4; clear h4
    refine wp_seq_k fun K4 hK4 => ?_
    refine wp_region_lit ?_
    refine seq_op s42 rfl rfl (of_decide_eq_true rfl) (ob_assign rfl opd_bool) fun a43 w43 s43 => ?_; clear s42
    refine wpList_nil ?_
    refine then_normal ?_
    refine hK4 _ _ ?_
    have s44 := s43.sub (.cons (t := 2) rfl .nil); clear s43
    have s45 := St.drop (A := []) s44; clear s44
    refine wp_ret ?_
    obtain rfl := Option.some.inj h5
    exact leave s45 (.inl rfl) rfl (.cons (.tmp rfl) .nil)
  · replace h4 := ite_f hc1 h4
    have h6 := h4; clear h4
    refine wp_skip ?_
    refine then_normal ?_
    refine hK2 _ _ ?_
    have s46 := s42.sub (.cons (t := 1) rfl .nil); clear s42
    refine wp_seq_k fun K5 hK5 => ?_
    refine wp_seq_k fun K6 hK6 => ?_
    refine wp_region_lit ?_
    refine seq_op s46 rfl rfl (of_decide_eq_true rfl) (ob_assign rfl (opd_int rfl)) fun a47 w47 s47 => ?_; clear s46
    refine wpList_nil ?_
    refine then_normal ?_
    refine hK6 _ _ ?_
    have s48 := s47.sub (.cons (t := 1) rfl (.cons (t := 3) rfl .nil)); clear s47
    have hj1 : ∀ (a : Act) (w : World), (cabalref11_Right.j1 k p1) = some r → St ⟨156, w0, ok, []⟩ [BF b1 44 k_api_Op p1] [(1, (ptrB b1 0))] a w → K5 a w := by
      intro a49 w49 h7 s49
      unfold cabalref11_Right.j1 at h7
      refine hK5 _ _ ?_
      refine wp_seq_k fun K7 hK7 => ?_
      refine wp_region_lit ?_
      refine seq_op s49 rfl rfl (of_decide_eq_true rfl) (ob_assign rfl opd_bool) fun a50 w50 s50 => ?_; clear s49
      refine wpList_nil ?_
      refine then_normal ?_
      refine hK7 _ _ ?_
      have s51 := s50.sub (.cons (t := 1) rfl (.cons (t := 4) rfl .nil)); clear s50
      refine wp_seq_k fun K8 hK8 => ?_
      refine wp_seq_k fun K9 hK9 => ?_
      refine wp_region_lit ?_
      refine seq_op s51 rfl rfl (of_decide_eq_true rfl) (ob_assign rfl (opd_int rfl)) fun a52 w52 s52 => ?_; clear s51
      refine wpList_nil ?_
      refine then_normal ?_
      refine hK9 _ _ ?_
      have s53 := s52.sub (.cons (t := 1) rfl (.cons (t := 4) rfl (.cons (t := 5) rfl .nil))); clear s52
      have hj2 : ∀ (y1 : Bool) (a : Act) (w : World), (cabalref11_Right.j2 k p1) y1 = some r → St ⟨156, w0, ok, []⟩ [BF b1 44 k_api_Op p1] [(1, (ptrB b1 0)), (4, (kbool.V y1))] a w → K8 a w := by
        intro y1 a54 w54 h8 s54
        unfold cabalref11_Right.j2 at h8
        refine hK8 _ _ ?_
        refine wp_seq_k fun K10 hK10 => ?_
        refine wp_seq_k fun K11 hK11 => ?_
        refine wp_region_lit ?_
        refine seq_op s54 rfl rfl (of_decide_eq_true rfl) (ob_assign rfl (opd_int rfl)) fun a55 w55 s55 => ?_; clear s54
        refine wpList_nil ?_
        refine then_normal ?_
        refine hK11 _ _ ?_
        have s56 := s55.sub (.cons (t := 1) rfl (.cons (t := 4) rfl (.cons (t := 6) rfl .nil))); clear s55
        have hj3 : ∀ (a : Act) (w : World), (cabalref11_Right.j3 k p1 y1) = some r → St ⟨156, w0, ok, []⟩ [BF b1 44 k_api_Op p1] [(1, (ptrB b1 0)), (4, (kbool.V y1))] a w → K10 a w := by
          intro a57 w57 h9 s57
          unfold cabalref11_Right.j3 at h9
          refine hK10 _ _ ?_
          refine wp_seq_k fun K12 hK12 => ?_
          refine wp_region_lit ?_
          refine seq_op s57 rfl rfl (of_decide_eq_true rfl) (ob_load rfl tk44 (.tmp rfl) (.head _) (LG.refl _ _)) fun a58 w58 s58 => ?_; clear s57
          refine seq_op s58 rfl rfl (of_decide_eq_true rfl) (ob_move rfl (.tmp rfl)) fun a59 w59 s59 => ?_; clear s58
          obtain ⟨x5, e_x5, h10⟩ := bind_some h9; clear h9
          refine seq_op s59 rfl rfl (of_decide_eq_true rfl) (ob_callD (args := [_, _]) rfl .direct hb130 (fun a w s fs gs hf hg => by obtain rfl := hf.unnil; obtain rfl := hg.unnil; exact c_cabalref11_kind k _ _ _ e_x5 _ _ _ _ (s.arg (.tmp rfl)) (s.arg (.tmp rfl)))) fun a60 w60 s60 => ?_; clear s59
          refine seq_op s60 rfl rfl (of_decide_eq_true rfl) (ob_assign rfl (.tmp rfl)) fun a61 w61 s61 => ?_; clear s60
          refine wpList_nil ?_
          refine then_normal ?_
          refine hK12 _ _ ?_
          have s62 := s61.sub (.cons (t := 2) rfl .nil); clear s61
          have s63 := St.drop (A := []) s62; clear s62
          refine wp_ret ?_
          obtain rfl := Option.some.inj h10
          exact leave s63 (.inl rfl) rfl (.cons (.tmp rfl) .nil)
        refine wp_block ?_
        refine wp_loop_fuel (fun m (q : Int) => cabalref11_Right.l1 k p1 y1 m q) r (fun _ => rfl) (fun q a w => St ⟨156, w0, ok, []⟩ [BF b1 44 k_api_Op p1] [(1, (ptrB b1 0)), (4, (kbool.V y1)), (6, ((kint .i64).V q))] a w) ?_ k (0 : Int) _ _ h8 (s56.sub (.cons rfl (.cons rfl (.cons rfl .nil))))
        rintro n1 y2 a64 w64 h11 s64 K13 hK13
        replace h11 : cabalref11_Right.l1 k p1 y1 (n1 + 1) y2 = some r := h11; rw [cabalref11_Right.l1] at h11
        have h12 := h11; clear h11
        refine wp_seq_k fun K14 hK14 => ?_
        refine wp_seq_k fun K15 hK15 => ?_
        refine wp_region_lit ?_
        refine seq_op s64 rfl rfl (of_decide_eq_true rfl) (ob_move rfl (.tmp rfl)) fun a65 w65 s65 => ?_; clear s64
        refine seq_op s65 rfl rfl (of_decide_eq_true rfl) (ob_fieldAddr (off' := 70) rfl Try.underlying44 rfl sz42 (by decide) (.tmp rfl) rfl) fun a66 w66 s66 => ?_; clear s65
        refine seq_op s66 rfl rfl (of_decide_eq_true rfl) (ob_load rfl tk42 (.tmp rfl) (.head _) (lg_api_Op_Boxes p1)) fun a67 w67 s67 => ?_; clear s66
        refine seq_op s67 rfl rfl (of_decide_eq_true rfl) (ob_lens rfl Try.underlying42 (.tmp rfl)) fun a68 w68 s68 => ?_; clear s67
        refine seq_op s68 rfl rfl (of_decide_eq_true rfl) (ob_lss rfl (.tmp rfl) (.tmp rfl)) fun a69 w69 s69 => ?_; clear s68
        refine wpList_nil ?_
        refine then_normal ?_
        refine hK15 _ _ ?_
        have s70 := s69.sub (.cons (t := 1) rfl (.cons (t := 4) rfl (.cons (t := 6) rfl (.cons (t := 112) rfl .nil)))); clear s69
        refine cond_split s70 (.tmp rfl) (fun hc2 => ?_) (fun hc2 => ?_)
        · replace h12 := ite_t hc2 h12
          have h13 := h12; clear h12
          refine wp_skip ?_
          refine then_normal ?_
          refine hK14 _ _ ?_
          have s71 := s70.sub (.cons (t := 1) rfl (.cons (t := 4) rfl (.cons (t := 6) rfl .nil))); clear s70
          refine wp_seq_k fun K16 hK16 => ?_
          refine wp_block ?_
          refine wp_seq_k fun K17 hK17 => ?_
          refine wp_region_lit ?_
          refine seq_op s71 rfl rfl (of_decide_eq_true rfl) (ob_fieldAddr (off' := 70) rfl Try.underlying44 rfl sz42 (by decide) (.tmp rfl) rfl) fun a72 w72 s72 => ?_; clear s71
          refine seq_op s72 rfl rfl (of_decide_eq_true rfl) (ob_load rfl tk42 (.tmp rfl) (.head _) (lg_api_Op_Boxes p1)) fun a73 w73 s73 => ?_; clear s72
          refine seq_op s73 rfl rfl (of_decide_eq_true rfl) (ob_move rfl (.tmp rfl)) fun a74 w74 s74 => ?_; clear s73
          obtain ⟨x6, e_x6, h14⟩ := bind_some h13; clear h13
          refine seq_op s74 rfl rfl (of_decide_eq_true rfl) (ob_indexAddrs rfl Try.underlying42 sz78 (.tmp rfl) (.tmp rfl) e_x6) fun a75 w75 s75 => ?_; clear s74
          refine seq_op s75 rfl rfl (of_decide_eq_true rfl) (ob_loadr rfl tk78 (.tmp rfl)) fun a76 w76 s76 => ?_; clear s75
          refine seq_opx (B' := (fun b2 : Nat => [BF b2 78 k_api_Box (⟨(0 : Int), (⟨(List.replicate 32 (0 : Int)), (0 : Int), (0 : Int)⟩ : api_Head), []⟩ : api_Box), BF b1 44 k_api_Op p1])) s76 rfl rfl (of_decide_eq_true rfl) (ob_new (k := k_api_Box) rfl zz78 (Zr.iso (f := t_api_Box) (x := (⟨(0 : Int), (⟨(List.replicate 32 (0 : Int)), (0 : Int), (0 : Int)⟩ : api_Head), []⟩ : api_Box)) (Zr.pair (Zr.int .i64) (Zr.pair (Zr.iso (f := t_api_Head) (x := (⟨(List.replicate 32 (0 : Int)), (0 : Int), (0 : Int)⟩ : api_Head)) (Zr.pair (Zr.arr 32 (Zr.int .u8)) (Zr.pair (Zr.int .u32) (Zr.pair (Zr.int .u32) Zr.nil)))) (Zr.pair Zr.str Zr.nil))))) fun b2 a77 w77 s77 => ?_; clear s76
          refine seq_opx0 (B' := (fun _ : Unit => [BF b2 78 k_api_Box x6, BF b1 44 k_api_Op p1])) s77 rfl rfl (ob_store (A := []) rfl tk78 (.tmp rfl) (.tmp rfl) rfl (LS.refl _ _ _) rfl) fun _ a78 w78 s78 => ?_; clear s77
          refine wpList_nil ?_
          refine then_normal ?_
          refine hK17 _ _ ?_
          have s79 := s78.sub (.cons (t := 1) rfl (.cons (t := 4) rfl (.cons (t := 6) rfl (.cons (t := 7) rfl .nil)))); clear s78
          refine wp_seq_k fun K18 hK18 => ?_
          obtain ⟨x7, e_x7, h15⟩ := bind_some h14; clear h14
          obtain ⟨x8, e_x8, h16⟩ := bind_some h15; clear h15; replace e_x8 := Option.some.inj e_x8
          obtain ⟨x9, e_x9, h17⟩ := bind_some h16; clear h16
          refine wp_goes (Fs := [(ptrB b2 0), ((kint .i64).V x6.To), (kbool.V x7), (kbool.V (!x7)), (kbool.V (!x7)), (Fact.when ((!x7) == false) (ptrB b2 0)), (Fact.when ((!x7) == false) ((kint .i64).V x6.To)), (Fact.when ((!x7) == false) (ptrB b1 0)), (Fact.when ((!x7) == false) ((kint .i64).V p1.Author)), (Fact.when ((!x7) == false) (kbool.V (x6.To == p1.Author))), (kbool.V (if (!x7) then true else (x6.To == p1.Author))), (kbool.V (if (!x7) then true else (x6.To == p1.Author))), (Fact.when ((if (!x7) then true else (x6.To == p1.Author)) == false) (ptrB b2 35)), (Fact.when ((if (!x7) then true else (x6.To == p1.Author)) == false) (kstr.V x6.Body)), (Fact.when ((if (!x7) then true else (x6.To == p1.Author)) == false) ((kint .i64).V (x6.Body.length : Int))), (Fact.when ((if (!x7) then true else (x6.To == p1.Author)) == false) (kbool.V (decide ((x6.Body.length : Int) > (256 : Int))))), (kbool.V x8), (kbool.V x8), (Fact.when (x8 == false) ((kint .i64).V y2)), (Fact.when (x8 == false) (kbool.V (decide (y2 > (0 : Int))))), (Fact.when (x8 == false) (kbool.V (decide (y2 > (0 : Int))))), (Fact.when ((x8 == false) && ((decide (y2 > (0 : Int))) == true)) (ptrB b1 70)), (Fact.when ((x8 == false) && ((decide (y2 > (0 : Int))) == true)) ((ksl k_api_Box).V p1.Boxes)), (Fact.when ((x8 == false) && ((decide (y2 > (0 : Int))) == true)) ((kint .i64).V y2)), (Fact.when ((x8 == false) && ((decide (y2 > (0 : Int))) == true)) ((kint .i64).V (isub .i64 y2 (1 : Int)))), (Fact.when ((x8 == false) && ((decide (y2 > (0 : Int))) == true)) (ptrTo k_api_Box x9)), (Fact.when ((x8 == false) && ((decide (y2 > (0 : Int))) == true)) (ptrTo (kint .i64) x9.To)), (Fact.when ((x8 == false) && ((decide (y2 > (0 : Int))) == true)) ((kint .i64).V x9.To)), (Fact.when ((x8 == false) && ((decide (y2 > (0 : Int))) == true)) (ptrB b2 0)), (Fact.when ((x8 == false) && ((decide (y2 > (0 : Int))) == true)) ((kint .i64).V x6.To))]) (bits := [0, 1, 3, 7, 15, 31, 63, 31, 159, 511, 1023, 2047, 4095, 8191, 16383, 32767, 65535, 131071, 262143, 524287, 1048575, 2097151, 4194303, 2097151, 10485759, 33554431, 67108863, 134217727, 2097151, 270532607, 1073741823, 2147483647, 4294967295]) (m := 30) (todo := 0) mx s79 ?_; clear s79
          refine goes_last (by kernel_rfl) rfl (opsS_cons (.plain _ (Av.old (t := 7) rfl rfl Av.nil) rfl rfl (ob_fieldAddr (off' := 0) rfl Try.underlying78 rfl sz3 (by decide) (.tmp rfl) rfl)) (opsS_cons (.plain _ (Av.new (j := 0) rfl rfl rfl Av.nil) rfl rfl (ob_load rfl tk3 (.tmp rfl) (.head _) (lg_api_Box_To x6))) (opsS_cons (.plain _ (Av.new (j := 1) rfl rfl rfl Av.nil) rfl rfl (ob_callD (args := [_]) rfl .direct hb129 (fun a w s fs gs hf hg => by obtain rfl := hf.unnil; obtain rfl := hg.unnil; exact c_cabalref11_Member k _ _ e_x7 _ _ _ (s.arg (.tmp rfl))))) (opsS_cons (.plain _ (Av.new (j := 2) rfl rfl rfl Av.nil) rfl rfl (ob_not rfl (.tmp rfl))) (opsS_cons (.plain _ (Av.new (j := 3) rfl rfl rfl Av.nil) rfl rfl (ob_move rfl (.tmp rfl))) (opsS_cons (.guarded _ (Av.old (t := 7) rfl rfl (Av.new (j := 4) rfl rfl rfl Av.nil)) rfl rfl rfl rfl (fun hb => ob_fieldAddr (off' := 0) rfl Try.underlying78 rfl sz3 (by decide) (.tmp rfl) rfl)) (opsS_cons (.guarded _ (Av.new (j := 4) rfl rfl rfl (Av.new (j := 5) rfl rfl rfl Av.nil)) rfl rfl rfl rfl (fun hb => (Ob.uncond (t := 125) hb rfl (ob_load rfl tk3 (.tmp rfl) (.head _) (lg_api_Box_To x6))))) (opsS_cons (.guarded _ (Av.old (t := 1) rfl rfl (Av.new (j := 4) rfl rfl rfl Av.nil)) rfl rfl rfl rfl (fun hb => ob_fieldAddr (off' := 0) rfl Try.underlying44 rfl sz3 (by decide) (.tmp rfl) rfl)) (opsS_cons (.guarded _ (Av.new (j := 4) rfl rfl rfl (Av.new (j := 7) rfl rfl rfl Av.nil)) rfl rfl rfl rfl (fun hb => (Ob.uncond (t := 127) hb rfl (ob_load rfl tk3 (.tmp rfl) (.tail _ (.head _)) (lg_api_Op_Author p1))))) (opsS_cons (.guarded _ (Av.new (j := 4) rfl rfl rfl (Av.new (j := 6) rfl rfl rfl (Av.new (j := 8) rfl rfl rfl Av.nil))) rfl rfl rfl rfl (fun hb => (Ob.uncond (t := 128) hb rfl ((Ob.uncond (t := 126) hb rfl (ob_eql rfl (.tmp rfl) (.tmp rfl))))))) (opsS_cons (.plain _ (Av.new (j := 4) rfl rfl rfl (Av.new (j := 9) rfl rfl rfl Av.nil)) rfl rfl (ob_or2 rfl (.tmp rfl) opd_bool (.tmp rfl))) (opsS_cons (.plain _ (Av.new (j := 10) rfl rfl rfl Av.nil) rfl rfl (ob_move rfl (.tmp rfl))) (opsS_cons (.guarded _ (Av.old (t := 7) rfl rfl (Av.new (j := 11) rfl rfl rfl Av.nil)) rfl rfl rfl rfl (fun hb => ob_fieldAddr (off' := 35) rfl Try.underlying78 rfl sz9 (by decide) (.tmp rfl) rfl)) (opsS_cons (.guarded _ (Av.new (j := 11) rfl rfl rfl (Av.new (j := 12) rfl rfl rfl Av.nil)) rfl rfl rfl rfl (fun hb => (Ob.uncond (t := 132) hb rfl (ob_load rfl tk9 (.tmp rfl) (.head _) (lg_api_Box_Body x6))))) (opsS_cons (.guarded _ (Av.new (j := 11) rfl rfl rfl (Av.new (j := 13) rfl rfl rfl Av.nil)) rfl rfl rfl rfl (fun hb => (Ob.uncond (t := 133) hb rfl (ob_lenStr rfl Try.underlying9 (.tmp rfl))))) (opsS_cons (.guarded _ (Av.new (j := 11) rfl rfl rfl (Av.new (j := 14) rfl rfl rfl Av.nil)) rfl rfl rfl rfl (fun hb => (Ob.uncond (t := 134) hb rfl (ob_gtr rfl (.tmp rfl) (opd_int rfl))))) (opsS_cons (.plain _ (Av.new (j := 11) rfl rfl rfl (Av.new (j := 15) rfl rfl rfl Av.nil)) rfl rfl ((ob_or2 rfl (.tmp rfl) opd_bool (.tmp rfl)).nm e_x8)) (opsS_cons (.plain _ (Av.new (j := 16) rfl rfl rfl Av.nil) rfl rfl (ob_move rfl (.tmp rfl))) (opsS_cons (.guarded _ (Av.old (t := 6) rfl rfl (Av.new (j := 17) rfl rfl rfl Av.nil)) rfl rfl rfl rfl (fun hb => ob_move rfl (.tmp rfl))) (opsS_cons (.guarded _ (Av.new (j := 17) rfl rfl rfl (Av.new (j := 18) rfl rfl rfl Av.nil)) rfl rfl rfl rfl (fun hb => (Ob.uncond (t := 138) hb rfl (ob_gtr rfl (.tmp rfl) (opd_int rfl))))) (opsS_cons (.guarded _ (Av.new (j := 17) rfl rfl rfl (Av.new (j := 19) rfl rfl rfl Av.nil)) rfl rfl rfl rfl (fun hb => (Ob.uncond (t := 139) hb rfl (ob_move rfl (.tmp rfl))))) (opsS_cons (.guarded2 _ (Av.old (t := 1) rfl rfl (Av.new (j := 20) rfl rfl rfl Av.nil)) rfl rfl rfl rfl (fun hb => ob_fieldAddr (off' := 70) rfl Try.underlying44 rfl sz42 (by decide) (.tmp rfl) rfl)) (opsS_cons (.guarded2 _ (Av.new (j := 20) rfl rfl rfl (Av.new (j := 21) rfl rfl rfl Av.nil)) rfl rfl rfl rfl (fun hb => (Ob.uncond (t := 141) hb rfl (ob_load rfl tk42 (.tmp rfl) (.tail _ (.head _)) (lg_api_Op_Boxes p1))))) (opsS_cons (.guarded2 _ (Av.old (t := 6) rfl rfl (Av.new (j := 20) rfl rfl rfl Av.nil)) rfl rfl rfl rfl (fun hb => ob_move rfl (.tmp rfl))) (opsS_cons (.guarded2 _ (Av.new (j := 20) rfl rfl rfl (Av.new (j := 23) rfl rfl rfl Av.nil)) rfl rfl rfl rfl (fun hb => (Ob.uncond (t := 143) hb rfl (ob_sub rfl (.tmp rfl) (opd_int rfl))))) (opsS_cons (.guarded2 _ (Av.new (j := 20) rfl rfl rfl (Av.new (j := 22) rfl rfl rfl (Av.new (j := 24) rfl rfl rfl Av.nil))) rfl rfl rfl rfl (fun hb => (Ob.uncond (t := 144) hb rfl ((Ob.uncond (t := 142) hb rfl (ob_indexAddrs rfl Try.underlying42 sz78 (.tmp rfl) (.tmp rfl) (ite_t hb e_x9))))))) (opsS_cons (.guarded2 _ (Av.new (j := 20) rfl rfl rfl (Av.new (j := 25) rfl rfl rfl Av.nil)) rfl rfl rfl rfl (fun hb => (Ob.uncond (t := 145) hb rfl (ob_fieldAddrr rfl Try.underlying78 rfl sz3 (by decide) (.tmp rfl) (lg_api_Box_To x9))))) (opsS_cons (.guarded2 _ (Av.new (j := 20) rfl rfl rfl (Av.new (j := 26) rfl rfl rfl Av.nil)) rfl rfl rfl rfl (fun hb => (Ob.uncond (t := 146) hb rfl (ob_loadr rfl tk3 (.tmp rfl))))) (opsS_cons (.guarded2 _ (Av.old (t := 7) rfl rfl (Av.new (j := 20) rfl rfl rfl Av.nil)) rfl rfl rfl rfl (fun hb => ob_fieldAddr (off' := 0) rfl Try.underlying78 rfl sz3 (by decide) (.tmp rfl) rfl)) (opsS_cons (.guarded2 _ (Av.new (j := 20) rfl rfl rfl (Av.new (j := 28) rfl rfl rfl Av.nil)) rfl rfl rfl rfl (fun hb => (Ob.uncond (t := 148) hb rfl (ob_load rfl tk3 (.tmp rfl) (.head _) (lg_api_Box_To x6))))) opsS_nil)))))))))))))))))))))))))))))) (out_old (t := 1) rfl rfl (out_old (t := 4) rfl rfl (out_old (t := 6) rfl rfl (out_new (i := 17) (by decide) rfl rfl (out_new (i := 20) (by decide) rfl rfl (out_new (i := 27) (by decide) rfl rfl (out_new (i := 29) (by decide) rfl rfl out_nil))))))) fun a80 w80 s80 => ?_
          refine seq_opg2 s80 rfl rfl rfl rfl (of_decide_eq_true rfl) (fun hb => (Ob.uncond (t := 149) hb rfl ((Ob.uncond (t := 147) hb rfl (ob_geq rfl (.tmp rfl) (.tmp rfl)))))) fun a81 w81 s81 => ?_; clear s80
          obtain ⟨x10, e_x10, h18⟩ := bind_some h17; clear h17; replace e_x10 := Option.some.inj e_x10
          refine seq_opg s81 rfl rfl rfl rfl (of_decide_eq_true rfl) (fun hb => (Ob.uncond (t := 140) hb rfl ((ob_and3 hb rfl (.tmp rfl) (.tmp rfl) opd_bool).nm e_x10))) fun a82 w82 s82 => ?_; clear s81
          refine seq_op s82 rfl rfl (of_decide_eq_true rfl) (ob_or2 rfl (.tmp rfl) opd_bool (.tmp rfl)) fun a83 w83 s83 => ?_; clear s82
          refine wpList_nil ?_
          refine then_normal ?_
          refine hK18 _ _ ?_
          have s84 := s83.sub (.cons (t := 1) rfl (.cons (t := 4) rfl (.cons (t := 6) rfl (.cons (t := 152) rfl .nil)))); clear s83
          have s85 := St.drop (A := []) s84; clear s84
          refine cond_split s85 (.tmp rfl) (fun hc3 => ?_) (fun hc3 => ?_)
          · replace h18 := ite_t hc3 h18
            have h19 := h18; clear h18
            refine wp_seq_k fun K19 hK19 => ?_
            refine wp_region_lit ?_
            refine seq_op s85 rfl rfl (of_decide_eq_true rfl) (ob_assign rfl opd_bool) fun a86 w86 s86 => ?_; clear s85
            refine wpList_nil ?_
            refine then_normal ?_
            refine hK19 _ _ ?_
            have s87 := s86.sub (.cons (t := 2) rfl .nil); clear s86
            have s88 := St.drop (A := []) s87; clear s87
            refine wp_ret ?_
            obtain rfl := Option.some.inj h19
            exact leave s88 (.inl rfl) rfl (.cons (.tmp rfl) .nil)
          · replace h18 := ite_f hc3 h18
            have h20 := h18; clear h18
            refine wp_skip ?_
            refine in_normal ?_
            refine then_normal ?_
            refine hK16 _ _ ?_
            have s89 := s85.sub (.cons (t := 1) rfl (.cons (t := 4) rfl (.cons (t := 6) rfl .nil))); clear s85
            refine wp_region_lit ?_
            refine seq_op s89 rfl rfl (of_decide_eq_true rfl) (ob_move rfl (.tmp rfl)) fun a90 w90 s90 => ?_; clear s89
            refine seq_op s90 rfl rfl (of_decide_eq_true rfl) (ob_add rfl (.tmp rfl) (opd_int rfl)) fun a91 w91 s91 => ?_; clear s90
            refine seq_op s91 rfl rfl (of_decide_eq_true rfl) (ob_assign rfl (.tmp rfl)) fun a92 w92 s92 => ?_; clear s91
            refine wpList_nil ?_
            refine then_normal ?_
            exact hK13 (iadd .i64 y2 (1 : Int)) _ _ h20 (s92.sub (.cons rfl (.cons rfl (.cons rfl .nil))))
        · replace h12 := ite_f hc2 h12
          have h21 := h12; clear h12
          refine wp_exit ?_
          refine (then_exit (then_exit (in_here ?_)))
          refine then_normal ?_
          exact hj3 _ _ h21 (s70.sub (.cons rfl (.cons rfl .nil)))
      refine wp_block ?_
      refine wp_loop_fuel (fun m (q : Bool × Int) => cabalref11_Right.l2 k p1 m q.1 q.2) r (fun _ => rfl) (fun q a w => St ⟨156, w0, ok, []⟩ [BF b1 44 k_api_Op p1] [(1, (ptrB b1 0)), (4, (kbool.V q.1)), (5, ((kint .i64).V q.2))] a w) ?_ k (false, (0 : Int)) _ _ h7 (s53.sub (.cons rfl (.cons rfl (.cons rfl .nil))))
      rintro n2 ⟨y3, y4⟩ a93 w93 h22 s93 K20 hK20
      replace h22 : cabalref11_Right.l2 k p1 (n2 + 1) y3 y4 = some r := h22; rw [cabalref11_Right.l2] at h22
      have h23 := h22; clear h22
      refine wp_seq_k fun K21 hK21 => ?_
      refine wp_seq_k fun K22 hK22 => ?_
      refine wp_region_lit ?_
      refine seq_op s93 rfl rfl (of_decide_eq_true rfl) (ob_move rfl (.tmp rfl)) fun a94 w94 s94 => ?_; clear s93
      refine seq_op s94 rfl rfl (of_decide_eq_true rfl) (ob_fieldAddr (off' := 4) rfl Try.underlying44 rfl sz41 (by decide) (.tmp rfl) rfl) fun a95 w95 s95 => ?_; clear s94
      refine seq_op s95 rfl rfl (of_decide_eq_true rfl) (ob_load rfl tk41 (.tmp rfl) (.head _) (lg_api_Op_Who p1)) fun a96 w96 s96 => ?_; clear s95
      refine seq_op s96 rfl rfl (of_decide_eq_true rfl) (ob_lens rfl Try.underlying41 (.tmp rfl)) fun a97 w97 s97 => ?_; clear s96
      refine seq_op s97 rfl rfl (of_decide_eq_true rfl) (ob_lss rfl (.tmp rfl) (.tmp rfl)) fun a98 w98 s98 => ?_; clear s97
      refine wpList_nil ?_
      refine then_normal ?_
      refine hK22 _ _ ?_
      have s99 := s98.sub (.cons (t := 1) rfl (.cons (t := 4) rfl (.cons (t := 5) rfl (.cons (t := 69) rfl .nil)))); clear s98
      refine cond_split s99 (.tmp rfl) (fun hc4 => ?_) (fun hc4 => ?_)
      · replace h23 := ite_t hc4 h23
        have h24 := h23; clear h23
        refine wp_skip ?_
        refine then_normal ?_
        refine hK21 _ _ ?_
        have s100 := s99.sub (.cons (t := 1) rfl (.cons (t := 4) rfl (.cons (t := 5) rfl .nil))); clear s99
        refine wp_seq_k fun K23 hK23 => ?_
        refine wp_block ?_
        refine wp_seq_k fun K24 hK24 => ?_
        refine wp_seq_k fun K25 hK25 => ?_
        obtain ⟨x11, e_x11, h25⟩ := bind_some h24; clear h24
        obtain ⟨x12, e_x12, h26⟩ := bind_some h25; clear h25
        obtain ⟨x13, e_x13, h27⟩ := bind_some h26; clear h26
        obtain ⟨x14, e_x14, h28⟩ := bind_some h27; clear h27
        refine wp_goes (Fs := [(ptrB b1 4), ((ksl (kint .i64)).V p1.Who), ((kint .i64).V y4), (ptrTo (kint .i64) x11), ((kint .i64).V x11), (kbool.V x12), (kbool.V (!x12)), (kbool.V (!x12)), (Fact.when ((!x12) == false) ((kint .i64).V y4)), (Fact.when ((!x12) == false) (kbool.V (decide (y4 > (0 : Int))))), (Fact.when ((!x12) == false) (kbool.V (decide (y4 > (0 : Int))))), (Fact.when (((!x12) == false) && ((decide (y4 > (0 : Int))) == true)) (ptrB b1 4)), (Fact.when (((!x12) == false) && ((decide (y4 > (0 : Int))) == true)) ((ksl (kint .i64)).V p1.Who)), (Fact.when (((!x12) == false) && ((decide (y4 > (0 : Int))) == true)) ((kint .i64).V y4)), (Fact.when (((!x12) == false) && ((decide (y4 > (0 : Int))) == true)) ((kint .i64).V (isub .i64 y4 (1 : Int)))), (Fact.when (((!x12) == false) && ((decide (y4 > (0 : Int))) == true)) (ptrTo (kint .i64) x13)), (Fact.when (((!x12) == false) && ((decide (y4 > (0 : Int))) == true)) ((kint .i64).V x13)), (Fact.when (((!x12) == false) && ((decide (y4 > (0 : Int))) == true)) (ptrB b1 4)), (Fact.when (((!x12) == false) && ((decide (y4 > (0 : Int))) == true)) ((ksl (kint .i64)).V p1.Who)), (Fact.when (((!x12) == false) && ((decide (y4 > (0 : Int))) == true)) ((kint .i64).V y4)), (Fact.when (((!x12) == false) && ((decide (y4 > (0 : Int))) == true)) (ptrTo (kint .i64) x14)), (Fact.when (((!x12) == false) && ((decide (y4 > (0 : Int))) == true)) ((kint .i64).V x14))]) (bits := [0, 1, 0, 7, 15, 31, 63, 127, 255, 511, 1023, 2047, 4095, 2047, 10239, 32767, 65535, 2047, 133119, 2047, 919551, 1968127, 4194303, 8388607, 16777215]) (m := 22) (todo := 0) mx s100 ?_; clear s100
        refine goes_last (by kernel_rfl) rfl (opsS_cons (.plain _ (Av.old (t := 1) rfl rfl Av.nil) rfl rfl (ob_fieldAddr (off' := 4) rfl Try.underlying44 rfl sz41 (by decide) (.tmp rfl) rfl)) (opsS_cons (.plain _ (Av.new (j := 0) rfl rfl rfl Av.nil) rfl rfl (ob_load rfl tk41 (.tmp rfl) (.head _) (lg_api_Op_Who p1))) (opsS_cons (.plain _ (Av.old (t := 5) rfl rfl Av.nil) rfl rfl (ob_move rfl (.tmp rfl))) (opsS_cons (.plain _ (Av.new (j := 1) rfl rfl rfl (Av.new (j := 2) rfl rfl rfl Av.nil)) rfl rfl (ob_indexAddrs rfl Try.underlying41 sz3 (.tmp rfl) (.tmp rfl) e_x11)) (opsS_cons (.plain _ (Av.new (j := 3) rfl rfl rfl Av.nil) rfl rfl (ob_loadr rfl tk3 (.tmp rfl))) (opsS_cons (.plain _ (Av.new (j := 4) rfl rfl rfl Av.nil) rfl rfl (ob_callD (args := [_]) rfl .direct hb129 (fun a w s fs gs hf hg => by obtain rfl := hf.unnil; obtain rfl := hg.unnil; exact c_cabalref11_Member k _ _ e_x12 _ _ _ (s.arg (.tmp rfl))))) (opsS_cons (.plain _ (Av.new (j := 5) rfl rfl rfl Av.nil) rfl rfl (ob_not rfl (.tmp rfl))) (opsS_cons (.plain _ (Av.new (j := 6) rfl rfl rfl Av.nil) rfl rfl (ob_move rfl (.tmp rfl))) (opsS_cons (.guarded _ (Av.old (t := 5) rfl rfl (Av.new (j := 7) rfl rfl rfl Av.nil)) rfl rfl rfl rfl (fun hb => ob_move rfl (.tmp rfl))) (opsS_cons (.guarded _ (Av.new (j := 7) rfl rfl rfl (Av.new (j := 8) rfl rfl rfl Av.nil)) rfl rfl rfl rfl (fun hb => (Ob.uncond (t := 80) hb rfl (ob_gtr rfl (.tmp rfl) (opd_int rfl))))) (opsS_cons (.guarded _ (Av.new (j := 7) rfl rfl rfl (Av.new (j := 9) rfl rfl rfl Av.nil)) rfl rfl rfl rfl (fun hb => (Ob.uncond (t := 81) hb rfl (ob_move rfl (.tmp rfl))))) (opsS_cons (.guarded2 _ (Av.old (t := 1) rfl rfl (Av.new (j := 10) rfl rfl rfl Av.nil)) rfl rfl rfl rfl (fun hb => ob_fieldAddr (off' := 4) rfl Try.underlying44 rfl sz41 (by decide) (.tmp rfl) rfl)) (opsS_cons (.guarded2 _ (Av.new (j := 10) rfl rfl rfl (Av.new (j := 11) rfl rfl rfl Av.nil)) rfl rfl rfl rfl (fun hb => (Ob.uncond (t := 83) hb rfl (ob_load rfl tk41 (.tmp rfl) (.head _) (lg_api_Op_Who p1))))) (opsS_cons (.guarded2 _ (Av.old (t := 5) rfl rfl (Av.new (j := 10) rfl rfl rfl Av.nil)) rfl rfl rfl rfl (fun hb => ob_move rfl (.tmp rfl))) (opsS_cons (.guarded2 _ (Av.new (j := 10) rfl rfl rfl (Av.new (j := 13) rfl rfl rfl Av.nil)) rfl rfl rfl rfl (fun hb => (Ob.uncond (t := 85) hb rfl (ob_sub rfl (.tmp rfl) (opd_int rfl))))) (opsS_cons (.guarded2 _ (Av.new (j := 10) rfl rfl rfl (Av.new (j := 12) rfl rfl rfl (Av.new (j := 14) rfl rfl rfl Av.nil))) rfl rfl rfl rfl (fun hb => (Ob.uncond (t := 86) hb rfl ((Ob.uncond (t := 84) hb rfl (ob_indexAddrs rfl Try.underlying41 sz3 (.tmp rfl) (.tmp rfl) (ite_t hb e_x13))))))) (opsS_cons (.guarded2 _ (Av.new (j := 10) rfl rfl rfl (Av.new (j := 15) rfl rfl rfl Av.nil)) rfl rfl rfl rfl (fun hb => (Ob.uncond (t := 87) hb rfl (ob_loadr rfl tk3 (.tmp rfl))))) (opsS_cons (.guarded2 _ (Av.old (t := 1) rfl rfl (Av.new (j := 10) rfl rfl rfl Av.nil)) rfl rfl rfl rfl (fun hb => ob_fieldAddr (off' := 4) rfl Try.underlying44 rfl sz41 (by decide) (.tmp rfl) rfl)) (opsS_cons (.guarded2 _ (Av.new (j := 10) rfl rfl rfl (Av.new (j := 17) rfl rfl rfl Av.nil)) rfl rfl rfl rfl (fun hb => (Ob.uncond (t := 89) hb rfl (ob_load rfl tk41 (.tmp rfl) (.head _) (lg_api_Op_Who p1))))) (opsS_cons (.guarded2 _ (Av.old (t := 5) rfl rfl (Av.new (j := 10) rfl rfl rfl Av.nil)) rfl rfl rfl rfl (fun hb => ob_move rfl (.tmp rfl))) (opsS_cons (.guarded2 _ (Av.new (j := 10) rfl rfl rfl (Av.new (j := 18) rfl rfl rfl (Av.new (j := 19) rfl rfl rfl Av.nil))) rfl rfl rfl rfl (fun hb => (Ob.uncond (t := 91) hb rfl ((Ob.uncond (t := 90) hb rfl (ob_indexAddrs rfl Try.underlying41 sz3 (.tmp rfl) (.tmp rfl) (ite_t hb e_x14))))))) (opsS_cons (.guarded2 _ (Av.new (j := 10) rfl rfl rfl (Av.new (j := 20) rfl rfl rfl Av.nil)) rfl rfl rfl rfl (fun hb => (Ob.uncond (t := 92) hb rfl (ob_loadr rfl tk3 (.tmp rfl))))) opsS_nil)))))))))))))))))))))) (out_old (t := 1) rfl rfl (out_old (t := 4) rfl rfl (out_old (t := 5) rfl rfl (out_new (i := 7) (by decide) rfl rfl (out_new (i := 10) (by decide) rfl rfl (out_new (i := 16) (by decide) rfl rfl (out_new (i := 21) (by decide) rfl rfl out_nil))))))) fun a101 w101 s101 => ?_
        refine seq_opg2 s101 rfl rfl rfl rfl (of_decide_eq_true rfl) (fun hb => (Ob.uncond (t := 93) hb rfl ((Ob.uncond (t := 88) hb rfl (ob_geq rfl (.tmp rfl) (.tmp rfl)))))) fun a102 w102 s102 => ?_; clear s101
        refine seq_opg s102 rfl rfl rfl rfl (of_decide_eq_true rfl) (fun hb => (Ob.uncond (t := 82) hb rfl (ob_and3 hb rfl (.tmp rfl) (.tmp rfl) opd_bool))) fun a103 w103 s103 => ?_; clear s102
        obtain ⟨x15, e_x15, h29⟩ := bind_some h28; clear h28; replace e_x15 := Option.some.inj e_x15
        refine seq_op s103 rfl rfl (of_decide_eq_true rfl) ((ob_or2 rfl (.tmp rfl) opd_bool (.tmp rfl)).nm e_x15) fun a104 w104 s104 => ?_; clear s103
        refine wpList_nil ?_
        refine then_normal ?_
        refine hK25 _ _ ?_
        have s105 := s104.sub (.cons (t := 1) rfl (.cons (t := 4) rfl (.cons (t := 5) rfl (.cons (t := 96) rfl .nil)))); clear s104
        refine cond_split s105 (.tmp rfl) (fun hc5 => ?_) (fun hc5 => ?_)
        · replace h29 := ite_t hc5 h29
          have h30 := h29; clear h29
          refine wp_seq_k fun K26 hK26 => ?_
          refine wp_region_lit ?_
          refine seq_op s105 rfl rfl (of_decide_eq_true rfl) (ob_assign rfl opd_bool) fun a106 w106 s106 => ?_; clear s105
          refine wpList_nil ?_
          refine then_normal ?_
          refine hK26 _ _ ?_
          have s107 := s106.sub (.cons (t := 2) rfl .nil); clear s106
          have s108 := St.drop (A := []) s107; clear s107
          refine wp_ret ?_
          obtain rfl := Option.some.inj h30
          exact leave s108 (.inl rfl) rfl (.cons (.tmp rfl) .nil)
        · replace h29 := ite_f hc5 h29
          have h31 := h29; clear h29
          refine wp_skip ?_
          refine then_normal ?_
          refine hK24 _ _ ?_
          have s109 := s105.sub (.cons (t := 1) rfl (.cons (t := 4) rfl (.cons (t := 5) rfl .nil))); clear s105
          obtain ⟨x16, e_x16, h32⟩ := bind_some h31; clear h31
          refine wp_goes (Fs := [(kbool.V y3), (kbool.V y3), (Fact.when (y3 == false) (ptrB b1 4)), (Fact.when (y3 == false) ((ksl (kint .i64)).V p1.Who)), (Fact.when (y3 == false) ((kint .i64).V y4)), (Fact.when (y3 == false) (ptrTo (kint .i64) x16)), (Fact.when (y3 == false) ((kint .i64).V x16)), (Fact.when (y3 == false) (ptrB b1 0)), (Fact.when (y3 == false) ((kint .i64).V p1.Author))]) (bits := [0, 1, 3, 7, 3, 31, 63, 3, 131, 511, 1023, 2047]) (m := 9) (todo := 0) mx s109 ?_; clear s109
          refine goes_last (by kernel_rfl) rfl (opsS_cons (.plain _ (Av.old (t := 4) rfl rfl Av.nil) rfl rfl (ob_move rfl (.tmp rfl))) (opsS_cons (.plain _ (Av.new (j := 0) rfl rfl rfl Av.nil) rfl rfl (ob_move rfl (.tmp rfl))) (opsS_cons (.guarded _ (Av.old (t := 1) rfl rfl (Av.new (j := 1) rfl rfl rfl Av.nil)) rfl rfl rfl rfl (fun hb => ob_fieldAddr (off' := 4) rfl Try.underlying44 rfl sz41 (by decide) (.tmp rfl) rfl)) (opsS_cons (.guarded _ (Av.new (j := 1) rfl rfl rfl (Av.new (j := 2) rfl rfl rfl Av.nil)) rfl rfl rfl rfl (fun hb => (Ob.uncond (t := 99) hb rfl (ob_load rfl tk41 (.tmp rfl) (.head _) (lg_api_Op_Who p1))))) (opsS_cons (.guarded _ (Av.old (t := 5) rfl rfl (Av.new (j := 1) rfl rfl rfl Av.nil)) rfl rfl rfl rfl (fun hb => ob_move rfl (.tmp rfl))) (opsS_cons (.guarded _ (Av.new (j := 1) rfl rfl rfl (Av.new (j := 3) rfl rfl rfl (Av.new (j := 4) rfl rfl rfl Av.nil))) rfl rfl rfl rfl (fun hb => (Ob.uncond (t := 101) hb rfl ((Ob.uncond (t := 100) hb rfl (ob_indexAddrs rfl Try.underlying41 sz3 (.tmp rfl) (.tmp rfl) (ite_t hb e_x16))))))) (opsS_cons (.guarded _ (Av.new (j := 1) rfl rfl rfl (Av.new (j := 5) rfl rfl rfl Av.nil)) rfl rfl rfl rfl (fun hb => (Ob.uncond (t := 102) hb rfl (ob_loadr rfl tk3 (.tmp rfl))))) (opsS_cons (.guarded _ (Av.old (t := 1) rfl rfl (Av.new (j := 1) rfl rfl rfl Av.nil)) rfl rfl rfl rfl (fun hb => ob_fieldAddr (off' := 0) rfl Try.underlying44 rfl sz3 (by decide) (.tmp rfl) rfl)) (opsS_cons (.guarded _ (Av.new (j := 1) rfl rfl rfl (Av.new (j := 7) rfl rfl rfl Av.nil)) rfl rfl rfl rfl (fun hb => (Ob.uncond (t := 104) hb rfl (ob_load rfl tk3 (.tmp rfl) (.head _) (lg_api_Op_Author p1))))) opsS_nil))))))))) (out_old (t := 1) rfl rfl (out_old (t := 4) rfl rfl (out_old (t := 5) rfl rfl (out_new (i := 1) (by decide) rfl rfl (out_new (i := 6) (by decide) rfl rfl (out_new (i := 8) (by decide) rfl rfl out_nil)))))) fun a110 w110 s110 => ?_
          refine seq_opg s110 rfl rfl rfl rfl (of_decide_eq_true rfl) (fun hb => (Ob.uncond (t := 105) hb rfl ((Ob.uncond (t := 103) hb rfl (ob_eql rfl (.tmp rfl) (.tmp rfl)))))) fun a111 w111 s111 => ?_; clear s110
          refine seq_op s111 rfl rfl (of_decide_eq_true rfl) (ob_or2 rfl (.tmp rfl) opd_bool (.tmp rfl)) fun a112 w112 s112 => ?_; clear s111
          refine seq_op s112 rfl rfl (of_decide_eq_true rfl) (ob_assign rfl (.tmp rfl)) fun a113 w113 s113 => ?_; clear s112
          refine wpList_nil ?_
          refine in_normal ?_
          refine then_normal ?_
          refine hK23 _ _ ?_
          have s114 := s113.sub (.cons (t := 1) rfl (.cons (t := 4) rfl (.cons (t := 5) rfl .nil))); clear s113
          refine wp_region_lit ?_
          refine seq_op s114 rfl rfl (of_decide_eq_true rfl) (ob_move rfl (.tmp rfl)) fun a115 w115 s115 => ?_; clear s114
          refine seq_op s115 rfl rfl (of_decide_eq_true rfl) (ob_add rfl (.tmp rfl) (opd_int rfl)) fun a116 w116 s116 => ?_; clear s115
          refine seq_op s116 rfl rfl (of_decide_eq_true rfl) (ob_assign rfl (.tmp rfl)) fun a117 w117 s117 => ?_; clear s116
          refine wpList_nil ?_
          refine then_normal ?_
          exact hK20 ((if y3 then true else (x16 == p1.Author)), (iadd .i64 y4 (1 : Int))) _ _ h32 (s117.sub (.cons rfl (.cons rfl (.cons rfl .nil))))
      · replace h23 := ite_f hc4 h23
        have h33 := h23; clear h23
        refine wp_exit ?_
        refine (then_exit (then_exit (in_here ?_)))
        refine then_normal ?_
        exact hj2 y3 _ _ h33 (s99.sub (.cons rfl (.cons rfl .nil)))
    refine wp_block ?_
    refine wp_loop_fuel (fun m (q : Int) => cabalref11_Right.l3 k p1 m q) r (fun _ => rfl) (fun q a w => St ⟨156, w0, ok, []⟩ [BF b1 44 k_api_Op p1] [(1, (ptrB b1 0)), (3, ((kint .i64).V q))] a w) ?_ k (1 : Int) _ _ h6 (s48.sub (.cons rfl (.cons rfl .nil)))
    rintro n3 y5 a118 w118 h34 s118 K27 hK27
    replace h34 : cabalref11_Right.l3 k p1 (n3 + 1) y5 = some r := h34; rw [cabalref11_Right.l3] at h34
    have h35 := h34; clear h34
    refine wp_seq_k fun K28 hK28 => ?_
    refine wp_seq_k fun K29 hK29 => ?_
    refine wp_region_lit ?_
    refine seq_op s118 rfl rfl (of_decide_eq_true rfl) (ob_move rfl (.tmp rfl)) fun a119 w119 s119 => ?_; clear s118
    refine seq_op s119 rfl rfl (of_decide_eq_true rfl) (ob_fieldAddr (off' := 2) rfl Try.underlying44 rfl sz40 (by decide) (.tmp rfl) rfl) fun a120 w120 s120 => ?_; clear s119
    refine seq_op s120 rfl rfl (of_decide_eq_true rfl) (ob_load rfl tk40 (.tmp rfl) (.head _) (lg_api_Op_Parents p1)) fun a121 w121 s121 => ?_; clear s120
    refine seq_op s121 rfl rfl (of_decide_eq_true rfl) (ob_lens rfl Try.underlying40 (.tmp rfl)) fun a122 w122 s122 => ?_; clear s121
    refine seq_op s122 rfl rfl (of_decide_eq_true rfl) (ob_lss rfl (.tmp rfl) (.tmp rfl)) fun a123 w123 s123 => ?_; clear s122
    refine wpList_nil ?_
    refine then_normal ?_
    refine hK29 _ _ ?_
    have s124 := s123.sub (.cons (t := 1) rfl (.cons (t := 3) rfl (.cons (t := 49) rfl .nil))); clear s123
    refine cond_split s124 (.tmp rfl) (fun hc6 => ?_) (fun hc6 => ?_)
    · replace h35 := ite_t hc6 h35
      have h36 := h35; clear h35
      refine wp_skip ?_
      refine then_normal ?_
      refine hK28 _ _ ?_
      have s125 := s124.sub (.cons (t := 1) rfl (.cons (t := 3) rfl .nil)); clear s124
      refine wp_seq_k fun K30 hK30 => ?_
      refine wp_block ?_
      refine wp_seq_k fun K31 hK31 => ?_
      obtain ⟨x17, e_x17, h37⟩ := bind_some h36; clear h36
      obtain ⟨x18, e_x18, h38⟩ := bind_some h37; clear h37
      refine wp_goes (Fs := [(ptrB b1 2), ((ksl (karr 32 (kint .u8))).V p1.Parents), ((kint .i64).V y5), ((kint .i64).V (isub .i64 y5 (1 : Int))), (ptrTo (karr 32 (kint .u8)) x17), ((karr 32 (kint .u8)).V x17), (ptrB b1 2), ((ksl (karr 32 (kint .u8))).V p1.Parents), ((kint .i64).V y5), (ptrTo (karr 32 (kint .u8)) x18), ((karr 32 (kint .u8)).V x18)]) (bits := [0, 1, 0, 4, 15, 31, 0, 64, 0, 448, 960, 2047, 4095]) (m := 11) (todo := 0) mx s125 ?_; clear s125
      refine goes_last (by kernel_rfl) rfl (opsS_cons (.plain _ (Av.old (t := 1) rfl rfl Av.nil) rfl rfl (ob_fieldAddr (off' := 2) rfl Try.underlying44 rfl sz40 (by decide) (.tmp rfl) rfl)) (opsS_cons (.plain _ (Av.new (j := 0) rfl rfl rfl Av.nil) rfl rfl (ob_load rfl tk40 (.tmp rfl) (.head _) (lg_api_Op_Parents p1))) (opsS_cons (.plain _ (Av.old (t := 3) rfl rfl Av.nil) rfl rfl (ob_move rfl (.tmp rfl))) (opsS_cons (.plain _ (Av.new (j := 2) rfl rfl rfl Av.nil) rfl rfl (ob_sub rfl (.tmp rfl) (opd_int rfl))) (opsS_cons (.plain _ (Av.new (j := 1) rfl rfl rfl (Av.new (j := 3) rfl rfl rfl Av.nil)) rfl rfl (ob_indexAddrs rfl Try.underlying40 sz39 (.tmp rfl) (.tmp rfl) e_x17)) (opsS_cons (.plain _ (Av.new (j := 4) rfl rfl rfl Av.nil) rfl rfl (ob_loadr rfl tk39 (.tmp rfl))) (opsS_cons (.plain _ (Av.old (t := 1) rfl rfl Av.nil) rfl rfl (ob_fieldAddr (off' := 2) rfl Try.underlying44 rfl sz40 (by decide) (.tmp rfl) rfl)) (opsS_cons (.plain _ (Av.new (j := 6) rfl rfl rfl Av.nil) rfl rfl (ob_load rfl tk40 (.tmp rfl) (.head _) (lg_api_Op_Parents p1))) (opsS_cons (.plain _ (Av.old (t := 3) rfl rfl Av.nil) rfl rfl (ob_move rfl (.tmp rfl))) (opsS_cons (.plain _ (Av.new (j := 7) rfl rfl rfl (Av.new (j := 8) rfl rfl rfl Av.nil)) rfl rfl (ob_indexAddrs rfl Try.underlying40 sz39 (.tmp rfl) (.tmp rfl) e_x18)) (opsS_cons (.plain _ (Av.new (j := 9) rfl rfl rfl Av.nil) rfl rfl (ob_loadr rfl tk39 (.tmp rfl))) opsS_nil))))))))))) (out_old (t := 1) rfl rfl (out_old (t := 3) rfl rfl (out_new (i := 5) (by decide) rfl rfl (out_new (i := 10) (by decide) rfl rfl out_nil)))) fun a126 w126 s126 => ?_
      obtain ⟨x19, e_x19, h39⟩ := bind_some h38; clear h38
      refine seq_op s126 rfl rfl (of_decide_eq_true rfl) (ob_callD (args := [_, _]) rfl .direct hb108 (fun a w s fs gs hf hg => by obtain rfl := hf.unnil; obtain rfl := hg.unnil; exact c_cabalref11_Less k _ _ _ e_x19 _ _ _ _ (s.arg (.tmp rfl)) (s.arg (.tmp rfl)))) fun a127 w127 s127 => ?_; clear s126
      refine seq_op s127 rfl rfl (of_decide_eq_true rfl) (ob_not rfl (.tmp rfl)) fun a128 w128 s128 => ?_; clear s127
      refine wpList_nil ?_
      refine then_normal ?_
      refine hK31 _ _ ?_
      have s129 := s128.sub (.cons (t := 1) rfl (.cons (t := 3) rfl (.cons (t := 64) rfl .nil))); clear s128
      refine cond_split s129 (.tmp rfl) (fun hc7 => ?_) (fun hc7 => ?_)
      · replace h39 := ite_t hc7 h39
        have h40 := h39; clear h39
        refine wp_seq_k fun K32 hK32 => ?_
        refine wp_region_lit ?_
        refine seq_op s129 rfl rfl (of_decide_eq_true rfl) (ob_assign rfl opd_bool) fun a130 w130 s130 => ?_; clear s129
        refine wpList_nil ?_
        refine then_normal ?_
        refine hK32 _ _ ?_
        have s131 := s130.sub (.cons (t := 2) rfl .nil); clear s130
        have s132 := St.drop (A := []) s131; clear s131
        refine wp_ret ?_
        obtain rfl := Option.some.inj h40
        exact leave s132 (.inl rfl) rfl (.cons (.tmp rfl) .nil)
      · replace h39 := ite_f hc7 h39
        have h41 := h39; clear h39
        refine wp_skip ?_
        refine in_normal ?_
        refine then_normal ?_
        refine hK30 _ _ ?_
        have s133 := s129.sub (.cons (t := 1) rfl (.cons (t := 3) rfl .nil)); clear s129
        refine wp_region_lit ?_
        refine seq_op s133 rfl rfl (of_decide_eq_true rfl) (ob_move rfl (.tmp rfl)) fun a134 w134 s134 => ?_; clear s133
        refine seq_op s134 rfl rfl (of_decide_eq_true rfl) (ob_add rfl (.tmp rfl) (opd_int rfl)) fun a135 w135 s135 => ?_; clear s134
        refine seq_op s135 rfl rfl (of_decide_eq_true rfl) (ob_assign rfl (.tmp rfl)) fun a136 w136 s136 => ?_; clear s135
        refine wpList_nil ?_
        refine then_normal ?_
        exact hK27 (iadd .i64 y5 (1 : Int)) _ _ h41 (s136.sub (.cons rfl (.cons rfl .nil)))
    · replace h35 := ite_f hc6 h35
      have h42 := h35; clear h35
      refine wp_exit ?_
      refine (then_exit (then_exit (in_here ?_)))
      refine then_normal ?_
      exact hj1 _ _ h42 (s124.sub (.cons rfl .nil))

/- 86 cabal/cabalref15.turn -/
theorem c_cabalref15_turn (k : Nat) (p1 : (List api_Node)) (p2 : api_Op) (p3 : (List Int)) (r : Bool) (h0 : cabalref15_turn k p1 p2 p3 = some r) (ok : Ok) (w0 : World) (z0 : Value) (z1 : Value) (z2 : Value) (u0 : ((ksl k_api_Node).V p1).holds ok w0 z0) (u1 : (k_api_Op.V p2).holds ok w0 z1) (u2 : ((ksl (kint .i64)).V p3).holds ok w0 z2) :
    Gives Try.prog 86 [z0, z1, z2] ok w0 (resFact [kbool.V r]) := by
  unfold cabalref15_turn at h0
  refine enter (N := 42) Try.func86 rfl rfl (of_decide_eq_true rfl) (.cons u0 (.cons u1 (.cons u2 .nil))) fun a1 s1 => ?_
  refine wp_seq_k fun K1 hK1 => ?_
  refine wp_region_lit ?_
  refine seq_opx (B' := (fun b1 : Nat => [BF b1 44 k_api_Op p2])) s1 rfl rfl (of_decide_eq_true rfl) (ob_box rfl (.tmp rfl)) fun b1 a2 w2 s2 => ?_; clear s1
  refine seq_op s2 rfl rfl (of_decide_eq_true rfl) (ob_assign rfl opd_bool) fun a3 w3 s3 => ?_; clear s2
  refine wpList_nil ?_
  refine then_normal ?_
  refine hK1 _ _ ?_
  have s4 := s3.sub (.cons (t := 0) rfl (.cons (t := 2) rfl (.cons (t := 4) rfl .nil))); clear s3
  refine wp_seq_k fun K2 hK2 => ?_
  refine wp_seq_k fun K3 hK3 => ?_
  refine wp_region_lit ?_
  refine seq_op s4 rfl rfl (of_decide_eq_true rfl) (ob_fieldAddr (off' := 3) rfl Try.underlying44 rfl sz3 (by decide) (.tmp rfl) rfl) fun a5 w5 s5 => ?_; clear s4
  refine seq_op s5 rfl rfl (of_decide_eq_true rfl) (ob_load rfl tk3 (.tmp rfl) (.head _) (lg_api_Op_Kind p2)) fun a6 w6 s6 => ?_; clear s5
  refine seq_op s6 rfl rfl (of_decide_eq_true rfl) (ob_eql rfl (.tmp rfl) (opd_int rfl)) fun a7 w7 s7 => ?_; clear s6
  refine seq_op s7 rfl rfl (of_decide_eq_true rfl) (ob_move rfl (.tmp rfl)) fun a8 w8 s8 => ?_; clear s7
  refine seq_op s8 rfl rfl (of_decide_eq_true rfl) (ob_lens rfl Try.underlying22 (.tmp rfl)) fun a9 w9 s9 => ?_; clear s8
  refine seq_op s9 rfl rfl (of_decide_eq_true rfl) (ob_eql rfl (.tmp rfl) (opd_int rfl)) fun a10 w10 s10 => ?_; clear s9
  refine seq_op s10 rfl rfl (of_decide_eq_true rfl) (ob_bneq rfl Try.underlying4 (.tmp rfl) (.tmp rfl)) fun a11 w11 s11 => ?_; clear s10
  refine wpList_nil ?_
  refine then_normal ?_
  refine hK3 _ _ ?_
  have s12 := s11.sub (.cons (t := 0) rfl (.cons (t := 2) rfl (.cons (t := 4) rfl (.cons (t := 15) rfl .nil)))); clear s11
  refine cond_split s12 (.tmp rfl) (fun hc1 => ?_) (fun hc1 => ?_)
  · replace h0 := ite_t hc1 h0
    have h1 := h0; clear h0
    refine wp_seq_k fun K4 hK4 => ?_
    refine wp_region_lit ?_
    refine seq_op s12 rfl rfl (of_decide_eq_true rfl) (ob_assign rfl opd_bool) fun a13 w13 s13 => ?_; clear s12
    refine wpList_nil ?_
    refine then_normal ?_
    refine hK4 _ _ ?_
    have s14 := s13.sub (.cons (t := 6) rfl .nil); clear s13
    have s15 := St.drop (A := []) s14; clear s14
    refine wp_ret ?_
    obtain rfl := Option.some.inj h1
    exact leave s15 (.inl rfl) rfl (.cons (.tmp rfl) .nil)
  · replace h0 := ite_f hc1 h0
    have h2 := h0; clear h0
    refine wp_skip ?_
    refine then_normal ?_
    refine hK2 _ _ ?_
    have s16 := s12.sub (.cons (t := 0) rfl (.cons (t := 2) rfl (.cons (t := 4) rfl .nil))); clear s12
    refine wp_seq_k fun K5 hK5 => ?_
    refine wp_region_lit ?_
    refine seq_op s16 rfl rfl (of_decide_eq_true rfl) (ob_assign rfl (opd_int rfl)) fun a17 w17 s17 => ?_; clear s16
    refine wpList_nil ?_
    refine then_normal ?_
    refine hK5 _ _ ?_
    have s18 := s17.sub (.cons (t := 0) rfl (.cons (t := 2) rfl (.cons (t := 4) rfl (.cons (t := 7) rfl .nil)))); clear s17
    refine wp_seq_k fun K6 hK6 => ?_
    refine wp_seq_k fun K7 hK7 => ?_
    refine wp_region_lit ?_
    refine seq_op s18 rfl rfl (of_decide_eq_true rfl) (ob_assign rfl (opd_int rfl)) fun a19 w19 s19 => ?_; clear s18
    refine wpList_nil ?_
    refine then_normal ?_
    refine hK7 _ _ ?_
    have s20 := s19.sub (.cons (t := 0) rfl (.cons (t := 2) rfl (.cons (t := 4) rfl (.cons (t := 7) rfl (.cons (t := 8) rfl .nil))))); clear s19
    have hj1 : ∀ (y1 : Int) (a : Act) (w : World), (cabalref15_turn.j1 k p2) y1 = some r → St ⟨42, w0, ok, []⟩ [BF b1 44 k_api_Op p2] [(4, (ptrB b1 0)), (7, ((kint .u32).V y1))] a w → K6 a w := by
      intro y1 a21 w21 h3 s21
      unfold cabalref15_turn.j1 at h3
      refine hK6 _ _ ?_
      refine wp_seq_k fun K8 hK8 => ?_
      refine wp_region_lit ?_
      refine seq_op s21 rfl rfl (of_decide_eq_true rfl) (ob_fieldAddr (off' := 1) rfl Try.underlying44 rfl sz25 (by decide) (.tmp rfl) rfl) fun a22 w22 s22 => ?_; clear s21
      refine seq_op s22 rfl rfl (of_decide_eq_true rfl) (ob_load rfl tk25 (.tmp rfl) (.head _) (lg_api_Op_Seq p2)) fun a23 w23 s23 => ?_; clear s22
      refine seq_op s23 rfl rfl (of_decide_eq_true rfl) (ob_move rfl (.tmp rfl)) fun a24 w24 s24 => ?_; clear s23
      refine seq_op s24 rfl rfl (of_decide_eq_true rfl) (ob_add rfl (.tmp rfl) (opd_int rfl)) fun a25 w25 s25 => ?_; clear s24
      refine seq_op s25 rfl rfl (of_decide_eq_true rfl) (ob_eql rfl (.tmp rfl) (.tmp rfl)) fun a26 w26 s26 => ?_; clear s25
      refine seq_op s26 rfl rfl (of_decide_eq_true rfl) (ob_assign rfl (.tmp rfl)) fun a27 w27 s27 => ?_; clear s26
      refine wpList_nil ?_
      refine then_normal ?_
      refine hK8 _ _ ?_
      have s28 := s27.sub (.cons (t := 6) rfl .nil); clear s27
      have s29 := St.drop (A := []) s28; clear s28
      refine wp_ret ?_
      obtain rfl := Option.some.inj h3
      exact leave s29 (.inl rfl) rfl (.cons (.tmp rfl) .nil)
    refine wp_block ?_
    refine wp_loop_fuel (fun m (q : Int × Int) => cabalref15_turn.l1 k p1 p2 p3 m q.1 q.2) r (fun _ => rfl) (fun q a w => St ⟨42, w0, ok, []⟩ [BF b1 44 k_api_Op p2] [(0, ((ksl k_api_Node).V p1)), (2, ((ksl (kint .i64)).V p3)), (4, (ptrB b1 0)), (7, ((kint .u32).V q.1)), (8, ((kint .i64).V q.2))] a w) ?_ k ((0 : Int), (0 : Int)) _ _ h2 (s20.sub (.cons rfl (.cons rfl (.cons rfl (.cons rfl (.cons rfl .nil))))))
    rintro n1 ⟨y2, y3⟩ a30 w30 h4 s30 K9 hK9
    replace h4 : cabalref15_turn.l1 k p1 p2 p3 (n1 + 1) y2 y3 = some r := h4; rw [cabalref15_turn.l1] at h4
    have h5 := h4; clear h4
    refine wp_seq_k fun K10 hK10 => ?_
    refine wp_seq_k fun K11 hK11 => ?_
    refine wp_region_lit ?_
    refine seq_op s30 rfl rfl (of_decide_eq_true rfl) (ob_move rfl (.tmp rfl)) fun a31 w31 s31 => ?_; clear s30
    refine seq_op s31 rfl rfl (of_decide_eq_true rfl) (ob_move rfl (.tmp rfl)) fun a32 w32 s32 => ?_; clear s31
    refine seq_op s32 rfl rfl (of_decide_eq_true rfl) (ob_lens rfl Try.underlying22 (.tmp rfl)) fun a33 w33 s33 => ?_; clear s32
    refine seq_op s33 rfl rfl (of_decide_eq_true rfl) (ob_lss rfl (.tmp rfl) (.tmp rfl)) fun a34 w34 s34 => ?_; clear s33
    refine wpList_nil ?_
    refine then_normal ?_
    refine hK11 _ _ ?_
    have s35 := s34.sub (.cons (t := 0) rfl (.cons (t := 2) rfl (.cons (t := 4) rfl (.cons (t := 7) rfl (.cons (t := 8) rfl (.cons (t := 19) rfl .nil)))))); clear s34
    refine cond_split s35 (.tmp rfl) (fun hc2 => ?_) (fun hc2 => ?_)
    · replace h5 := ite_t hc2 h5
      have h6 := h5; clear h5
      refine wp_skip ?_
      refine then_normal ?_
      refine hK10 _ _ ?_
      have s36 := s35.sub (.cons (t := 0) rfl (.cons (t := 2) rfl (.cons (t := 4) rfl (.cons (t := 7) rfl (.cons (t := 8) rfl .nil))))); clear s35
      refine wp_seq_k fun K12 hK12 => ?_
      have hj2 : ∀ (y4 : Int) (a : Act) (w : World), (cabalref15_turn.j2 k y3 (cabalref15_turn.l1 k p1 p2 p3 n1)) y4 = some r → St ⟨42, w0, ok, []⟩ [BF b1 44 k_api_Op p2] [(0, ((ksl k_api_Node).V p1)), (2, ((ksl (kint .i64)).V p3)), (4, (ptrB b1 0)), (7, ((kint .u32).V y4)), (8, ((kint .i64).V y3))] a w → K12 a w := by
        intro y4 a37 w37 h7 s37
        unfold cabalref15_turn.j2 at h7
        refine hK12 _ _ ?_
        refine wp_region_lit ?_
        refine seq_op s37 rfl rfl (of_decide_eq_true rfl) (ob_move rfl (.tmp rfl)) fun a38 w38 s38 => ?_; clear s37
        refine seq_op s38 rfl rfl (of_decide_eq_true rfl) (ob_add rfl (.tmp rfl) (opd_int rfl)) fun a39 w39 s39 => ?_; clear s38
        refine seq_op s39 rfl rfl (of_decide_eq_true rfl) (ob_assign rfl (.tmp rfl)) fun a40 w40 s40 => ?_; clear s39
        refine wpList_nil ?_
        refine then_normal ?_
        exact hK9 (y4, (iadd .i64 y3 (1 : Int))) _ _ h7 (s40.sub (.cons rfl (.cons rfl (.cons rfl (.cons rfl (.cons rfl .nil))))))
      refine wp_block ?_
      refine wp_seq_k fun K13 hK13 => ?_
      obtain ⟨x1, e_x1, h8⟩ := bind_some h6; clear h6
      refine wp_goes (Fs := [((ksl k_api_Node).V p1), ((kint .i64).V y3), (ptrTo k_api_Node x1), (ptrTo k_api_Op x1.Op), (ptrTo (kint .i64) x1.Op.Author), ((kint .i64).V x1.Op.Author), (ptrB b1 0), ((kint .i64).V p2.Author)]) (bits := [0, 0, 3, 7, 15, 31, 0, 64, 255]) (m := 8) (todo := 0) mx s36 ?_; clear s36
      refine goes_last (by kernel_rfl) rfl (opsS_cons (.plain _ (Av.old (t := 0) rfl rfl Av.nil) rfl rfl (ob_move rfl (.tmp rfl))) (opsS_cons (.plain _ (Av.old (t := 8) rfl rfl Av.nil) rfl rfl (ob_move rfl (.tmp rfl))) (opsS_cons (.plain _ (Av.new (j := 0) rfl rfl rfl (Av.new (j := 1) rfl rfl rfl Av.nil)) rfl rfl (ob_indexAddrs rfl Try.underlying22 sz46 (.tmp rfl) (.tmp rfl) e_x1)) (opsS_cons (.plain _ (Av.new (j := 2) rfl rfl rfl Av.nil) rfl rfl (ob_fieldAddrr rfl Try.underlying46 rfl sz44 (by decide) (.tmp rfl) (lg_api_Node_Op x1))) (opsS_cons (.plain _ (Av.new (j := 3) rfl rfl rfl Av.nil) rfl rfl (ob_fieldAddrr rfl Try.underlying44 rfl sz3 (by decide) (.tmp rfl) (lg_api_Op_Author x1.Op))) (opsS_cons (.plain _ (Av.new (j := 4) rfl rfl rfl Av.nil) rfl rfl (ob_loadr rfl tk3 (.tmp rfl))) (opsS_cons (.plain _ (Av.old (t := 4) rfl rfl Av.nil) rfl rfl (ob_fieldAddr (off' := 0) rfl Try.underlying44 rfl sz3 (by decide) (.tmp rfl) rfl)) (opsS_cons (.plain _ (Av.new (j := 6) rfl rfl rfl Av.nil) rfl rfl (ob_load rfl tk3 (.tmp rfl) (.head _) (lg_api_Op_Author p2))) opsS_nil)))))))) (out_old (t := 0) rfl rfl (out_old (t := 2) rfl rfl (out_old (t := 4) rfl rfl (out_old (t := 7) rfl rfl (out_old (t := 8) rfl rfl (out_new (i := 5) (by decide) rfl rfl (out_new (i := 7) (by decide) rfl rfl out_nil))))))) fun a41 w41 s41 => ?_
      refine seq_op s41 rfl rfl (of_decide_eq_true rfl) (ob_eql rfl (.tmp rfl) (.tmp rfl)) fun a42 w42 s42 => ?_; clear s41
      refine wpList_nil ?_
      refine then_normal ?_
      refine hK13 _ _ ?_
      have s43 := s42.sub (.cons (t := 0) rfl (.cons (t := 2) rfl (.cons (t := 4) rfl (.cons (t := 7) rfl (.cons (t := 8) rfl (.cons (t := 30) rfl .nil)))))); clear s42
      refine cond_split s43 (.tmp rfl) (fun hc3 => ?_) (fun hc3 => ?_)
      · replace h8 := ite_t hc3 h8
        have h9 := h8; clear h8
        refine wp_seq_k fun K14 hK14 => ?_
        refine wp_seq_k fun K15 hK15 => ?_
        refine wp_region_lit ?_
        refine seq_op s43 rfl rfl (of_decide_eq_true rfl) (ob_move rfl (.tmp rfl)) fun a44 w44 s44 => ?_; clear s43
        refine seq_op s44 rfl rfl (of_decide_eq_true rfl) (ob_move rfl (.tmp rfl)) fun a45 w45 s45 => ?_; clear s44
        obtain ⟨x2, e_x2, h10⟩ := bind_some h9; clear h9
        refine seq_op s45 rfl rfl (of_decide_eq_true rfl) (ob_callD (args := [_, _]) rfl .direct hb44 (fun a w s fs gs hf hg => by obtain rfl := hf.unnil; obtain rfl := hg.unnil; exact c_cabalref15_In k _ _ _ e_x2 _ _ _ _ (s.arg (.tmp rfl)) (s.arg (.tmp rfl)))) fun a46 w46 s46 => ?_; clear s45
        refine seq_op s46 rfl rfl (of_decide_eq_true rfl) (ob_not rfl (.tmp rfl)) fun a47 w47 s47 => ?_; clear s46
        refine wpList_nil ?_
        refine then_normal ?_
        refine hK15 _ _ ?_
        have s48 := s47.sub (.cons (t := 0) rfl (.cons (t := 2) rfl (.cons (t := 4) rfl (.cons (t := 7) rfl (.cons (t := 8) rfl (.cons (t := 34) rfl .nil)))))); clear s47
        refine cond_split s48 (.tmp rfl) (fun hc4 => ?_) (fun hc4 => ?_)
        · replace h10 := ite_t hc4 h10
          have h11 := h10; clear h10
          refine wp_seq_k fun K16 hK16 => ?_
          refine wp_region_lit ?_
          refine seq_op s48 rfl rfl (of_decide_eq_true rfl) (ob_assign rfl opd_bool) fun a49 w49 s49 => ?_; clear s48
          refine wpList_nil ?_
          refine then_normal ?_
          refine hK16 _ _ ?_
          have s50 := s49.sub (.cons (t := 6) rfl .nil); clear s49
          have s51 := St.drop (A := []) s50; clear s50
          refine wp_ret ?_
          obtain rfl := Option.some.inj h11
          exact leave s51 (.inl rfl) rfl (.cons (.tmp rfl) .nil)
        · replace h10 := ite_f hc4 h10
          have h12 := h10; clear h10
          refine wp_skip ?_
          refine then_normal ?_
          refine hK14 _ _ ?_
          have s52 := s48.sub (.cons (t := 0) rfl (.cons (t := 2) rfl (.cons (t := 4) rfl (.cons (t := 7) rfl (.cons (t := 8) rfl (.cons (t := 34) rfl .nil)))))); clear s48
          refine wp_region_lit ?_
          refine seq_op s52 rfl rfl (of_decide_eq_true rfl) (ob_move rfl (.tmp rfl)) fun a53 w53 s53 => ?_; clear s52
          refine seq_op s53 rfl rfl (of_decide_eq_true rfl) (ob_add rfl (.tmp rfl) (opd_int rfl)) fun a54 w54 s54 => ?_; clear s53
          refine seq_op s54 rfl rfl (of_decide_eq_true rfl) (ob_assign rfl (.tmp rfl)) fun a55 w55 s55 => ?_; clear s54
          refine wpList_nil ?_
          refine in_normal ?_
          refine then_normal ?_
          exact hj2 (iadd .u32 y2 (1 : Int)) _ _ h12 (s55.sub (.cons rfl (.cons rfl (.cons rfl (.cons rfl (.cons rfl .nil))))))
      · replace h8 := ite_f hc3 h8
        have h13 := h8; clear h8
        refine wp_skip ?_
        refine in_normal ?_
        refine then_normal ?_
        exact hj2 y2 _ _ h13 (s43.sub (.cons rfl (.cons rfl (.cons rfl (.cons rfl (.cons rfl .nil))))))
    · replace h5 := ite_f hc2 h5
      have h14 := h5; clear h5
      refine wp_exit ?_
      refine (then_exit (then_exit (in_here ?_)))
      refine then_normal ?_
      exact hj1 y2 _ _ h14 (s35.sub (.cons rfl (.cons rfl .nil)))

/- 30 cabal/cabalref15.Right -/
theorem c_cabalref15_Right (k : Nat) (p1 : (List api_Node)) (r : Bool) (h0 : cabalref15_Right k p1 = some r) (ok : Ok) (w0 : World) (z0 : Value) (u0 : ((ksl k_api_Node).V p1).holds ok w0 z0) :
    Gives Try.prog 30 [z0] ok w0 (resFact [kbool.V r]) := by
  unfold cabalref15_Right at h0
  refine enter (N := 74) Try.func30 rfl rfl (of_decide_eq_true rfl) (.cons u0 .nil) fun a1 s1 => ?_
  refine wp_seq_k fun K1 hK1 => ?_
  refine wp_region_lit ?_
  refine seq_op s1 rfl rfl (of_decide_eq_true rfl) (ob_assign rfl opd_bool) fun a2 w2 s2 => ?_; clear s1
  refine wpList_nil ?_
  refine then_normal ?_
  refine hK1 _ _ ?_
  have s3 := s2.sub (.cons (t := 0) rfl .nil); clear s2
  refine wp_seq_k fun K2 hK2 => ?_
  refine wp_seq_k fun K3 hK3 => ?_
  refine wp_region_lit ?_
  refine seq_op s3 rfl rfl (of_decide_eq_true rfl) (ob_move rfl (.tmp rfl)) fun a4 w4 s4 => ?_; clear s3
  refine seq_op s4 rfl rfl (of_decide_eq_true rfl) (ob_lens rfl Try.underlying22 (.tmp rfl)) fun a5 w5 s5 => ?_; clear s4
  refine seq_op s5 rfl rfl (of_decide_eq_true rfl) (ob_gtr rfl (.tmp rfl) (opd_int rfl)) fun a6 w6 s6 => ?_; clear s5
  refine wpList_nil ?_
  refine then_normal ?_
  refine hK3 _ _ ?_
  have s7 := s6.sub (.cons (t := 0) rfl (.cons (t := 8) rfl .nil)); clear s6
  refine cond_split s7 (.tmp rfl) (fun hc1 => ?_) (fun hc1 => ?_)
  · replace h0 := ite_t hc1 h0
    have h1 := h0; clear h0
    refine wp_seq_k fun K4 hK4 => ?_
    refine wp_region_lit ?_
    refine seq_op s7 rfl rfl (of_decide_eq_true rfl) (ob_assign rfl opd_bool) fun a8 w8 s8 => ?_; clear s7
    refine wpList_nil ?_
    refine then_normal ?_
    refine hK4 _ _ ?_
    have s9 := s8.sub (.cons (t := 2) rfl .nil); clear s8
    refine wp_ret ?_
    obtain rfl := Option.some.inj h1
    exact leave s9 (.inl rfl) rfl (.cons (.tmp rfl) .nil)
  · replace h0 := ite_f hc1 h0
    have h2 := h0; clear h0
    refine wp_skip ?_
    refine then_normal ?_
    refine hK2 _ _ ?_
    have s10 := s7.sub (.cons (t := 0) rfl .nil); clear s7
    refine wp_seq_k fun K5 hK5 => ?_
    refine wp_seq_k fun K6 hK6 => ?_
    refine wp_region_lit ?_
    refine seq_op s10 rfl rfl (of_decide_eq_true rfl) (ob_assign rfl (opd_int rfl)) fun a11 w11 s11 => ?_; clear s10
    refine wpList_nil ?_
    refine then_normal ?_
    refine hK6 _ _ ?_
    have s12 := s11.sub (.cons (t := 0) rfl (.cons (t := 3) rfl .nil)); clear s11
    have hj1 : ∀ (a : Act) (w : World), (cabalref15_Right.j1 k) = some r → St ⟨74, w0, ok, []⟩ [] [] a w → K5 a w := by
      intro a13 w13 h3 s13
      unfold cabalref15_Right.j1 at h3
      refine hK5 _ _ ?_
      refine wp_seq_k fun K7 hK7 => ?_
      refine wp_region_lit ?_
      refine seq_op s13 rfl rfl (of_decide_eq_true rfl) (ob_assign rfl opd_bool) fun a14 w14 s14 => ?_; clear s13
      refine wpList_nil ?_
      refine then_normal ?_
      refine hK7 _ _ ?_
      have s15 := s14.sub (.cons (t := 2) rfl .nil); clear s14
      refine wp_ret ?_
      obtain rfl := Option.some.inj h3
      exact leave s15 (.inl rfl) rfl (.cons (.tmp rfl) .nil)
    refine wp_block ?_
    refine wp_loop_fuel (fun m (q : Int) => cabalref15_Right.l1 k p1 m q) r (fun _ => rfl) (fun q a w => St ⟨74, w0, ok, []⟩ [] [(0, ((ksl k_api_Node).V p1)), (3, ((kint .i64).V q))] a w) ?_ k (0 : Int) _ _ h2 (s12.sub (.cons rfl (.cons rfl .nil)))
    rintro n1 y1 a16 w16 h4 s16 K8 hK8
    replace h4 : cabalref15_Right.l1 k p1 (n1 + 1) y1 = some r := h4; rw [cabalref15_Right.l1] at h4
    have h5 := h4; clear h4
    refine wp_seq_k fun K9 hK9 => ?_
    refine wp_seq_k fun K10 hK10 => ?_
    refine wp_region_lit ?_
    refine seq_op s16 rfl rfl (of_decide_eq_true rfl) (ob_move rfl (.tmp rfl)) fun a17 w17 s17 => ?_; clear s16
    refine seq_op s17 rfl rfl (of_decide_eq_true rfl) (ob_move rfl (.tmp rfl)) fun a18 w18 s18 => ?_; clear s17
    refine seq_op s18 rfl rfl (of_decide_eq_true rfl) (ob_lens rfl Try.underlying22 (.tmp rfl)) fun a19 w19 s19 => ?_; clear s18
    refine seq_op s19 rfl rfl (of_decide_eq_true rfl) (ob_lss rfl (.tmp rfl) (.tmp rfl)) fun a20 w20 s20 => ?_; clear s19
    refine wpList_nil ?_
    refine then_normal ?_
    refine hK10 _ _ ?_
    have s21 := s20.sub (.cons (t := 0) rfl (.cons (t := 3) rfl (.cons (t := 12) rfl .nil))); clear s20
    refine cond_split s21 (.tmp rfl) (fun hc2 => ?_) (fun hc2 => ?_)
    · replace h5 := ite_t hc2 h5
      have h6 := h5; clear h5
      refine wp_skip ?_
      refine then_normal ?_
      refine hK9 _ _ ?_
      have s22 := s21.sub (.cons (t := 0) rfl (.cons (t := 3) rfl .nil)); clear s21
      refine wp_seq_k fun K11 hK11 => ?_
      refine wp_block ?_
      refine wp_seq_k fun K12 hK12 => ?_
      obtain ⟨x1, e_x1, h7⟩ := bind_some h6; clear h6
      obtain ⟨x2, e_x2, h8⟩ := bind_some h7; clear h7
      obtain ⟨x3, e_x3, h9⟩ := bind_some h8; clear h8
      refine wp_goes (Fs := [((ksl k_api_Node).V p1), ((kint .i64).V y1), ((ksl k_api_Node).V x1), ((ksl k_api_Node).V p1), ((kint .i64).V y1), (ptrTo k_api_Node x2), (ptrTo k_api_Op x2.Op), (ptrTo (ksl (karr 32 (kint .u8))) x2.Op.Parents), ((ksl (karr 32 (kint .u8))).V x2.Op.Parents), (tup [((ksl (kint .i64)).V x3.1), (kbool.V x3.2)]), (tup [((ksl (kint .i64)).V x3.1), (kbool.V x3.2)]), ((ksl (kint .i64)).V x3.1), (kbool.V x3.2), ((ksl (kint .i64)).V x3.1)]) (bits := [0, 0, 3, 0, 0, 24, 56, 120, 248, 511, 1023, 2047, 2047, 4095, 16383]) (m := 14) (todo := 0) mx s22 ?_; clear s22
      refine goes_last (by kernel_rfl) rfl (opsS_cons (.plain _ (Av.old (t := 0) rfl rfl Av.nil) rfl rfl (ob_move rfl (.tmp rfl))) (opsS_cons (.plain _ (Av.old (t := 3) rfl rfl Av.nil) rfl rfl (ob_move rfl (.tmp rfl))) (opsS_cons (.plain _ (Av.new (j := 0) rfl rfl rfl (Av.new (j := 1) rfl rfl rfl Av.nil)) rfl rfl (ob_cuts rfl Try.underlying22 sz46 (.tmp rfl) .none (.some (.tmp rfl)) e_x1)) (opsS_cons (.plain _ (Av.old (t := 0) rfl rfl Av.nil) rfl rfl (ob_move rfl (.tmp rfl))) (opsS_cons (.plain _ (Av.old (t := 3) rfl rfl Av.nil) rfl rfl (ob_move rfl (.tmp rfl))) (opsS_cons (.plain _ (Av.new (j := 3) rfl rfl rfl (Av.new (j := 4) rfl rfl rfl Av.nil)) rfl rfl (ob_indexAddrs rfl Try.underlying22 sz46 (.tmp rfl) (.tmp rfl) e_x2)) (opsS_cons (.plain _ (Av.new (j := 5) rfl rfl rfl Av.nil) rfl rfl (ob_fieldAddrr rfl Try.underlying46 rfl sz44 (by decide) (.tmp rfl) (lg_api_Node_Op x2))) (opsS_cons (.plain _ (Av.new (j := 6) rfl rfl rfl Av.nil) rfl rfl (ob_fieldAddrr rfl Try.underlying44 rfl sz40 (by decide) (.tmp rfl) (lg_api_Op_Parents x2.Op))) (opsS_cons (.plain _ (Av.new (j := 7) rfl rfl rfl Av.nil) rfl rfl (ob_loadr rfl tk40 (.tmp rfl))) (opsS_cons (.plain _ (Av.new (j := 2) rfl rfl rfl (Av.new (j := 8) rfl rfl rfl Av.nil)) rfl rfl ((ObF.ob (ob_callF (F := resFact [((ksl (kint .i64)).V x3.1), (kbool.V x3.2)]) (args := [_, _]) rfl .direct hb55 (fun a w s fs gs hf hg => by obtain rfl := hf.unnil; obtain rfl := hg.unnil; exact c_cabalref15_Past k _ _ _ e_x3 _ _ _ _ (s.arg (.tmp rfl)) (s.arg (.tmp rfl))) (by exact fun g => ResF.all (.row (.head _) (KFlat.int _) (.flat (Flat.V KFlat.bool) .nil))))))) (opsS_cons (.plain _ (Av.new (j := 9) rfl rfl rfl Av.nil) rfl rfl (ob_move rfl (.tmp rfl))) (opsS_cons (.plain _ (Av.new (j := 10) rfl rfl rfl Av.nil) rfl rfl (ob_extract rfl (.tmp rfl) rfl)) (opsS_cons (.plain _ (Av.new (j := 10) rfl rfl rfl Av.nil) rfl rfl (ob_extract rfl (.tmp rfl) rfl)) (opsS_cons (.plain _ (Av.new (j := 11) rfl rfl rfl Av.nil) rfl rfl (ob_assign rfl (.tmp rfl))) opsS_nil)))))))))))))) (out_old (t := 0) rfl rfl (out_old (t := 3) rfl rfl (out_new (i := 13) (by decide) rfl rfl (out_new (i := 12) (by decide) rfl rfl out_nil)))) fun a23 w23 s23 => ?_
      refine seq_op s23 rfl rfl (of_decide_eq_true rfl) (ob_assign rfl (.tmp rfl)) fun a24 w24 s24 => ?_; clear s23
      refine wpList_nil ?_
      refine then_normal ?_
      refine hK12 _ _ ?_
      have s25 := s24.sub (.cons (t := 0) rfl (.cons (t := 3) rfl (.cons (t := 4) rfl (.cons (t := 5) rfl .nil)))); clear s24
      refine wp_seq_k fun K13 hK13 => ?_
      obtain ⟨x4, e_x4, h10⟩ := bind_some h9; clear h9
      obtain ⟨x5, e_x5, h11⟩ := bind_some h10; clear h10
      obtain ⟨x6, e_x6, h12⟩ := bind_some h11; clear h11
      obtain ⟨x7, e_x7, h13⟩ := bind_some h12; clear h12
      obtain ⟨x8, e_x8, h14⟩ := bind_some h13; clear h13
      obtain ⟨x9, e_x9, h15⟩ := bind_some h14; clear h14; replace e_x9 := Option.some.inj e_x9
      obtain ⟨x10, e_x10, h16⟩ := bind_some h15; clear h15
      obtain ⟨x11, e_x11, h17⟩ := bind_some h16; clear h16
      obtain ⟨x12, e_x12, h18⟩ := bind_some h17; clear h17
      obtain ⟨x13, e_x13, h19⟩ := bind_some h18; clear h18
      refine wp_goes (Fs := [(kbool.V x3.2), (kbool.V (!x3.2)), (kbool.V (!x3.2)), (Fact.when ((!x3.2) == false) ((ksl k_api_Node).V p1)), (Fact.when ((!x3.2) == false) ((kint .i64).V y1)), (Fact.when ((!x3.2) == false) (ptrTo k_api_Node x4)), (Fact.when ((!x3.2) == false) (ptrTo k_api_Op x4.Op)), (Fact.when ((!x3.2) == false) (k_api_Op.V x4.Op)), (Fact.when ((!x3.2) == false) (kbool.V x5)), (Fact.when ((!x3.2) == false) (kbool.V (!x5))), (kbool.V (if (!x3.2) then true else (!x5))), (kbool.V (if (!x3.2) then true else (!x5))), (Fact.when ((if (!x3.2) then true else (!x5)) == false) ((ksl k_api_Node).V p1)), (Fact.when ((if (!x3.2) then true else (!x5)) == false) ((kint .i64).V y1)), (Fact.when ((if (!x3.2) then true else (!x5)) == false) ((ksl k_api_Node).V x6)), (Fact.when ((if (!x3.2) then true else (!x5)) == false) ((ksl k_api_Node).V p1)), (Fact.when ((if (!x3.2) then true else (!x5)) == false) ((kint .i64).V y1)), (Fact.when ((if (!x3.2) then true else (!x5)) == false) (ptrTo k_api_Node x7)), (Fact.when ((if (!x3.2) then true else (!x5)) == false) (ptrTo (karr 32 (kint .u8)) x7.Id)), (Fact.when ((if (!x3.2) then true else (!x5)) == false) ((karr 32 (kint .u8)).V x7.Id)), (Fact.when ((if (!x3.2) then true else (!x5)) == false) ((kint .i64).V x8)), (Fact.when ((if (!x3.2) then true else (!x5)) == false) (kbool.V (decide (x8 ≥ (0 : Int))))), (kbool.V x9), (kbool.V x9), (Fact.when (x9 == false) ((ksl (kint .i64)).V x3.1)), (Fact.when (x9 == false) ((ksl k_api_Node).V p1)), (Fact.when (x9 == false) ((kint .i64).V y1)), (Fact.when (x9 == false) (ptrTo k_api_Node x10)), (Fact.when (x9 == false) (ptrTo (ksl (kint .i64)) x10.Past)), (Fact.when (x9 == false) ((ksl (kint .i64)).V x10.Past)), (Fact.when (x9 == false) (kbool.V x11)), (Fact.when (x9 == false) (kbool.V (!x11))), (kbool.V (if x9 then true else (!x11))), (kbool.V (if x9 then true else (!x11))), (Fact.when ((if x9 then true else (!x11)) == false) ((ksl k_api_Node).V p1)), (Fact.when ((if x9 then true else (!x11)) == false) ((kint .i64).V y1)), (Fact.when ((if x9 then true else (!x11)) == false) ((ksl k_api_Node).V x12)), (Fact.when ((if x9 then true else (!x11)) == false) ((ksl k_api_Node).V p1)), (Fact.when ((if x9 then true else (!x11)) == false) ((kint .i64).V y1)), (Fact.when ((if x9 then true else (!x11)) == false) (ptrTo k_api_Node x13)), (Fact.when ((if x9 then true else (!x11)) == false) (ptrTo k_api_Op x13.Op)), (Fact.when ((if x9 then true else (!x11)) == false) (k_api_Op.V x13.Op)), (Fact.when ((if x9 then true else (!x11)) == false) ((ksl (kint .i64)).V x3.1))]) (bits := [0, 1, 3, 7, 7, 31, 63, 127, 255, 511, 1023, 2047, 4095, 4095, 16383, 4095, 4095, 102399, 233471, 495615, 1048575, 2097151, 4194303, 8388607, 16777215, 16777215, 16777215, 117440511, 251658239, 520093695, 1073741823, 2147483647, 4294967295, 8589934591, 17179869183, 17179869183, 68719476735, 17179869183, 17179869183, 429496729599, 979252543487, 2078764171263, 17179869183, 8796093022207, 17592186044415, 35184372088831]) (m := 43) (todo := 0) mx s25 ?_; clear s25
      refine goes_last (by kernel_rfl) rfl (opsS_cons (.plain _ (Av.old (t := 5) rfl rfl Av.nil) rfl rfl (ob_move rfl (.tmp rfl))) (opsS_cons (.plain _ (Av.new (j := 0) rfl rfl rfl Av.nil) rfl rfl (ob_not rfl (.tmp rfl))) (opsS_cons (.plain _ (Av.new (j := 1) rfl rfl rfl Av.nil) rfl rfl (ob_move rfl (.tmp rfl))) (opsS_cons (.guarded _ (Av.old (t := 0) rfl rfl (Av.new (j := 2) rfl rfl rfl Av.nil)) rfl rfl rfl rfl (fun hb => ob_move rfl (.tmp rfl))) (opsS_cons (.guarded _ (Av.old (t := 3) rfl rfl (Av.new (j := 2) rfl rfl rfl Av.nil)) rfl rfl rfl rfl (fun hb => ob_move rfl (.tmp rfl))) (opsS_cons (.guarded _ (Av.new (j := 2) rfl rfl rfl (Av.new (j := 3) rfl rfl rfl (Av.new (j := 4) rfl rfl rfl Av.nil))) rfl rfl rfl rfl (fun hb => (Ob.uncond (t := 32) hb rfl ((Ob.uncond (t := 31) hb rfl (ob_indexAddrs rfl Try.underlying22 sz46 (.tmp rfl) (.tmp rfl) (ite_t hb e_x4))))))) (opsS_cons (.guarded _ (Av.new (j := 2) rfl rfl rfl (Av.new (j := 5) rfl rfl rfl Av.nil)) rfl rfl rfl rfl (fun hb => (Ob.uncond (t := 33) hb rfl (ob_fieldAddrr rfl Try.underlying46 rfl sz44 (by decide) (.tmp rfl) (lg_api_Node_Op x4))))) (opsS_cons (.guarded _ (Av.new (j := 2) rfl rfl rfl (Av.new (j := 6) rfl rfl rfl Av.nil)) rfl rfl rfl rfl (fun hb => (Ob.uncond (t := 34) hb rfl (ob_loadr rfl tk44 (.tmp rfl))))) (opsS_cons (.guarded _ (Av.new (j := 2) rfl rfl rfl (Av.new (j := 7) rfl rfl rfl Av.nil)) rfl rfl rfl rfl (fun hb => (Ob.uncond (t := 35) hb rfl (ob_callD (args := [_]) rfl .direct hb85 (fun a w s fs gs hf hg => by obtain rfl := hf.unnil; obtain rfl := hg.unnil; exact c_cabalref11_Right k _ _ (ite_t hb e_x5) _ _ _ (s.arg (.tmp rfl))))))) (opsS_cons (.guarded _ (Av.new (j := 2) rfl rfl rfl (Av.new (j := 8) rfl rfl rfl Av.nil)) rfl rfl rfl rfl (fun hb => (Ob.uncond (t := 36) hb rfl (ob_not rfl (.tmp rfl))))) (opsS_cons (.plain _ (Av.new (j := 2) rfl rfl rfl (Av.new (j := 9) rfl rfl rfl Av.nil)) rfl rfl (ob_or2 rfl (.tmp rfl) opd_bool (.tmp rfl))) (opsS_cons (.plain _ (Av.new (j := 10) rfl rfl rfl Av.nil) rfl rfl (ob_move rfl (.tmp rfl))) (opsS_cons (.guarded _ (Av.old (t := 0) rfl rfl (Av.new (j := 11) rfl rfl rfl Av.nil)) rfl rfl rfl rfl (fun hb => ob_move rfl (.tmp rfl))) (opsS_cons (.guarded _ (Av.old (t := 3) rfl rfl (Av.new (j := 11) rfl rfl rfl Av.nil)) rfl rfl rfl rfl (fun hb => ob_move rfl (.tmp rfl))) (opsS_cons (.guarded _ (Av.new (j := 11) rfl rfl rfl (Av.new (j := 12) rfl rfl rfl (Av.new (j := 13) rfl rfl rfl Av.nil))) rfl rfl rfl rfl (fun hb => (Ob.uncond (t := 41) hb rfl ((Ob.uncond (t := 40) hb rfl (ob_cuts rfl Try.underlying22 sz46 (.tmp rfl) .none (.some (.tmp rfl)) (ite_t hb e_x6))))))) (opsS_cons (.guarded _ (Av.old (t := 0) rfl rfl (Av.new (j := 11) rfl rfl rfl Av.nil)) rfl rfl rfl rfl (fun hb => ob_move rfl (.tmp rfl))) (opsS_cons (.guarded _ (Av.old (t := 3) rfl rfl (Av.new (j := 11) rfl rfl rfl Av.nil)) rfl rfl rfl rfl (fun hb => ob_move rfl (.tmp rfl))) (opsS_cons (.guarded _ (Av.new (j := 11) rfl rfl rfl (Av.new (j := 15) rfl rfl rfl (Av.new (j := 16) rfl rfl rfl Av.nil))) rfl rfl rfl rfl (fun hb => (Ob.uncond (t := 44) hb rfl ((Ob.uncond (t := 43) hb rfl (ob_indexAddrs rfl Try.underlying22 sz46 (.tmp rfl) (.tmp rfl) (ite_t hb e_x7))))))) (opsS_cons (.guarded _ (Av.new (j := 11) rfl rfl rfl (Av.new (j := 17) rfl rfl rfl Av.nil)) rfl rfl rfl rfl (fun hb => (Ob.uncond (t := 45) hb rfl (ob_fieldAddrr rfl Try.underlying46 rfl sz39 (by decide) (.tmp rfl) (lg_api_Node_Id x7))))) (opsS_cons (.guarded _ (Av.new (j := 11) rfl rfl rfl (Av.new (j := 18) rfl rfl rfl Av.nil)) rfl rfl rfl rfl (fun hb => (Ob.uncond (t := 46) hb rfl (ob_loadr rfl tk39 (.tmp rfl))))) (opsS_cons (.guarded _ (Av.new (j := 11) rfl rfl rfl (Av.new (j := 14) rfl rfl rfl (Av.new (j := 19) rfl rfl rfl Av.nil))) rfl rfl rfl rfl (fun hb => (Ob.uncond (t := 47) hb rfl ((Ob.uncond (t := 42) hb rfl (ob_callD (args := [_, _]) rfl .direct hb56 (fun a w s fs gs hf hg => by obtain rfl := hf.unnil; obtain rfl := hg.unnil; exact c_cabalref15_Find k _ _ _ (ite_t hb e_x8) _ _ _ _ (s.arg (.tmp rfl)) (s.arg (.tmp rfl))))))))) (opsS_cons (.guarded _ (Av.new (j := 11) rfl rfl rfl (Av.new (j := 20) rfl rfl rfl Av.nil)) rfl rfl rfl rfl (fun hb => (Ob.uncond (t := 48) hb rfl (ob_geq rfl (.tmp rfl) (opd_int rfl))))) (opsS_cons (.plain _ (Av.new (j := 11) rfl rfl rfl (Av.new (j := 21) rfl rfl rfl Av.nil)) rfl rfl ((ob_or2 rfl (.tmp rfl) opd_bool (.tmp rfl)).nm e_x9)) (opsS_cons (.plain _ (Av.new (j := 22) rfl rfl rfl Av.nil) rfl rfl (ob_move rfl (.tmp rfl))) (opsS_cons (.guarded _ (Av.old (t := 4) rfl rfl (Av.new (j := 23) rfl rfl rfl Av.nil)) rfl rfl rfl rfl (fun hb => ob_move rfl (.tmp rfl))) (opsS_cons (.guarded _ (Av.old (t := 0) rfl rfl (Av.new (j := 23) rfl rfl rfl Av.nil)) rfl rfl rfl rfl (fun hb => ob_move rfl (.tmp rfl))) (opsS_cons (.guarded _ (Av.old (t := 3) rfl rfl (Av.new (j := 23) rfl rfl rfl Av.nil)) rfl rfl rfl rfl (fun hb => ob_move rfl (.tmp rfl))) (opsS_cons (.guarded _ (Av.new (j := 23) rfl rfl rfl (Av.new (j := 25) rfl rfl rfl (Av.new (j := 26) rfl rfl rfl Av.nil))) rfl rfl rfl rfl (fun hb => (Ob.uncond (t := 54) hb rfl ((Ob.uncond (t := 53) hb rfl (ob_indexAddrs rfl Try.underlying22 sz46 (.tmp rfl) (.tmp rfl) (ite_t hb e_x10))))))) (opsS_cons (.guarded _ (Av.new (j := 23) rfl rfl rfl (Av.new (j := 27) rfl rfl rfl Av.nil)) rfl rfl rfl rfl (fun hb => (Ob.uncond (t := 55) hb rfl (ob_fieldAddrr rfl Try.underlying46 rfl sz41 (by decide) (.tmp rfl) (lg_api_Node_Past x10))))) (opsS_cons (.guarded _ (Av.new (j := 23) rfl rfl rfl (Av.new (j := 28) rfl rfl rfl Av.nil)) rfl rfl rfl rfl (fun hb => (Ob.uncond (t := 56) hb rfl (ob_loadr rfl tk41 (.tmp rfl))))) (opsS_cons (.guarded _ (Av.new (j := 23) rfl rfl rfl (Av.new (j := 24) rfl rfl rfl (Av.new (j := 29) rfl rfl rfl Av.nil))) rfl rfl rfl rfl (fun hb => (Ob.uncond (t := 57) hb rfl ((Ob.uncond (t := 52) hb rfl (ob_callD (args := [_, _]) rfl .direct hb38 (fun a w s fs gs hf hg => by obtain rfl := hf.unnil; obtain rfl := hg.unnil; exact c_cabalref15_SameInts k _ _ _ (ite_t hb e_x11) _ _ _ _ (s.arg (.tmp rfl)) (s.arg (.tmp rfl))))))))) (opsS_cons (.guarded _ (Av.new (j := 23) rfl rfl rfl (Av.new (j := 30) rfl rfl rfl Av.nil)) rfl rfl rfl rfl (fun hb => (Ob.uncond (t := 58) hb rfl (ob_not rfl (.tmp rfl))))) (opsS_cons (.plain _ (Av.new (j := 23) rfl rfl rfl (Av.new (j := 31) rfl rfl rfl Av.nil)) rfl rfl (ob_or2 rfl (.tmp rfl) opd_bool (.tmp rfl))) (opsS_cons (.plain _ (Av.new (j := 32) rfl rfl rfl Av.nil) rfl rfl (ob_move rfl (.tmp rfl))) (opsS_cons (.guarded _ (Av.old (t := 0) rfl rfl (Av.new (j := 33) rfl rfl rfl Av.nil)) rfl rfl rfl rfl (fun hb => ob_move rfl (.tmp rfl))) (opsS_cons (.guarded _ (Av.old (t := 3) rfl rfl (Av.new (j := 33) rfl rfl rfl Av.nil)) rfl rfl rfl rfl (fun hb => ob_move rfl (.tmp rfl))) (opsS_cons (.guarded _ (Av.new (j := 33) rfl rfl rfl (Av.new (j := 34) rfl rfl rfl (Av.new (j := 35) rfl rfl rfl Av.nil))) rfl rfl rfl rfl (fun hb => (Ob.uncond (t := 63) hb rfl ((Ob.uncond (t := 62) hb rfl (ob_cuts rfl Try.underlying22 sz46 (.tmp rfl) .none (.some (.tmp rfl)) (ite_t hb e_x12))))))) (opsS_cons (.guarded _ (Av.old (t := 0) rfl rfl (Av.new (j := 33) rfl rfl rfl Av.nil)) rfl rfl rfl rfl (fun hb => ob_move rfl (.tmp rfl))) (opsS_cons (.guarded _ (Av.old (t := 3) rfl rfl (Av.new (j := 33) rfl rfl rfl Av.nil)) rfl rfl rfl rfl (fun hb => ob_move rfl (.tmp rfl))) (opsS_cons (.guarded _ (Av.new (j := 33) rfl rfl rfl (Av.new (j := 37) rfl rfl rfl (Av.new (j := 38) rfl rfl rfl Av.nil))) rfl rfl rfl rfl (fun hb => (Ob.uncond (t := 66) hb rfl ((Ob.uncond (t := 65) hb rfl (ob_indexAddrs rfl Try.underlying22 sz46 (.tmp rfl) (.tmp rfl) (ite_t hb e_x13))))))) (opsS_cons (.guarded _ (Av.new (j := 33) rfl rfl rfl (Av.new (j := 39) rfl rfl rfl Av.nil)) rfl rfl rfl rfl (fun hb => (Ob.uncond (t := 67) hb rfl (ob_fieldAddrr rfl Try.underlying46 rfl sz44 (by decide) (.tmp rfl) (lg_api_Node_Op x13))))) (opsS_cons (.guarded _ (Av.new (j := 33) rfl rfl rfl (Av.new (j := 40) rfl rfl rfl Av.nil)) rfl rfl rfl rfl (fun hb => (Ob.uncond (t := 68) hb rfl (ob_loadr rfl tk44 (.tmp rfl))))) (opsS_cons (.guarded _ (Av.old (t := 4) rfl rfl (Av.new (j := 33) rfl rfl rfl Av.nil)) rfl rfl rfl rfl (fun hb => ob_move rfl (.tmp rfl))) opsS_nil))))))))))))))))))))))))))))))))))))))))))) (out_old (t := 0) rfl rfl (out_old (t := 3) rfl rfl (out_new (i := 33) (by decide) rfl rfl (out_new (i := 36) (by decide) rfl rfl (out_new (i := 41) (by decide) rfl rfl (out_new (i := 42) (by decide) rfl rfl out_nil)))))) fun a26 w26 s26 => ?_
      obtain ⟨x14, e_x14, h20⟩ := bind_some h19; clear h19
      refine seq_opg s26 rfl rfl rfl rfl (of_decide_eq_true rfl) (fun hb => (Ob.uncond (t := 70) hb rfl ((Ob.uncond (t := 69) hb rfl ((Ob.uncond (t := 64) hb rfl (ob_callD (args := [_, _, _]) rfl .direct hb86 (fun a w s fs gs hf hg => by obtain rfl := hf.unnil; obtain rfl := hg.unnil; exact c_cabalref15_turn k _ _ _ _ (ite_t hb e_x14) _ _ _ _ _ (s.arg (.tmp rfl)) (s.arg (.tmp rfl)) (s.arg (.tmp rfl)))))))))) fun a27 w27 s27 => ?_; clear s26
      refine seq_opg s27 rfl rfl rfl rfl (of_decide_eq_true rfl) (fun hb => (Ob.uncond (t := 71) hb rfl (ob_not rfl (.tmp rfl)))) fun a28 w28 s28 => ?_; clear s27
      refine seq_op s28 rfl rfl (of_decide_eq_true rfl) (ob_or2 rfl (.tmp rfl) opd_bool (.tmp rfl)) fun a29 w29 s29 => ?_; clear s28
      refine wpList_nil ?_
      refine then_normal ?_
      refine hK13 _ _ ?_
      have s30 := s29.sub (.cons (t := 0) rfl (.cons (t := 3) rfl (.cons (t := 73) rfl .nil))); clear s29
      refine cond_split s30 (.tmp rfl) (fun hc3 => ?_) (fun hc3 => ?_)
      · replace h20 := ite_t hc3 h20
        have h21 := h20; clear h20
        refine wp_seq_k fun K14 hK14 => ?_
        refine wp_region_lit ?_
        refine seq_op s30 rfl rfl (of_decide_eq_true rfl) (ob_assign rfl opd_bool) fun a31 w31 s31 => ?_; clear s30
        refine wpList_nil ?_
        refine then_normal ?_
        refine hK14 _ _ ?_
        have s32 := s31.sub (.cons (t := 2) rfl .nil); clear s31
        refine wp_ret ?_
        obtain rfl := Option.some.inj h21
        exact leave s32 (.inl rfl) rfl (.cons (.tmp rfl) .nil)
      · replace h20 := ite_f hc3 h20
        have h22 := h20; clear h20
        refine wp_skip ?_
        refine in_normal ?_
        refine then_normal ?_
        refine hK11 _ _ ?_
        have s33 := s30.sub (.cons (t := 0) rfl (.cons (t := 3) rfl .nil)); clear s30
        refine wp_region_lit ?_
        refine seq_op s33 rfl rfl (of_decide_eq_true rfl) (ob_move rfl (.tmp rfl)) fun a34 w34 s34 => ?_; clear s33
        refine seq_op s34 rfl rfl (of_decide_eq_true rfl) (ob_add rfl (.tmp rfl) (opd_int rfl)) fun a35 w35 s35 => ?_; clear s34
        refine seq_op s35 rfl rfl (of_decide_eq_true rfl) (ob_assign rfl (.tmp rfl)) fun a36 w36 s36 => ?_; clear s35
        refine wpList_nil ?_
        refine then_normal ?_
        exact hK8 (iadd .i64 y1 (1 : Int)) _ _ h22 (s36.sub (.cons rfl (.cons rfl .nil)))
    · replace h5 := ite_f hc2 h5
      have h23 := h5; clear h5
      refine wp_exit ?_
      refine (then_exit (then_exit (in_here ?_)))
      refine then_normal ?_
      exact hj1 _ _ h23 (s21.sub .nil)

/- 135 cabal/cabalref16.removal -/
theorem c_cabalref16_removal (k : Nat) (p1 : (List api_Node)) (p2 : (List Bool)) (p3 : Int) (p4 : Int) (r : Bool) (h0 : cabalref16_removal k p1 p2 p3 p4 = some r) (ok : Ok) (w0 : World) (z0 : Value) (z1 : Value) (z2 : Value) (z3 : Value) (u0 : ((ksl k_api_Node).V p1).holds ok w0 z0) (u1 : ((ksl kbool).V p2).holds ok w0 z1) (u2 : ((kint .i64).V p3).holds ok w0 z2) (u3 : ((kint .i64).V p4).holds ok w0 z3) :
    Gives Try.prog 135 [z0, z1, z2, z3] ok w0 (resFact [kbool.V r]) := by
  unfold cabalref16_removal at h0
  refine enter (N := 34) Try.func135 rfl rfl (of_decide_eq_true rfl) (.cons u0 (.cons u1 (.cons u2 (.cons u3 .nil)))) fun a1 s1 => ?_
  refine wp_seq_k fun K1 hK1 => ?_
  refine wp_region_lit ?_
  refine seq_op s1 rfl rfl (of_decide_eq_true rfl) (ob_assign rfl opd_bool) fun a2 w2 s2 => ?_; clear s1
  refine wpList_nil ?_
  refine then_normal ?_
  refine hK1 _ _ ?_
  have s3 := s2.sub (.cons (t := 0) rfl (.cons (t := 1) rfl (.cons (t := 2) rfl (.cons (t := 3) rfl .nil)))); clear s2
  refine wp_seq_k fun K2 hK2 => ?_
  refine wp_region_lit ?_
  refine seq_op s3 rfl rfl (of_decide_eq_true rfl) (ob_move rfl (.tmp rfl)) fun a4 w4 s4 => ?_; clear s3
  refine seq_op s4 rfl rfl (of_decide_eq_true rfl) (ob_move rfl (.tmp rfl)) fun a5 w5 s5 => ?_; clear s4
  obtain ⟨x1, e_x1, h1⟩ := bind_some h0; clear h0
  refine seq_op s5 rfl rfl (of_decide_eq_true rfl) (ob_indexAddrs rfl Try.underlying58 sz4 (.tmp rfl) (.tmp rfl) e_x1) fun a6 w6 s6 => ?_; clear s5
  refine seq_op s6 rfl rfl (of_decide_eq_true rfl) (ob_loadr rfl tk4 (.tmp rfl)) fun a7 w7 s7 => ?_; clear s6
  refine seq_op s7 rfl rfl (of_decide_eq_true rfl) (ob_move rfl (.tmp rfl)) fun a8 w8 s8 => ?_; clear s7
  refine seq_opg s8 rfl rfl rfl rfl (of_decide_eq_true rfl) (fun hb => ob_move rfl (.tmp rfl)) fun a9 w9 s9 => ?_; clear s8
  refine seq_opg s9 rfl rfl rfl rfl (of_decide_eq_true rfl) (fun hb => ob_move rfl (.tmp rfl)) fun a10 w10 s10 => ?_; clear s9
  obtain ⟨x2, e_x2, h2⟩ := bind_some h1; clear h1
  refine seq_opg s10 rfl rfl rfl rfl (of_decide_eq_true rfl) (fun hb => (Ob.uncond (t := 15) hb rfl ((Ob.uncond (t := 14) hb rfl (ob_indexAddrs rfl Try.underlying22 sz46 (.tmp rfl) (.tmp rfl) (ite_t hb e_x2)))))) fun a11 w11 s11 => ?_; clear s10
  refine seq_opg s11 rfl rfl rfl rfl (of_decide_eq_true rfl) (fun hb => (Ob.uncond (t := 16) hb rfl (ob_fieldAddrr rfl Try.underlying46 rfl sz44 (by decide) (.tmp rfl) (lg_api_Node_Op x2)))) fun a12 w12 s12 => ?_; clear s11
  refine seq_opg s12 rfl rfl rfl rfl (of_decide_eq_true rfl) (fun hb => (Ob.uncond (t := 17) hb rfl (ob_fieldAddrr rfl Try.underlying44 rfl sz3 (by decide) (.tmp rfl) (lg_api_Op_Kind x2.Op)))) fun a13 w13 s13 => ?_; clear s12
  refine seq_opg s13 rfl rfl rfl rfl (of_decide_eq_true rfl) (fun hb => (Ob.uncond (t := 18) hb rfl (ob_loadr rfl tk3 (.tmp rfl)))) fun a14 w14 s14 => ?_; clear s13
  refine seq_opg s14 rfl rfl rfl rfl (of_decide_eq_true rfl) (fun hb => (Ob.uncond (t := 19) hb rfl (ob_eql rfl (.tmp rfl) (opd_int rfl)))) fun a15 w15 s15 => ?_; clear s14
  refine seq_op s15 rfl rfl (of_decide_eq_true rfl) (ob_and2 rfl (.tmp rfl) (.tmp rfl) opd_bool) fun a16 w16 s16 => ?_; clear s15
  refine seq_op s16 rfl rfl (of_decide_eq_true rfl) (ob_move rfl (.tmp rfl)) fun a17 w17 s17 => ?_; clear s16
  refine seq_opg s17 rfl rfl rfl rfl (of_decide_eq_true rfl) (fun hb => ob_move rfl (.tmp rfl)) fun a18 w18 s18 => ?_; clear s17
  refine seq_opg s18 rfl rfl rfl rfl (of_decide_eq_true rfl) (fun hb => ob_move rfl (.tmp rfl)) fun a19 w19 s19 => ?_; clear s18
  obtain ⟨x3, e_x3, h3⟩ := bind_some h2; clear h2
  refine seq_opg s19 rfl rfl rfl rfl (of_decide_eq_true rfl) (fun hb => (Ob.uncond (t := 24) hb rfl ((Ob.uncond (t := 23) hb rfl (ob_indexAddrs rfl Try.underlying22 sz46 (.tmp rfl) (.tmp rfl) (ite_t hb e_x3)))))) fun a20 w20 s20 => ?_; clear s19
  refine seq_opg s20 rfl rfl rfl rfl (of_decide_eq_true rfl) (fun hb => (Ob.uncond (t := 25) hb rfl (ob_fieldAddrr rfl Try.underlying46 rfl sz44 (by decide) (.tmp rfl) (lg_api_Node_Op x3)))) fun a21 w21 s21 => ?_; clear s20
  refine seq_opg s21 rfl rfl rfl rfl (of_decide_eq_true rfl) (fun hb => (Ob.uncond (t := 26) hb rfl (ob_fieldAddrr rfl Try.underlying44 rfl sz41 (by decide) (.tmp rfl) (lg_api_Op_Who x3.Op)))) fun a22 w22 s22 => ?_; clear s21
  refine seq_opg s22 rfl rfl rfl rfl (of_decide_eq_true rfl) (fun hb => (Ob.uncond (t := 27) hb rfl (ob_loadr rfl tk41 (.tmp rfl)))) fun a23 w23 s23 => ?_; clear s22
  obtain ⟨x4, e_x4, h4⟩ := bind_some h3; clear h3
  refine seq_opg s23 rfl rfl rfl rfl (of_decide_eq_true rfl) (fun hb => (Ob.uncond (t := 28) hb rfl (ob_indexAddrs rfl Try.underlying41 sz3 (.tmp rfl) (opd_int rfl) (ite_t hb e_x4)))) fun a24 w24 s24 => ?_; clear s23
  refine seq_opg s24 rfl rfl rfl rfl (of_decide_eq_true rfl) (fun hb => (Ob.uncond (t := 29) hb rfl (ob_loadr rfl tk3 (.tmp rfl)))) fun a25 w25 s25 => ?_; clear s24
  refine seq_opg s25 rfl rfl rfl rfl (of_decide_eq_true rfl) (fun hb => ob_move rfl (.tmp rfl)) fun a26 w26 s26 => ?_; clear s25
  refine seq_opg s26 rfl rfl rfl rfl (of_decide_eq_true rfl) (fun hb => (Ob.uncond (t := 31) hb rfl ((Ob.uncond (t := 30) hb rfl (ob_eql rfl (.tmp rfl) (.tmp rfl)))))) fun a27 w27 s27 => ?_; clear s26
  obtain ⟨x5, e_x5, h5⟩ := bind_some h4; clear h4; replace e_x5 := Option.some.inj e_x5
  refine seq_op s27 rfl rfl (of_decide_eq_true rfl) ((ob_and2 rfl (.tmp rfl) (.tmp rfl) opd_bool).nm e_x5) fun a28 w28 s28 => ?_; clear s27
  refine seq_op s28 rfl rfl (of_decide_eq_true rfl) (ob_assign rfl (.tmp rfl)) fun a29 w29 s29 => ?_; clear s28
  refine wpList_nil ?_
  refine then_normal ?_
  refine hK2 _ _ ?_
  have s30 := s29.sub (.cons (t := 8) rfl .nil); clear s29
  refine wp_ret ?_
  obtain rfl := Option.some.inj h5
  exact leave s30 (.inl rfl) rfl (.cons (.tmp rfl) .nil)

/- 90 cabal/cabalref16.lets -/
theorem c_cabalref16_lets (k : Nat) (p1 : (List api_Node)) (p2 : (List Bool)) (p3 : (List Int)) (p4 : Int) (p5 : Int) (r : Bool) (h0 : cabalref16_lets k p1 p2 p3 p4 p5 = some r) (ok : Ok) (w0 : World) (z0 : Value) (z1 : Value) (z2 : Value) (z3 : Value) (z4 : Value) (u0 : ((ksl k_api_Node).V p1).holds ok w0 z0) (u1 : ((ksl kbool).V p2).holds ok w0 z1) (u2 : ((ksl (kint .i64)).V p3).holds ok w0 z2) (u3 : ((kint .i64).V p4).holds ok w0 z3) (u4 : ((kint .i64).V p5).holds ok w0 z4) :
    Gives Try.prog 90 [z0, z1, z2, z3, z4] ok w0 (resFact [kbool.V r]) := by
  unfold cabalref16_lets at h0
  refine enter (N := 113) Try.func90 rfl rfl (of_decide_eq_true rfl) (.cons u0 (.cons u1 (.cons u2 (.cons u3 (.cons u4 .nil))))) fun a1 s1 => ?_
  refine wp_seq_k fun K1 hK1 => ?_
  refine wp_region_lit ?_
  refine seq_op s1 rfl rfl (of_decide_eq_true rfl) (ob_assign rfl opd_bool) fun a2 w2 s2 => ?_; clear s1
  refine wpList_nil ?_
  refine then_normal ?_
  refine hK1 _ _ ?_
  have s3 := s2.sub (.cons (t := 0) rfl (.cons (t := 1) rfl (.cons (t := 2) rfl (.cons (t := 3) rfl (.cons (t := 4) rfl .nil))))); clear s2
  refine wp_seq_k fun K2 hK2 => ?_
  refine wp_region_lit ?_
  refine seq_op s3 rfl rfl (of_decide_eq_true rfl) (ob_move rfl (.tmp rfl)) fun a4 w4 s4 => ?_; clear s3
  refine seq_op s4 rfl rfl (of_decide_eq_true rfl) (ob_move rfl (.tmp rfl)) fun a5 w5 s5 => ?_; clear s4
  obtain ⟨x1, e_x1, h1⟩ := bind_some h0; clear h0
  refine seq_op s5 rfl rfl (of_decide_eq_true rfl) (ob_indexAddrs rfl Try.underlying22 sz46 (.tmp rfl) (.tmp rfl) e_x1) fun a6 w6 s6 => ?_; clear s5
  refine seq_op s6 rfl rfl (of_decide_eq_true rfl) (ob_fieldAddrr rfl Try.underlying46 rfl sz44 (by decide) (.tmp rfl) (lg_api_Node_Op x1)) fun a7 w7 s7 => ?_; clear s6
  refine seq_op s7 rfl rfl (of_decide_eq_true rfl) (ob_loadr rfl tk44 (.tmp rfl)) fun a8 w8 s8 => ?_; clear s7
  refine seq_opx (B' := (fun b1 : Nat => [BF b1 44 k_api_Op (⟨(0 : Int), (0 : Int), [], (0 : Int), [], (List.replicate 32 (0 : Int)), (List.replicate 32 (0 : Int)), [], []⟩ : api_Op)])) s8 rfl rfl (of_decide_eq_true rfl) (ob_new (k := k_api_Op) rfl zz44 (Zr.iso (f := t_api_Op) (x := (⟨(0 : Int), (0 : Int), [], (0 : Int), [], (List.replicate 32 (0 : Int)), (List.replicate 32 (0 : Int)), [], []⟩ : api_Op)) (Zr.pair (Zr.int .i64) (Zr.pair (Zr.int .u32) (Zr.pair (Zr.sl _) (Zr.pair (Zr.int .i64) (Zr.pair (Zr.sl _) (Zr.pair (Zr.arr 32 (Zr.int .u8)) (Zr.pair (Zr.arr 32 (Zr.int .u8)) (Zr.pair Zr.str (Zr.pair (Zr.sl _) Zr.nil))))))))))) fun b1 a9 w9 s9 => ?_; clear s8
  refine seq_opx0 (B' := (fun _ : Unit => [BF b1 44 k_api_Op x1.Op])) s9 rfl rfl (ob_store (A := []) rfl tk44 (.tmp rfl) (.tmp rfl) rfl (LS.refl _ _ _) rfl) fun _ a10 w10 s10 => ?_; clear s9
  refine wpList_nil ?_
  refine then_normal ?_
  refine hK2 _ _ ?_
  have s11 := s10.sub (.cons (t := 0) rfl (.cons (t := 1) rfl (.cons (t := 2) rfl (.cons (t := 3) rfl (.cons (t := 4) rfl (.cons (t := 11) rfl .nil)))))); clear s10
  refine wp_seq_k fun K3 hK3 => ?_
  refine wp_seq_k fun K4 hK4 => ?_
  refine wp_region_lit ?_
  refine seq_op s11 rfl rfl (of_decide_eq_true rfl) (ob_move rfl (.tmp rfl)) fun a12 w12 s12 => ?_; clear s11
  refine seq_op s12 rfl rfl (of_decide_eq_true rfl) (ob_move rfl (.tmp rfl)) fun a13 w13 s13 => ?_; clear s12
  obtain ⟨x2, e_x2, h2⟩ := bind_some h1; clear h1
  refine seq_op s13 rfl rfl (of_decide_eq_true rfl) (ob_indexAddrs rfl Try.underlying58 sz4 (.tmp rfl) (.tmp rfl) e_x2) fun a14 w14 s14 => ?_; clear s13
  refine seq_op s14 rfl rfl (of_decide_eq_true rfl) (ob_loadr rfl tk4 (.tmp rfl)) fun a15 w15 s15 => ?_; clear s14
  refine seq_op s15 rfl rfl (of_decide_eq_true rfl) (ob_not rfl (.tmp rfl)) fun a16 w16 s16 => ?_; clear s15
  refine seq_op s16 rfl rfl (of_decide_eq_true rfl) (ob_move rfl (.tmp rfl)) fun a17 w17 s17 => ?_; clear s16
  refine seq_opg s17 rfl rfl rfl rfl (of_decide_eq_true rfl) (fun hb => ob_fieldAddr (off' := 3) rfl Try.underlying44 rfl sz3 (by decide) (.tmp rfl) rfl) fun a18 w18 s18 => ?_; clear s17
  refine seq_opg s18 rfl rfl rfl rfl (of_decide_eq_true rfl) (fun hb => (Ob.uncond (t := 26) hb rfl (ob_load rfl tk3 (.tmp rfl) (.head _) (lg_api_Op_Kind x1.Op)))) fun a19 w19 s19 => ?_; clear s18
  refine seq_opg s19 rfl rfl rfl rfl (of_decide_eq_true rfl) (fun hb => (Ob.uncond (t := 27) hb rfl (ob_gtr rfl (.tmp rfl) (opd_int rfl)))) fun a20 w20 s20 => ?_; clear s19
  refine seq_op s20 rfl rfl (of_decide_eq_true rfl) (ob_or2 rfl (.tmp rfl) opd_bool (.tmp rfl)) fun a21 w21 s21 => ?_; clear s20
  refine seq_op s21 rfl rfl (of_decide_eq_true rfl) (ob_move rfl (.tmp rfl)) fun a22 w22 s22 => ?_; clear s21
  refine seq_opg s22 rfl rfl rfl rfl (of_decide_eq_true rfl) (fun hb => ob_fieldAddr (off' := 4) rfl Try.underlying44 rfl sz41 (by decide) (.tmp rfl) rfl) fun a23 w23 s23 => ?_; clear s22
  refine seq_opg s23 rfl rfl rfl rfl (of_decide_eq_true rfl) (fun hb => (Ob.uncond (t := 31) hb rfl (ob_load rfl tk41 (.tmp rfl) (.head _) (lg_api_Op_Who x1.Op)))) fun a24 w24 s24 => ?_; clear s23
  refine seq_opg s24 rfl rfl rfl rfl (of_decide_eq_true rfl) (fun hb => ob_move rfl (.tmp rfl)) fun a25 w25 s25 => ?_; clear s24
  obtain ⟨x3, e_x3, h3⟩ := bind_some h2; clear h2
  refine seq_opg s25 rfl rfl rfl rfl (of_decide_eq_true rfl) (fun hb => (Ob.uncond (t := 33) hb rfl ((Ob.uncond (t := 32) hb rfl (ob_callD (args := [_, _]) rfl .direct hb44 (fun a w s fs gs hf hg => by obtain rfl := hf.unnil; obtain rfl := hg.unnil; exact c_cabalref15_In k _ _ _ (ite_t hb e_x3) _ _ _ _ (s.arg (.tmp rfl)) (s.arg (.tmp rfl)))))))) fun a26 w26 s26 => ?_; clear s25
  refine seq_opg s26 rfl rfl rfl rfl (of_decide_eq_true rfl) (fun hb => (Ob.uncond (t := 34) hb rfl (ob_not rfl (.tmp rfl)))) fun a27 w27 s27 => ?_; clear s26
  obtain ⟨x4, e_x4, h4⟩ := bind_some h3; clear h3; replace e_x4 := Option.some.inj e_x4
  refine seq_op s27 rfl rfl (of_decide_eq_true rfl) ((ob_or2 rfl (.tmp rfl) opd_bool (.tmp rfl)).nm e_x4) fun a28 w28 s28 => ?_; clear s27
  refine wpList_nil ?_
  refine then_normal ?_
  refine hK4 _ _ ?_
  have s29 := s28.sub (.cons (t := 0) rfl (.cons (t := 1) rfl (.cons (t := 2) rfl (.cons (t := 3) rfl (.cons (t := 4) rfl (.cons (t := 11) rfl (.cons (t := 36) rfl .nil))))))); clear s28
  refine cond_split s29 (.tmp rfl) (fun hc1 => ?_) (fun hc1 => ?_)
  · replace h4 := ite_t hc1 h4
    have h5 := h4; clear h4
    refine wp_seq_k fun K5 hK5 => ?_
    refine wp_region_lit ?_
    refine seq_op s29 rfl rfl (of_decide_eq_true rfl) (ob_assign rfl opd_bool) fun a30 w30 s30 => ?_; clear s29
    refine wpList_nil ?_
    refine then_normal ?_
    refine hK5 _ _ ?_
    have s31 := s30.sub (.cons (t := 10) rfl .nil); clear s30
    have s32 := St.drop (A := []) s31; clear s31
    refine wp_ret ?_
    obtain rfl := Option.some.inj h5
    exact leave s32 (.inl rfl) rfl (.cons (.tmp rfl) .nil)
  · replace h4 := ite_f hc1 h4
    have h6 := h4; clear h4
    refine wp_skip ?_
    refine then_normal ?_
    refine hK3 _ _ ?_
    have s33 := s29.sub (.cons (t := 0) rfl (.cons (t := 1) rfl (.cons (t := 2) rfl (.cons (t := 3) rfl (.cons (t := 4) rfl (.cons (t := 11) rfl .nil)))))); clear s29
    refine wp_seq_k fun K6 hK6 => ?_
    refine wp_seq_k fun K7 hK7 => ?_
    refine wp_region_lit ?_
    refine seq_op s33 rfl rfl (of_decide_eq_true rfl) (ob_assign rfl (opd_int rfl)) fun a34 w34 s34 => ?_; clear s33
    refine wpList_nil ?_
    refine then_normal ?_
    refine hK7 _ _ ?_
    have s35 := s34.sub (.cons (t := 0) rfl (.cons (t := 1) rfl (.cons (t := 2) rfl (.cons (t := 3) rfl (.cons (t := 4) rfl (.cons (t := 11) rfl (.cons (t := 12) rfl .nil))))))); clear s34
    have hj1 : ∀ (a : Act) (w : World), (cabalref16_lets.j1 k) = some r → St ⟨113, w0, ok, []⟩ [] [] a w → K6 a w := by
      intro a36 w36 h7 s36
      unfold cabalref16_lets.j1 at h7
      refine hK6 _ _ ?_
      refine wp_seq_k fun K8 hK8 => ?_
      refine wp_region_lit ?_
      refine seq_op s36 rfl rfl (of_decide_eq_true rfl) (ob_assign rfl opd_bool) fun a37 w37 s37 => ?_; clear s36
      refine wpList_nil ?_
      refine then_normal ?_
      refine hK8 _ _ ?_
      have s38 := s37.sub (.cons (t := 10) rfl .nil); clear s37
      refine wp_ret ?_
      obtain rfl := Option.some.inj h7
      exact leave s38 (.inl rfl) rfl (.cons (.tmp rfl) .nil)
    refine wp_block ?_
    refine wp_loop_fuel (fun m (q : Int) => cabalref16_lets.l1 k p3 p2 p1 p4 x1 p5 m q) r (fun _ => rfl) (fun q a w => St ⟨113, w0, ok, []⟩ [BF b1 44 k_api_Op x1.Op] [(0, ((ksl k_api_Node).V p1)), (1, ((ksl kbool).V p2)), (2, ((ksl (kint .i64)).V p3)), (3, ((kint .i64).V p4)), (4, ((kint .i64).V p5)), (11, (ptrB b1 0)), (12, ((kint .i64).V q))] a w) ?_ k (0 : Int) _ _ h6 (s35.sub (.cons rfl (.cons rfl (.cons rfl (.cons rfl (.cons rfl (.cons rfl (.cons rfl .nil))))))))
    rintro n1 y1 a39 w39 h8 s39 K9 hK9
    replace h8 : cabalref16_lets.l1 k p3 p2 p1 p4 x1 p5 (n1 + 1) y1 = some r := h8; rw [cabalref16_lets.l1] at h8
    have h9 := h8; clear h8
    refine wp_seq_k fun K10 hK10 => ?_
    refine wp_seq_k fun K11 hK11 => ?_
    refine wp_region_lit ?_
    refine seq_op s39 rfl rfl (of_decide_eq_true rfl) (ob_move rfl (.tmp rfl)) fun a40 w40 s40 => ?_; clear s39
    refine seq_op s40 rfl rfl (of_decide_eq_true rfl) (ob_move rfl (.tmp rfl)) fun a41 w41 s41 => ?_; clear s40
    refine seq_op s41 rfl rfl (of_decide_eq_true rfl) (ob_lens rfl Try.underlying41 (.tmp rfl)) fun a42 w42 s42 => ?_; clear s41
    refine seq_op s42 rfl rfl (of_decide_eq_true rfl) (ob_lss rfl (.tmp rfl) (.tmp rfl)) fun a43 w43 s43 => ?_; clear s42
    refine wpList_nil ?_
    refine then_normal ?_
    refine hK11 _ _ ?_
    have s44 := s43.sub (.cons (t := 0) rfl (.cons (t := 1) rfl (.cons (t := 2) rfl (.cons (t := 3) rfl (.cons (t := 4) rfl (.cons (t := 11) rfl (.cons (t := 12) rfl (.cons (t := 40) rfl .nil)))))))); clear s43
    refine cond_split s44 (.tmp rfl) (fun hc2 => ?_) (fun hc2 => ?_)
    · replace h9 := ite_t hc2 h9
      have h10 := h9; clear h9
      refine wp_skip ?_
      refine then_normal ?_
      refine hK10 _ _ ?_
      have s45 := s44.sub (.cons (t := 0) rfl (.cons (t := 1) rfl (.cons (t := 2) rfl (.cons (t := 3) rfl (.cons (t := 4) rfl (.cons (t := 11) rfl (.cons (t := 12) rfl .nil))))))); clear s44
      refine wp_seq_k fun K12 hK12 => ?_
      have hj2 : ∀ (a : Act) (w : World), (cabalref16_lets.j2 k y1 (cabalref16_lets.l1 k p3 p2 p1 p4 x1 p5 n1)) = some r → St ⟨113, w0, ok, []⟩ [BF b1 44 k_api_Op x1.Op] [(0, ((ksl k_api_Node).V p1)), (1, ((ksl kbool).V p2)), (2, ((ksl (kint .i64)).V p3)), (3, ((kint .i64).V p4)), (4, ((kint .i64).V p5)), (11, (ptrB b1 0)), (12, ((kint .i64).V y1))] a w → K12 a w := by
        intro a46 w46 h11 s46
        unfold cabalref16_lets.j2 at h11
        refine hK12 _ _ ?_
        refine wp_region_lit ?_
        refine seq_op s46 rfl rfl (of_decide_eq_true rfl) (ob_move rfl (.tmp rfl)) fun a47 w47 s47 => ?_; clear s46
        refine seq_op s47 rfl rfl (of_decide_eq_true rfl) (ob_add rfl (.tmp rfl) (opd_int rfl)) fun a48 w48 s48 => ?_; clear s47
        refine seq_op s48 rfl rfl (of_decide_eq_true rfl) (ob_assign rfl (.tmp rfl)) fun a49 w49 s49 => ?_; clear s48
        refine wpList_nil ?_
        refine then_normal ?_
        exact hK9 (iadd .i64 y1 (1 : Int)) _ _ h11 (s49.sub (.cons rfl (.cons rfl (.cons rfl (.cons rfl (.cons rfl (.cons rfl (.cons rfl .nil))))))))
      refine wp_block ?_
      refine wp_seq_k fun K13 hK13 => ?_
      refine wp_region_lit ?_
      refine seq_op s45 rfl rfl (of_decide_eq_true rfl) (ob_move rfl (.tmp rfl)) fun a50 w50 s50 => ?_; clear s45
      refine seq_op s50 rfl rfl (of_decide_eq_true rfl) (ob_move rfl (.tmp rfl)) fun a51 w51 s51 => ?_; clear s50
      obtain ⟨x5, e_x5, h12⟩ := bind_some h10; clear h10
      refine seq_op s51 rfl rfl (of_decide_eq_true rfl) (ob_indexAddrs rfl Try.underlying41 sz3 (.tmp rfl) (.tmp rfl) e_x5) fun a52 w52 s52 => ?_; clear s51
      refine seq_op s52 rfl rfl (of_decide_eq_true rfl) (ob_loadr rfl tk3 (.tmp rfl)) fun a53 w53 s53 => ?_; clear s52
      refine seq_op s53 rfl rfl (of_decide_eq_true rfl) (ob_assign rfl (.tmp rfl)) fun a54 w54 s54 => ?_; clear s53
      refine wpList_nil ?_
      refine then_normal ?_
      refine hK13 _ _ ?_
      have s55 := s54.sub (.cons (t := 0) rfl (.cons (t := 1) rfl (.cons (t := 2) rfl (.cons (t := 3) rfl (.cons (t := 4) rfl (.cons (t := 11) rfl (.cons (t := 12) rfl (.cons (t := 13) rfl .nil)))))))); clear s54
      refine wp_seq_k fun K14 hK14 => ?_
      refine wp_seq_k fun K15 hK15 => ?_
      refine wp_region_lit ?_
      refine seq_op s55 rfl rfl (of_decide_eq_true rfl) (ob_move rfl (.tmp rfl)) fun a56 w56 s56 => ?_; clear s55
      refine seq_op s56 rfl rfl (of_decide_eq_true rfl) (ob_move rfl (.tmp rfl)) fun a57 w57 s57 => ?_; clear s56
      obtain ⟨x6, e_x6, h13⟩ := bind_some h12; clear h12
      refine seq_op s57 rfl rfl (of_decide_eq_true rfl) (ob_indexAddrs rfl Try.underlying58 sz4 (.tmp rfl) (.tmp rfl) e_x6) fun a58 w58 s58 => ?_; clear s57
      refine seq_op s58 rfl rfl (of_decide_eq_true rfl) (ob_loadr rfl tk4 (.tmp rfl)) fun a59 w59 s59 => ?_; clear s58
      refine seq_op s59 rfl rfl (of_decide_eq_true rfl) (ob_not rfl (.tmp rfl)) fun a60 w60 s60 => ?_; clear s59
      refine seq_op s60 rfl rfl (of_decide_eq_true rfl) (ob_move rfl (.tmp rfl)) fun a61 w61 s61 => ?_; clear s60
      refine seq_opg s61 rfl rfl rfl rfl (of_decide_eq_true rfl) (fun hb => ob_move rfl (.tmp rfl)) fun a62 w62 s62 => ?_; clear s61
      refine seq_opg s62 rfl rfl rfl rfl (of_decide_eq_true rfl) (fun hb => ob_move rfl (.tmp rfl)) fun a63 w63 s63 => ?_; clear s62
      obtain ⟨x7, e_x7, h14⟩ := bind_some h13; clear h13
      refine seq_opg s63 rfl rfl rfl rfl (of_decide_eq_true rfl) (fun hb => (Ob.uncond (t := 54) hb rfl ((Ob.uncond (t := 53) hb rfl (ob_indexAddrs rfl Try.underlying22 sz46 (.tmp rfl) (.tmp rfl) (ite_t hb e_x7)))))) fun a64 w64 s64 => ?_; clear s63
      refine seq_opg s64 rfl rfl rfl rfl (of_decide_eq_true rfl) (fun hb => (Ob.uncond (t := 55) hb rfl (ob_fieldAddrr rfl Try.underlying46 rfl sz44 (by decide) (.tmp rfl) (lg_api_Node_Op x7)))) fun a65 w65 s65 => ?_; clear s64
      refine seq_opg s65 rfl rfl rfl rfl (of_decide_eq_true rfl) (fun hb => (Ob.uncond (t := 56) hb rfl (ob_fieldAddrr rfl Try.underlying44 rfl sz3 (by decide) (.tmp rfl) (lg_api_Op_Kind x7.Op)))) fun a66 w66 s66 => ?_; clear s65
      refine seq_opg s66 rfl rfl rfl rfl (of_decide_eq_true rfl) (fun hb => (Ob.uncond (t := 57) hb rfl (ob_loadr rfl tk3 (.tmp rfl)))) fun a67 w67 s67 => ?_; clear s66
      refine seq_opg s67 rfl rfl rfl rfl (of_decide_eq_true rfl) (fun hb => (Ob.uncond (t := 58) hb rfl (ob_neq rfl (.tmp rfl) (opd_int rfl)))) fun a68 w68 s68 => ?_; clear s67
      refine seq_op s68 rfl rfl (of_decide_eq_true rfl) (ob_or2 rfl (.tmp rfl) opd_bool (.tmp rfl)) fun a69 w69 s69 => ?_; clear s68
      refine wpList_nil ?_
      refine then_normal ?_
      refine hK15 _ _ ?_
      have s70 := s69.sub (.cons (t := 0) rfl (.cons (t := 1) rfl (.cons (t := 2) rfl (.cons (t := 3) rfl (.cons (t := 4) rfl (.cons (t := 11) rfl (.cons (t := 12) rfl (.cons (t := 13) rfl (.cons (t := 60) rfl .nil))))))))); clear s69
      refine cond_split s70 (.tmp rfl) (fun hc3 => ?_) (fun hc3 => ?_)
      · replace h14 := ite_t hc3 h14
        have h15 := h14; clear h14
        refine wp_exit ?_
        refine (then_exit (in_here ?_))
        refine then_normal ?_
        exact hj2 _ _ h15 (s70.sub (.cons rfl (.cons rfl (.cons rfl (.cons rfl (.cons rfl (.cons rfl (.cons rfl .nil))))))))
      · replace h14 := ite_f hc3 h14
        have h16 := h14; clear h14
        refine wp_skip ?_
        refine then_normal ?_
        refine hK14 _ _ ?_
        have s71 := s70.sub (.cons (t := 0) rfl (.cons (t := 1) rfl (.cons (t := 2) rfl (.cons (t := 3) rfl (.cons (t := 4) rfl (.cons (t := 11) rfl (.cons (t := 12) rfl (.cons (t := 13) rfl .nil)))))))); clear s70
        refine wp_seq_k fun K16 hK16 => ?_
        refine wp_region_lit ?_
        refine seq_op s71 rfl rfl (of_decide_eq_true rfl) (ob_move rfl (.tmp rfl)) fun a72 w72 s72 => ?_; clear s71
        refine seq_op s72 rfl rfl (of_decide_eq_true rfl) (ob_move rfl (.tmp rfl)) fun a73 w73 s73 => ?_; clear s72
        refine seq_op s73 rfl rfl (of_decide_eq_true rfl) (ob_neq rfl (.tmp rfl) (.tmp rfl)) fun a74 w74 s74 => ?_; clear s73
        refine seq_op s74 rfl rfl (of_decide_eq_true rfl) (ob_move rfl (.tmp rfl)) fun a75 w75 s75 => ?_; clear s74
        refine seq_opg s75 rfl rfl rfl rfl (of_decide_eq_true rfl) (fun hb => ob_move rfl (.tmp rfl)) fun a76 w76 s76 => ?_; clear s75
        refine seq_opg s76 rfl rfl rfl rfl (of_decide_eq_true rfl) (fun hb => ob_move rfl (.tmp rfl)) fun a77 w77 s77 => ?_; clear s76
        obtain ⟨x8, e_x8, h17⟩ := bind_some h16; clear h16
        refine seq_opg s77 rfl rfl rfl rfl (of_decide_eq_true rfl) (fun hb => (Ob.uncond (t := 66) hb rfl ((Ob.uncond (t := 65) hb rfl (ob_indexAddrs rfl Try.underlying22 sz46 (.tmp rfl) (.tmp rfl) (ite_t hb e_x8)))))) fun a78 w78 s78 => ?_; clear s77
        refine seq_opg s78 rfl rfl rfl rfl (of_decide_eq_true rfl) (fun hb => (Ob.uncond (t := 67) hb rfl (ob_fieldAddrr rfl Try.underlying46 rfl sz41 (by decide) (.tmp rfl) (lg_api_Node_Past x8)))) fun a79 w79 s79 => ?_; clear s78
        refine seq_opg s79 rfl rfl rfl rfl (of_decide_eq_true rfl) (fun hb => (Ob.uncond (t := 68) hb rfl (ob_loadr rfl tk41 (.tmp rfl)))) fun a80 w80 s80 => ?_; clear s79
        refine seq_opg s80 rfl rfl rfl rfl (of_decide_eq_true rfl) (fun hb => ob_move rfl (.tmp rfl)) fun a81 w81 s81 => ?_; clear s80
        obtain ⟨x9, e_x9, h18⟩ := bind_some h17; clear h17
        refine seq_opg s81 rfl rfl rfl rfl (of_decide_eq_true rfl) (fun hb => (Ob.uncond (t := 70) hb rfl ((Ob.uncond (t := 69) hb rfl (ob_callD (args := [_, _]) rfl .direct hb44 (fun a w s fs gs hf hg => by obtain rfl := hf.unnil; obtain rfl := hg.unnil; exact c_cabalref15_In k _ _ _ (ite_t hb e_x9) _ _ _ _ (s.arg (.tmp rfl)) (s.arg (.tmp rfl)))))))) fun a82 w82 s82 => ?_; clear s81
        refine seq_opg s82 rfl rfl rfl rfl (of_decide_eq_true rfl) (fun hb => (Ob.uncond (t := 71) hb rfl (ob_not rfl (.tmp rfl)))) fun a83 w83 s83 => ?_; clear s82
        refine seq_op s83 rfl rfl (of_decide_eq_true rfl) (ob_and2 rfl (.tmp rfl) (.tmp rfl) opd_bool) fun a84 w84 s84 => ?_; clear s83
        refine seq_op s84 rfl rfl (of_decide_eq_true rfl) (ob_move rfl (.tmp rfl)) fun a85 w85 s85 => ?_; clear s84
        refine seq_opg s85 rfl rfl rfl rfl (of_decide_eq_true rfl) (fun hb => ob_move rfl (.tmp rfl)) fun a86 w86 s86 => ?_; clear s85
        refine seq_opg s86 rfl rfl rfl rfl (of_decide_eq_true rfl) (fun hb => ob_move rfl (.tmp rfl)) fun a87 w87 s87 => ?_; clear s86
        obtain ⟨x10, e_x10, h19⟩ := bind_some h18; clear h18
        refine seq_opg s87 rfl rfl rfl rfl (of_decide_eq_true rfl) (fun hb => (Ob.uncond (t := 76) hb rfl ((Ob.uncond (t := 75) hb rfl (ob_indexAddrs rfl Try.underlying22 sz46 (.tmp rfl) (.tmp rfl) (ite_t hb e_x10)))))) fun a88 w88 s88 => ?_; clear s87
        refine seq_opg s88 rfl rfl rfl rfl (of_decide_eq_true rfl) (fun hb => (Ob.uncond (t := 77) hb rfl (ob_fieldAddrr rfl Try.underlying46 rfl sz41 (by decide) (.tmp rfl) (lg_api_Node_Past x10)))) fun a89 w89 s89 => ?_; clear s88
        refine seq_opg s89 rfl rfl rfl rfl (of_decide_eq_true rfl) (fun hb => (Ob.uncond (t := 78) hb rfl (ob_loadr rfl tk41 (.tmp rfl)))) fun a90 w90 s90 => ?_; clear s89
        refine seq_opg s90 rfl rfl rfl rfl (of_decide_eq_true rfl) (fun hb => ob_move rfl (.tmp rfl)) fun a91 w91 s91 => ?_; clear s90
        obtain ⟨x11, e_x11, h20⟩ := bind_some h19; clear h19
        refine seq_opg s91 rfl rfl rfl rfl (of_decide_eq_true rfl) (fun hb => (Ob.uncond (t := 80) hb rfl ((Ob.uncond (t := 79) hb rfl (ob_callD (args := [_, _]) rfl .direct hb44 (fun a w s fs gs hf hg => by obtain rfl := hf.unnil; obtain rfl := hg.unnil; exact c_cabalref15_In k _ _ _ (ite_t hb e_x11) _ _ _ _ (s.arg (.tmp rfl)) (s.arg (.tmp rfl)))))))) fun a92 w92 s92 => ?_; clear s91
        refine seq_opg s92 rfl rfl rfl rfl (of_decide_eq_true rfl) (fun hb => (Ob.uncond (t := 81) hb rfl (ob_not rfl (.tmp rfl)))) fun a93 w93 s93 => ?_; clear s92
        refine seq_op s93 rfl rfl (of_decide_eq_true rfl) (ob_and2 rfl (.tmp rfl) (.tmp rfl) opd_bool) fun a94 w94 s94 => ?_; clear s93
        refine seq_op s94 rfl rfl (of_decide_eq_true rfl) (ob_assign rfl (.tmp rfl)) fun a95 w95 s95 => ?_; clear s94
        refine wpList_nil ?_
        refine then_normal ?_
        refine hK16 _ _ ?_
        have s96 := s95.sub (.cons (t := 0) rfl (.cons (t := 1) rfl (.cons (t := 2) rfl (.cons (t := 3) rfl (.cons (t := 4) rfl (.cons (t := 11) rfl (.cons (t := 12) rfl (.cons (t := 13) rfl (.cons (t := 14) rfl .nil))))))))); clear s95
        refine wp_seq_k fun K17 hK17 => ?_
        refine wp_seq_k fun K18 hK18 => ?_
        refine wp_region_lit ?_
        refine seq_op s96 rfl rfl (of_decide_eq_true rfl) (ob_fieldAddr (off' := 3) rfl Try.underlying44 rfl sz3 (by decide) (.tmp rfl) rfl) fun a97 w97 s97 => ?_; clear s96
        refine seq_op s97 rfl rfl (of_decide_eq_true rfl) (ob_load rfl tk3 (.tmp rfl) (.head _) (lg_api_Op_Kind x1.Op)) fun a98 w98 s98 => ?_; clear s97
        refine seq_op s98 rfl rfl (of_decide_eq_true rfl) (ob_eql rfl (.tmp rfl) (opd_int rfl)) fun a99 w99 s99 => ?_; clear s98
        refine seq_op s99 rfl rfl (of_decide_eq_true rfl) (ob_move rfl (.tmp rfl)) fun a100 w100 s100 => ?_; clear s99
        refine seq_opg s100 rfl rfl rfl rfl (of_decide_eq_true rfl) (fun hb => ob_move rfl (.tmp rfl)) fun a101 w101 s101 => ?_; clear s100
        obtain ⟨x12, e_x12, h21⟩ := bind_some h20; clear h20; replace e_x12 := Option.some.inj e_x12
        refine seq_op s101 rfl rfl (of_decide_eq_true rfl) ((ob_and2 rfl (.tmp rfl) (.tmp rfl) opd_bool).nm e_x12) fun a102 w102 s102 => ?_; clear s101
        refine seq_op s102 rfl rfl (of_decide_eq_true rfl) (ob_move rfl (.tmp rfl)) fun a103 w103 s103 => ?_; clear s102
        refine seq_opg s103 rfl rfl rfl rfl (of_decide_eq_true rfl) (fun hb => ob_move rfl (.tmp rfl)) fun a104 w104 s104 => ?_; clear s103
        refine seq_opg s104 rfl rfl rfl rfl (of_decide_eq_true rfl) (fun hb => ob_move rfl (.tmp rfl)) fun a105 w105 s105 => ?_; clear s104
        refine seq_opg s105 rfl rfl rfl rfl (of_decide_eq_true rfl) (fun hb => ob_move rfl (.tmp rfl)) fun a106 w106 s106 => ?_; clear s105
        refine seq_opg s106 rfl rfl rfl rfl (of_decide_eq_true rfl) (fun hb => ob_fieldAddr (off' := 0) rfl Try.underlying44 rfl sz3 (by decide) (.tmp rfl) rfl) fun a107 w107 s107 => ?_; clear s106
        refine seq_opg s107 rfl rfl rfl rfl (of_decide_eq_true rfl) (fun hb => (Ob.uncond (t := 94) hb rfl (ob_load rfl tk3 (.tmp rfl) (.head _) (lg_api_Op_Author x1.Op)))) fun a108 w108 s108 => ?_; clear s107
        obtain ⟨x13, e_x13, h22⟩ := bind_some h21; clear h21
        refine seq_opg s108 rfl rfl rfl rfl (of_decide_eq_true rfl) (fun hb => (Ob.uncond (t := 95) hb rfl ((Ob.uncond (t := 93) hb rfl ((Ob.uncond (t := 92) hb rfl ((Ob.uncond (t := 91) hb rfl (ob_callD (args := [_, _, _, _]) rfl .direct hb135 (fun a w s fs gs hf hg => by obtain rfl := hf.unnil; obtain rfl := hg.unnil; exact c_cabalref16_removal k _ _ _ _ _ (ite_t hb e_x13) _ _ _ _ _ _ (s.arg (.tmp rfl)) (s.arg (.tmp rfl)) (s.arg (.tmp rfl)) (s.arg (.tmp rfl)))))))))))) fun a109 w109 s109 => ?_; clear s108
        refine seq_op s109 rfl rfl (of_decide_eq_true rfl) (ob_and2 rfl (.tmp rfl) (.tmp rfl) opd_bool) fun a110 w110 s110 => ?_; clear s109
        refine wpList_nil ?_
        refine then_normal ?_
        refine hK18 _ _ ?_
        have s111 := s110.sub (.cons (t := 0) rfl (.cons (t := 1) rfl (.cons (t := 2) rfl (.cons (t := 3) rfl (.cons (t := 4) rfl (.cons (t := 11) rfl (.cons (t := 12) rfl (.cons (t := 13) rfl (.cons (t := 97) rfl .nil))))))))); clear s110
        refine cond_split s111 (.tmp rfl) (fun hc4 => ?_) (fun hc4 => ?_)
        · replace h22 := ite_t hc4 h22
          have h23 := h22; clear h22
          refine wp_seq_k fun K19 hK19 => ?_
          refine wp_region_lit ?_
          refine seq_op s111 rfl rfl (of_decide_eq_true rfl) (ob_assign rfl opd_bool) fun a112 w112 s112 => ?_; clear s111
          refine wpList_nil ?_
          refine then_normal ?_
          refine hK19 _ _ ?_
          have s113 := s112.sub (.cons (t := 10) rfl .nil); clear s112
          have s114 := St.drop (A := []) s113; clear s113
          refine wp_ret ?_
          obtain rfl := Option.some.inj h23
          exact leave s114 (.inl rfl) rfl (.cons (.tmp rfl) .nil)
        · replace h22 := ite_f hc4 h22
          have h24 := h22; clear h22
          refine wp_skip ?_
          refine then_normal ?_
          refine hK17 _ _ ?_
          have s115 := s111.sub (.cons (t := 0) rfl (.cons (t := 1) rfl (.cons (t := 2) rfl (.cons (t := 3) rfl (.cons (t := 4) rfl (.cons (t := 11) rfl (.cons (t := 12) rfl (.cons (t := 13) rfl .nil)))))))); clear s111
          refine wp_seq_k fun K20 hK20 => ?_
          refine wp_region_lit ?_
          refine seq_op s115 rfl rfl (of_decide_eq_true rfl) (ob_move rfl (.tmp rfl)) fun a116 w116 s116 => ?_; clear s115
          refine seq_op s116 rfl rfl (of_decide_eq_true rfl) (ob_move rfl (.tmp rfl)) fun a117 w117 s117 => ?_; clear s116
          refine seq_op s117 rfl rfl (of_decide_eq_true rfl) (ob_move rfl (.tmp rfl)) fun a118 w118 s118 => ?_; clear s117
          refine seq_op s118 rfl rfl (of_decide_eq_true rfl) (ob_move rfl (.tmp rfl)) fun a119 w119 s119 => ?_; clear s118
          obtain ⟨x14, e_x14, h25⟩ := bind_some h24; clear h24
          refine seq_op s119 rfl rfl (of_decide_eq_true rfl) (ob_callD (args := [_, _, _, _]) rfl .direct hb135 (fun a w s fs gs hf hg => by obtain rfl := hf.unnil; obtain rfl := hg.unnil; exact c_cabalref16_removal k _ _ _ _ _ e_x14 _ _ _ _ _ _ (s.arg (.tmp rfl)) (s.arg (.tmp rfl)) (s.arg (.tmp rfl)) (s.arg (.tmp rfl)))) fun a120 w120 s120 => ?_; clear s119
          refine seq_op s120 rfl rfl (of_decide_eq_true rfl) (ob_move rfl (.tmp rfl)) fun a121 w121 s121 => ?_; clear s120
          refine seq_opg s121 rfl rfl rfl rfl (of_decide_eq_true rfl) (fun hb => ob_move rfl (.tmp rfl)) fun a122 w122 s122 => ?_; clear s121
          refine seq_opg s122 rfl rfl rfl rfl (of_decide_eq_true rfl) (fun hb => ob_move rfl (.tmp rfl)) fun a123 w123 s123 => ?_; clear s122
          obtain ⟨x15, e_x15, h26⟩ := bind_some h25; clear h25
          refine seq_opg s123 rfl rfl rfl rfl (of_decide_eq_true rfl) (fun hb => (Ob.uncond (t := 105) hb rfl ((Ob.uncond (t := 104) hb rfl (ob_indexAddrs rfl Try.underlying22 sz46 (.tmp rfl) (.tmp rfl) (ite_t hb e_x15)))))) fun a124 w124 s124 => ?_; clear s123
          refine seq_opg s124 rfl rfl rfl rfl (of_decide_eq_true rfl) (fun hb => (Ob.uncond (t := 106) hb rfl (ob_fieldAddrr rfl Try.underlying46 rfl sz41 (by decide) (.tmp rfl) (lg_api_Node_Past x15)))) fun a125 w125 s125 => ?_; clear s124
          refine seq_opg s125 rfl rfl rfl rfl (of_decide_eq_true rfl) (fun hb => (Ob.uncond (t := 107) hb rfl (ob_loadr rfl tk41 (.tmp rfl)))) fun a126 w126 s126 => ?_; clear s125
          refine seq_opg s126 rfl rfl rfl rfl (of_decide_eq_true rfl) (fun hb => ob_move rfl (.tmp rfl)) fun a127 w127 s127 => ?_; clear s126
          obtain ⟨x16, e_x16, h27⟩ := bind_some h26; clear h26
          refine seq_opg s127 rfl rfl rfl rfl (of_decide_eq_true rfl) (fun hb => (Ob.uncond (t := 109) hb rfl ((Ob.uncond (t := 108) hb rfl (ob_callD (args := [_, _]) rfl .direct hb44 (fun a w s fs gs hf hg => by obtain rfl := hf.unnil; obtain rfl := hg.unnil; exact c_cabalref15_In k _ _ _ (ite_t hb e_x16) _ _ _ _ (s.arg (.tmp rfl)) (s.arg (.tmp rfl)))))))) fun a128 w128 s128 => ?_; clear s127
          refine seq_opg s128 rfl rfl rfl rfl (of_decide_eq_true rfl) (fun hb => (Ob.uncond (t := 110) hb rfl (ob_not rfl (.tmp rfl)))) fun a129 w129 s129 => ?_; clear s128
          refine seq_op s129 rfl rfl (of_decide_eq_true rfl) (ob_and2 rfl (.tmp rfl) (.tmp rfl) opd_bool) fun a130 w130 s130 => ?_; clear s129
          refine wpList_nil ?_
          refine then_normal ?_
          refine hK20 _ _ ?_
          have s131 := s130.sub (.cons (t := 0) rfl (.cons (t := 1) rfl (.cons (t := 2) rfl (.cons (t := 3) rfl (.cons (t := 4) rfl (.cons (t := 11) rfl (.cons (t := 12) rfl (.cons (t := 112) rfl .nil)))))))); clear s130
          refine cond_split s131 (.tmp rfl) (fun hc5 => ?_) (fun hc5 => ?_)
          · replace h27 := ite_t hc5 h27
            have h28 := h27; clear h27
            refine wp_seq_k fun K21 hK21 => ?_
            refine wp_region_lit ?_
            refine seq_op s131 rfl rfl (of_decide_eq_true rfl) (ob_assign rfl opd_bool) fun a132 w132 s132 => ?_; clear s131
            refine wpList_nil ?_
            refine then_normal ?_
            refine hK21 _ _ ?_
            have s133 := s132.sub (.cons (t := 10) rfl .nil); clear s132
            have s134 := St.drop (A := []) s133; clear s133
            refine wp_ret ?_
            obtain rfl := Option.some.inj h28
            exact leave s134 (.inl rfl) rfl (.cons (.tmp rfl) .nil)
          · replace h27 := ite_f hc5 h27
            have h29 := h27; clear h27
            refine wp_skip ?_
            refine in_normal ?_
            refine then_normal ?_
            exact hj2 _ _ h29 (s131.sub (.cons rfl (.cons rfl (.cons rfl (.cons rfl (.cons rfl (.cons rfl (.cons rfl .nil))))))))
    · replace h9 := ite_f hc2 h9
      have h30 := h9; clear h9
      refine wp_exit ?_
      refine (then_exit (then_exit (in_here ?_)))
      refine then_normal ?_
      have s135 := St.drop (A := []) s44; clear s44
      exact hj1 _ _ h30 (s135.sub .nil)

/- 41 cabal/cabalref16.Roster -/
theorem c_cabalref16_Roster (k : Nat) (p1 : (List api_Node)) (p2 : (List Bool)) (p3 : (List Int)) (r : (List Int)) (h0 : cabalref16_Roster k p1 p2 p3 = some r) (ok : Ok) (w0 : World) (z0 : Value) (z1 : Value) (z2 : Value) (u0 : ((ksl k_api_Node).V p1).holds ok w0 z0) (u1 : ((ksl kbool).V p2).holds ok w0 z1) (u2 : ((ksl (kint .i64)).V p3).holds ok w0 z2) :
    GivesX Try.prog 41 [z0, z1, z2] ok w0 [] (fun g : Value => resFact [is g]) (fun g : Value => [RowF (g) 3 (kint .i64) r]) := by
  unfold cabalref16_Roster at h0
  refine enterX (N := 39) Try.func41 rfl rfl (of_decide_eq_true rfl) (.cons u0 (.cons u1 (.cons u2 .nil))) List.nodup_nil (fun _ h => by cases h) (fun _ h => by cases h) fun a1 s1 => ?_
  refine wp_seq_k fun K1 hK1 => ?_
  refine wp_region_lit ?_
  refine seq_op s1 rfl rfl (of_decide_eq_true rfl) (ob_assign rfl opd_is) fun a2 w2 s2 => ?_; clear s1
  have s3 := St.adopt s2 (G := RowF (nilRow 46) 3 (kint .i64) []) rfl (rowNilN _ _ _ _ _); clear s2
  refine wpList_nil ?_
  refine then_normal ?_
  refine hK1 _ _ ?_
  have s4 := s3.sub (.cons (t := 0) rfl (.cons (t := 1) rfl (.cons (t := 2) rfl .nil))); clear s3
  have s5 := St.drop (A := []) s4; clear s4
  refine wp_seq_k fun K2 hK2 => ?_
  refine wp_region_lit ?_
  refine seq_op s5 rfl rfl (of_decide_eq_true rfl) (ob_assign rfl opd_is) fun a6 w6 s6 => ?_; clear s5
  have s7 := St.adopt s6 (G := RowF (nilRow 47) 3 (kint .i64) []) rfl (rowNilN _ _ _ _ _); clear s6
  refine wpList_nil ?_
  refine then_normal ?_
  refine hK2 _ _ ?_
  have s8 := s7.sub (.cons (t := 0) rfl (.cons (t := 1) rfl (.cons (t := 2) rfl (.cons (t := 7) rfl .nil)))); clear s7
  refine wp_seq_k fun K3 hK3 => ?_
  refine wp_seq_k fun K4 hK4 => ?_
  refine wp_region_lit ?_
  refine seq_op s8 rfl rfl (of_decide_eq_true rfl) (ob_assign rfl (opd_int rfl)) fun a9 w9 s9 => ?_; clear s8
  refine wpList_nil ?_
  refine then_normal ?_
  refine hK4 _ _ ?_
  have s10 := s9.sub (.cons (t := 0) rfl (.cons (t := 1) rfl (.cons (t := 2) rfl (.cons (t := 7) rfl (.cons (t := 8) rfl .nil))))); clear s9
  have hj1 : ∀ (y1 : (List Int)) (v1 : Value) (a : Act) (w : World), (cabalref16_Roster.j1 k) y1 = some r → St ⟨39, w0, ok, (idsOf [])⟩ [RowF v1 3 (kint .i64) y1] [(7, (is v1))] a w → K3 a w := by
    intro y1 v1 a11 w11 h1 s11
    unfold cabalref16_Roster.j1 at h1
    refine hK3 _ _ ?_
    refine wp_seq_k fun K5 hK5 => ?_
    refine wp_region_lit ?_
    refine seq_op s11 rfl rfl (of_decide_eq_true rfl) (ob_move rfl (.tmp rfl)) fun a12 w12 s12 => ?_; clear s11
    refine seq_op s12 rfl rfl (of_decide_eq_true rfl) (ob_assign rfl (.tmp rfl)) fun a13 w13 s13 => ?_; clear s12
    refine wpList_nil ?_
    refine then_normal ?_
    refine hK5 _ _ ?_
    have s14 := s13.sub (.cons (t := 6) rfl .nil); clear s13
    refine wp_ret ?_
    obtain rfl := Option.some.inj h1
    exact leaveXD (D := []) v1 s14 rfl (.inl rfl) rfl (.cons (.tmp rfl) .nil) rfl
  refine wp_block ?_
  refine wp_loop_fuel (fun m (q : Int × (List Int)) => cabalref16_Roster.l1 k p3 p1 p2 m q.1 q.2) r (fun _ => rfl) (fun q a w => ∃ (v2 : Value), St ⟨39, w0, ok, (idsOf [])⟩ [RowF v2 3 (kint .i64) q.2] [(0, ((ksl k_api_Node).V p1)), (1, ((ksl kbool).V p2)), (2, ((ksl (kint .i64)).V p3)), (7, (is v2)), (8, ((kint .i64).V q.1))] a w) ?_ k ((0 : Int), ([] : (List Int))) _ _ h0 ⟨(nilRow 47), (s10.sub (.cons rfl (.cons rfl (.cons rfl (.cons rfl (.cons rfl .nil))))))⟩
  rintro n1 ⟨y2, y3⟩ a15 w15 h2 ⟨v2, s15⟩ K6 hK6
  replace h2 : cabalref16_Roster.l1 k p3 p1 p2 (n1 + 1) y2 y3 = some r := h2; rw [cabalref16_Roster.l1] at h2
  have h3 := h2; clear h2
  refine wp_seq_k fun K7 hK7 => ?_
  refine wp_seq_k fun K8 hK8 => ?_
  refine wp_region_lit ?_
  refine seq_op s15 rfl rfl (of_decide_eq_true rfl) (ob_move rfl (.tmp rfl)) fun a16 w16 s16 => ?_; clear s15
  refine seq_op s16 rfl rfl (of_decide_eq_true rfl) (ob_lss rfl (.tmp rfl) (opd_int rfl)) fun a17 w17 s17 => ?_; clear s16
  refine wpList_nil ?_
  refine then_normal ?_
  refine hK8 _ _ ?_
  have s18 := s17.sub (.cons (t := 0) rfl (.cons (t := 1) rfl (.cons (t := 2) rfl (.cons (t := 7) rfl (.cons (t := 8) rfl (.cons (t := 12) rfl .nil)))))); clear s17
  refine cond_split s18 (.tmp rfl) (fun hc1 => ?_) (fun hc1 => ?_)
  · replace h3 := ite_t hc1 h3
    have h4 := h3; clear h3
    refine wp_skip ?_
    refine then_normal ?_
    refine hK7 _ _ ?_
    have s19 := s18.sub (.cons (t := 0) rfl (.cons (t := 1) rfl (.cons (t := 2) rfl (.cons (t := 7) rfl (.cons (t := 8) rfl .nil))))); clear s18
    refine wp_seq_k fun K9 hK9 => ?_
    have hj2 : ∀ (y4 : (List Int)) (v3 : Value) (a : Act) (w : World), (cabalref16_Roster.j2 k y2 (cabalref16_Roster.l1 k p3 p1 p2 n1)) y4 = some r → St ⟨39, w0, ok, (idsOf [])⟩ [RowF v3 3 (kint .i64) y4] [(0, ((ksl k_api_Node).V p1)), (1, ((ksl kbool).V p2)), (2, ((ksl (kint .i64)).V p3)), (7, (is v3)), (8, ((kint .i64).V y2))] a w → K9 a w := by
      intro y4 v3 a20 w20 h5 s20
      unfold cabalref16_Roster.j2 at h5
      refine hK9 _ _ ?_
      refine wp_region_lit ?_
      refine seq_op s20 rfl rfl (of_decide_eq_true rfl) (ob_move rfl (.tmp rfl)) fun a21 w21 s21 => ?_; clear s20
      refine seq_op s21 rfl rfl (of_decide_eq_true rfl) (ob_add rfl (.tmp rfl) (opd_int rfl)) fun a22 w22 s22 => ?_; clear s21
      refine seq_op s22 rfl rfl (of_decide_eq_true rfl) (ob_assign rfl (.tmp rfl)) fun a23 w23 s23 => ?_; clear s22
      refine wpList_nil ?_
      refine then_normal ?_
      exact hK6 ((iadd .i64 y2 (1 : Int)), y4) _ _ h5 ⟨v3, (s23.sub (.cons rfl (.cons rfl (.cons rfl (.cons rfl (.cons rfl .nil))))))⟩
    refine wp_block ?_
    refine wp_seq_k fun K10 hK10 => ?_
    refine wp_region_lit ?_
    refine seq_op s19 rfl rfl (of_decide_eq_true rfl) (ob_assign rfl opd_bool) fun a24 w24 s24 => ?_; clear s19
    refine wpList_nil ?_
    refine then_normal ?_
    refine hK10 _ _ ?_
    have s25 := s24.sub (.cons (t := 0) rfl (.cons (t := 1) rfl (.cons (t := 2) rfl (.cons (t := 7) rfl (.cons (t := 8) rfl (.cons (t := 9) rfl .nil)))))); clear s24
    refine wp_seq_k fun K11 hK11 => ?_
    refine wp_seq_k fun K12 hK12 => ?_
    refine wp_region_lit ?_
    refine seq_op s25 rfl rfl (of_decide_eq_true rfl) (ob_assign rfl (opd_int rfl)) fun a26 w26 s26 => ?_; clear s25
    refine wpList_nil ?_
    refine then_normal ?_
    refine hK12 _ _ ?_
    have s27 := s26.sub (.cons (t := 0) rfl (.cons (t := 1) rfl (.cons (t := 2) rfl (.cons (t := 7) rfl (.cons (t := 8) rfl (.cons (t := 9) rfl (.cons (t := 10) rfl .nil))))))); clear s26
    have hj3 : ∀ (y5 : Bool) (a : Act) (w : World), (cabalref16_Roster.j3 k y3 y2 (cabalref16_Roster.l1 k p3 p1 p2 n1)) y5 = some r → St ⟨39, w0, ok, (idsOf [])⟩ [RowF v2 3 (kint .i64) y3] [(0, ((ksl k_api_Node).V p1)), (1, ((ksl kbool).V p2)), (2, ((ksl (kint .i64)).V p3)), (7, (is v2)), (8, ((kint .i64).V y2)), (9, (kbool.V y5))] a w → K11 a w := by
      intro y5 a28 w28 h6 s28
      unfold cabalref16_Roster.j3 at h6
      refine hK11 _ _ ?_
      refine wp_seq_k fun K13 hK13 => ?_
      refine wp_region_lit ?_
      refine seq_op s28 rfl rfl (of_decide_eq_true rfl) (ob_move rfl (.tmp rfl)) fun a29 w29 s29 => ?_; clear s28
      refine wpList_nil ?_
      refine then_normal ?_
      refine hK13 _ _ ?_
      have s30 := s29.sub (.cons (t := 0) rfl (.cons (t := 1) rfl (.cons (t := 2) rfl (.cons (t := 7) rfl (.cons (t := 8) rfl (.cons (t := 33) rfl .nil)))))); clear s29
      refine cond_split s30 (.tmp rfl) (fun hc2 => ?_) (fun hc2 => ?_)
      · replace h6 := ite_t hc2 h6
        have h7 := h6; clear h6
        refine wp_region_lit ?_
        refine seq_op s30 rfl rfl (of_decide_eq_true rfl) (ob_move rfl (.tmp rfl)) fun a31 w31 s31 => ?_; clear s30
        refine seq_op s31 rfl rfl (of_decide_eq_true rfl) (ob_move rfl (.tmp rfl)) fun a32 w32 s32 => ?_; clear s31
        refine seq_op s32 rfl rfl (of_decide_eq_true rfl) (ob_mkSlice (k := (kint .i64)) (xs := ([y2] : (List Int))) rfl Try.underlying41 zz3 sz3 (Zr.int .i64) (by decide) (by decide) (.cons (.tmp rfl) rfl (LS.arr' (i := 0) (ys := ([y2] : (List Int))) (by simp) (by rfl)) (.nil _))) fun a33 w33 s33 => ?_; clear s32
        obtain ⟨g1, h8⟩ := guard_some h7; clear h7
        refine seq_opx (B' := (fun v4 : Value => [RowF v4 3 (kint .i64) (y3 ++ ([y2] : (List Int)))])) s33 rfl rfl (of_decide_eq_true rfl) (ob_appendL2 (A := []) rfl Try.underlying41 ap3 (Zr.int .i64) (by decide) (.tmp rfl) (.tmp rfl) rfl g1) fun v4 a34 w34 s34 => ?_; clear s33
        refine seq_op s34 rfl rfl (of_decide_eq_true rfl) (ob_assign rfl (.tmp rfl)) fun a35 w35 s35 => ?_; clear s34
        refine wpList_nil ?_
        refine in_normal ?_
        refine then_normal ?_
        exact hj2 (y3 ++ ([y2] : (List Int))) v4 _ _ h8 (s35.sub (.cons rfl (.cons rfl (.cons rfl (.cons rfl (.cons rfl .nil))))))
      · replace h6 := ite_f hc2 h6
        have h9 := h6; clear h6
        refine wp_skip ?_
        refine in_normal ?_
        refine then_normal ?_
        exact hj2 y3 v2 _ _ h9 (s30.sub (.cons rfl (.cons rfl (.cons rfl (.cons rfl (.cons rfl .nil))))))
    refine wp_block ?_
    refine wp_loop_fuel (fun m (q : Bool × Int) => cabalref16_Roster.l2 k p3 p1 p2 y2 y3 (cabalref16_Roster.l1 k p3 p1 p2 n1) m q.1 q.2) r (fun _ => rfl) (fun q a w => St ⟨39, w0, ok, (idsOf [])⟩ [RowF v2 3 (kint .i64) y3] [(0, ((ksl k_api_Node).V p1)), (1, ((ksl kbool).V p2)), (2, ((ksl (kint .i64)).V p3)), (7, (is v2)), (8, ((kint .i64).V y2)), (9, (kbool.V q.1)), (10, ((kint .i64).V q.2))] a w) ?_ k (false, (0 : Int)) _ _ h4 (s27.sub (.cons rfl (.cons rfl (.cons rfl (.cons rfl (.cons rfl (.cons rfl (.cons rfl .nil))))))))
    rintro n2 ⟨y6, y7⟩ a36 w36 h10 s36 K14 hK14
    replace h10 : cabalref16_Roster.l2 k p3 p1 p2 y2 y3 (cabalref16_Roster.l1 k p3 p1 p2 n1) (n2 + 1) y6 y7 = some r := h10; rw [cabalref16_Roster.l2] at h10
    have h11 := h10; clear h10
    refine wp_seq_k fun K15 hK15 => ?_
    refine wp_seq_k fun K16 hK16 => ?_
    refine wp_region_lit ?_
    refine seq_op s36 rfl rfl (of_decide_eq_true rfl) (ob_move rfl (.tmp rfl)) fun a37 w37 s37 => ?_; clear s36
    refine seq_op s37 rfl rfl (of_decide_eq_true rfl) (ob_move rfl (.tmp rfl)) fun a38 w38 s38 => ?_; clear s37
    refine seq_op s38 rfl rfl (of_decide_eq_true rfl) (ob_lens rfl Try.underlying41 (.tmp rfl)) fun a39 w39 s39 => ?_; clear s38
    refine seq_op s39 rfl rfl (of_decide_eq_true rfl) (ob_lss rfl (.tmp rfl) (.tmp rfl)) fun a40 w40 s40 => ?_; clear s39
    refine wpList_nil ?_
    refine then_normal ?_
    refine hK16 _ _ ?_
    have s41 := s40.sub (.cons (t := 0) rfl (.cons (t := 1) rfl (.cons (t := 2) rfl (.cons (t := 7) rfl (.cons (t := 8) rfl (.cons (t := 9) rfl (.cons (t := 10) rfl (.cons (t := 18) rfl .nil)))))))); clear s40
    refine cond_split s41 (.tmp rfl) (fun hc3 => ?_) (fun hc3 => ?_)
    · replace h11 := ite_t hc3 h11
      have h12 := h11; clear h11
      refine wp_skip ?_
      refine then_normal ?_
      refine hK15 _ _ ?_
      have s42 := s41.sub (.cons (t := 0) rfl (.cons (t := 1) rfl (.cons (t := 2) rfl (.cons (t := 7) rfl (.cons (t := 8) rfl (.cons (t := 9) rfl (.cons (t := 10) rfl .nil))))))); clear s41
      refine wp_seq_k fun K17 hK17 => ?_
      refine wp_block ?_
      refine wp_region_lit ?_
      refine seq_op s42 rfl rfl (of_decide_eq_true rfl) (ob_move rfl (.tmp rfl)) fun a43 w43 s43 => ?_; clear s42
      refine seq_op s43 rfl rfl (of_decide_eq_true rfl) (ob_move rfl (.tmp rfl)) fun a44 w44 s44 => ?_; clear s43
      refine seq_opg s44 rfl rfl rfl rfl (of_decide_eq_true rfl) (fun hb => ob_move rfl (.tmp rfl)) fun a45 w45 s45 => ?_; clear s44
      refine seq_opg s45 rfl rfl rfl rfl (of_decide_eq_true rfl) (fun hb => ob_move rfl (.tmp rfl)) fun a46 w46 s46 => ?_; clear s45
      refine seq_opg s46 rfl rfl rfl rfl (of_decide_eq_true rfl) (fun hb => ob_move rfl (.tmp rfl)) fun a47 w47 s47 => ?_; clear s46
      refine seq_opg s47 rfl rfl rfl rfl (of_decide_eq_true rfl) (fun hb => ob_move rfl (.tmp rfl)) fun a48 w48 s48 => ?_; clear s47
      refine seq_opg s48 rfl rfl rfl rfl (of_decide_eq_true rfl) (fun hb => ob_move rfl (.tmp rfl)) fun a49 w49 s49 => ?_; clear s48
      obtain ⟨x1, e_x1, h13⟩ := bind_some h12; clear h12
      refine seq_opg s49 rfl rfl rfl rfl (of_decide_eq_true rfl) (fun hb => (Ob.uncond (t := 27) hb rfl ((Ob.uncond (t := 26) hb rfl (ob_indexAddrs rfl Try.underlying41 sz3 (.tmp rfl) (.tmp rfl) (ite_t hb e_x1)))))) fun a50 w50 s50 => ?_; clear s49
      refine seq_opg s50 rfl rfl rfl rfl (of_decide_eq_true rfl) (fun hb => (Ob.uncond (t := 28) hb rfl (ob_loadr rfl tk3 (.tmp rfl)))) fun a51 w51 s51 => ?_; clear s50
      refine seq_opg s51 rfl rfl rfl rfl (of_decide_eq_true rfl) (fun hb => ob_move rfl (.tmp rfl)) fun a52 w52 s52 => ?_; clear s51
      obtain ⟨x2, e_x2, h14⟩ := bind_some h13; clear h13
      refine seq_opg s52 rfl rfl rfl rfl (of_decide_eq_true rfl) (fun hb => (Ob.uncond (t := 30) hb rfl ((Ob.uncond (t := 29) hb rfl ((Ob.uncond (t := 25) hb rfl ((Ob.uncond (t := 24) hb rfl ((Ob.uncond (t := 23) hb rfl (ob_callD (args := [_, _, _, _, _]) rfl .direct hb90 (fun a w s fs gs hf hg => by obtain rfl := hf.unnil; obtain rfl := hg.unnil; exact c_cabalref16_lets k _ _ _ _ _ _ (ite_t hb e_x2) _ _ _ _ _ _ _ (s.arg (.tmp rfl)) (s.arg (.tmp rfl)) (s.arg (.tmp rfl)) (s.arg (.tmp rfl)) (s.arg (.tmp rfl)))))))))))))) fun a53 w53 s53 => ?_; clear s52
      refine seq_op s53 rfl rfl (of_decide_eq_true rfl) (ob_or2 rfl (.tmp rfl) opd_bool (.tmp rfl)) fun a54 w54 s54 => ?_; clear s53
      refine seq_op s54 rfl rfl (of_decide_eq_true rfl) (ob_assign rfl (.tmp rfl)) fun a55 w55 s55 => ?_; clear s54
      refine wpList_nil ?_
      refine in_normal ?_
      refine then_normal ?_
      refine hK17 _ _ ?_
      have s56 := s55.sub (.cons (t := 0) rfl (.cons (t := 1) rfl (.cons (t := 2) rfl (.cons (t := 7) rfl (.cons (t := 8) rfl (.cons (t := 9) rfl (.cons (t := 10) rfl .nil))))))); clear s55
      refine wp_region_lit ?_
      refine seq_op s56 rfl rfl (of_decide_eq_true rfl) (ob_move rfl (.tmp rfl)) fun a57 w57 s57 => ?_; clear s56
      refine seq_op s57 rfl rfl (of_decide_eq_true rfl) (ob_add rfl (.tmp rfl) (opd_int rfl)) fun a58 w58 s58 => ?_; clear s57
      refine seq_op s58 rfl rfl (of_decide_eq_true rfl) (ob_assign rfl (.tmp rfl)) fun a59 w59 s59 => ?_; clear s58
      refine wpList_nil ?_
      refine then_normal ?_
      exact hK14 ((if y6 then true else x2), (iadd .i64 y7 (1 : Int))) _ _ h14 (s59.sub (.cons rfl (.cons rfl (.cons rfl (.cons rfl (.cons rfl (.cons rfl (.cons rfl .nil))))))))
    · replace h11 := ite_f hc3 h11
      have h15 := h11; clear h11
      refine wp_exit ?_
      refine (then_exit (then_exit (in_here ?_)))
      refine then_normal ?_
      exact hj3 y6 _ _ h15 (s41.sub (.cons rfl (.cons rfl (.cons rfl (.cons rfl (.cons rfl (.cons rfl .nil)))))))
  · replace h3 := ite_f hc1 h3
    have h16 := h3; clear h3
    refine wp_exit ?_
    refine (then_exit (then_exit (in_here ?_)))
    refine then_normal ?_
    exact hj1 y3 v2 _ _ h16 (s18.sub (.cons rfl .nil))

/- 42 cabal/cabalref16.Counts -/
theorem c_cabalref16_Counts (k : Nat) (p1 : (List api_Node)) (r : (List Bool)) (h0 : cabalref16_Counts k p1 = some r) (ok : Ok) (w0 : World) (z0 : Value) (u0 : ((ksl k_api_Node).V p1).holds ok w0 z0) :
    GivesX Try.prog 42 [z0] ok w0 [] (fun g : Value => resFact [is g]) (fun g : Value => [RowF (g) 4 kbool r]) := by
  unfold cabalref16_Counts at h0
  refine enterX (N := 39) Try.func42 rfl rfl (of_decide_eq_true rfl) (.cons u0 .nil) List.nodup_nil (fun _ h => by cases h) (fun _ h => by cases h) fun a1 s1 => ?_
  refine wp_seq_k fun K1 hK1 => ?_
  refine wp_region_lit ?_
  refine seq_op s1 rfl rfl (of_decide_eq_true rfl) (ob_assign rfl opd_is) fun a2 w2 s2 => ?_; clear s1
  have s3 := St.adopt s2 (G := RowF (nilRow 44) 4 kbool []) rfl (rowNilN _ _ _ _ _); clear s2
  refine wpList_nil ?_
  refine then_normal ?_
  refine hK1 _ _ ?_
  have s4 := s3.sub (.cons (t := 0) rfl .nil); clear s3
  have s5 := St.drop (A := []) s4; clear s4
  refine wp_seq_k fun K2 hK2 => ?_
  refine wp_region_lit ?_
  refine seq_op s5 rfl rfl (of_decide_eq_true rfl) (ob_assign rfl opd_is) fun a6 w6 s6 => ?_; clear s5
  have s7 := St.adopt s6 (G := RowF (nilRow 45) 4 kbool []) rfl (rowNilN _ _ _ _ _); clear s6
  refine wpList_nil ?_
  refine then_normal ?_
  refine hK2 _ _ ?_
  have s8 := s7.sub (.cons (t := 0) rfl (.cons (t := 3) rfl .nil)); clear s7
  refine wp_seq_k fun K3 hK3 => ?_
  refine wp_seq_k fun K4 hK4 => ?_
  refine wp_region_lit ?_
  refine seq_op s8 rfl rfl (of_decide_eq_true rfl) (ob_assign rfl (opd_int rfl)) fun a9 w9 s9 => ?_; clear s8
  refine wpList_nil ?_
  refine then_normal ?_
  refine hK4 _ _ ?_
  have s10 := s9.sub (.cons (t := 0) rfl (.cons (t := 3) rfl (.cons (t := 4) rfl .nil))); clear s9
  have hj1 : ∀ (y1 : (List Bool)) (v1 : Value) (a : Act) (w : World), (cabalref16_Counts.j1 k) y1 = some r → St ⟨39, w0, ok, (idsOf [])⟩ [RowF v1 4 kbool y1] [(3, (is v1))] a w → K3 a w := by
    intro y1 v1 a11 w11 h1 s11
    unfold cabalref16_Counts.j1 at h1
    refine hK3 _ _ ?_
    refine wp_seq_k fun K5 hK5 => ?_
    refine wp_region_lit ?_
    refine seq_op s11 rfl rfl (of_decide_eq_true rfl) (ob_move rfl (.tmp rfl)) fun a12 w12 s12 => ?_; clear s11
    refine seq_op s12 rfl rfl (of_decide_eq_true rfl) (ob_assign rfl (.tmp rfl)) fun a13 w13 s13 => ?_; clear s12
    refine wpList_nil ?_
    refine then_normal ?_
    refine hK5 _ _ ?_
    have s14 := s13.sub (.cons (t := 2) rfl .nil); clear s13
    refine wp_ret ?_
    obtain rfl := Option.some.inj h1
    exact leaveXD (D := []) v1 s14 rfl (.inl rfl) rfl (.cons (.tmp rfl) .nil) rfl
  refine wp_block ?_
  refine wp_loop_fuel (fun m (q : Int × (List Bool)) => cabalref16_Counts.l1 k p1 m q.1 q.2) r (fun _ => rfl) (fun q a w => ∃ (v2 : Value), St ⟨39, w0, ok, (idsOf [])⟩ [RowF v2 4 kbool q.2] [(0, ((ksl k_api_Node).V p1)), (3, (is v2)), (4, ((kint .i64).V q.1))] a w) ?_ k ((0 : Int), ([] : (List Bool))) _ _ h0 ⟨(nilRow 45), (s10.sub (.cons rfl (.cons rfl (.cons rfl .nil))))⟩
  rintro n1 ⟨y2, y3⟩ a15 w15 h2 ⟨v2, s15⟩ K6 hK6
  replace h2 : cabalref16_Counts.l1 k p1 (n1 + 1) y2 y3 = some r := h2; rw [cabalref16_Counts.l1] at h2
  have h3 := h2; clear h2
  refine wp_seq_k fun K7 hK7 => ?_
  refine wp_seq_k fun K8 hK8 => ?_
  refine wp_region_lit ?_
  refine seq_op s15 rfl rfl (of_decide_eq_true rfl) (ob_move rfl (.tmp rfl)) fun a16 w16 s16 => ?_; clear s15
  refine seq_op s16 rfl rfl (of_decide_eq_true rfl) (ob_move rfl (.tmp rfl)) fun a17 w17 s17 => ?_; clear s16
  refine seq_op s17 rfl rfl (of_decide_eq_true rfl) (ob_lens rfl Try.underlying22 (.tmp rfl)) fun a18 w18 s18 => ?_; clear s17
  refine seq_op s18 rfl rfl (of_decide_eq_true rfl) (ob_lss rfl (.tmp rfl) (.tmp rfl)) fun a19 w19 s19 => ?_; clear s18
  refine wpList_nil ?_
  refine then_normal ?_
  refine hK8 _ _ ?_
  have s20 := s19.sub (.cons (t := 0) rfl (.cons (t := 3) rfl (.cons (t := 4) rfl (.cons (t := 8) rfl .nil)))); clear s19
  refine cond_split s20 (.tmp rfl) (fun hc1 => ?_) (fun hc1 => ?_)
  · replace h3 := ite_t hc1 h3
    have h4 := h3; clear h3
    refine wp_skip ?_
    refine then_normal ?_
    refine hK7 _ _ ?_
    have s21 := s20.sub (.cons (t := 0) rfl (.cons (t := 3) rfl (.cons (t := 4) rfl .nil))); clear s20
    refine wp_seq_k fun K9 hK9 => ?_
    refine wp_block ?_
    obtain ⟨x1, e_x1, h5⟩ := bind_some h4; clear h4
    obtain ⟨x2, e_x2, h6⟩ := bind_some h5; clear h5
    obtain ⟨x3, e_x3, h7⟩ := bind_some h6; clear h6
    obtain ⟨x4, e_x4, h8⟩ := bind_some h7; clear h7
    obtain ⟨x5, e_x5, h9⟩ := bind_some h8; clear h8
    refine wp_goes (Fs := [(is v2), ((ksl k_api_Node).V p1), ((kint .i64).V y2), (ptrTo k_api_Node x1), (ptrTo k_api_Op x1.Op), (ptrTo (kint .i64) x1.Op.Kind), ((kint .i64).V x1.Op.Kind), (kbool.V (x1.Op.Kind == (1 : Int))), (kbool.V (x1.Op.Kind == (1 : Int))), (Fact.when ((x1.Op.Kind == (1 : Int)) == false) ((ksl k_api_Node).V p1)), (Fact.when ((x1.Op.Kind == (1 : Int)) == false) (is v2)), (Fact.when ((x1.Op.Kind == (1 : Int)) == false) ((ksl k_api_Node).V p1)), (Fact.when ((x1.Op.Kind == (1 : Int)) == false) ((kint .i64).V y2)), (Fact.when ((x1.Op.Kind == (1 : Int)) == false) (ptrTo k_api_Node x2)), (Fact.when ((x1.Op.Kind == (1 : Int)) == false) (ptrTo (ksl (kint .i64)) x2.Past)), (Fact.when ((x1.Op.Kind == (1 : Int)) == false) ((ksl (kint .i64)).V x2.Past)), (Fact.when ((x1.Op.Kind == (1 : Int)) == false) ((ksl (kint .i64)).V x3)), (Fact.when ((x1.Op.Kind == (1 : Int)) == false) ((ksl k_api_Node).V p1)), (Fact.when ((x1.Op.Kind == (1 : Int)) == false) ((kint .i64).V y2)), (Fact.when ((x1.Op.Kind == (1 : Int)) == false) (ptrTo k_api_Node x4)), (Fact.when ((x1.Op.Kind == (1 : Int)) == false) (ptrTo k_api_Op x4.Op)), (Fact.when ((x1.Op.Kind == (1 : Int)) == false) (ptrTo (kint .i64) x4.Op.Author)), (Fact.when ((x1.Op.Kind == (1 : Int)) == false) ((kint .i64).V x4.Op.Author)), (Fact.when ((x1.Op.Kind == (1 : Int)) == false) (kbool.V x5)), (kbool.V (if (x1.Op.Kind == (1 : Int)) then true else x5)), ((ksl kbool).V ([(if (x1.Op.Kind == (1 : Int)) then true else x5)] : (List Bool)))]) (bits := [0, 0, 0, 6, 14, 30, 62, 126, 254, 510, 510, 510, 510, 6654, 14846, 31230, 65534, 510, 510, 393726, 918014, 1966590, 4063742, 8388606, 16777214, 33554430, 67108863, 134217727]) (m := 26) (todo := 0) mx s21 ?_; clear s21
    refine goes_last (by kernel_rfl) rfl (opsS_cons (.plain _ (Av.old (t := 3) rfl rfl Av.nil) rfl rfl (ob_move rfl (.tmp rfl))) (opsS_cons (.plain _ (Av.old (t := 0) rfl rfl Av.nil) rfl rfl (ob_move rfl (.tmp rfl))) (opsS_cons (.plain _ (Av.old (t := 4) rfl rfl Av.nil) rfl rfl (ob_move rfl (.tmp rfl))) (opsS_cons (.plain _ (Av.new (j := 1) rfl rfl rfl (Av.new (j := 2) rfl rfl rfl Av.nil)) rfl rfl (ob_indexAddrs rfl Try.underlying22 sz46 (.tmp rfl) (.tmp rfl) e_x1)) (opsS_cons (.plain _ (Av.new (j := 3) rfl rfl rfl Av.nil) rfl rfl (ob_fieldAddrr rfl Try.underlying46 rfl sz44 (by decide) (.tmp rfl) (lg_api_Node_Op x1))) (opsS_cons (.plain _ (Av.new (j := 4) rfl rfl rfl Av.nil) rfl rfl (ob_fieldAddrr rfl Try.underlying44 rfl sz3 (by decide) (.tmp rfl) (lg_api_Op_Kind x1.Op))) (opsS_cons (.plain _ (Av.new (j := 5) rfl rfl rfl Av.nil) rfl rfl (ob_loadr rfl tk3 (.tmp rfl))) (opsS_cons (.plain _ (Av.new (j := 6) rfl rfl rfl Av.nil) rfl rfl (ob_eql rfl (.tmp rfl) (opd_int rfl))) (opsS_cons (.plain _ (Av.new (j := 7) rfl rfl rfl Av.nil) rfl rfl (ob_move rfl (.tmp rfl))) (opsS_cons (.guarded _ (Av.old (t := 0) rfl rfl (Av.new (j := 8) rfl rfl rfl Av.nil)) rfl rfl rfl rfl (fun hb => ob_move rfl (.tmp rfl))) (opsS_cons (.guarded _ (Av.old (t := 3) rfl rfl (Av.new (j := 8) rfl rfl rfl Av.nil)) rfl rfl rfl rfl (fun hb => ob_move rfl (.tmp rfl))) (opsS_cons (.guarded _ (Av.old (t := 0) rfl rfl (Av.new (j := 8) rfl rfl rfl Av.nil)) rfl rfl rfl rfl (fun hb => ob_move rfl (.tmp rfl))) (opsS_cons (.guarded _ (Av.old (t := 4) rfl rfl (Av.new (j := 8) rfl rfl rfl Av.nil)) rfl rfl rfl rfl (fun hb => ob_move rfl (.tmp rfl))) (opsS_cons (.guarded _ (Av.new (j := 8) rfl rfl rfl (Av.new (j := 11) rfl rfl rfl (Av.new (j := 12) rfl rfl rfl Av.nil))) rfl rfl rfl rfl (fun hb => (Ob.uncond (t := 23) hb rfl ((Ob.uncond (t := 22) hb rfl (ob_indexAddrs rfl Try.underlying22 sz46 (.tmp rfl) (.tmp rfl) (ite_t hb e_x2))))))) (opsS_cons (.guarded _ (Av.new (j := 8) rfl rfl rfl (Av.new (j := 13) rfl rfl rfl Av.nil)) rfl rfl rfl rfl (fun hb => (Ob.uncond (t := 24) hb rfl (ob_fieldAddrr rfl Try.underlying46 rfl sz41 (by decide) (.tmp rfl) (lg_api_Node_Past x2))))) (opsS_cons (.guarded _ (Av.new (j := 8) rfl rfl rfl (Av.new (j := 14) rfl rfl rfl Av.nil)) rfl rfl rfl rfl (fun hb => (Ob.uncond (t := 25) hb rfl (ob_loadr rfl tk41 (.tmp rfl))))) (opsS_cons (.guarded _ (Av.new (j := 8) rfl rfl rfl (Av.new (j := 9) rfl rfl rfl (Av.new (j := 10) rfl rfl rfl (Av.new (j := 15) rfl rfl rfl Av.nil)))) rfl rfl rfl rfl (fun hb => (ObF.ob ((ObF.uncond (t := 26) hb rfl ((ObF.uncond (t := 21) hb rfl ((ObF.uncond (t := 20) hb rfl ((ob_lendF (L := [_]) (List.Perm.refl _) (.cons (t := 21) rfl (lendRow (.head _)) .nil) (fun _ => ob_callF (F := resFact [((ksl (kint .i64)).V x3)]) (args := [_, _, _]) rfl .direct hb41 (fun a w s fs gs hf hg => by obtain rfl := hf.unnil; obtain rfl := hg.unnil; exact c_cabalref16_Roster k _ _ _ _ (ite_t hb e_x3) _ _ _ _ _ (s.arg (.tmp rfl)) (s.arg (.tmp rfl)) (s.arg (.tmp rfl))) (by exact fun g => ResF.all (.row (.head _) (KFlat.int _) .nil)))))))))))))) (opsS_cons (.guarded _ (Av.old (t := 0) rfl rfl (Av.new (j := 8) rfl rfl rfl Av.nil)) rfl rfl rfl rfl (fun hb => ob_move rfl (.tmp rfl))) (opsS_cons (.guarded _ (Av.old (t := 4) rfl rfl (Av.new (j := 8) rfl rfl rfl Av.nil)) rfl rfl rfl rfl (fun hb => ob_move rfl (.tmp rfl))) (opsS_cons (.guarded _ (Av.new (j := 8) rfl rfl rfl (Av.new (j := 17) rfl rfl rfl (Av.new (j := 18) rfl rfl rfl Av.nil))) rfl rfl rfl rfl (fun hb => (Ob.uncond (t := 29) hb rfl ((Ob.uncond (t := 28) hb rfl (ob_indexAddrs rfl Try.underlying22 sz46 (.tmp rfl) (.tmp rfl) (ite_t hb e_x4))))))) (opsS_cons (.guarded _ (Av.new (j := 8) rfl rfl rfl (Av.new (j := 19) rfl rfl rfl Av.nil)) rfl rfl rfl rfl (fun hb => (Ob.uncond (t := 30) hb rfl (ob_fieldAddrr rfl Try.underlying46 rfl sz44 (by decide) (.tmp rfl) (lg_api_Node_Op x4))))) (opsS_cons (.guarded _ (Av.new (j := 8) rfl rfl rfl (Av.new (j := 20) rfl rfl rfl Av.nil)) rfl rfl rfl rfl (fun hb => (Ob.uncond (t := 31) hb rfl (ob_fieldAddrr rfl Try.underlying44 rfl sz3 (by decide) (.tmp rfl) (lg_api_Op_Author x4.Op))))) (opsS_cons (.guarded _ (Av.new (j := 8) rfl rfl rfl (Av.new (j := 21) rfl rfl rfl Av.nil)) rfl rfl rfl rfl (fun hb => (Ob.uncond (t := 32) hb rfl (ob_loadr rfl tk3 (.tmp rfl))))) (opsS_cons (.guarded _ (Av.new (j := 8) rfl rfl rfl (Av.new (j := 16) rfl rfl rfl (Av.new (j := 22) rfl rfl rfl Av.nil))) rfl rfl rfl rfl (fun hb => (Ob.uncond (t := 33) hb rfl ((Ob.uncond (t := 27) hb rfl (ob_callD (args := [_, _]) rfl .direct hb44 (fun a w s fs gs hf hg => by obtain rfl := hf.unnil; obtain rfl := hg.unnil; exact c_cabalref15_In k _ _ _ (ite_t hb e_x5) _ _ _ _ (s.arg (.tmp rfl)) (s.arg (.tmp rfl))))))))) (opsS_cons (.plain _ (Av.new (j := 8) rfl rfl rfl (Av.new (j := 23) rfl rfl rfl Av.nil)) rfl rfl (ob_or2 rfl (.tmp rfl) opd_bool (.tmp rfl))) (opsS_cons (.plain _ (Av.new (j := 24) rfl rfl rfl Av.nil) rfl rfl (ob_mkSlice (k := kbool) (xs := ([(if (x1.Op.Kind == (1 : Int)) then true else x5)] : (List Bool))) rfl Try.underlying58 zz4 sz4 Zr.bool (by decide) (by decide) (.cons (.tmp rfl) rfl (LS.arr' (i := 0) (ys := ([(if (x1.Op.Kind == (1 : Int)) then true else x5)] : (List Bool))) (by simp) (by rfl)) (.nil _)))) opsS_nil)))))))))))))))))))))))))) (out_old (t := 0) rfl rfl (out_old (t := 3) rfl rfl (out_old (t := 4) rfl rfl (out_new (i := 0) (by decide) rfl rfl (out_new (i := 25) (by decide) rfl rfl out_nil))))) fun a22 w22 s22 => ?_
    obtain ⟨g1, h10⟩ := guard_some h9; clear h9
    refine seq_opx (B' := (fun v3 : Value => [RowF v3 4 kbool (y3 ++ ([(if (x1.Op.Kind == (1 : Int)) then true else x5)] : (List Bool)))])) s22 rfl rfl (of_decide_eq_true rfl) (ob_appendL2 (A := []) rfl Try.underlying58 ap4 Zr.bool (by decide) (.tmp rfl) (.tmp rfl) rfl g1) fun v3 a23 w23 s23 => ?_; clear s22
    refine seq_op s23 rfl rfl (of_decide_eq_true rfl) (ob_assign rfl (.tmp rfl)) fun a24 w24 s24 => ?_; clear s23
    refine wpList_nil ?_
    refine in_normal ?_
    refine then_normal ?_
    refine hK9 _ _ ?_
    have s25 := s24.sub (.cons (t := 0) rfl (.cons (t := 3) rfl (.cons (t := 4) rfl .nil))); clear s24
    refine wp_region_lit ?_
    refine seq_op s25 rfl rfl (of_decide_eq_true rfl) (ob_move rfl (.tmp rfl)) fun a26 w26 s26 => ?_; clear s25
    refine seq_op s26 rfl rfl (of_decide_eq_true rfl) (ob_add rfl (.tmp rfl) (opd_int rfl)) fun a27 w27 s27 => ?_; clear s26
    refine seq_op s27 rfl rfl (of_decide_eq_true rfl) (ob_assign rfl (.tmp rfl)) fun a28 w28 s28 => ?_; clear s27
    refine wpList_nil ?_
    refine then_normal ?_
    exact hK6 ((iadd .i64 y2 (1 : Int)), (y3 ++ ([(if (x1.Op.Kind == (1 : Int)) then true else x5)] : (List Bool)))) _ _ h10 ⟨v3, (s28.sub (.cons rfl (.cons rfl (.cons rfl .nil))))⟩
  · replace h3 := ite_f hc1 h3
    have h11 := h3; clear h3
    refine wp_exit ?_
    refine (then_exit (then_exit (in_here ?_)))
    refine then_normal ?_
    exact hj1 y3 v2 _ _ h11 (s20.sub (.cons rfl .nil))

/- 127 cabal/cabalref16.Behind -/
theorem c_cabalref16_Behind (k : Nat) (p1 : (List api_Node)) (p2 : api_Op) (r : ((List Int) × Int)) (h0 : cabalref16_Behind k p1 p2 = some r) (ok : Ok) (w0 : World) (z0 : Value) (z1 : Value) (u0 : ((ksl k_api_Node).V p1).holds ok w0 z0) (u1 : (k_api_Op.V p2).holds ok w0 z1) :
    Gives Try.prog 127 [z0, z1] ok w0 (resFact [(ksl (kint .i64)).V r.1, (kint .i64).V r.2]) := by
  unfold cabalref16_Behind at h0
  refine enter (N := 80) Try.func127 rfl rfl (of_decide_eq_true rfl) (.cons u0 (.cons u1 .nil)) fun a1 s1 => ?_
  refine wp_seq_k fun K1 hK1 => ?_
  refine wp_region_lit ?_
  refine seq_opx (B' := (fun b1 : Nat => [BF b1 44 k_api_Op p2])) s1 rfl rfl (of_decide_eq_true rfl) (ob_box rfl (.tmp rfl)) fun b1 a2 w2 s2 => ?_; clear s1
  refine seq_op s2 rfl rfl (of_decide_eq_true rfl) (ob_assign rfl opd_is) fun a3 w3 s3 => ?_; clear s2
  have s4 := St.adopt s3 (G := RowF (nilRow 41) 3 (kint .i64) []) rfl (rowNilN _ _ _ _ _); clear s3
  refine seq_op s4 rfl rfl (of_decide_eq_true rfl) (ob_assign rfl (opd_int rfl)) fun a5 w5 s5 => ?_; clear s4
  refine wpList_nil ?_
  refine then_normal ?_
  refine hK1 _ _ ?_
  have s6 := s5.sub (.cons (t := 0) rfl (.cons (t := 3) rfl .nil)); clear s5
  have s7 := St.drop (A := []) s6; clear s6
  refine wp_seq_k fun K2 hK2 => ?_
  refine wp_seq_k fun K3 hK3 => ?_
  refine wp_region_lit ?_
  refine seq_op s7 rfl rfl (of_decide_eq_true rfl) (ob_load rfl tk44 (.tmp rfl) (.head _) (LG.refl _ _)) fun a8 w8 s8 => ?_; clear s7
  obtain ⟨x1, e_x1, h1⟩ := bind_some h0; clear h0
  refine seq_op s8 rfl rfl (of_decide_eq_true rfl) (ob_callD (args := [_]) rfl .direct hb85 (fun a w s fs gs hf hg => by obtain rfl := hf.unnil; obtain rfl := hg.unnil; exact c_cabalref11_Right k _ _ e_x1 _ _ _ (s.arg (.tmp rfl)))) fun a9 w9 s9 => ?_; clear s8
  refine seq_op s9 rfl rfl (of_decide_eq_true rfl) (ob_not rfl (.tmp rfl)) fun a10 w10 s10 => ?_; clear s9
  refine wpList_nil ?_
  refine then_normal ?_
  refine hK3 _ _ ?_
  have s11 := s10.sub (.cons (t := 0) rfl (.cons (t := 3) rfl (.cons (t := 13) rfl .nil))); clear s10
  refine cond_split s11 (.tmp rfl) (fun hc1 => ?_) (fun hc1 => ?_)
  · replace h1 := ite_t hc1 h1
    have h2 := h1; clear h1
    refine wp_seq_k fun K4 hK4 => ?_
    refine wp_region_lit ?_
    refine seq_op s11 rfl rfl (of_decide_eq_true rfl) (ob_assign rfl opd_is) fun a12 w12 s12 => ?_; clear s11
    have s13 := St.adopt s12 (G := RowF (nilRow 42) 3 (kint .i64) []) rfl (rowNilN _ _ _ _ _); clear s12
    refine seq_op s13 rfl rfl (of_decide_eq_true rfl) (ob_assign rfl (opd_int rfl)) fun a14 w14 s14 => ?_; clear s13
    refine wpList_nil ?_
    refine then_normal ?_
    refine hK4 _ _ ?_
    have s15 := s14.sub (.cons (t := 4) rfl (.cons (t := 5) rfl .nil)); clear s14
    have s16 := St.drop (A := [_]) s15; clear s15
    refine wp_ret ?_
    have s17 := St.freezeAllM (A := []) s16 (ts := [4]) (.cons rfl .nil); clear s16
    obtain rfl := Option.some.inj h2
    exact leave s17 (.inl rfl) rfl (.cons (.tmp rfl) (.cons (.tmp rfl) .nil))
  · replace h1 := ite_f hc1 h1
    have h3 := h1; clear h1
    refine wp_skip ?_
    refine then_normal ?_
    refine hK2 _ _ ?_
    have s18 := s11.sub (.cons (t := 0) rfl (.cons (t := 3) rfl .nil)); clear s11
    refine wp_seq_k fun K5 hK5 => ?_
    refine wp_region_lit ?_
    refine seq_op s18 rfl rfl (of_decide_eq_true rfl) (ob_move rfl (.tmp rfl)) fun a19 w19 s19 => ?_; clear s18
    refine seq_op s19 rfl rfl (of_decide_eq_true rfl) (ob_fieldAddr (off' := 2) rfl Try.underlying44 rfl sz40 (by decide) (.tmp rfl) rfl) fun a20 w20 s20 => ?_; clear s19
    refine seq_op s20 rfl rfl (of_decide_eq_true rfl) (ob_load rfl tk40 (.tmp rfl) (.head _) (lg_api_Op_Parents p2)) fun a21 w21 s21 => ?_; clear s20
    obtain ⟨x2, e_x2, h4⟩ := bind_some h3; clear h3
    refine seq_opx (B' := (fun v1 : Value => [RowF v1 3 (kint .i64) x2.1, BF b1 44 k_api_Op p2])) s21 rfl rfl (of_decide_eq_true rfl) (ob_callL (args := [_, _]) (L := []) rfl .direct hb55 (List.Perm.refl _) (fun a w s fs gs hf hg => by obtain rfl := hf.unnil; obtain rfl := hg.unnil; exact c_cabalref15_Past k _ _ _ e_x2 _ _ _ _ (s.arg (.tmp rfl)) (s.arg (.tmp rfl))) (by exact fun _ => rfl)) fun v1 a22 w22 s22 => ?_; clear s21
    refine seq_op s22 rfl rfl (of_decide_eq_true rfl) (ob_move rfl (.tmp rfl)) fun a23 w23 s23 => ?_; clear s22
    refine seq_op s23 rfl rfl (of_decide_eq_true rfl) (ob_extract rfl (.tmp rfl) rfl) fun a24 w24 s24 => ?_; clear s23
    refine seq_op s24 rfl rfl (of_decide_eq_true rfl) (ob_extract rfl (.tmp rfl) rfl) fun a25 w25 s25 => ?_; clear s24
    refine seq_op s25 rfl rfl (of_decide_eq_true rfl) (ob_assign rfl (.tmp rfl)) fun a26 w26 s26 => ?_; clear s25
    refine seq_op s26 rfl rfl (of_decide_eq_true rfl) (ob_assign rfl (.tmp rfl)) fun a27 w27 s27 => ?_; clear s26
    refine wpList_nil ?_
    refine then_normal ?_
    refine hK5 _ _ ?_
    have s28 := s27.sub (.cons (t := 0) rfl (.cons (t := 3) rfl (.cons (t := 6) rfl (.cons (t := 7) rfl .nil)))); clear s27
    refine wp_seq_k fun K6 hK6 => ?_
    refine wp_seq_k fun K7 hK7 => ?_
    refine wp_region_lit ?_
    refine seq_op s28 rfl rfl (of_decide_eq_true rfl) (ob_move rfl (.tmp rfl)) fun a29 w29 s29 => ?_; clear s28
    refine seq_op s29 rfl rfl (of_decide_eq_true rfl) (ob_not rfl (.tmp rfl)) fun a30 w30 s30 => ?_; clear s29
    refine wpList_nil ?_
    refine then_normal ?_
    refine hK7 _ _ ?_
    have s31 := s30.sub (.cons (t := 0) rfl (.cons (t := 3) rfl (.cons (t := 6) rfl (.cons (t := 22) rfl .nil)))); clear s30
    refine cond_split s31 (.tmp rfl) (fun hc2 => ?_) (fun hc2 => ?_)
    · replace h4 := ite_t hc2 h4
      have h5 := h4; clear h4
      refine wp_seq_k fun K8 hK8 => ?_
      refine wp_region_lit ?_
      refine seq_op s31 rfl rfl (of_decide_eq_true rfl) (ob_assign rfl opd_is) fun a32 w32 s32 => ?_; clear s31
      have s33 := St.adopt s32 (G := RowF (nilRow 43) 3 (kint .i64) []) rfl (rowNilN _ _ _ _ _); clear s32
      refine seq_op s33 rfl rfl (of_decide_eq_true rfl) (ob_assign rfl (opd_int rfl)) fun a34 w34 s34 => ?_; clear s33
      refine wpList_nil ?_
      refine then_normal ?_
      refine hK8 _ _ ?_
      have s35 := s34.sub (.cons (t := 4) rfl (.cons (t := 5) rfl .nil)); clear s34
      have s36 := St.drop (A := [_]) s35; clear s35
      have s37 := St.drop (A := [_]) s36; clear s36
      refine wp_ret ?_
      have s38 := St.freezeAllM (A := []) s37 (ts := [4]) (.cons rfl .nil); clear s37
      obtain rfl := Option.some.inj h5
      exact leave s38 (.inl rfl) rfl (.cons (.tmp rfl) (.cons (.tmp rfl) .nil))
    · replace h4 := ite_f hc2 h4
      have h6 := h4; clear h4
      refine wp_skip ?_
      refine then_normal ?_
      refine hK6 _ _ ?_
      have s39 := s31.sub (.cons (t := 0) rfl (.cons (t := 3) rfl (.cons (t := 6) rfl .nil))); clear s31
      refine wp_seq_k fun K9 hK9 => ?_
      refine wp_seq_k fun K10 hK10 => ?_
      refine wp_region_lit ?_
      refine seq_op s39 rfl rfl (of_decide_eq_true rfl) (ob_fieldAddr (off' := 3) rfl Try.underlying44 rfl sz3 (by decide) (.tmp rfl) rfl) fun a40 w40 s40 => ?_; clear s39
      refine seq_op s40 rfl rfl (of_decide_eq_true rfl) (ob_load rfl tk3 (.tmp rfl) (.tail _ (.head _)) (lg_api_Op_Kind p2)) fun a41 w41 s41 => ?_; clear s40
      refine seq_op s41 rfl rfl (of_decide_eq_true rfl) (ob_eql rfl (.tmp rfl) (opd_int rfl)) fun a42 w42 s42 => ?_; clear s41
      refine wpList_nil ?_
      refine then_normal ?_
      refine hK10 _ _ ?_
      have s43 := s42.sub (.cons (t := 0) rfl (.cons (t := 3) rfl (.cons (t := 6) rfl (.cons (t := 25) rfl .nil)))); clear s42
      refine cond_split s43 (.tmp rfl) (fun hc3 => ?_) (fun hc3 => ?_)
      · replace h6 := ite_t hc3 h6
        have h7 := h6; clear h6
        refine wp_seq_k fun K11 hK11 => ?_
        refine wp_region_lit ?_
        refine seq_op s43 rfl rfl (of_decide_eq_true rfl) (ob_fieldAddr (off' := 4) rfl Try.underlying44 rfl sz41 (by decide) (.tmp rfl) rfl) fun a44 w44 s44 => ?_; clear s43
        refine seq_op s44 rfl rfl (of_decide_eq_true rfl) (ob_load rfl tk41 (.tmp rfl) (.tail _ (.head _)) (lg_api_Op_Who p2)) fun a45 w45 s45 => ?_; clear s44
        refine seq_op s45 rfl rfl (of_decide_eq_true rfl) (ob_assign rfl (.tmp rfl)) fun a46 w46 s46 => ?_; clear s45
        refine seq_op s46 rfl rfl (of_decide_eq_true rfl) (ob_assign rfl (opd_int rfl)) fun a47 w47 s47 => ?_; clear s46
        refine wpList_nil ?_
        refine then_normal ?_
        refine hK11 _ _ ?_
        have s48 := s47.sub (.cons (t := 4) rfl (.cons (t := 5) rfl .nil)); clear s47
        have s49 := St.drop (A := []) s48; clear s48
        have s50 := St.drop (A := []) s49; clear s49
        refine wp_ret ?_
        obtain rfl := Option.some.inj h7
        exact leave s50 (.inl rfl) rfl (.cons (.tmp rfl) (.cons (.tmp rfl) .nil))
      · replace h6 := ite_f hc3 h6
        have h8 := h6; clear h6
        refine wp_skip ?_
        refine then_normal ?_
        refine hK9 _ _ ?_
        have s51 := s43.sub (.cons (t := 0) rfl (.cons (t := 3) rfl (.cons (t := 6) rfl .nil))); clear s43
        refine wp_seq_k fun K12 hK12 => ?_
        refine wp_region_lit ?_
        refine seq_op s51 rfl rfl (of_decide_eq_true rfl) (ob_move rfl (.tmp rfl)) fun a52 w52 s52 => ?_; clear s51
        refine seq_op s52 rfl rfl (of_decide_eq_true rfl) (ob_move rfl (.tmp rfl)) fun a53 w53 s53 => ?_; clear s52
        obtain ⟨x3, e_x3, h9⟩ := bind_some h8; clear h8
        refine seq_opx (B' := (fun v2 : Value => [RowF v2 4 kbool x3, RowF v1 3 (kint .i64) x2.1, BF b1 44 k_api_Op p2])) s53 rfl rfl (of_decide_eq_true rfl) (ob_callL (args := [_]) (L := []) rfl .direct hb42 (List.Perm.refl _) (fun a w s fs gs hf hg => by obtain rfl := hf.unnil; obtain rfl := hg.unnil; exact c_cabalref16_Counts k _ _ e_x3 _ _ _ (s.arg (.tmp rfl))) (by exact fun _ => rfl)) fun v2 a54 w54 s54 => ?_; clear s53
        refine seq_op s54 rfl rfl (of_decide_eq_true rfl) (ob_move rfl (.tmp rfl)) fun a55 w55 s55 => ?_; clear s54
        obtain ⟨x4, e_x4, h10⟩ := bind_some h9; clear h9
        refine seq_opx (B' := (fun v3 : Value => [RowF v2 4 kbool x3, RowF v1 3 (kint .i64) x2.1, BF b1 44 k_api_Op p2, RowF v3 3 (kint .i64) x4])) s55 rfl rfl (of_decide_eq_true rfl) ((ob_lendX (L := [_, _, _]) (List.Perm.refl _) (.cons (t := 30) rfl (lendRow (.head _)) (.cons (t := 31) rfl (lendRow (.tail _ (.head _))) .nil)) (fun _ => (Flat.res1 Flat.is)) (fun _ => (.cons (FlatO.row (KFlat.int _)) FlatL.nil)) (fun _ _ => ob_callL (args := [_, _, _]) (L := []) (D := []) rfl .direct hb41 (List.Perm.refl _) (fun a w s fs gs hf hg => by obtain rfl := hf.unnil; obtain rfl := hg.unnil; exact c_cabalref16_Roster k _ _ _ _ e_x4 _ _ _ _ _ (s.arg (.tmp rfl)) (s.arg (.tmp rfl)) (s.arg (.tmp rfl))) (by exact fun _ => rfl)))) fun v3 a56 w56 s56 => ?_; clear s55
        refine seq_op s56 rfl rfl (of_decide_eq_true rfl) (ob_assign rfl (.tmp rfl)) fun a57 w57 s57 => ?_; clear s56
        refine wpList_nil ?_
        refine then_normal ?_
        refine hK12 _ _ ?_
        have s58 := s57.sub (.cons (t := 0) rfl (.cons (t := 3) rfl (.cons (t := 6) rfl (.cons (t := 8) rfl .nil)))); clear s57
        have s59 := St.drop (A := []) s58; clear s58
        refine wp_seq_k fun K13 hK13 => ?_
        refine wp_seq_k fun K14 hK14 => ?_
        refine wp_region_lit ?_
        refine seq_op s59 rfl rfl (of_decide_eq_true rfl) (ob_move rfl (.tmp rfl)) fun a60 w60 s60 => ?_; clear s59
        refine seq_op s60 rfl rfl (of_decide_eq_true rfl) (ob_fieldAddr (off' := 0) rfl Try.underlying44 rfl sz3 (by decide) (.tmp rfl) rfl) fun a61 w61 s61 => ?_; clear s60
        refine seq_op s61 rfl rfl (of_decide_eq_true rfl) (ob_load rfl tk3 (.tmp rfl) (.tail _ (.head _)) (lg_api_Op_Author p2)) fun a62 w62 s62 => ?_; clear s61
        obtain ⟨x5, e_x5, h11⟩ := bind_some h10; clear h10
        refine seq_op s62 rfl rfl (of_decide_eq_true rfl) ((ob_lendG (L := [_]) (toFront [_, _] (List.Perm.refl _)) (.cons (t := 33) rfl (lendRow (.head _)) .nil) (Flat.res1 (Flat.V KFlat.bool)) (fun _ => ob_callD (args := [_, _]) rfl .direct hb44 (fun a w s fs gs hf hg => by obtain rfl := hf.unnil; obtain rfl := hg.unnil; exact c_cabalref15_In k _ _ _ e_x5 _ _ _ _ (s.arg (.tmp rfl)) (s.arg (.tmp rfl)))))) fun a63 w63 s63 => ?_; clear s62
        refine seq_op s63 rfl rfl (of_decide_eq_true rfl) (ob_not rfl (.tmp rfl)) fun a64 w64 s64 => ?_; clear s63
        refine wpList_nil ?_
        refine then_normal ?_
        refine hK14 _ _ ?_
        have s65 := s64.sub (.cons (t := 0) rfl (.cons (t := 3) rfl (.cons (t := 6) rfl (.cons (t := 8) rfl (.cons (t := 37) rfl .nil))))); clear s64
        refine cond_split s65 (.tmp rfl) (fun hc4 => ?_) (fun hc4 => ?_)
        · replace h11 := ite_t hc4 h11
          have h12 := h11; clear h11
          refine wp_seq_k fun K15 hK15 => ?_
          refine wp_region_lit ?_
          refine seq_op s65 rfl rfl (of_decide_eq_true rfl) (ob_assign rfl opd_is) fun a66 w66 s66 => ?_; clear s65
          have s67 := St.adopt s66 (G := RowF (nilRow 48) 3 (kint .i64) []) rfl (rowNilN _ _ _ _ _); clear s66
          refine seq_op s67 rfl rfl (of_decide_eq_true rfl) (ob_assign rfl (opd_int rfl)) fun a68 w68 s68 => ?_; clear s67
          refine wpList_nil ?_
          refine then_normal ?_
          refine hK15 _ _ ?_
          have s69 := s68.sub (.cons (t := 4) rfl (.cons (t := 5) rfl .nil)); clear s68
          have s70 := St.drop (A := [_]) s69; clear s69
          have s71 := St.drop (A := [_]) s70; clear s70
          have s72 := St.drop (A := [_]) s71; clear s71
          refine wp_ret ?_
          have s73 := St.freezeAllM (A := []) s72 (ts := [4]) (.cons rfl .nil); clear s72
          obtain rfl := Option.some.inj h12
          exact leave s73 (.inl rfl) rfl (.cons (.tmp rfl) (.cons (.tmp rfl) .nil))
        · replace h11 := ite_f hc4 h11
          have h13 := h11; clear h11
          refine wp_skip ?_
          refine then_normal ?_
          refine hK13 _ _ ?_
          have s74 := s65.sub (.cons (t := 0) rfl (.cons (t := 3) rfl (.cons (t := 6) rfl (.cons (t := 8) rfl .nil)))); clear s65
          refine wp_seq_k fun K16 hK16 => ?_
          refine wp_seq_k fun K17 hK17 => ?_
          refine wp_region_lit ?_
          refine seq_op s74 rfl rfl (of_decide_eq_true rfl) (ob_fieldAddr (off' := 3) rfl Try.underlying44 rfl sz3 (by decide) (.tmp rfl) rfl) fun a75 w75 s75 => ?_; clear s74
          refine seq_op s75 rfl rfl (of_decide_eq_true rfl) (ob_load rfl tk3 (.tmp rfl) (.tail _ (.head _)) (lg_api_Op_Kind p2)) fun a76 w76 s76 => ?_; clear s75
          refine seq_op s76 rfl rfl (of_decide_eq_true rfl) (ob_eql rfl (.tmp rfl) (opd_int rfl)) fun a77 w77 s77 => ?_; clear s76
          refine wpList_nil ?_
          refine then_normal ?_
          refine hK17 _ _ ?_
          have s78 := s77.sub (.cons (t := 0) rfl (.cons (t := 3) rfl (.cons (t := 6) rfl (.cons (t := 8) rfl (.cons (t := 40) rfl .nil))))); clear s77
          have hj1 : ∀ (a : Act) (w : World), (cabalref16_Behind.j1 k p2 x4) = some r → St ⟨80, w0, ok, []⟩ [BF b1 44 k_api_Op p2, RowF v3 3 (kint .i64) x4] [(3, (ptrB b1 0)), (8, (is v3))] a w → K16 a w := by
            intro a79 w79 h14 s79
            unfold cabalref16_Behind.j1 at h14
            refine hK16 _ _ ?_
            refine wp_seq_k fun K18 hK18 => ?_
            refine wp_seq_k fun K19 hK19 => ?_
            refine wp_region_lit ?_
            refine seq_op s79 rfl rfl (of_decide_eq_true rfl) (ob_fieldAddr (off' := 3) rfl Try.underlying44 rfl sz3 (by decide) (.tmp rfl) rfl) fun a80 w80 s80 => ?_; clear s79
            refine seq_op s80 rfl rfl (of_decide_eq_true rfl) (ob_load rfl tk3 (.tmp rfl) (.head _) (lg_api_Op_Kind p2)) fun a81 w81 s81 => ?_; clear s80
            refine seq_op s81 rfl rfl (of_decide_eq_true rfl) (ob_eql rfl (.tmp rfl) (opd_int rfl)) fun a82 w82 s82 => ?_; clear s81
            refine seq_op s82 rfl rfl (of_decide_eq_true rfl) (ob_move rfl (.tmp rfl)) fun a83 w83 s83 => ?_; clear s82
            refine seq_opg s83 rfl rfl rfl rfl (of_decide_eq_true rfl) (fun hb => ob_move rfl (.tmp rfl)) fun a84 w84 s84 => ?_; clear s83
            refine seq_opg s84 rfl rfl rfl rfl (of_decide_eq_true rfl) (fun hb => ob_fieldAddr (off' := 4) rfl Try.underlying44 rfl sz41 (by decide) (.tmp rfl) rfl) fun a85 w85 s85 => ?_; clear s84
            refine seq_opg s85 rfl rfl rfl rfl (of_decide_eq_true rfl) (fun hb => (Ob.uncond (t := 72) hb rfl (ob_load rfl tk41 (.tmp rfl) (.head _) (lg_api_Op_Who p2)))) fun a86 w86 s86 => ?_; clear s85
            obtain ⟨x6, e_x6, h15⟩ := bind_some h14; clear h14
            refine seq_opg s86 rfl rfl rfl rfl (of_decide_eq_true rfl) (fun hb => (Ob.uncond (t := 73) hb rfl (ob_indexAddrs rfl Try.underlying41 sz3 (.tmp rfl) (opd_int rfl) (ite_t hb e_x6)))) fun a87 w87 s87 => ?_; clear s86
            refine seq_opg s87 rfl rfl rfl rfl (of_decide_eq_true rfl) (fun hb => (Ob.uncond (t := 74) hb rfl (ob_loadr rfl tk3 (.tmp rfl)))) fun a88 w88 s88 => ?_; clear s87
            obtain ⟨x7, e_x7, h16⟩ := bind_some h15; clear h15
            refine seq_opg s88 rfl rfl rfl rfl (of_decide_eq_true rfl) (fun hb => (Ob.uncond (t := 75) hb rfl ((Ob.uncond (t := 71) hb rfl ((ob_lendG (L := [_]) (toFront [_] (List.Perm.refl _)) (.cons (t := 71) rfl (lendRow (.head _)) .nil) (Flat.res1 (Flat.V KFlat.bool)) (fun _ => ob_callD (args := [_, _]) rfl .direct hb44 (fun a w s fs gs hf hg => by obtain rfl := hf.unnil; obtain rfl := hg.unnil; exact c_cabalref15_In k _ _ _ (ite_t hb e_x7) _ _ _ _ (s.arg (.tmp rfl)) (s.arg (.tmp rfl)))))))))) fun a89 w89 s89 => ?_; clear s88
            refine seq_opg s89 rfl rfl rfl rfl (of_decide_eq_true rfl) (fun hb => (Ob.uncond (t := 76) hb rfl (ob_not rfl (.tmp rfl)))) fun a90 w90 s90 => ?_; clear s89
            refine seq_op s90 rfl rfl (of_decide_eq_true rfl) (ob_and2 rfl (.tmp rfl) (.tmp rfl) opd_bool) fun a91 w91 s91 => ?_; clear s90
            refine wpList_nil ?_
            refine then_normal ?_
            refine hK19 _ _ ?_
            have s92 := s91.sub (.cons (t := 8) rfl (.cons (t := 78) rfl .nil)); clear s91
            have s93 := St.drop (A := []) s92; clear s92
            refine cond_split s93 (.tmp rfl) (fun hc5 => ?_) (fun hc5 => ?_)
            · replace h16 := ite_t hc5 h16
              have h17 := h16; clear h16
              refine wp_seq_k fun K20 hK20 => ?_
              refine wp_region_lit ?_
              refine seq_op s93 rfl rfl (of_decide_eq_true rfl) (ob_assign rfl opd_is) fun a94 w94 s94 => ?_; clear s93
              have s95 := St.adopt s94 (G := RowF (nilRow 50) 3 (kint .i64) []) rfl (rowNilN _ _ _ _ _); clear s94
              refine seq_op s95 rfl rfl (of_decide_eq_true rfl) (ob_assign rfl (opd_int rfl)) fun a96 w96 s96 => ?_; clear s95
              refine wpList_nil ?_
              refine then_normal ?_
              refine hK20 _ _ ?_
              have s97 := s96.sub (.cons (t := 4) rfl (.cons (t := 5) rfl .nil)); clear s96
              have s98 := St.drop (A := [_]) s97; clear s97
              refine wp_ret ?_
              have s99 := St.freezeAllM (A := []) s98 (ts := [4]) (.cons rfl .nil); clear s98
              obtain rfl := Option.some.inj h17
              exact leave s99 (.inl rfl) rfl (.cons (.tmp rfl) (.cons (.tmp rfl) .nil))
            · replace h16 := ite_f hc5 h16
              have h18 := h16; clear h16
              refine wp_skip ?_
              refine then_normal ?_
              refine hK18 _ _ ?_
              have s100 := s93.sub (.cons (t := 8) rfl .nil); clear s93
              refine wp_seq_k fun K21 hK21 => ?_
              refine wp_region_lit ?_
              refine seq_op s100 rfl rfl (of_decide_eq_true rfl) (ob_move rfl (.tmp rfl)) fun a101 w101 s101 => ?_; clear s100
              refine seq_op s101 rfl rfl (of_decide_eq_true rfl) (ob_assign rfl (.tmp rfl)) fun a102 w102 s102 => ?_; clear s101
              refine seq_op s102 rfl rfl (of_decide_eq_true rfl) (ob_assign rfl (opd_int rfl)) fun a103 w103 s103 => ?_; clear s102
              refine wpList_nil ?_
              refine then_normal ?_
              refine hK21 _ _ ?_
              have s104 := s103.sub (.cons (t := 4) rfl (.cons (t := 5) rfl .nil)); clear s103
              refine wp_ret ?_
              have s105 := St.freezeAllM (A := []) s104 (ts := [4]) (.cons rfl .nil); clear s104
              obtain rfl := Option.some.inj h18
              exact leave s105 (.inl rfl) rfl (.cons (.tmp rfl) (.cons (.tmp rfl) .nil))
          refine cond_split s78 (.tmp rfl) (fun hc6 => ?_) (fun hc6 => ?_)
          · replace h13 := ite_t hc6 h13
            have h19 := h13; clear h13
            refine wp_seq_k fun K22 hK22 => ?_
            refine wp_region_lit ?_
            refine seq_op s78 rfl rfl (of_decide_eq_true rfl) (ob_assign rfl (opd_int rfl)) fun a106 w106 s106 => ?_; clear s78
            refine wpList_nil ?_
            refine then_normal ?_
            refine hK22 _ _ ?_
            have s107 := s106.sub (.cons (t := 0) rfl (.cons (t := 3) rfl (.cons (t := 6) rfl (.cons (t := 8) rfl (.cons (t := 9) rfl .nil))))); clear s106
            refine wp_block ?_
            have s108 := s107.perm (toFront [_] (toFront [] (toFront [] (List.Perm.refl _)))); clear s107
            refine wp_loop_fuel (fun m (q : Int) => cabalref16_Behind.l1 k x2 p1 p2 x4 m q) r (fun _ => rfl) (fun q a w => St ⟨80, w0, ok, []⟩ [BF b1 44 k_api_Op p2, RowF v1 3 (kint .i64) x2.1, RowF v3 3 (kint .i64) x4] [(0, ((ksl k_api_Node).V p1)), (3, (ptrB b1 0)), (6, (is v1)), (8, (is v3)), (9, ((kint .i64).V q))] a w) ?_ k (0 : Int) _ _ h19 (s108.sub (.cons rfl (.cons rfl (.cons rfl (.cons rfl (.cons rfl .nil))))))
            rintro n1 y1 a109 w109 h20 s109 K23 hK23
            replace h20 : cabalref16_Behind.l1 k x2 p1 p2 x4 (n1 + 1) y1 = some r := h20; rw [cabalref16_Behind.l1] at h20
            have h21 := h20; clear h20
            refine wp_seq_k fun K24 hK24 => ?_
            refine wp_seq_k fun K25 hK25 => ?_
            refine wp_region_lit ?_
            refine seq_op s109 rfl rfl (of_decide_eq_true rfl) (ob_move rfl (.tmp rfl)) fun a110 w110 s110 => ?_; clear s109
            refine seq_op s110 rfl rfl (of_decide_eq_true rfl) (ob_move rfl (.tmp rfl)) fun a111 w111 s111 => ?_; clear s110
            refine seq_op s111 rfl rfl (of_decide_eq_true rfl) (ob_lenRow rfl Try.underlying41 (.tmp rfl) (.tail _ (.head _))) fun a112 w112 s112 => ?_; clear s111
            refine seq_op s112 rfl rfl (of_decide_eq_true rfl) (ob_lss rfl (.tmp rfl) (.tmp rfl)) fun a113 w113 s113 => ?_; clear s112
            refine wpList_nil ?_
            refine then_normal ?_
            refine hK25 _ _ ?_
            have s114 := s113.sub (.cons (t := 0) rfl (.cons (t := 3) rfl (.cons (t := 6) rfl (.cons (t := 8) rfl (.cons (t := 9) rfl (.cons (t := 44) rfl .nil)))))); clear s113
            refine cond_split s114 (.tmp rfl) (fun hc7 => ?_) (fun hc7 => ?_)
            · replace h21 := ite_t hc7 h21
              have h22 := h21; clear h21
              refine wp_skip ?_
              refine then_normal ?_
              refine hK24 _ _ ?_
              have s115 := s114.sub (.cons (t := 0) rfl (.cons (t := 3) rfl (.cons (t := 6) rfl (.cons (t := 8) rfl (.cons (t := 9) rfl .nil))))); clear s114
              refine wp_seq_k fun K26 hK26 => ?_
              refine wp_block ?_
              refine wp_seq_k fun K27 hK27 => ?_
              refine wp_region_lit ?_
              refine seq_op s115 rfl rfl (of_decide_eq_true rfl) (ob_move rfl (.tmp rfl)) fun a116 w116 s116 => ?_; clear s115
              refine seq_op s116 rfl rfl (of_decide_eq_true rfl) (ob_move rfl (.tmp rfl)) fun a117 w117 s117 => ?_; clear s116
              refine seq_op s117 rfl rfl (of_decide_eq_true rfl) (ob_move rfl (.tmp rfl)) fun a118 w118 s118 => ?_; clear s117
              obtain ⟨g1, h23⟩ := guard_some h22; clear h22
              refine seq_op s118 rfl rfl (of_decide_eq_true rfl) (ob_rowAt rfl Try.underlying41 sz3 (.tmp rfl) (.tail _ (.head _)) (.tmp rfl) g1) fun a119 w119 s119 => ?_; clear s118
              obtain ⟨x8, e_x8, h24⟩ := bind_some h23; clear h23
              refine seq_op s119 rfl rfl (of_decide_eq_true rfl) (ob_rowLoad rfl tk3 (.tmp rfl) (.tail _ (.head _)) (LG.arrA e_x8)) fun a120 w120 s120 => ?_; clear s119
              obtain ⟨x9, e_x9, h25⟩ := bind_some h24; clear h24
              refine seq_op s120 rfl rfl (of_decide_eq_true rfl) (ob_indexAddrs rfl Try.underlying22 sz46 (.tmp rfl) (.tmp rfl) e_x9) fun a121 w121 s121 => ?_; clear s120
              refine seq_op s121 rfl rfl (of_decide_eq_true rfl) (ob_fieldAddrr rfl Try.underlying46 rfl sz44 (by decide) (.tmp rfl) (lg_api_Node_Op x9)) fun a122 w122 s122 => ?_; clear s121
              refine seq_op s122 rfl rfl (of_decide_eq_true rfl) (ob_loadr rfl tk44 (.tmp rfl)) fun a123 w123 s123 => ?_; clear s122
              refine seq_opx (B' := (fun b2 : Nat => [BF b2 44 k_api_Op (⟨(0 : Int), (0 : Int), [], (0 : Int), [], (List.replicate 32 (0 : Int)), (List.replicate 32 (0 : Int)), [], []⟩ : api_Op), BF b1 44 k_api_Op p2, RowF v1 3 (kint .i64) x2.1, RowF v3 3 (kint .i64) x4])) s123 rfl rfl (of_decide_eq_true rfl) (ob_new (k := k_api_Op) rfl zz44 (Zr.iso (f := t_api_Op) (x := (⟨(0 : Int), (0 : Int), [], (0 : Int), [], (List.replicate 32 (0 : Int)), (List.replicate 32 (0 : Int)), [], []⟩ : api_Op)) (Zr.pair (Zr.int .i64) (Zr.pair (Zr.int .u32) (Zr.pair (Zr.sl _) (Zr.pair (Zr.int .i64) (Zr.pair (Zr.sl _) (Zr.pair (Zr.arr 32 (Zr.int .u8)) (Zr.pair (Zr.arr 32 (Zr.int .u8)) (Zr.pair Zr.str (Zr.pair (Zr.sl _) Zr.nil))))))))))) fun b2 a124 w124 s124 => ?_; clear s123
              refine seq_opx0 (B' := (fun _ : Unit => [BF b2 44 k_api_Op x9.Op, BF b1 44 k_api_Op p2, RowF v1 3 (kint .i64) x2.1, RowF v3 3 (kint .i64) x4])) s124 rfl rfl (ob_store (A := []) rfl tk44 (.tmp rfl) (.tmp rfl) rfl (LS.refl _ _ _) rfl) fun _ a125 w125 s125 => ?_; clear s124
              refine wpList_nil ?_
              refine then_normal ?_
              refine hK27 _ _ ?_
              have s126 := s125.sub (.cons (t := 0) rfl (.cons (t := 3) rfl (.cons (t := 6) rfl (.cons (t := 8) rfl (.cons (t := 9) rfl (.cons (t := 10) rfl .nil)))))); clear s125
              refine wp_seq_k fun K28 hK28 => ?_
              obtain ⟨x10, e_x10, h26⟩ := bind_some h25; clear h25
              refine wp_goes (Fs := [(ptrB b2 3), ((kint .i64).V x9.Op.Kind), (kbool.V (decide (x9.Op.Kind ≤ (2 : Int)))), (kbool.V (decide (x9.Op.Kind ≤ (2 : Int)))), (Fact.when ((decide (x9.Op.Kind ≤ (2 : Int))) == true) (ptrB b2 4)), (Fact.when ((decide (x9.Op.Kind ≤ (2 : Int))) == true) ((ksl (kint .i64)).V x9.Op.Who)), (Fact.when ((decide (x9.Op.Kind ≤ (2 : Int))) == true) (ptrB b1 4)), (Fact.when ((decide (x9.Op.Kind ≤ (2 : Int))) == true) ((ksl (kint .i64)).V p2.Who)), (Fact.when ((decide (x9.Op.Kind ≤ (2 : Int))) == true) (ptrTo (kint .i64) x10)), (Fact.when ((decide (x9.Op.Kind ≤ (2 : Int))) == true) ((kint .i64).V x10))]) (bits := [0, 1, 3, 7, 15, 31, 15, 79, 207, 463, 1023, 2047]) (m := 10) (todo := 0) mx s126 ?_; clear s126
              refine goes_last (by kernel_rfl) rfl (opsS_cons (.plain _ (Av.old (t := 10) rfl rfl Av.nil) rfl rfl (ob_fieldAddr (off' := 3) rfl Try.underlying44 rfl sz3 (by decide) (.tmp rfl) rfl)) (opsS_cons (.plain _ (Av.new (j := 0) rfl rfl rfl Av.nil) rfl rfl (ob_load rfl tk3 (.tmp rfl) (.head _) (lg_api_Op_Kind x9.Op))) (opsS_cons (.plain _ (Av.new (j := 1) rfl rfl rfl Av.nil) rfl rfl (ob_leq rfl (.tmp rfl) (opd_int rfl))) (opsS_cons (.plain _ (Av.new (j := 2) rfl rfl rfl Av.nil) rfl rfl (ob_move rfl (.tmp rfl))) (opsS_cons (.guarded _ (Av.old (t := 10) rfl rfl (Av.new (j := 3) rfl rfl rfl Av.nil)) rfl rfl rfl rfl (fun hb => ob_fieldAddr (off' := 4) rfl Try.underlying44 rfl sz41 (by decide) (.tmp rfl) rfl)) (opsS_cons (.guarded _ (Av.new (j := 3) rfl rfl rfl (Av.new (j := 4) rfl rfl rfl Av.nil)) rfl rfl rfl rfl (fun hb => (Ob.uncond (t := 59) hb rfl (ob_load rfl tk41 (.tmp rfl) (.head _) (lg_api_Op_Who x9.Op))))) (opsS_cons (.guarded _ (Av.old (t := 3) rfl rfl (Av.new (j := 3) rfl rfl rfl Av.nil)) rfl rfl rfl rfl (fun hb => ob_fieldAddr (off' := 4) rfl Try.underlying44 rfl sz41 (by decide) (.tmp rfl) rfl)) (opsS_cons (.guarded _ (Av.new (j := 3) rfl rfl rfl (Av.new (j := 6) rfl rfl rfl Av.nil)) rfl rfl rfl rfl (fun hb => (Ob.uncond (t := 61) hb rfl (ob_load rfl tk41 (.tmp rfl) (.tail _ (.head _)) (lg_api_Op_Who p2))))) (opsS_cons (.guarded _ (Av.new (j := 3) rfl rfl rfl (Av.new (j := 7) rfl rfl rfl Av.nil)) rfl rfl rfl rfl (fun hb => (Ob.uncond (t := 62) hb rfl (ob_indexAddrs rfl Try.underlying41 sz3 (.tmp rfl) (opd_int rfl) (ite_t hb e_x10))))) (opsS_cons (.guarded _ (Av.new (j := 3) rfl rfl rfl (Av.new (j := 8) rfl rfl rfl Av.nil)) rfl rfl rfl rfl (fun hb => (Ob.uncond (t := 63) hb rfl (ob_loadr rfl tk3 (.tmp rfl))))) opsS_nil)))))))))) (out_old (t := 0) rfl rfl (out_old (t := 3) rfl rfl (out_old (t := 6) rfl rfl (out_old (t := 8) rfl rfl (out_old (t := 9) rfl rfl (out_new (i := 3) (by decide) rfl rfl (out_new (i := 5) (by decide) rfl rfl (out_new (i := 9) (by decide) rfl rfl out_nil)))))))) fun a127 w127 s127 => ?_
              obtain ⟨x11, e_x11, h27⟩ := bind_some h26; clear h26
              refine seq_opg s127 rfl rfl rfl rfl (of_decide_eq_true rfl) (fun hb => (Ob.uncond (t := 64) hb rfl ((Ob.uncond (t := 60) hb rfl (ob_callD (args := [_, _]) rfl .direct hb44 (fun a w s fs gs hf hg => by obtain rfl := hf.unnil; obtain rfl := hg.unnil; exact c_cabalref15_In k _ _ _ (ite_t hb e_x11) _ _ _ _ (s.arg (.tmp rfl)) (s.arg (.tmp rfl)))))))) fun a128 w128 s128 => ?_; clear s127
              refine seq_op s128 rfl rfl (of_decide_eq_true rfl) (ob_and2 rfl (.tmp rfl) (.tmp rfl) opd_bool) fun a129 w129 s129 => ?_; clear s128
              refine wpList_nil ?_
              refine then_normal ?_
              refine hK28 _ _ ?_
              have s130 := s129.sub (.cons (t := 0) rfl (.cons (t := 3) rfl (.cons (t := 6) rfl (.cons (t := 8) rfl (.cons (t := 9) rfl (.cons (t := 66) rfl .nil)))))); clear s129
              have s131 := St.drop (A := []) s130; clear s130
              refine cond_split s131 (.tmp rfl) (fun hc8 => ?_) (fun hc8 => ?_)
              · replace h27 := ite_t hc8 h27
                have h28 := h27; clear h27
                refine wp_seq_k fun K29 hK29 => ?_
                refine wp_region_lit ?_
                refine seq_op s131 rfl rfl (of_decide_eq_true rfl) (ob_assign rfl opd_is) fun a132 w132 s132 => ?_; clear s131
                have s133 := St.adopt s132 (G := RowF (nilRow 49) 3 (kint .i64) []) rfl (rowNilN _ _ _ _ _); clear s132
                refine seq_op s133 rfl rfl (of_decide_eq_true rfl) (ob_assign rfl (opd_int rfl)) fun a134 w134 s134 => ?_; clear s133
                refine wpList_nil ?_
                refine then_normal ?_
                refine hK29 _ _ ?_
                have s135 := s134.sub (.cons (t := 4) rfl (.cons (t := 5) rfl .nil)); clear s134
                have s136 := St.drop (A := [_]) s135; clear s135
                have s137 := St.drop (A := [_]) s136; clear s136
                have s138 := St.drop (A := [_]) s137; clear s137
                refine wp_ret ?_
                have s139 := St.freezeAllM (A := []) s138 (ts := [4]) (.cons rfl .nil); clear s138
                obtain rfl := Option.some.inj h28
                exact leave s139 (.inl rfl) rfl (.cons (.tmp rfl) (.cons (.tmp rfl) .nil))
              · replace h27 := ite_f hc8 h27
                have h29 := h27; clear h27
                refine wp_skip ?_
                refine in_normal ?_
                refine then_normal ?_
                refine hK26 _ _ ?_
                have s140 := s131.sub (.cons (t := 0) rfl (.cons (t := 3) rfl (.cons (t := 6) rfl (.cons (t := 8) rfl (.cons (t := 9) rfl .nil))))); clear s131
                refine wp_region_lit ?_
                refine seq_op s140 rfl rfl (of_decide_eq_true rfl) (ob_move rfl (.tmp rfl)) fun a141 w141 s141 => ?_; clear s140
                refine seq_op s141 rfl rfl (of_decide_eq_true rfl) (ob_add rfl (.tmp rfl) (opd_int rfl)) fun a142 w142 s142 => ?_; clear s141
                refine seq_op s142 rfl rfl (of_decide_eq_true rfl) (ob_assign rfl (.tmp rfl)) fun a143 w143 s143 => ?_; clear s142
                refine wpList_nil ?_
                refine then_normal ?_
                exact hK23 (iadd .i64 y1 (1 : Int)) _ _ h29 (s143.sub (.cons rfl (.cons rfl (.cons rfl (.cons rfl (.cons rfl .nil))))))
            · replace h21 := ite_f hc7 h21
              have h30 := h21; clear h21
              refine wp_exit ?_
              refine (then_exit (then_exit (in_here ?_)))
              refine then_normal ?_
              have s144 := St.drop (A := [_]) s114; clear s114
              exact hj1 _ _ h30 (s144.sub (.cons rfl (.cons rfl .nil)))
          · replace h13 := ite_f hc6 h13
            have h31 := h13; clear h13
            refine wp_skip ?_
            refine then_normal ?_
            have s145 := St.drop (A := []) s78; clear s78
            exact hj1 _ _ h31 (s145.sub (.cons rfl (.cons rfl .nil)))

/- 76 cabal/cabalref16.To -/
theorem c_cabalref16_To (k : Nat) (p1 : (List api_Node)) (p2 : api_Op) (r : ((List Int) × Int)) (h0 : cabalref16_To k p1 p2 = some r) (ok : Ok) (w0 : World) (z0 : Value) (z1 : Value) (u0 : ((ksl k_api_Node).V p1).holds ok w0 z0) (u1 : (k_api_Op.V p2).holds ok w0 z1) :
    GivesX Try.prog 76 [z0, z1] ok w0 [] (fun g : Value => resFact [is g, (kint .i64).V r.2]) (fun g : Value => [RowF (g) 3 (kint .i64) r.1]) := by
  unfold cabalref16_To at h0
  refine enterX (N := 66) Try.func76 rfl rfl (of_decide_eq_true rfl) (.cons u0 (.cons u1 .nil)) List.nodup_nil (fun _ h => by cases h) (fun _ h => by cases h) fun a1 s1 => ?_
  refine wp_seq_k fun K1 hK1 => ?_
  refine wp_region_lit ?_
  refine seq_opx (B' := (fun b1 : Nat => [BF b1 44 k_api_Op p2])) s1 rfl rfl (of_decide_eq_true rfl) (ob_box rfl (.tmp rfl)) fun b1 a2 w2 s2 => ?_; clear s1
  refine seq_op s2 rfl rfl (of_decide_eq_true rfl) (ob_assign rfl opd_is) fun a3 w3 s3 => ?_; clear s2
  have s4 := St.adopt s3 (G := RowF (nilRow 40) 3 (kint .i64) []) rfl (rowNilN _ _ _ _ _); clear s3
  refine seq_op s4 rfl rfl (of_decide_eq_true rfl) (ob_assign rfl (opd_int rfl)) fun a5 w5 s5 => ?_; clear s4
  refine wpList_nil ?_
  refine then_normal ?_
  refine hK1 _ _ ?_
  have s6 := s5.sub (.cons (t := 0) rfl (.cons (t := 3) rfl .nil)); clear s5
  have s7 := St.drop (A := []) s6; clear s6
  refine wp_seq_k fun K2 hK2 => ?_
  refine wp_region_lit ?_
  refine seq_op s7 rfl rfl (of_decide_eq_true rfl) (ob_move rfl (.tmp rfl)) fun a8 w8 s8 => ?_; clear s7
  refine seq_op s8 rfl rfl (of_decide_eq_true rfl) (ob_load rfl tk44 (.tmp rfl) (.head _) (LG.refl _ _)) fun a9 w9 s9 => ?_; clear s8
  obtain ⟨x1, e_x1, h1⟩ := bind_some h0; clear h0
  refine seq_op s9 rfl rfl (of_decide_eq_true rfl) (ob_callD (args := [_, _]) rfl .direct hb127 (fun a w s fs gs hf hg => by obtain rfl := hf.unnil; obtain rfl := hg.unnil; exact c_cabalref16_Behind k _ _ _ e_x1 _ _ _ _ (s.arg (.tmp rfl)) (s.arg (.tmp rfl)))) fun a10 w10 s10 => ?_; clear s9
  refine seq_op s10 rfl rfl (of_decide_eq_true rfl) (ob_move rfl (.tmp rfl)) fun a11 w11 s11 => ?_; clear s10
  refine seq_op s11 rfl rfl (of_decide_eq_true rfl) (ob_extract rfl (.tmp rfl) rfl) fun a12 w12 s12 => ?_; clear s11
  refine seq_op s12 rfl rfl (of_decide_eq_true rfl) (ob_extract rfl (.tmp rfl) rfl) fun a13 w13 s13 => ?_; clear s12
  refine seq_op s13 rfl rfl (of_decide_eq_true rfl) (ob_assign rfl (.tmp rfl)) fun a14 w14 s14 => ?_; clear s13
  refine seq_op s14 rfl rfl (of_decide_eq_true rfl) (ob_assign rfl (.tmp rfl)) fun a15 w15 s15 => ?_; clear s14
  refine wpList_nil ?_
  refine then_normal ?_
  refine hK2 _ _ ?_
  have s16 := s15.sub (.cons (t := 3) rfl (.cons (t := 6) rfl (.cons (t := 7) rfl .nil))); clear s15
  refine wp_seq_k fun K3 hK3 => ?_
  refine wp_seq_k fun K4 hK4 => ?_
  refine wp_region_lit ?_
  refine seq_op s16 rfl rfl (of_decide_eq_true rfl) (ob_move rfl (.tmp rfl)) fun a17 w17 s17 => ?_; clear s16
  refine seq_op s17 rfl rfl (of_decide_eq_true rfl) (ob_neq rfl (.tmp rfl) (opd_int rfl)) fun a18 w18 s18 => ?_; clear s17
  refine wpList_nil ?_
  refine then_normal ?_
  refine hK4 _ _ ?_
  have s19 := s18.sub (.cons (t := 3) rfl (.cons (t := 6) rfl (.cons (t := 7) rfl (.cons (t := 18) rfl .nil)))); clear s18
  refine cond_split s19 (.tmp rfl) (fun hc1 => ?_) (fun hc1 => ?_)
  · replace h1 := ite_t hc1 h1
    have h2 := h1; clear h1
    refine wp_seq_k fun K5 hK5 => ?_
    refine wp_region_lit ?_
    refine seq_op s19 rfl rfl (of_decide_eq_true rfl) (ob_move rfl (.tmp rfl)) fun a20 w20 s20 => ?_; clear s19
    refine seq_op s20 rfl rfl (of_decide_eq_true rfl) (ob_assign rfl opd_is) fun a21 w21 s21 => ?_; clear s20
    have s22 := St.adopt s21 (G := RowF (nilRow 51) 3 (kint .i64) []) rfl (rowNilN _ _ _ _ _); clear s21
    refine seq_op s22 rfl rfl (of_decide_eq_true rfl) (ob_assign rfl (.tmp rfl)) fun a23 w23 s23 => ?_; clear s22
    refine wpList_nil ?_
    refine then_normal ?_
    refine hK5 _ _ ?_
    have s24 := s23.sub (.cons (t := 4) rfl (.cons (t := 5) rfl .nil)); clear s23
    have s25 := St.drop (A := [_]) s24; clear s24
    refine wp_ret ?_
    obtain rfl := Option.some.inj h2
    exact leaveXD (D := []) (nilRow 51) s25 rfl (.inl rfl) rfl (.cons (.tmp rfl) (.cons (.tmp rfl) .nil)) rfl
  · replace h1 := ite_f hc1 h1
    have h3 := h1; clear h1
    refine wp_skip ?_
    refine then_normal ?_
    refine hK3 _ _ ?_
    have s26 := s19.sub (.cons (t := 3) rfl (.cons (t := 6) rfl .nil)); clear s19
    refine wp_seq_k fun K6 hK6 => ?_
    refine wp_region_lit ?_
    refine seq_op s26 rfl rfl (of_decide_eq_true rfl) (ob_assign rfl opd_is) fun a27 w27 s27 => ?_; clear s26
    have s28 := St.adopt s27 (G := RowF (nilRow 52) 3 (kint .i64) []) rfl (rowNilN _ _ _ _ _); clear s27
    refine wpList_nil ?_
    refine then_normal ?_
    refine hK6 _ _ ?_
    have s29 := s28.sub (.cons (t := 3) rfl (.cons (t := 6) rfl (.cons (t := 8) rfl .nil))); clear s28
    refine wp_seq_k fun K7 hK7 => ?_
    refine wp_seq_k fun K8 hK8 => ?_
    refine wp_region_lit ?_
    refine seq_op s29 rfl rfl (of_decide_eq_true rfl) (ob_assign rfl (opd_int rfl)) fun a30 w30 s30 => ?_; clear s29
    refine wpList_nil ?_
    refine then_normal ?_
    refine hK8 _ _ ?_
    have s31 := s30.sub (.cons (t := 3) rfl (.cons (t := 6) rfl (.cons (t := 8) rfl (.cons (t := 9) rfl .nil)))); clear s30
    have hj1 : ∀ (y1 : (List Int)) (v1 : Value) (a : Act) (w : World), (cabalref16_To.j1 k) y1 = some r → St ⟨66, w0, ok, (idsOf [])⟩ [RowF v1 3 (kint .i64) y1] [(8, (is v1))] a w → K7 a w := by
      intro y1 v1 a32 w32 h4 s32
      unfold cabalref16_To.j1 at h4
      refine hK7 _ _ ?_
      refine wp_seq_k fun K9 hK9 => ?_
      refine wp_region_lit ?_
      refine seq_op s32 rfl rfl (of_decide_eq_true rfl) (ob_move rfl (.tmp rfl)) fun a33 w33 s33 => ?_; clear s32
      refine seq_op s33 rfl rfl (of_decide_eq_true rfl) (ob_assign rfl (.tmp rfl)) fun a34 w34 s34 => ?_; clear s33
      refine seq_op s34 rfl rfl (of_decide_eq_true rfl) (ob_assign rfl (opd_int rfl)) fun a35 w35 s35 => ?_; clear s34
      refine wpList_nil ?_
      refine then_normal ?_
      refine hK9 _ _ ?_
      have s36 := s35.sub (.cons (t := 4) rfl (.cons (t := 5) rfl .nil)); clear s35
      refine wp_ret ?_
      obtain rfl := Option.some.inj h4
      exact leaveXD (D := []) v1 s36 rfl (.inl rfl) rfl (.cons (.tmp rfl) (.cons (.tmp rfl) .nil)) rfl
    refine wp_block ?_
    have s37 := s31.perm (toFront [_] (toFront [] (List.Perm.refl _))); clear s31
    refine wp_loop_fuel (fun m (q : Int × (List Int)) => cabalref16_To.l1 k x1 p2 m q.1 q.2) r (fun _ => rfl) (fun q a w => ∃ (v2 : Value), St ⟨66, w0, ok, (idsOf [])⟩ [BF b1 44 k_api_Op p2, RowF v2 3 (kint .i64) q.2] [(3, (ptrB b1 0)), (6, ((ksl (kint .i64)).V x1.1)), (8, (is v2)), (9, ((kint .i64).V q.1))] a w) ?_ k ((0 : Int), ([] : (List Int))) _ _ h3 ⟨(nilRow 52), (s37.sub (.cons rfl (.cons rfl (.cons rfl (.cons rfl .nil)))))⟩
    rintro n1 ⟨y2, y3⟩ a38 w38 h5 ⟨v2, s38⟩ K10 hK10
    replace h5 : cabalref16_To.l1 k x1 p2 (n1 + 1) y2 y3 = some r := h5; rw [cabalref16_To.l1] at h5
    have h6 := h5; clear h5
    refine wp_seq_k fun K11 hK11 => ?_
    refine wp_seq_k fun K12 hK12 => ?_
    refine wp_region_lit ?_
    refine seq_op s38 rfl rfl (of_decide_eq_true rfl) (ob_move rfl (.tmp rfl)) fun a39 w39 s39 => ?_; clear s38
    refine seq_op s39 rfl rfl (of_decide_eq_true rfl) (ob_lss rfl (.tmp rfl) (opd_int rfl)) fun a40 w40 s40 => ?_; clear s39
    refine wpList_nil ?_
    refine then_normal ?_
    refine hK12 _ _ ?_
    have s41 := s40.sub (.cons (t := 3) rfl (.cons (t := 6) rfl (.cons (t := 8) rfl (.cons (t := 9) rfl (.cons (t := 21) rfl .nil))))); clear s40
    refine cond_split s41 (.tmp rfl) (fun hc2 => ?_) (fun hc2 => ?_)
    · replace h6 := ite_t hc2 h6
      have h7 := h6; clear h6
      refine wp_skip ?_
      refine then_normal ?_
      refine hK11 _ _ ?_
      have s42 := s41.sub (.cons (t := 3) rfl (.cons (t := 6) rfl (.cons (t := 8) rfl (.cons (t := 9) rfl .nil)))); clear s41
      refine wp_seq_k fun K13 hK13 => ?_
      have hj2 : ∀ (y4 : (List Int)) (v3 : Value) (a : Act) (w : World), (cabalref16_To.j2 k y2 (cabalref16_To.l1 k x1 p2 n1)) y4 = some r → St ⟨66, w0, ok, (idsOf [])⟩ [BF b1 44 k_api_Op p2, RowF v3 3 (kint .i64) y4] [(3, (ptrB b1 0)), (6, ((ksl (kint .i64)).V x1.1)), (8, (is v3)), (9, ((kint .i64).V y2))] a w → K13 a w := by
        intro y4 v3 a43 w43 h8 s43
        unfold cabalref16_To.j2 at h8
        refine hK13 _ _ ?_
        refine wp_region_lit ?_
        refine seq_op s43 rfl rfl (of_decide_eq_true rfl) (ob_move rfl (.tmp rfl)) fun a44 w44 s44 => ?_; clear s43
        refine seq_op s44 rfl rfl (of_decide_eq_true rfl) (ob_add rfl (.tmp rfl) (opd_int rfl)) fun a45 w45 s45 => ?_; clear s44
        refine seq_op s45 rfl rfl (of_decide_eq_true rfl) (ob_assign rfl (.tmp rfl)) fun a46 w46 s46 => ?_; clear s45
        refine wpList_nil ?_
        refine then_normal ?_
        exact hK10 ((iadd .i64 y2 (1 : Int)), y4) _ _ h8 ⟨v3, (s46.sub (.cons rfl (.cons rfl (.cons rfl (.cons rfl .nil)))))⟩
      refine wp_block ?_
      refine wp_seq_k fun K14 hK14 => ?_
      refine wp_region_lit ?_
      refine seq_op s42 rfl rfl (of_decide_eq_true rfl) (ob_move rfl (.tmp rfl)) fun a47 w47 s47 => ?_; clear s42
      refine seq_op s47 rfl rfl (of_decide_eq_true rfl) (ob_move rfl (.tmp rfl)) fun a48 w48 s48 => ?_; clear s47
      obtain ⟨x2, e_x2, h9⟩ := bind_some h7; clear h7
      refine seq_op s48 rfl rfl (of_decide_eq_true rfl) (ob_callD (args := [_, _]) rfl .direct hb44 (fun a w s fs gs hf hg => by obtain rfl := hf.unnil; obtain rfl := hg.unnil; exact c_cabalref15_In k _ _ _ e_x2 _ _ _ _ (s.arg (.tmp rfl)) (s.arg (.tmp rfl)))) fun a49 w49 s49 => ?_; clear s48
      refine seq_op s49 rfl rfl (of_decide_eq_true rfl) (ob_move rfl (.tmp rfl)) fun a50 w50 s50 => ?_; clear s49
      refine seq_opg s50 rfl rfl rfl rfl (of_decide_eq_true rfl) (fun hb => ob_fieldAddr (off' := 3) rfl Try.underlying44 rfl sz3 (by decide) (.tmp rfl) rfl) fun a51 w51 s51 => ?_; clear s50
      refine seq_opg s51 rfl rfl rfl rfl (of_decide_eq_true rfl) (fun hb => (Ob.uncond (t := 28) hb rfl (ob_load rfl tk3 (.tmp rfl) (.head _) (lg_api_Op_Kind p2)))) fun a52 w52 s52 => ?_; clear s51
      refine seq_opg s52 rfl rfl rfl rfl (of_decide_eq_true rfl) (fun hb => (Ob.uncond (t := 29) hb rfl (ob_eql rfl (.tmp rfl) (opd_int rfl)))) fun a53 w53 s53 => ?_; clear s52
      refine seq_opg s53 rfl rfl rfl rfl (of_decide_eq_true rfl) (fun hb => (Ob.uncond (t := 30) hb rfl (ob_move rfl (.tmp rfl)))) fun a54 w54 s54 => ?_; clear s53
      refine seq_opg2 s54 rfl rfl rfl rfl (of_decide_eq_true rfl) (fun hb => ob_fieldAddr (off' := 4) rfl Try.underlying44 rfl sz41 (by decide) (.tmp rfl) rfl) fun a55 w55 s55 => ?_; clear s54
      refine seq_opg2 s55 rfl rfl rfl rfl (of_decide_eq_true rfl) (fun hb => (Ob.uncond (t := 32) hb rfl (ob_load rfl tk41 (.tmp rfl) (.head _) (lg_api_Op_Who p2)))) fun a56 w56 s56 => ?_; clear s55
      obtain ⟨x3, e_x3, h10⟩ := bind_some h9; clear h9
      refine seq_opg2 s56 rfl rfl rfl rfl (of_decide_eq_true rfl) (fun hb => (Ob.uncond (t := 33) hb rfl (ob_indexAddrs rfl Try.underlying41 sz3 (.tmp rfl) (opd_int rfl) (ite_t hb e_x3)))) fun a57 w57 s57 => ?_; clear s56
      refine seq_opg2 s57 rfl rfl rfl rfl (of_decide_eq_true rfl) (fun hb => (Ob.uncond (t := 34) hb rfl (ob_loadr rfl tk3 (.tmp rfl)))) fun a58 w58 s58 => ?_; clear s57
      refine seq_opg2 s58 rfl rfl rfl rfl (of_decide_eq_true rfl) (fun hb => ob_move rfl (.tmp rfl)) fun a59 w59 s59 => ?_; clear s58
      refine seq_opg2 s59 rfl rfl rfl rfl (of_decide_eq_true rfl) (fun hb => (Ob.uncond (t := 36) hb rfl ((Ob.uncond (t := 35) hb rfl (ob_eql rfl (.tmp rfl) (.tmp rfl)))))) fun a60 w60 s60 => ?_; clear s59
      refine seq_opg s60 rfl rfl rfl rfl (of_decide_eq_true rfl) (fun hb => (Ob.uncond (t := 31) hb rfl (ob_and3 hb rfl (.tmp rfl) (.tmp rfl) opd_bool))) fun a61 w61 s61 => ?_; clear s60
      obtain ⟨x4, e_x4, h11⟩ := bind_some h10; clear h10; replace e_x4 := Option.some.inj e_x4
      refine seq_op s61 rfl rfl (of_decide_eq_true rfl) ((ob_or2 rfl (.tmp rfl) opd_bool (.tmp rfl)).nm e_x4) fun a62 w62 s62 => ?_; clear s61
      refine seq_op s62 rfl rfl (of_decide_eq_true rfl) (ob_assign rfl (.tmp rfl)) fun a63 w63 s63 => ?_; clear s62
      refine wpList_nil ?_
      refine then_normal ?_
      refine hK14 _ _ ?_
      have s64 := s63.sub (.cons (t := 3) rfl (.cons (t := 6) rfl (.cons (t := 8) rfl (.cons (t := 9) rfl (.cons (t := 10) rfl .nil))))); clear s63
      refine wp_seq_k fun K15 hK15 => ?_
      refine wp_region_lit ?_
      refine seq_op s64 rfl rfl (of_decide_eq_true rfl) (ob_move rfl (.tmp rfl)) fun a65 w65 s65 => ?_; clear s64
      refine seq_op s65 rfl rfl (of_decide_eq_true rfl) (ob_move rfl (.tmp rfl)) fun a66 w66 s66 => ?_; clear s65
      refine seq_opg s66 rfl rfl rfl rfl (of_decide_eq_true rfl) (fun hb => ob_move rfl (.tmp rfl)) fun a67 w67 s67 => ?_; clear s66
      refine seq_opg s67 rfl rfl rfl rfl (of_decide_eq_true rfl) (fun hb => ob_fieldAddr (off' := 0) rfl Try.underlying44 rfl sz3 (by decide) (.tmp rfl) rfl) fun a68 w68 s68 => ?_; clear s67
      refine seq_opg s68 rfl rfl rfl rfl (of_decide_eq_true rfl) (fun hb => (Ob.uncond (t := 43) hb rfl (ob_load rfl tk3 (.tmp rfl) (.head _) (lg_api_Op_Author p2)))) fun a69 w69 s69 => ?_; clear s68
      refine seq_opg s69 rfl rfl rfl rfl (of_decide_eq_true rfl) (fun hb => (Ob.uncond (t := 44) hb rfl ((Ob.uncond (t := 42) hb rfl (ob_neq rfl (.tmp rfl) (.tmp rfl)))))) fun a70 w70 s70 => ?_; clear s69
      refine seq_op s70 rfl rfl (of_decide_eq_true rfl) (ob_and2 rfl (.tmp rfl) (.tmp rfl) opd_bool) fun a71 w71 s71 => ?_; clear s70
      refine seq_op s71 rfl rfl (of_decide_eq_true rfl) (ob_move rfl (.tmp rfl)) fun a72 w72 s72 => ?_; clear s71
      refine seq_opg s72 rfl rfl rfl rfl (of_decide_eq_true rfl) (fun hb => ob_fieldAddr (off' := 3) rfl Try.underlying44 rfl sz3 (by decide) (.tmp rfl) rfl) fun a73 w73 s73 => ?_; clear s72
      refine seq_opg s73 rfl rfl rfl rfl (of_decide_eq_true rfl) (fun hb => (Ob.uncond (t := 48) hb rfl (ob_load rfl tk3 (.tmp rfl) (.head _) (lg_api_Op_Kind p2)))) fun a74 w74 s74 => ?_; clear s73
      refine seq_opg s74 rfl rfl rfl rfl (of_decide_eq_true rfl) (fun hb => (Ob.uncond (t := 49) hb rfl (ob_eql rfl (.tmp rfl) (opd_int rfl)))) fun a75 w75 s75 => ?_; clear s74
      refine seq_opg s75 rfl rfl rfl rfl (of_decide_eq_true rfl) (fun hb => (Ob.uncond (t := 50) hb rfl (ob_move rfl (.tmp rfl)))) fun a76 w76 s76 => ?_; clear s75
      refine seq_opg2 s76 rfl rfl rfl rfl (of_decide_eq_true rfl) (fun hb => ob_fieldAddr (off' := 4) rfl Try.underlying44 rfl sz41 (by decide) (.tmp rfl) rfl) fun a77 w77 s77 => ?_; clear s76
      refine seq_opg2 s77 rfl rfl rfl rfl (of_decide_eq_true rfl) (fun hb => (Ob.uncond (t := 52) hb rfl (ob_load rfl tk41 (.tmp rfl) (.head _) (lg_api_Op_Who p2)))) fun a78 w78 s78 => ?_; clear s77
      obtain ⟨x5, e_x5, h12⟩ := bind_some h11; clear h11
      refine seq_opg2 s78 rfl rfl rfl rfl (of_decide_eq_true rfl) (fun hb => (Ob.uncond (t := 53) hb rfl (ob_indexAddrs rfl Try.underlying41 sz3 (.tmp rfl) (opd_int rfl) (ite_t hb e_x5)))) fun a79 w79 s79 => ?_; clear s78
      refine seq_opg2 s79 rfl rfl rfl rfl (of_decide_eq_true rfl) (fun hb => (Ob.uncond (t := 54) hb rfl (ob_loadr rfl tk3 (.tmp rfl)))) fun a80 w80 s80 => ?_; clear s79
      refine seq_opg2 s80 rfl rfl rfl rfl (of_decide_eq_true rfl) (fun hb => ob_move rfl (.tmp rfl)) fun a81 w81 s81 => ?_; clear s80
      refine seq_opg2 s81 rfl rfl rfl rfl (of_decide_eq_true rfl) (fun hb => (Ob.uncond (t := 56) hb rfl ((Ob.uncond (t := 55) hb rfl (ob_eql rfl (.tmp rfl) (.tmp rfl)))))) fun a82 w82 s82 => ?_; clear s81
      refine seq_opg s82 rfl rfl rfl rfl (of_decide_eq_true rfl) (fun hb => (Ob.uncond (t := 51) hb rfl (ob_and3 hb rfl (.tmp rfl) (.tmp rfl) opd_bool))) fun a83 w83 s83 => ?_; clear s82
      refine seq_opg s83 rfl rfl rfl rfl (of_decide_eq_true rfl) (fun hb => (Ob.uncond (t := 58) hb rfl (ob_not rfl (.tmp rfl)))) fun a84 w84 s84 => ?_; clear s83
      obtain ⟨x6, e_x6, h13⟩ := bind_some h12; clear h12; replace e_x6 := Option.some.inj e_x6
      refine seq_op s84 rfl rfl (of_decide_eq_true rfl) ((ob_and2 rfl (.tmp rfl) (.tmp rfl) opd_bool).nm e_x6) fun a85 w85 s85 => ?_; clear s84
      refine wpList_nil ?_
      refine then_normal ?_
      refine hK15 _ _ ?_
      have s86 := s85.sub (.cons (t := 3) rfl (.cons (t := 6) rfl (.cons (t := 8) rfl (.cons (t := 9) rfl (.cons (t := 60) rfl .nil))))); clear s85
      refine cond_split s86 (.tmp rfl) (fun hc3 => ?_) (fun hc3 => ?_)
      · replace h13 := ite_t hc3 h13
        have h14 := h13; clear h13
        refine wp_region_lit ?_
        refine seq_op s86 rfl rfl (of_decide_eq_true rfl) (ob_move rfl (.tmp rfl)) fun a87 w87 s87 => ?_; clear s86
        refine seq_op s87 rfl rfl (of_decide_eq_true rfl) (ob_move rfl (.tmp rfl)) fun a88 w88 s88 => ?_; clear s87
        refine seq_op s88 rfl rfl (of_decide_eq_true rfl) (ob_mkSlice (k := (kint .i64)) (xs := ([y2] : (List Int))) rfl Try.underlying41 zz3 sz3 (Zr.int .i64) (by decide) (by decide) (.cons (.tmp rfl) rfl (LS.arr' (i := 0) (ys := ([y2] : (List Int))) (by simp) (by rfl)) (.nil _))) fun a89 w89 s89 => ?_; clear s88
        obtain ⟨g1, h15⟩ := guard_some h14; clear h14
        refine seq_opx (B' := (fun v4 : Value => [BF b1 44 k_api_Op p2, RowF v4 3 (kint .i64) (y3 ++ ([y2] : (List Int)))])) s89 rfl rfl (of_decide_eq_true rfl) (ob_appendL2 (A := [_]) rfl Try.underlying41 ap3 (Zr.int .i64) (by decide) (.tmp rfl) (.tmp rfl) rfl g1) fun v4 a90 w90 s90 => ?_; clear s89
        refine seq_op s90 rfl rfl (of_decide_eq_true rfl) (ob_assign rfl (.tmp rfl)) fun a91 w91 s91 => ?_; clear s90
        refine wpList_nil ?_
        refine in_normal ?_
        refine then_normal ?_
        exact hj2 (y3 ++ ([y2] : (List Int))) v4 _ _ h15 (s91.sub (.cons rfl (.cons rfl (.cons rfl (.cons rfl .nil)))))
      · replace h13 := ite_f hc3 h13
        have h16 := h13; clear h13
        refine wp_skip ?_
        refine in_normal ?_
        refine then_normal ?_
        exact hj2 y3 v2 _ _ h16 (s86.sub (.cons rfl (.cons rfl (.cons rfl (.cons rfl .nil)))))
    · replace h6 := ite_f hc2 h6
      have h17 := h6; clear h6
      refine wp_exit ?_
      refine (then_exit (then_exit (in_here ?_)))
      refine then_normal ?_
      have s92 := St.drop (A := []) s41; clear s41
      exact hj1 y3 v2 _ _ h17 (s92.sub (.cons rfl .nil))

/- 21 cabal/caballaw16.RosterAllows -/
theorem c_caballaw16_RosterAllows (k : Nat) (p1 : (List api_Node)) (p2 : api_Op) (r : Bool) (h0 : caballaw16_RosterAllows k p1 p2 = some r) (ok : Ok) (w0 : World) (z0 : Value) (z1 : Value) (u0 : ((ksl k_api_Node).V p1).holds ok w0 z0) (u1 : (k_api_Op.V p2).holds ok w0 z1) :
    Gives Try.prog 21 [z0, z1] ok w0 (resFact [kbool.V r]) := by
  unfold caballaw16_RosterAllows at h0
  refine enter (N := 67) Try.func21 rfl rfl (of_decide_eq_true rfl) (.cons u0 (.cons u1 .nil)) fun a1 s1 => ?_
  refine wp_seq_k fun K1 hK1 => ?_
  refine wp_region_lit ?_
  refine seq_opx (B' := (fun b1 : Nat => [BF b1 44 k_api_Op p2])) s1 rfl rfl (of_decide_eq_true rfl) (ob_box rfl (.tmp rfl)) fun b1 a2 w2 s2 => ?_; clear s1
  refine seq_op s2 rfl rfl (of_decide_eq_true rfl) (ob_assign rfl opd_bool) fun a3 w3 s3 => ?_; clear s2
  refine wpList_nil ?_
  refine then_normal ?_
  refine hK1 _ _ ?_
  have s4 := s3.sub (.cons (t := 0) rfl (.cons (t := 3) rfl .nil)); clear s3
  refine wp_seq_k fun K2 hK2 => ?_
  refine wp_seq_k fun K3 hK3 => ?_
  refine wp_region_lit ?_
  obtain ⟨x1, e_x1, h1⟩ := bind_some h0; clear h0
  refine seq_op s4 rfl rfl (of_decide_eq_true rfl) (ob_callD (args := []) rfl .direct hb35 (fun a w s fs gs hf hg => by obtain rfl := hf.unnil; obtain rfl := hg.unnil; exact c_caballaw16_alive k _ e_x1 _ _)) fun a5 w5 s5 => ?_; clear s4
  refine seq_op s5 rfl rfl (of_decide_eq_true rfl) (ob_not rfl (.tmp rfl)) fun a6 w6 s6 => ?_; clear s5
  refine wpList_nil ?_
  refine then_normal ?_
  refine hK3 _ _ ?_
  have s7 := s6.sub (.cons (t := 0) rfl (.cons (t := 3) rfl (.cons (t := 11) rfl .nil))); clear s6
  refine cond_split s7 (.tmp rfl) (fun hc1 => ?_) (fun hc1 => ?_)
  · replace h1 := ite_t hc1 h1
    have h2 := h1; clear h1
    refine wp_seq_k fun K4 hK4 => ?_
    refine wp_region_lit ?_
    refine seq_op s7 rfl rfl (of_decide_eq_true rfl) (ob_assign rfl opd_bool) fun a8 w8 s8 => ?_; clear s7
    refine wpList_nil ?_
    refine then_normal ?_
    refine hK4 _ _ ?_
    have s9 := s8.sub (.cons (t := 4) rfl .nil); clear s8
    have s10 := St.drop (A := []) s9; clear s9
    refine wp_ret ?_
    obtain rfl := Option.some.inj h2
    exact leave s10 (.inl rfl) rfl (.cons (.tmp rfl) .nil)
  · replace h1 := ite_f hc1 h1
    have h3 := h1; clear h1
    refine wp_skip ?_
    refine then_normal ?_
    refine hK2 _ _ ?_
    have s11 := s7.sub (.cons (t := 0) rfl (.cons (t := 3) rfl .nil)); clear s7
    refine wp_seq_k fun K5 hK5 => ?_
    refine wp_seq_k fun K6 hK6 => ?_
    refine wp_region_lit ?_
    refine seq_op s11 rfl rfl (of_decide_eq_true rfl) (ob_move rfl (.tmp rfl)) fun a12 w12 s12 => ?_; clear s11
    obtain ⟨x2, e_x2, h4⟩ := bind_some h3; clear h3
    refine seq_op s12 rfl rfl (of_decide_eq_true rfl) (ob_callD (args := [_]) rfl .direct hb23 (fun a w s fs gs hf hg => by obtain rfl := hf.unnil; obtain rfl := hg.unnil; exact c_cabalref15_Great k _ _ e_x2 _ _ _ (s.arg (.tmp rfl)))) fun a13 w13 s13 => ?_; clear s12
    refine seq_op s13 rfl rfl (of_decide_eq_true rfl) (ob_move rfl (.tmp rfl)) fun a14 w14 s14 => ?_; clear s13
    refine seq_opg s14 rfl rfl rfl rfl (of_decide_eq_true rfl) (fun hb => ob_load rfl tk44 (.tmp rfl) (.head _) (LG.refl _ _)) fun a15 w15 s15 => ?_; clear s14
    obtain ⟨x3, e_x3, h5⟩ := bind_some h4; clear h4
    refine seq_opg s15 rfl rfl rfl rfl (of_decide_eq_true rfl) (fun hb => (Ob.uncond (t := 15) hb rfl (ob_callD (args := [_]) rfl .direct hb51 (fun a w s fs gs hf hg => by obtain rfl := hf.unnil; obtain rfl := hg.unnil; exact c_cabalref11_Great k _ _ (ite_t hb e_x3) _ _ _ (s.arg (.tmp rfl)))))) fun a16 w16 s16 => ?_; clear s15
    refine seq_op s16 rfl rfl (of_decide_eq_true rfl) (ob_or2 rfl (.tmp rfl) opd_bool (.tmp rfl)) fun a17 w17 s17 => ?_; clear s16
    refine wpList_nil ?_
    refine then_normal ?_
    refine hK6 _ _ ?_
    have s18 := s17.sub (.cons (t := 0) rfl (.cons (t := 3) rfl (.cons (t := 17) rfl .nil))); clear s17
    refine cond_split s18 (.tmp rfl) (fun hc2 => ?_) (fun hc2 => ?_)
    · replace h5 := ite_t hc2 h5
      have h6 := h5; clear h5
      refine wp_seq_k fun K7 hK7 => ?_
      refine wp_region_lit ?_
      obtain ⟨x4, e_x4, h7⟩ := bind_some h6; clear h6
      refine seq_op s18 rfl rfl (of_decide_eq_true rfl) (ob_callD (args := []) rfl .direct hb35 (fun a w s fs gs hf hg => by obtain rfl := hf.unnil; obtain rfl := hg.unnil; exact c_caballaw16_alive k _ e_x4 _ _)) fun a19 w19 s19 => ?_; clear s18
      refine seq_op s19 rfl rfl (of_decide_eq_true rfl) (ob_assign rfl (.tmp rfl)) fun a20 w20 s20 => ?_; clear s19
      refine wpList_nil ?_
      refine then_normal ?_
      refine hK7 _ _ ?_
      have s21 := s20.sub (.cons (t := 4) rfl .nil); clear s20
      have s22 := St.drop (A := []) s21; clear s21
      refine wp_ret ?_
      obtain rfl := Option.some.inj h7
      exact leave s22 (.inl rfl) rfl (.cons (.tmp rfl) .nil)
    · replace h5 := ite_f hc2 h5
      have h8 := h5; clear h5
      refine wp_skip ?_
      refine then_normal ?_
      refine hK5 _ _ ?_
      have s23 := s18.sub (.cons (t := 0) rfl (.cons (t := 3) rfl .nil)); clear s18
      refine wp_seq_k fun K8 hK8 => ?_
      refine wp_region_lit ?_
      refine seq_op s23 rfl rfl (of_decide_eq_true rfl) (ob_move rfl (.tmp rfl)) fun a24 w24 s24 => ?_; clear s23
      refine seq_op s24 rfl rfl (of_decide_eq_true rfl) (ob_load rfl tk44 (.tmp rfl) (.head _) (LG.refl _ _)) fun a25 w25 s25 => ?_; clear s24
      obtain ⟨x5, e_x5, h9⟩ := bind_some h8; clear h8
      refine seq_op s25 rfl rfl (of_decide_eq_true rfl) (ob_callD (args := [_, _]) rfl .direct hb46 (fun a w s fs gs hf hg => by obtain rfl := hf.unnil; obtain rfl := hg.unnil; exact c_roster_Allowed k _ _ _ e_x5 _ _ _ _ (s.arg (.tmp rfl)) (s.arg (.tmp rfl)))) fun a26 w26 s26 => ?_; clear s25
      refine seq_op s26 rfl rfl (of_decide_eq_true rfl) (ob_assign rfl (.tmp rfl)) fun a27 w27 s27 => ?_; clear s26
      refine wpList_nil ?_
      refine then_normal ?_
      refine hK8 _ _ ?_
      have s28 := s27.sub (.cons (t := 0) rfl (.cons (t := 3) rfl (.cons (t := 5) rfl .nil))); clear s27
      refine wp_seq_k fun K9 hK9 => ?_
      refine wp_region_lit ?_
      refine seq_op s28 rfl rfl (of_decide_eq_true rfl) (ob_move rfl (.tmp rfl)) fun a29 w29 s29 => ?_; clear s28
      refine seq_op s29 rfl rfl (of_decide_eq_true rfl) (ob_load rfl tk44 (.tmp rfl) (.head _) (LG.refl _ _)) fun a30 w30 s30 => ?_; clear s29
      obtain ⟨x6, e_x6, h10⟩ := bind_some h9; clear h9
      refine seq_opx (B' := (fun v1 : Value => [RowF v1 3 (kint .i64) x6.1, BF b1 44 k_api_Op p2])) s30 rfl rfl (of_decide_eq_true rfl) (ob_callL (args := [_, _]) (L := []) rfl .direct hb75 (List.Perm.refl _) (fun a w s fs gs hf hg => by obtain rfl := hf.unnil; obtain rfl := hg.unnil; exact c_roster_To k _ _ _ e_x6 _ _ _ _ (s.arg (.tmp rfl)) (s.arg (.tmp rfl))) (by exact fun _ => rfl)) fun v1 a31 w31 s31 => ?_; clear s30
      refine seq_op s31 rfl rfl (of_decide_eq_true rfl) (ob_move rfl (.tmp rfl)) fun a32 w32 s32 => ?_; clear s31
      refine seq_op s32 rfl rfl (of_decide_eq_true rfl) (ob_extract rfl (.tmp rfl) rfl) fun a33 w33 s33 => ?_; clear s32
      refine seq_op s33 rfl rfl (of_decide_eq_true rfl) (ob_extract rfl (.tmp rfl) rfl) fun a34 w34 s34 => ?_; clear s33
      refine seq_op s34 rfl rfl (of_decide_eq_true rfl) (ob_assign rfl (.tmp rfl)) fun a35 w35 s35 => ?_; clear s34
      refine seq_op s35 rfl rfl (of_decide_eq_true rfl) (ob_assign rfl (.tmp rfl)) fun a36 w36 s36 => ?_; clear s35
      refine wpList_nil ?_
      refine then_normal ?_
      refine hK9 _ _ ?_
      have s37 := s36.sub (.cons (t := 0) rfl (.cons (t := 3) rfl (.cons (t := 5) rfl (.cons (t := 6) rfl (.cons (t := 7) rfl .nil))))); clear s36
      refine wp_seq_k fun K10 hK10 => ?_
      refine wp_seq_k fun K11 hK11 => ?_
      refine wp_region_lit ?_
      refine seq_op s37 rfl rfl (of_decide_eq_true rfl) (ob_move rfl (.tmp rfl)) fun a38 w38 s38 => ?_; clear s37
      obtain ⟨x7, e_x7, h11⟩ := bind_some h10; clear h10
      refine seq_op s38 rfl rfl (of_decide_eq_true rfl) (ob_callD (args := [_]) rfl .direct hb30 (fun a w s fs gs hf hg => by obtain rfl := hf.unnil; obtain rfl := hg.unnil; exact c_cabalref15_Right k _ _ e_x7 _ _ _ (s.arg (.tmp rfl)))) fun a39 w39 s39 => ?_; clear s38
      refine seq_op s39 rfl rfl (of_decide_eq_true rfl) (ob_not rfl (.tmp rfl)) fun a40 w40 s40 => ?_; clear s39
      refine wpList_nil ?_
      refine then_normal ?_
      refine hK11 _ _ ?_
      have s41 := s40.sub (.cons (t := 0) rfl (.cons (t := 3) rfl (.cons (t := 5) rfl (.cons (t := 6) rfl (.cons (t := 7) rfl (.cons (t := 30) rfl .nil)))))); clear s40
      refine cond_split s41 (.tmp rfl) (fun hc3 => ?_) (fun hc3 => ?_)
      · replace h11 := ite_t hc3 h11
        have h12 := h11; clear h11
        refine wp_seq_k fun K12 hK12 => ?_
        refine wp_region_lit ?_
        obtain ⟨x8, e_x8, h13⟩ := bind_some h12; clear h12
        refine seq_op s41 rfl rfl (of_decide_eq_true rfl) (ob_callD (args := []) rfl .direct hb35 (fun a w s fs gs hf hg => by obtain rfl := hf.unnil; obtain rfl := hg.unnil; exact c_caballaw16_alive k _ e_x8 _ _)) fun a42 w42 s42 => ?_; clear s41
        refine seq_op s42 rfl rfl (of_decide_eq_true rfl) (ob_move rfl (.tmp rfl)) fun a43 w43 s43 => ?_; clear s42
        refine seq_opg s43 rfl rfl rfl rfl (of_decide_eq_true rfl) (fun hb => ob_move rfl (.tmp rfl)) fun a44 w44 s44 => ?_; clear s43
        refine seq_opg s44 rfl rfl rfl rfl (of_decide_eq_true rfl) (fun hb => (Ob.uncond (t := 33) hb rfl (ob_eql rfl (.tmp rfl) (opd_int rfl)))) fun a45 w45 s45 => ?_; clear s44
        refine seq_op s45 rfl rfl (of_decide_eq_true rfl) (ob_and2 rfl (.tmp rfl) (.tmp rfl) opd_bool) fun a46 w46 s46 => ?_; clear s45
        refine seq_op s46 rfl rfl (of_decide_eq_true rfl) (ob_move rfl (.tmp rfl)) fun a47 w47 s47 => ?_; clear s46
        refine seq_opg s47 rfl rfl rfl rfl (of_decide_eq_true rfl) (fun hb => ob_move rfl (.tmp rfl)) fun a48 w48 s48 => ?_; clear s47
        refine seq_opg s48 rfl rfl rfl rfl (of_decide_eq_true rfl) (fun hb => (Ob.uncond (t := 37) hb rfl (ob_eql rfl (.tmp rfl) (opd_int rfl)))) fun a49 w49 s49 => ?_; clear s48
        obtain ⟨x9, e_x9, h14⟩ := bind_some h13; clear h13; replace e_x9 := Option.some.inj e_x9
        refine seq_op s49 rfl rfl (of_decide_eq_true rfl) ((ob_and2 rfl (.tmp rfl) (.tmp rfl) opd_bool).nm e_x9) fun a50 w50 s50 => ?_; clear s49
        refine seq_op s50 rfl rfl (of_decide_eq_true rfl) (ob_move rfl (.tmp rfl)) fun a51 w51 s51 => ?_; clear s50
        refine seq_opg s51 rfl rfl rfl rfl (of_decide_eq_true rfl) (fun hb => ob_move rfl (.tmp rfl)) fun a52 w52 s52 => ?_; clear s51
        refine seq_opg s52 rfl rfl rfl rfl (of_decide_eq_true rfl) (fun hb => (Ob.uncond (t := 41) hb rfl (ob_lenRow rfl Try.underlying41 (.tmp rfl) (.head _)))) fun a53 w53 s53 => ?_; clear s52
        refine seq_opg s53 rfl rfl rfl rfl (of_decide_eq_true rfl) (fun hb => (Ob.uncond (t := 42) hb rfl (ob_eql rfl (.tmp rfl) (opd_int rfl)))) fun a54 w54 s54 => ?_; clear s53
        refine seq_op s54 rfl rfl (of_decide_eq_true rfl) (ob_and2 rfl (.tmp rfl) (.tmp rfl) opd_bool) fun a55 w55 s55 => ?_; clear s54
        refine seq_op s55 rfl rfl (of_decide_eq_true rfl) (ob_assign rfl (.tmp rfl)) fun a56 w56 s56 => ?_; clear s55
        refine wpList_nil ?_
        refine then_normal ?_
        refine hK12 _ _ ?_
        have s57 := s56.sub (.cons (t := 4) rfl .nil); clear s56
        have s58 := St.drop (A := []) s57; clear s57
        have s59 := St.drop (A := []) s58; clear s58
        refine wp_ret ?_
        obtain rfl := Option.some.inj h14
        exact leave s59 (.inl rfl) rfl (.cons (.tmp rfl) .nil)
      · replace h11 := ite_f hc3 h11
        have h15 := h11; clear h11
        refine wp_skip ?_
        refine then_normal ?_
        refine hK10 _ _ ?_
        have s60 := s41.sub (.cons (t := 0) rfl (.cons (t := 3) rfl (.cons (t := 5) rfl (.cons (t := 6) rfl (.cons (t := 7) rfl .nil))))); clear s41
        refine wp_seq_k fun K13 hK13 => ?_
        refine wp_region_lit ?_
        refine seq_op s60 rfl rfl (of_decide_eq_true rfl) (ob_move rfl (.tmp rfl)) fun a61 w61 s61 => ?_; clear s60
        refine seq_op s61 rfl rfl (of_decide_eq_true rfl) (ob_load rfl tk44 (.tmp rfl) (.tail _ (.head _)) (LG.refl _ _)) fun a62 w62 s62 => ?_; clear s61
        obtain ⟨x10, e_x10, h16⟩ := bind_some h15; clear h15
        refine seq_opx (B' := (fun v2 : Value => [RowF v2 3 (kint .i64) x10.1, RowF v1 3 (kint .i64) x6.1, BF b1 44 k_api_Op p2])) s62 rfl rfl (of_decide_eq_true rfl) (ob_callL (args := [_, _]) (L := []) rfl .direct hb76 (List.Perm.refl _) (fun a w s fs gs hf hg => by obtain rfl := hf.unnil; obtain rfl := hg.unnil; exact c_cabalref16_To k _ _ _ e_x10 _ _ _ _ (s.arg (.tmp rfl)) (s.arg (.tmp rfl))) (by exact fun _ => rfl)) fun v2 a63 w63 s63 => ?_; clear s62
        refine seq_op s63 rfl rfl (of_decide_eq_true rfl) (ob_move rfl (.tmp rfl)) fun a64 w64 s64 => ?_; clear s63
        refine seq_op s64 rfl rfl (of_decide_eq_true rfl) (ob_extract rfl (.tmp rfl) rfl) fun a65 w65 s65 => ?_; clear s64
        refine seq_op s65 rfl rfl (of_decide_eq_true rfl) (ob_extract rfl (.tmp rfl) rfl) fun a66 w66 s66 => ?_; clear s65
        refine seq_op s66 rfl rfl (of_decide_eq_true rfl) (ob_assign rfl (.tmp rfl)) fun a67 w67 s67 => ?_; clear s66
        refine seq_op s67 rfl rfl (of_decide_eq_true rfl) (ob_assign rfl (.tmp rfl)) fun a68 w68 s68 => ?_; clear s67
        refine wpList_nil ?_
        refine then_normal ?_
        refine hK13 _ _ ?_
        have s69 := s68.sub (.cons (t := 5) rfl (.cons (t := 6) rfl (.cons (t := 7) rfl (.cons (t := 8) rfl (.cons (t := 9) rfl .nil))))); clear s68
        have s70 := St.drop (A := [_, _]) s69; clear s69
        refine wp_seq_k fun K14 hK14 => ?_
        refine wp_region_lit ?_
        obtain ⟨x11, e_x11, h17⟩ := bind_some h16; clear h16
        refine seq_op s70 rfl rfl (of_decide_eq_true rfl) (ob_callD (args := []) rfl .direct hb35 (fun a w s fs gs hf hg => by obtain rfl := hf.unnil; obtain rfl := hg.unnil; exact c_caballaw16_alive k _ e_x11 _ _)) fun a71 w71 s71 => ?_; clear s70
        refine seq_op s71 rfl rfl (of_decide_eq_true rfl) (ob_move rfl (.tmp rfl)) fun a72 w72 s72 => ?_; clear s71
        refine seq_opg s72 rfl rfl rfl rfl (of_decide_eq_true rfl) (fun hb => ob_move rfl (.tmp rfl)) fun a73 w73 s73 => ?_; clear s72
        refine seq_opg s73 rfl rfl rfl rfl (of_decide_eq_true rfl) (fun hb => ob_move rfl (.tmp rfl)) fun a74 w74 s74 => ?_; clear s73
        refine seq_opg s74 rfl rfl rfl rfl (of_decide_eq_true rfl) (fun hb => (Ob.uncond (t := 54) hb rfl ((Ob.uncond (t := 53) hb rfl (ob_eql rfl (.tmp rfl) (.tmp rfl)))))) fun a75 w75 s75 => ?_; clear s74
        refine seq_op s75 rfl rfl (of_decide_eq_true rfl) (ob_and2 rfl (.tmp rfl) (.tmp rfl) opd_bool) fun a76 w76 s76 => ?_; clear s75
        refine seq_op s76 rfl rfl (of_decide_eq_true rfl) (ob_move rfl (.tmp rfl)) fun a77 w77 s77 => ?_; clear s76
        refine seq_opg s77 rfl rfl rfl rfl (of_decide_eq_true rfl) (fun hb => ob_move rfl (.tmp rfl)) fun a78 w78 s78 => ?_; clear s77
        refine seq_opg s78 rfl rfl rfl rfl (of_decide_eq_true rfl) (fun hb => ob_move rfl (.tmp rfl)) fun a79 w79 s79 => ?_; clear s78
        refine seq_opg s79 rfl rfl rfl rfl (of_decide_eq_true rfl) (fun hb => (Ob.uncond (t := 59) hb rfl ((Ob.uncond (t := 58) hb rfl (ob_eql rfl (.tmp rfl) (.tmp rfl)))))) fun a80 w80 s80 => ?_; clear s79
        obtain ⟨x12, e_x12, h18⟩ := bind_some h17; clear h17; replace e_x12 := Option.some.inj e_x12
        refine seq_op s80 rfl rfl (of_decide_eq_true rfl) ((ob_and2 rfl (.tmp rfl) (.tmp rfl) opd_bool).nm e_x12) fun a81 w81 s81 => ?_; clear s80
        refine seq_op s81 rfl rfl (of_decide_eq_true rfl) (ob_move rfl (.tmp rfl)) fun a82 w82 s82 => ?_; clear s81
        refine seq_opg s82 rfl rfl rfl rfl (of_decide_eq_true rfl) (fun hb => ob_move rfl (.tmp rfl)) fun a83 w83 s83 => ?_; clear s82
        refine seq_opg s83 rfl rfl rfl rfl (of_decide_eq_true rfl) (fun hb => ob_move rfl (.tmp rfl)) fun a84 w84 s84 => ?_; clear s83
        obtain ⟨x13, e_x13, h19⟩ := bind_some h18; clear h18
        refine seq_opg s84 rfl rfl rfl rfl (of_decide_eq_true rfl) (fun hb => (Ob.uncond (t := 64) hb rfl ((Ob.uncond (t := 63) hb rfl ((ob_lendG (L := [_, _]) (toFront [_] (toFront [] (List.Perm.refl _))) (.cons (t := 63) rfl (lendRow (.head _)) (.cons (t := 64) rfl (lendRow (.tail _ (.head _))) .nil)) (Flat.res1 (Flat.V KFlat.bool)) (fun _ => ob_callD (args := [_, _]) rfl .direct hb38 (fun a w s fs gs hf hg => by obtain rfl := hf.unnil; obtain rfl := hg.unnil; exact c_cabalref15_SameInts k _ _ _ (ite_t hb e_x13) _ _ _ _ (s.arg (.tmp rfl)) (s.arg (.tmp rfl)))))))))) fun a85 w85 s85 => ?_; clear s84
        refine seq_op s85 rfl rfl (of_decide_eq_true rfl) (ob_and2 rfl (.tmp rfl) (.tmp rfl) opd_bool) fun a86 w86 s86 => ?_; clear s85
        refine seq_op s86 rfl rfl (of_decide_eq_true rfl) (ob_assign rfl (.tmp rfl)) fun a87 w87 s87 => ?_; clear s86
        refine wpList_nil ?_
        refine then_normal ?_
        refine hK14 _ _ ?_
        have s88 := s87.sub (.cons (t := 4) rfl .nil); clear s87
        have s89 := St.drop (A := []) s88; clear s88
        have s90 := St.drop (A := []) s89; clear s89
        refine wp_ret ?_
        obtain rfl := Option.some.inj h19
        exact leave s90 (.inl rfl) rfl (.cons (.tmp rfl) .nil)

end Go.Proofs.Ytdlnfgpcnfbjiaa
