/- Each function's code comes to what its plain function answers. No condition. -/
import Derived.Test.YtdlnfgpcnfbjiaaVWalk4
namespace Go.Proofs.Ytdlnfgpcnfbjiaa
open Go Go.RowKit Go.Proofs.Kit Go.Proofs.Pure
set_option linter.unusedVariables false
set_option linter.unusedSimpArgs false
set_option maxRecDepth 100000
set_option maxHeartbeats 2000000

/- 85 cabal/cabalref11.Right -/
theorem c_cabalref11_Right (k : Nat) (p1 : api_Op) (r : Bool) (h0 : cabalref11_Right k p1 = some r) (ok : Ok) (w0 : World) (z0 : Value) (u0 : (k_api_Op.V p1).holds ok w0 z0) :
 Gives Try.prog 85 [z0] ok w0 (resFact [kbool.V r]) := by
 unfold cabalref11_Right at h0
 refine enter (N := 156) Try.func85 rfl rfl (of_decide_eq_true rfl) (.cons u0 .nil) fun a1 s1 => ?_
 refine wp_seq_k fun K1 hK1 => wp_region_lit ?_
 refine qx (B' := (fun b1 : Nat => [BF b1 44 k_api_Op p1])) s1 rfl (ob_box rfl (.tmp rfl)) fun b1 _ _ s2 => ?_; clear s1
 refine q1 s2 rfl (ob_assign rfl opd_bool) fun _ _ s3 => ?_; clear s2
 refine wn hK1 ?_
 have s4 := s3.sub (u 1 rfl .nil); clear s3
 refine wp_seq_k fun K2 hK2 => wp_seq_k fun K3 hK3 => ?_
 refine wp_region_lit ?_
 refine q1 s4 rfl (ob_fieldAddr (off' := 0) rfl Try.underlying44 rfl sz3 (by decide) (.tmp rfl) rfl) fun _ _ s5 => ?_; clear s4
 refine q1 s5 rfl (ob_load rfl tk3 (.tmp rfl) (.head _) (lg_api_Op_Author p1)) fun _ _ s6 => ?_; clear s5
 obtain ⟨x1, e_x1, h1⟩ := bind_some h0; clear h0
 refine q1 s6 rfl (ob_callD (args := [_]) rfl .direct hb129 (fun a w s fs gs hf hg => by obtain rfl := hf.unnil; obtain rfl := hg.unnil; exact c_cabalref11_Member k _ _ e_x1 _ _ _ (s.arg (.tmp rfl)))) fun _ _ s7 => ?_; clear s6
 refine q1 s7 rfl (ob_not rfl (.tmp rfl)) fun _ _ s8 => ?_; clear s7
 refine q1 s8 rfl (mv rfl rfl) fun _ _ s9 => ?_; clear s8
 refine qg s9 rfl rfl rfl rfl (fun hb => ob_fieldAddr (off' := 1) rfl Try.underlying44 rfl sz25 (by decide) (.tmp rfl) rfl) fun _ _ s10 => ?_; clear s9
 refine qg s10 rfl rfl rfl rfl (fun hb => (Ob.uncond (t := 13) hb rfl (ob_load rfl tk25 (.tmp rfl) (.head _) (lg_api_Op_Seq p1)))) fun _ _ s11 => ?_; clear s10
 refine qg s11 rfl rfl rfl rfl (fun hb => (Ob.uncond (t := 14) hb rfl (ob_eql rfl (.tmp rfl) (opd_int rfl)))) fun _ _ s12 => ?_; clear s11
 refine q1 s12 rfl (ob_or2 rfl (.tmp rfl) opd_bool (.tmp rfl)) fun _ _ s13 => ?_; clear s12
 refine q1 s13 rfl (mv rfl rfl) fun _ _ s14 => ?_; clear s13
 refine qg s14 rfl rfl rfl rfl (fun hb => ob_fieldAddr (off' := 3) rfl Try.underlying44 rfl sz3 (by decide) (.tmp rfl) rfl) fun _ _ s15 => ?_; clear s14
 refine qg s15 rfl rfl rfl rfl (fun hb => (Ob.uncond (t := 18) hb rfl (ob_load rfl tk3 (.tmp rfl) (.head _) (lg_api_Op_Kind p1)))) fun _ _ s16 => ?_; clear s15
 refine qg s16 rfl rfl rfl rfl (fun hb => (Ob.uncond (t := 19) hb rfl (ob_lss rfl (.tmp rfl) (opd_int rfl)))) fun _ _ s17 => ?_; clear s16
 obtain ⟨x2, e_x2, h2⟩ := bind_some h1; clear h1; replace e_x2 := Option.some.inj e_x2
 refine q1 s17 rfl ((ob_or2 rfl (.tmp rfl) opd_bool (.tmp rfl)).nm e_x2) fun _ _ s18 => ?_; clear s17
 refine q1 s18 rfl (mv rfl rfl) fun _ _ s19 => ?_; clear s18
 refine qg s19 rfl rfl rfl rfl (fun hb => ob_fieldAddr (off' := 3) rfl Try.underlying44 rfl sz3 (by decide) (.tmp rfl) rfl) fun _ _ s20 => ?_; clear s19
 refine qg s20 rfl rfl rfl rfl (fun hb => (Ob.uncond (t := 23) hb rfl (ob_load rfl tk3 (.tmp rfl) (.head _) (lg_api_Op_Kind p1)))) fun _ _ s21 => ?_; clear s20
 refine qg s21 rfl rfl rfl rfl (fun hb => (Ob.uncond (t := 24) hb rfl (ob_gtr rfl (.tmp rfl) (opd_int rfl)))) fun _ _ s22 => ?_; clear s21
 refine q1 s22 rfl (ob_or2 rfl (.tmp rfl) opd_bool (.tmp rfl)) fun _ _ s23 => ?_; clear s22
 refine q1 s23 rfl (mv rfl rfl) fun _ _ s24 => ?_; clear s23
 refine qg s24 rfl rfl rfl rfl (fun hb => ob_fieldAddr (off' := 2) rfl Try.underlying44 rfl sz40 (by decide) (.tmp rfl) rfl) fun _ _ s25 => ?_; clear s24
 refine qg s25 rfl rfl rfl rfl (fun hb => (Ob.uncond (t := 28) hb rfl (ob_load rfl tk40 (.tmp rfl) (.head _) (lg_api_Op_Parents p1)))) fun _ _ s26 => ?_; clear s25
 refine qg s26 rfl rfl rfl rfl (fun hb => (Ob.uncond (t := 29) hb rfl (ob_lens rfl Try.underlying40 (.tmp rfl)))) fun _ _ s27 => ?_; clear s26
 refine qg s27 rfl rfl rfl rfl (fun hb => (Ob.uncond (t := 30) hb rfl (ob_gtr rfl (.tmp rfl) (opd_int rfl)))) fun _ _ s28 => ?_; clear s27
 obtain ⟨x3, e_x3, h3⟩ := bind_some h2; clear h2; replace e_x3 := Option.some.inj e_x3
 refine q1 s28 rfl ((ob_or2 rfl (.tmp rfl) opd_bool (.tmp rfl)).nm e_x3) fun _ _ s29 => ?_; clear s28
 refine q1 s29 rfl (mv rfl rfl) fun _ _ s30 => ?_; clear s29
 refine qg s30 rfl rfl rfl rfl (fun hb => ob_fieldAddr (off' := 70) rfl Try.underlying44 rfl sz42 (by decide) (.tmp rfl) rfl) fun _ _ s31 => ?_; clear s30
 refine qg s31 rfl rfl rfl rfl (fun hb => (Ob.uncond (t := 34) hb rfl (ob_load rfl tk42 (.tmp rfl) (.head _) (lg_api_Op_Boxes p1)))) fun _ _ s32 => ?_; clear s31
 refine qg s32 rfl rfl rfl rfl (fun hb => (Ob.uncond (t := 35) hb rfl (ob_lens rfl Try.underlying42 (.tmp rfl)))) fun _ _ s33 => ?_; clear s32
 refine qg s33 rfl rfl rfl rfl (fun hb => (Ob.uncond (t := 36) hb rfl (ob_gtr rfl (.tmp rfl) (opd_int rfl)))) fun _ _ s34 => ?_; clear s33
 refine q1 s34 rfl (ob_or2 rfl (.tmp rfl) opd_bool (.tmp rfl)) fun _ _ s35 => ?_; clear s34
 refine q1 s35 rfl (mv rfl rfl) fun _ _ s36 => ?_; clear s35
 refine qg s36 rfl rfl rfl rfl (fun hb => ob_fieldAddr (off' := 69) rfl Try.underlying44 rfl sz9 (by decide) (.tmp rfl) rfl) fun _ _ s37 => ?_; clear s36
 refine qg s37 rfl rfl rfl rfl (fun hb => (Ob.uncond (t := 40) hb rfl (ob_load rfl tk9 (.tmp rfl) (.head _) (lg_api_Op_Text p1)))) fun _ _ s38 => ?_; clear s37
 refine qg s38 rfl rfl rfl rfl (fun hb => (Ob.uncond (t := 41) hb rfl (ob_lenStr rfl Try.underlying9 (.tmp rfl)))) fun _ _ s39 => ?_; clear s38
 refine qg s39 rfl rfl rfl rfl (fun hb => (Ob.uncond (t := 42) hb rfl (ob_gtr rfl (.tmp rfl) (opd_int rfl)))) fun _ _ s40 => ?_; clear s39
 obtain ⟨x4, e_x4, h4⟩ := bind_some h3; clear h3; replace e_x4 := Option.some.inj e_x4
 refine q1 s40 rfl ((ob_or2 rfl (.tmp rfl) opd_bool (.tmp rfl)).nm e_x4) fun _ _ s41 => ?_; clear s40
 refine wn hK3 ?_
 have s42 := s41.sub (u 1 rfl (u 44 rfl .nil)); clear s41
 refine cond_split s42 (.tmp rfl) (fun hc1 => ?_) (fun hc1 => ?_)
 ·have h5 := ite_t hc1 h4; clear h4
  refine wp_seq_k fun K4 hK4 => wp_region_lit ?_
  refine q1 s42 rfl (ob_assign rfl opd_bool) fun _ _ s43 => ?_; clear s42
  refine wn hK4 ?_
  have s44 := s43.sub (u 2 rfl .nil); clear s43
  have s45 := St.drop (A := []) s44; clear s44
  refine wp_ret ?_
  obtain rfl := Option.some.inj h5
  exact leave s45 (.inl rfl) rfl (.cons (.tmp rfl) .nil)
 ·have h6 := ite_f hc1 h4; clear h4
  refine wp_skip ?_
  refine then_normal (hK2 _ _ ?_)
  have s46 := s42.sub (u 1 rfl .nil); clear s42
  refine wp_seq_k fun K5 hK5 => wp_seq_k fun K6 hK6 => ?_
  refine wp_region_lit ?_
  refine q1 s46 rfl (ob_assign rfl (opd_int rfl)) fun _ _ s47 => ?_; clear s46
  refine wn hK6 ?_
  have s48 := s47.sub (u 1 rfl (u 3 rfl .nil)); clear s47
  have hj1 : ∀ (a : Act) (w : World), (cabalref11_Right.j1 k p1) = some r → St ⟨156, w0, ok, []⟩ [BF b1 44 k_api_Op p1] [(1, (ptrB b1 0))] a w → K5 a w := by
   intro a49 w49 h7 s49
   unfold cabalref11_Right.j1 at h7
   refine hK5 _ _ ?_
   refine wp_seq_k fun K7 hK7 => wp_region_lit ?_
   refine q1 s49 rfl (ob_assign rfl opd_bool) fun _ _ s50 => ?_; clear s49
   refine wn hK7 ?_
   have s51 := s50.sub (u 1 rfl (u 4 rfl .nil)); clear s50
   refine wp_seq_k fun K8 hK8 => wp_seq_k fun K9 hK9 => ?_
   refine wp_region_lit ?_
   refine q1 s51 rfl (ob_assign rfl (opd_int rfl)) fun _ _ s52 => ?_; clear s51
   refine wn hK9 ?_
   have s53 := s52.sub (u 1 rfl (u 4 rfl (u 5 rfl .nil))); clear s52
   have hj2 : ∀ (y1 : Bool) (a : Act) (w : World), (cabalref11_Right.j2 k p1) y1 = some r → St ⟨156, w0, ok, []⟩ [BF b1 44 k_api_Op p1] [(1, (ptrB b1 0)), (4, (kbool.V y1))] a w → K8 a w := by
    intro y1 a54 w54 h8 s54
    unfold cabalref11_Right.j2 at h8
    refine hK8 _ _ ?_
    refine wp_seq_k fun K10 hK10 => wp_seq_k fun K11 hK11 => ?_
    refine wp_region_lit ?_
    refine q1 s54 rfl (ob_assign rfl (opd_int rfl)) fun _ _ s55 => ?_; clear s54
    refine wn hK11 ?_
    have s56 := s55.sub (u 1 rfl (u 4 rfl (u 6 rfl .nil))); clear s55
    have hj3 : ∀ (a : Act) (w : World), (cabalref11_Right.j3 k p1 y1) = some r → St ⟨156, w0, ok, []⟩ [BF b1 44 k_api_Op p1] [(1, (ptrB b1 0)), (4, (kbool.V y1))] a w → K10 a w := by
     intro a57 w57 h9 s57
     unfold cabalref11_Right.j3 at h9
     refine hK10 _ _ ?_
     refine wp_seq_k fun K12 hK12 => wp_region_lit ?_
     refine q1 s57 rfl (ob_load rfl tk44 (.tmp rfl) (.head _) (LG.refl _ _)) fun _ _ s58 => ?_; clear s57
     refine q1 s58 rfl (mv rfl rfl) fun _ _ s59 => ?_; clear s58
     obtain ⟨x5, e_x5, h10⟩ := bind_some h9; clear h9
     refine q1 s59 rfl (ob_callD (args := [_, _]) rfl .direct hb130 (fun a w s fs gs hf hg => by obtain rfl := hf.unnil; obtain rfl := hg.unnil; exact c_cabalref11_kind k _ _ _ e_x5 _ _ _ _ (s.arg (.tmp rfl)) (s.arg (.tmp rfl)))) fun _ _ s60 => ?_; clear s59
     refine q1 s60 rfl (ob_assign rfl (.tmp rfl)) fun _ _ s61 => ?_; clear s60
     refine wn hK12 ?_
     have s62 := s61.sub (u 2 rfl .nil); clear s61
     have s63 := St.drop (A := []) s62; clear s62
     refine wp_ret ?_
     obtain rfl := Option.some.inj h10
     exact leave s63 (.inl rfl) rfl (.cons (.tmp rfl) .nil)
    refine wp_block ?_
    refine wp_loop_fuel (fun m (q : Int) => cabalref11_Right.l1 k p1 y1 m q) r (fun _ => rfl) (fun q a w => St ⟨156, w0, ok, []⟩ [BF b1 44 k_api_Op p1] [(1, (ptrB b1 0)), (4, (kbool.V y1)), (6, ((kint .i64).V q))] a w) ?_ k (0 : Int) _ _ h8 (s56.sub (.cons rfl (.cons rfl (.cons rfl .nil))))
    rintro n1 y2 a64 w64 h11 s64 K13 hK13
    replace h11 : cabalref11_Right.l1 k p1 y1 (n1 + 1) y2 = some r := h11; rw [cabalref11_Right.l1] at h11
    have h12 := h11; clear h11
    refine wp_seq_k fun K14 hK14 => wp_seq_k fun K15 hK15 => ?_
    refine wp_region_lit ?_
    refine q1 s64 rfl (mv rfl rfl) fun _ _ s65 => ?_; clear s64
    refine q1 s65 rfl (ob_fieldAddr (off' := 70) rfl Try.underlying44 rfl sz42 (by decide) (.tmp rfl) rfl) fun _ _ s66 => ?_; clear s65
    refine q1 s66 rfl (ob_load rfl tk42 (.tmp rfl) (.head _) (lg_api_Op_Boxes p1)) fun _ _ s67 => ?_; clear s66
    refine q1 s67 rfl (ob_lens rfl Try.underlying42 (.tmp rfl)) fun _ _ s68 => ?_; clear s67
    refine q1 s68 rfl (ob_lss rfl (.tmp rfl) (.tmp rfl)) fun _ _ s69 => ?_; clear s68
    refine wn hK15 ?_
    have s70 := s69.sub (u 1 rfl (u 4 rfl (u 6 rfl (u 112 rfl .nil)))); clear s69
    refine cond_split s70 (.tmp rfl) (fun hc2 => ?_) (fun hc2 => ?_)
    ·have h13 := ite_t hc2 h12; clear h12
     refine wp_skip ?_
     refine then_normal (hK14 _ _ ?_)
     have s71 := s70.sub (u 1 rfl (u 4 rfl (u 6 rfl .nil))); clear s70
     refine wp_seq_k fun K16 hK16 => wp_block ?_
     refine wp_seq_k fun K17 hK17 => wp_region_lit ?_
     refine q1 s71 rfl (ob_fieldAddr (off' := 70) rfl Try.underlying44 rfl sz42 (by decide) (.tmp rfl) rfl) fun _ _ s72 => ?_; clear s71
     refine q1 s72 rfl (ob_load rfl tk42 (.tmp rfl) (.head _) (lg_api_Op_Boxes p1)) fun _ _ s73 => ?_; clear s72
     refine q1 s73 rfl (mv rfl rfl) fun _ _ s74 => ?_; clear s73
     obtain ⟨x6, e_x6, h14⟩ := bind_some h13; clear h13
     refine q1 s74 rfl (ob_indexAddrs rfl Try.underlying42 sz78 (.tmp rfl) (.tmp rfl) e_x6) fun _ _ s75 => ?_; clear s74
     refine q1 s75 rfl (ob_loadr rfl tk78 (.tmp rfl)) fun _ _ s76 => ?_; clear s75
     refine qx (B' := (fun b2 : Nat => [BF b2 78 k_api_Box (⟨(0 : Int), (⟨(List.replicate 32 (0 : Int)), (0 : Int), (0 : Int)⟩ : api_Head), []⟩ : api_Box), BF b1 44 k_api_Op p1])) s76 rfl (ob_new (k := k_api_Box) rfl zz78 (Zr.iso (f := t_api_Box) (x := (⟨(0 : Int), (⟨(List.replicate 32 (0 : Int)), (0 : Int), (0 : Int)⟩ : api_Head), []⟩ : api_Box)) (Zr.pair (Zr.int .i64) (Zr.pair (Zr.iso (f := t_api_Head) (x := (⟨(List.replicate 32 (0 : Int)), (0 : Int), (0 : Int)⟩ : api_Head)) (Zr.pair (Zr.arr 32 (Zr.int .u8)) (Zr.pair (Zr.int .u32) (Zr.pair (Zr.int .u32) Zr.nil)))) (Zr.pair Zr.str Zr.nil))))) fun b2 _ _ s77 => ?_; clear s76
     refine seq_opx0 (B' := (fun _ : Unit => [BF b2 78 k_api_Box x6, BF b1 44 k_api_Op p1])) s77 rfl rfl (ob_store (A := []) rfl tk78 (.tmp rfl) (.tmp rfl) rfl (LS.refl _ _ _) rfl) fun _ a78 w78 s78 => ?_; clear s77
     refine wn hK17 ?_
     have s79 := s78.sub (u 1 rfl (u 4 rfl (u 6 rfl (u 7 rfl .nil)))); clear s78
     refine wp_seq_k fun K18 hK18 => ?_
     obtain ⟨x7, e_x7, h15⟩ := bind_some h14; clear h14
     obtain ⟨x8, e_x8, h16⟩ := bind_some h15; clear h15; replace e_x8 := Option.some.inj e_x8
     obtain ⟨x9, e_x9, h17⟩ := bind_some h16; clear h16
     refine wp_goes (Fs := [(ptrB b2 0), ((kint .i64).V x6.To), (kbool.V x7), (kbool.V (!x7)), (kbool.V (!x7)), (Fact.when ((!x7) == false) (ptrB b2 0)), (Fact.when ((!x7) == false) ((kint .i64).V x6.To)), (Fact.when ((!x7) == false) (ptrB b1 0)), (Fact.when ((!x7) == false) ((kint .i64).V p1.Author)), (Fact.when ((!x7) == false) (kbool.V (x6.To == p1.Author))), (kbool.V (if (!x7) then true else (x6.To == p1.Author))), (kbool.V (if (!x7) then true else (x6.To == p1.Author))), (Fact.when ((if (!x7) then true else (x6.To == p1.Author)) == false) (ptrB b2 35)), (Fact.when ((if (!x7) then true else (x6.To == p1.Author)) == false) (kstr.V x6.Body)), (Fact.when ((if (!x7) then true else (x6.To == p1.Author)) == false) ((kint .i64).V (x6.Body.length : Int))), (Fact.when ((if (!x7) then true else (x6.To == p1.Author)) == false) (kbool.V (decide ((x6.Body.length : Int) > (256 : Int))))), (kbool.V x8), (kbool.V x8), (Fact.when (x8 == false) ((kint .i64).V y2)), (Fact.when (x8 == false) (kbool.V (decide (y2 > (0 : Int))))), (Fact.when (x8 == false) (kbool.V (decide (y2 > (0 : Int))))), (Fact.when ((x8 == false) && ((decide (y2 > (0 : Int))) == true)) (ptrB b1 70)), (Fact.when ((x8 == false) && ((decide (y2 > (0 : Int))) == true)) ((ksl k_api_Box).V p1.Boxes)), (Fact.when ((x8 == false) && ((decide (y2 > (0 : Int))) == true)) ((kint .i64).V y2)), (Fact.when ((x8 == false) && ((decide (y2 > (0 : Int))) == true)) ((kint .i64).V (isub .i64 y2 (1 : Int)))), (Fact.when ((x8 == false) && ((decide (y2 > (0 : Int))) == true)) (ptrTo k_api_Box x9)), (Fact.when ((x8 == false) && ((decide (y2 > (0 : Int))) == true)) (ptrTo (kint .i64) x9.To)), (Fact.when ((x8 == false) && ((decide (y2 > (0 : Int))) == true)) ((kint .i64).V x9.To)), (Fact.when ((x8 == false) && ((decide (y2 > (0 : Int))) == true)) (ptrB b2 0)), (Fact.when ((x8 == false) && ((decide (y2 > (0 : Int))) == true)) ((kint .i64).V x6.To))]) (bits := [0, 1, 3, 7, 15, 31, 63, 31, 159, 511, 1023, 2047, 4095, 8191, 16383, 32767, 65535, 131071, 262143, 524287, 1048575, 2097151, 4194303, 2097151, 10485759, 33554431, 67108863, 134217727, 2097151, 270532607, 1073741823, 2147483647, 4294967295]) (m := 30) (todo := 0) mx s79 ?_; clear s79
     refine goes_last (by kernel_rfl) rfl (oc (av 7 rfl rfl Av.nil) rfl rfl (ob_fieldAddr (off' := 0) rfl Try.underlying78 rfl sz3 (by decide) (.tmp rfl) rfl) (oc (an 0 rfl rfl rfl Av.nil) rfl rfl (ob_load rfl tk3 (.tmp rfl) (.head _) (lg_api_Box_To x6)) (oc (an 1 rfl rfl rfl Av.nil) rfl rfl (ob_callD (args := [_]) rfl .direct hb129 (fun a w s fs gs hf hg => by obtain rfl := hf.unnil; obtain rfl := hg.unnil; exact c_cabalref11_Member k _ _ e_x7 _ _ _ (s.arg (.tmp rfl)))) (oc (an 2 rfl rfl rfl Av.nil) rfl rfl (ob_not rfl (.tmp rfl)) (oc (an 3 rfl rfl rfl Av.nil) rfl rfl (mv rfl rfl) (opsS_cons (.guarded _ (av 7 rfl rfl (an 4 rfl rfl rfl Av.nil)) rfl rfl rfl rfl (fun hb => ob_fieldAddr (off' := 0) rfl Try.underlying78 rfl sz3 (by decide) (.tmp rfl) rfl)) (opsS_cons (.guarded _ (an 4 rfl rfl rfl (an 5 rfl rfl rfl Av.nil)) rfl rfl rfl rfl (fun hb => (Ob.uncond (t := 125) hb rfl (ob_load rfl tk3 (.tmp rfl) (.head _) (lg_api_Box_To x6))))) (opsS_cons (.guarded _ (av 1 rfl rfl (an 4 rfl rfl rfl Av.nil)) rfl rfl rfl rfl (fun hb => ob_fieldAddr (off' := 0) rfl Try.underlying44 rfl sz3 (by decide) (.tmp rfl) rfl)) (opsS_cons (.guarded _ (an 4 rfl rfl rfl (an 7 rfl rfl rfl Av.nil)) rfl rfl rfl rfl (fun hb => (Ob.uncond (t := 127) hb rfl (ob_load rfl tk3 (.tmp rfl) (.tail _ (.head _)) (lg_api_Op_Author p1))))) (opsS_cons (.guarded _ (an 4 rfl rfl rfl (an 6 rfl rfl rfl (an 8 rfl rfl rfl Av.nil))) rfl rfl rfl rfl (fun hb => (Ob.uncond (t := 128) hb rfl ((Ob.uncond (t := 126) hb rfl (ob_eql rfl (.tmp rfl) (.tmp rfl))))))) (oc (an 4 rfl rfl rfl (an 9 rfl rfl rfl Av.nil)) rfl rfl (ob_or2 rfl (.tmp rfl) opd_bool (.tmp rfl)) (oc (an 10 rfl rfl rfl Av.nil) rfl rfl (mv rfl rfl) (opsS_cons (.guarded _ (av 7 rfl rfl (an 11 rfl rfl rfl Av.nil)) rfl rfl rfl rfl (fun hb => ob_fieldAddr (off' := 35) rfl Try.underlying78 rfl sz9 (by decide) (.tmp rfl) rfl)) (opsS_cons (.guarded _ (an 11 rfl rfl rfl (an 12 rfl rfl rfl Av.nil)) rfl rfl rfl rfl (fun hb => (Ob.uncond (t := 132) hb rfl (ob_load rfl tk9 (.tmp rfl) (.head _) (lg_api_Box_Body x6))))) (opsS_cons (.guarded _ (an 11 rfl rfl rfl (an 13 rfl rfl rfl Av.nil)) rfl rfl rfl rfl (fun hb => (Ob.uncond (t := 133) hb rfl (ob_lenStr rfl Try.underlying9 (.tmp rfl))))) (opsS_cons (.guarded _ (an 11 rfl rfl rfl (an 14 rfl rfl rfl Av.nil)) rfl rfl rfl rfl (fun hb => (Ob.uncond (t := 134) hb rfl (ob_gtr rfl (.tmp rfl) (opd_int rfl))))) (oc (an 11 rfl rfl rfl (an 15 rfl rfl rfl Av.nil)) rfl rfl ((ob_or2 rfl (.tmp rfl) opd_bool (.tmp rfl)).nm e_x8) (oc (an 16 rfl rfl rfl Av.nil) rfl rfl (mv rfl rfl) (opsS_cons (.guarded _ (av 6 rfl rfl (an 17 rfl rfl rfl Av.nil)) rfl rfl rfl rfl (fun hb => ob_move rfl (.tmp rfl))) (opsS_cons (.guarded _ (an 17 rfl rfl rfl (an 18 rfl rfl rfl Av.nil)) rfl rfl rfl rfl (fun hb => (Ob.uncond (t := 138) hb rfl (ob_gtr rfl (.tmp rfl) (opd_int rfl))))) (opsS_cons (.guarded _ (an 17 rfl rfl rfl (an 19 rfl rfl rfl Av.nil)) rfl rfl rfl rfl (fun hb => (Ob.uncond (t := 139) hb rfl (mv rfl rfl)))) (opsS_cons (.guarded2 _ (av 1 rfl rfl (an 20 rfl rfl rfl Av.nil)) rfl rfl rfl rfl (fun hb => ob_fieldAddr (off' := 70) rfl Try.underlying44 rfl sz42 (by decide) (.tmp rfl) rfl)) (opsS_cons (.guarded2 _ (an 20 rfl rfl rfl (an 21 rfl rfl rfl Av.nil)) rfl rfl rfl rfl (fun hb => (Ob.uncond (t := 141) hb rfl (ob_load rfl tk42 (.tmp rfl) (.tail _ (.head _)) (lg_api_Op_Boxes p1))))) (opsS_cons (.guarded2 _ (av 6 rfl rfl (an 20 rfl rfl rfl Av.nil)) rfl rfl rfl rfl (fun hb => ob_move rfl (.tmp rfl))) (opsS_cons (.guarded2 _ (an 20 rfl rfl rfl (an 23 rfl rfl rfl Av.nil)) rfl rfl rfl rfl (fun hb => (Ob.uncond (t := 143) hb rfl (ob_sub rfl (.tmp rfl) (opd_int rfl))))) (opsS_cons (.guarded2 _ (an 20 rfl rfl rfl (an 22 rfl rfl rfl (an 24 rfl rfl rfl Av.nil))) rfl rfl rfl rfl (fun hb => (Ob.uncond (t := 144) hb rfl ((Ob.uncond (t := 142) hb rfl (ob_indexAddrs rfl Try.underlying42 sz78 (.tmp rfl) (.tmp rfl) (ite_t hb e_x9))))))) (opsS_cons (.guarded2 _ (an 20 rfl rfl rfl (an 25 rfl rfl rfl Av.nil)) rfl rfl rfl rfl (fun hb => (Ob.uncond (t := 145) hb rfl (ob_fieldAddrr rfl Try.underlying78 rfl sz3 (by decide) (.tmp rfl) (lg_api_Box_To x9))))) (opsS_cons (.guarded2 _ (an 20 rfl rfl rfl (an 26 rfl rfl rfl Av.nil)) rfl rfl rfl rfl (fun hb => (Ob.uncond (t := 146) hb rfl (ob_loadr rfl tk3 (.tmp rfl))))) (opsS_cons (.guarded2 _ (av 7 rfl rfl (an 20 rfl rfl rfl Av.nil)) rfl rfl rfl rfl (fun hb => ob_fieldAddr (off' := 0) rfl Try.underlying78 rfl sz3 (by decide) (.tmp rfl) rfl)) (opsS_cons (.guarded2 _ (an 20 rfl rfl rfl (an 28 rfl rfl rfl Av.nil)) rfl rfl rfl rfl (fun hb => (Ob.uncond (t := 148) hb rfl (ob_load rfl tk3 (.tmp rfl) (.head _) (lg_api_Box_To x6))))) opsS_nil)))))))))))))))))))))))))))))) (out_old (t := 1) rfl rfl (out_old (t := 4) rfl rfl (out_old (t := 6) rfl rfl (out_new (i := 17) (by decide) rfl rfl (out_new (i := 20) (by decide) rfl rfl (out_new (i := 27) (by decide) rfl rfl (out_new (i := 29) (by decide) rfl rfl out_nil))))))) fun _ _ s80 => ?_
     refine seq_opg2 s80 rfl rfl rfl rfl (of_decide_eq_true rfl) (fun hb => (Ob.uncond (t := 149) hb rfl ((Ob.uncond (t := 147) hb rfl (ob_geq rfl (.tmp rfl) (.tmp rfl)))))) fun _ _ s81 => ?_; clear s80
     obtain ⟨x10, e_x10, h18⟩ := bind_some h17; clear h17; replace e_x10 := Option.some.inj e_x10
     refine qg s81 rfl rfl rfl rfl (fun hb => (Ob.uncond (t := 140) hb rfl ((ob_and3 hb rfl (.tmp rfl) (.tmp rfl) opd_bool).nm e_x10))) fun _ _ s82 => ?_; clear s81
     refine q1 s82 rfl (ob_or2 rfl (.tmp rfl) opd_bool (.tmp rfl)) fun _ _ s83 => ?_; clear s82
     refine wn hK18 ?_
     have s84 := s83.sub (u 1 rfl (u 4 rfl (u 6 rfl (u 152 rfl .nil)))); clear s83
     have s85 := St.drop (A := []) s84; clear s84
     refine cond_split s85 (.tmp rfl) (fun hc3 => ?_) (fun hc3 => ?_)
     ·have h19 := ite_t hc3 h18; clear h18
      refine wp_seq_k fun K19 hK19 => wp_region_lit ?_
      refine q1 s85 rfl (ob_assign rfl opd_bool) fun _ _ s86 => ?_; clear s85
      refine wn hK19 ?_
      have s87 := s86.sub (u 2 rfl .nil); clear s86
      have s88 := St.drop (A := []) s87; clear s87
      refine wp_ret ?_
      obtain rfl := Option.some.inj h19
      exact leave s88 (.inl rfl) rfl (.cons (.tmp rfl) .nil)
     ·have h20 := ite_f hc3 h18; clear h18
      refine wp_skip ?_
      refine in_normal ?_
      refine then_normal (hK16 _ _ ?_)
      have s89 := s85.sub (u 1 rfl (u 4 rfl (u 6 rfl .nil))); clear s85
      refine wp_region_lit ?_
      refine q1 s89 rfl (mv rfl rfl) fun _ _ s90 => ?_; clear s89
      refine q1 s90 rfl (ob_add rfl (.tmp rfl) (opd_int rfl)) fun _ _ s91 => ?_; clear s90
      refine q1 s91 rfl (ob_assign rfl (.tmp rfl)) fun _ _ s92 => ?_; clear s91
      refine wpList_nil ?_
      refine then_normal ?_
      exact hK13 (iadd .i64 y2 (1 : Int)) _ _ h20 (s92.sub (.cons rfl (.cons rfl (.cons rfl .nil))))
    ·have h21 := ite_f hc2 h12; clear h12
     refine wp_exit ?_
     refine (then_exit (then_exit (in_here ?_)))
     refine then_normal ?_
     exact hj3 _ _ h21 (s70.sub (.cons rfl (.cons rfl .nil)))
   refine wp_block ?_
   refine wp_loop_fuel (fun m (q : Bool × Int) => cabalref11_Right.l2 k p1 m q.1 q.2) r (fun _ => rfl) (fun q a w => St ⟨156, w0, ok, []⟩ [BF b1 44 k_api_Op p1] [(1, (ptrB b1 0)), (4, (kbool.V q.1)), (5, ((kint .i64).V q.2))] a w) ?_ k (false, (0 : Int)) _ _ h7 (s53.sub (.cons rfl (.cons rfl (.cons rfl .nil))))
   rintro n2 ⟨y3, y4⟩ a93 w93 h22 s93 K20 hK20
   replace h22 : cabalref11_Right.l2 k p1 (n2 + 1) y3 y4 = some r := h22; rw [cabalref11_Right.l2] at h22
   have h23 := h22; clear h22
   refine wp_seq_k fun K21 hK21 => wp_seq_k fun K22 hK22 => ?_
   refine wp_region_lit ?_
   refine q1 s93 rfl (mv rfl rfl) fun _ _ s94 => ?_; clear s93
   refine q1 s94 rfl (ob_fieldAddr (off' := 4) rfl Try.underlying44 rfl sz41 (by decide) (.tmp rfl) rfl) fun _ _ s95 => ?_; clear s94
   refine q1 s95 rfl (ob_load rfl tk41 (.tmp rfl) (.head _) (lg_api_Op_Who p1)) fun _ _ s96 => ?_; clear s95
   refine q1 s96 rfl (ob_lens rfl Try.underlying41 (.tmp rfl)) fun _ _ s97 => ?_; clear s96
   refine q1 s97 rfl (ob_lss rfl (.tmp rfl) (.tmp rfl)) fun _ _ s98 => ?_; clear s97
   refine wn hK22 ?_
   have s99 := s98.sub (u 1 rfl (u 4 rfl (u 5 rfl (u 69 rfl .nil)))); clear s98
   refine cond_split s99 (.tmp rfl) (fun hc4 => ?_) (fun hc4 => ?_)
   ·have h24 := ite_t hc4 h23; clear h23
    refine wp_skip ?_
    refine then_normal (hK21 _ _ ?_)
    have s100 := s99.sub (u 1 rfl (u 4 rfl (u 5 rfl .nil))); clear s99
    refine wp_seq_k fun K23 hK23 => wp_block ?_
    refine wp_seq_k fun K24 hK24 => wp_seq_k fun K25 hK25 => ?_
    obtain ⟨x11, e_x11, h25⟩ := bind_some h24; clear h24
    obtain ⟨x12, e_x12, h26⟩ := bind_some h25; clear h25
    obtain ⟨x13, e_x13, h27⟩ := bind_some h26; clear h26
    obtain ⟨x14, e_x14, h28⟩ := bind_some h27; clear h27
    refine wp_goes (Fs := [(ptrB b1 4), ((ksl (kint .i64)).V p1.Who), ((kint .i64).V y4), (ptrTo (kint .i64) x11), ((kint .i64).V x11), (kbool.V x12), (kbool.V (!x12)), (kbool.V (!x12)), (Fact.when ((!x12) == false) ((kint .i64).V y4)), (Fact.when ((!x12) == false) (kbool.V (decide (y4 > (0 : Int))))), (Fact.when ((!x12) == false) (kbool.V (decide (y4 > (0 : Int))))), (Fact.when (((!x12) == false) && ((decide (y4 > (0 : Int))) == true)) (ptrB b1 4)), (Fact.when (((!x12) == false) && ((decide (y4 > (0 : Int))) == true)) ((ksl (kint .i64)).V p1.Who)), (Fact.when (((!x12) == false) && ((decide (y4 > (0 : Int))) == true)) ((kint .i64).V y4)), (Fact.when (((!x12) == false) && ((decide (y4 > (0 : Int))) == true)) ((kint .i64).V (isub .i64 y4 (1 : Int)))), (Fact.when (((!x12) == false) && ((decide (y4 > (0 : Int))) == true)) (ptrTo (kint .i64) x13)), (Fact.when (((!x12) == false) && ((decide (y4 > (0 : Int))) == true)) ((kint .i64).V x13)), (Fact.when (((!x12) == false) && ((decide (y4 > (0 : Int))) == true)) (ptrB b1 4)), (Fact.when (((!x12) == false) && ((decide (y4 > (0 : Int))) == true)) ((ksl (kint .i64)).V p1.Who)), (Fact.when (((!x12) == false) && ((decide (y4 > (0 : Int))) == true)) ((kint .i64).V y4)), (Fact.when (((!x12) == false) && ((decide (y4 > (0 : Int))) == true)) (ptrTo (kint .i64) x14)), (Fact.when (((!x12) == false) && ((decide (y4 > (0 : Int))) == true)) ((kint .i64).V x14))]) (bits := [0, 1, 0, 7, 15, 31, 63, 127, 255, 511, 1023, 2047, 4095, 2047, 10239, 32767, 65535, 2047, 133119, 2047, 919551, 1968127, 4194303, 8388607, 16777215]) (m := 22) (todo := 0) mx s100 ?_; clear s100
    refine goes_last (by kernel_rfl) rfl (oc (av 1 rfl rfl Av.nil) rfl rfl (ob_fieldAddr (off' := 4) rfl Try.underlying44 rfl sz41 (by decide) (.tmp rfl) rfl) (oc (an 0 rfl rfl rfl Av.nil) rfl rfl (ob_load rfl tk41 (.tmp rfl) (.head _) (lg_api_Op_Who p1)) (oc (av 5 rfl rfl Av.nil) rfl rfl (mv rfl rfl) (oc (an 1 rfl rfl rfl (an 2 rfl rfl rfl Av.nil)) rfl rfl (ob_indexAddrs rfl Try.underlying41 sz3 (.tmp rfl) (.tmp rfl) e_x11) (oc (an 3 rfl rfl rfl Av.nil) rfl rfl (ob_loadr rfl tk3 (.tmp rfl)) (oc (an 4 rfl rfl rfl Av.nil) rfl rfl (ob_callD (args := [_]) rfl .direct hb129 (fun a w s fs gs hf hg => by obtain rfl := hf.unnil; obtain rfl := hg.unnil; exact c_cabalref11_Member k _ _ e_x12 _ _ _ (s.arg (.tmp rfl)))) (oc (an 5 rfl rfl rfl Av.nil) rfl rfl (ob_not rfl (.tmp rfl)) (oc (an 6 rfl rfl rfl Av.nil) rfl rfl (mv rfl rfl) (opsS_cons (.guarded _ (av 5 rfl rfl (an 7 rfl rfl rfl Av.nil)) rfl rfl rfl rfl (fun hb => ob_move rfl (.tmp rfl))) (opsS_cons (.guarded _ (an 7 rfl rfl rfl (an 8 rfl rfl rfl Av.nil)) rfl rfl rfl rfl (fun hb => (Ob.uncond (t := 80) hb rfl (ob_gtr rfl (.tmp rfl) (opd_int rfl))))) (opsS_cons (.guarded _ (an 7 rfl rfl rfl (an 9 rfl rfl rfl Av.nil)) rfl rfl rfl rfl (fun hb => (Ob.uncond (t := 81) hb rfl (mv rfl rfl)))) (opsS_cons (.guarded2 _ (av 1 rfl rfl (an 10 rfl rfl rfl Av.nil)) rfl rfl rfl rfl (fun hb => ob_fieldAddr (off' := 4) rfl Try.underlying44 rfl sz41 (by decide) (.tmp rfl) rfl)) (opsS_cons (.guarded2 _ (an 10 rfl rfl rfl (an 11 rfl rfl rfl Av.nil)) rfl rfl rfl rfl (fun hb => (Ob.uncond (t := 83) hb rfl (ob_load rfl tk41 (.tmp rfl) (.head _) (lg_api_Op_Who p1))))) (opsS_cons (.guarded2 _ (av 5 rfl rfl (an 10 rfl rfl rfl Av.nil)) rfl rfl rfl rfl (fun hb => ob_move rfl (.tmp rfl))) (opsS_cons (.guarded2 _ (an 10 rfl rfl rfl (an 13 rfl rfl rfl Av.nil)) rfl rfl rfl rfl (fun hb => (Ob.uncond (t := 85) hb rfl (ob_sub rfl (.tmp rfl) (opd_int rfl))))) (opsS_cons (.guarded2 _ (an 10 rfl rfl rfl (an 12 rfl rfl rfl (an 14 rfl rfl rfl Av.nil))) rfl rfl rfl rfl (fun hb => (Ob.uncond (t := 86) hb rfl ((Ob.uncond (t := 84) hb rfl (ob_indexAddrs rfl Try.underlying41 sz3 (.tmp rfl) (.tmp rfl) (ite_t hb e_x13))))))) (opsS_cons (.guarded2 _ (an 10 rfl rfl rfl (an 15 rfl rfl rfl Av.nil)) rfl rfl rfl rfl (fun hb => (Ob.uncond (t := 87) hb rfl (ob_loadr rfl tk3 (.tmp rfl))))) (opsS_cons (.guarded2 _ (av 1 rfl rfl (an 10 rfl rfl rfl Av.nil)) rfl rfl rfl rfl (fun hb => ob_fieldAddr (off' := 4) rfl Try.underlying44 rfl sz41 (by decide) (.tmp rfl) rfl)) (opsS_cons (.guarded2 _ (an 10 rfl rfl rfl (an 17 rfl rfl rfl Av.nil)) rfl rfl rfl rfl (fun hb => (Ob.uncond (t := 89) hb rfl (ob_load rfl tk41 (.tmp rfl) (.head _) (lg_api_Op_Who p1))))) (opsS_cons (.guarded2 _ (av 5 rfl rfl (an 10 rfl rfl rfl Av.nil)) rfl rfl rfl rfl (fun hb => ob_move rfl (.tmp rfl))) (opsS_cons (.guarded2 _ (an 10 rfl rfl rfl (an 18 rfl rfl rfl (an 19 rfl rfl rfl Av.nil))) rfl rfl rfl rfl (fun hb => (Ob.uncond (t := 91) hb rfl ((Ob.uncond (t := 90) hb rfl (ob_indexAddrs rfl Try.underlying41 sz3 (.tmp rfl) (.tmp rfl) (ite_t hb e_x14))))))) (opsS_cons (.guarded2 _ (an 10 rfl rfl rfl (an 20 rfl rfl rfl Av.nil)) rfl rfl rfl rfl (fun hb => (Ob.uncond (t := 92) hb rfl (ob_loadr rfl tk3 (.tmp rfl))))) opsS_nil)))))))))))))))))))))) (out_old (t := 1) rfl rfl (out_old (t := 4) rfl rfl (out_old (t := 5) rfl rfl (out_new (i := 7) (by decide) rfl rfl (out_new (i := 10) (by decide) rfl rfl (out_new (i := 16) (by decide) rfl rfl (out_new (i := 21) (by decide) rfl rfl out_nil))))))) fun _ _ s101 => ?_
    refine seq_opg2 s101 rfl rfl rfl rfl (of_decide_eq_true rfl) (fun hb => (Ob.uncond (t := 93) hb rfl ((Ob.uncond (t := 88) hb rfl (ob_geq rfl (.tmp rfl) (.tmp rfl)))))) fun _ _ s102 => ?_; clear s101
    refine qg s102 rfl rfl rfl rfl (fun hb => (Ob.uncond (t := 82) hb rfl (ob_and3 hb rfl (.tmp rfl) (.tmp rfl) opd_bool))) fun _ _ s103 => ?_; clear s102
    obtain ⟨x15, e_x15, h29⟩ := bind_some h28; clear h28; replace e_x15 := Option.some.inj e_x15
    refine q1 s103 rfl ((ob_or2 rfl (.tmp rfl) opd_bool (.tmp rfl)).nm e_x15) fun _ _ s104 => ?_; clear s103
    refine wn hK25 ?_
    have s105 := s104.sub (u 1 rfl (u 4 rfl (u 5 rfl (u 96 rfl .nil)))); clear s104
    refine cond_split s105 (.tmp rfl) (fun hc5 => ?_) (fun hc5 => ?_)
    ·have h30 := ite_t hc5 h29; clear h29
     refine wp_seq_k fun K26 hK26 => wp_region_lit ?_
     refine q1 s105 rfl (ob_assign rfl opd_bool) fun _ _ s106 => ?_; clear s105
     refine wn hK26 ?_
     have s107 := s106.sub (u 2 rfl .nil); clear s106
     have s108 := St.drop (A := []) s107; clear s107
     refine wp_ret ?_
     obtain rfl := Option.some.inj h30
     exact leave s108 (.inl rfl) rfl (.cons (.tmp rfl) .nil)
    ·have h31 := ite_f hc5 h29; clear h29
     refine wp_skip ?_
     refine then_normal (hK24 _ _ ?_)
     have s109 := s105.sub (u 1 rfl (u 4 rfl (u 5 rfl .nil))); clear s105
     obtain ⟨x16, e_x16, h32⟩ := bind_some h31; clear h31
     refine wp_goes (Fs := [(kbool.V y3), (kbool.V y3), (Fact.when (y3 == false) (ptrB b1 4)), (Fact.when (y3 == false) ((ksl (kint .i64)).V p1.Who)), (Fact.when (y3 == false) ((kint .i64).V y4)), (Fact.when (y3 == false) (ptrTo (kint .i64) x16)), (Fact.when (y3 == false) ((kint .i64).V x16)), (Fact.when (y3 == false) (ptrB b1 0)), (Fact.when (y3 == false) ((kint .i64).V p1.Author))]) (bits := [0, 1, 3, 7, 3, 31, 63, 3, 131, 511, 1023, 2047]) (m := 9) (todo := 0) mx s109 ?_; clear s109
     refine goes_last (by kernel_rfl) rfl (oc (av 4 rfl rfl Av.nil) rfl rfl (mv rfl rfl) (oc (an 0 rfl rfl rfl Av.nil) rfl rfl (mv rfl rfl) (opsS_cons (.guarded _ (av 1 rfl rfl (an 1 rfl rfl rfl Av.nil)) rfl rfl rfl rfl (fun hb => ob_fieldAddr (off' := 4) rfl Try.underlying44 rfl sz41 (by decide) (.tmp rfl) rfl)) (opsS_cons (.guarded _ (an 1 rfl rfl rfl (an 2 rfl rfl rfl Av.nil)) rfl rfl rfl rfl (fun hb => (Ob.uncond (t := 99) hb rfl (ob_load rfl tk41 (.tmp rfl) (.head _) (lg_api_Op_Who p1))))) (opsS_cons (.guarded _ (av 5 rfl rfl (an 1 rfl rfl rfl Av.nil)) rfl rfl rfl rfl (fun hb => ob_move rfl (.tmp rfl))) (opsS_cons (.guarded _ (an 1 rfl rfl rfl (an 3 rfl rfl rfl (an 4 rfl rfl rfl Av.nil))) rfl rfl rfl rfl (fun hb => (Ob.uncond (t := 101) hb rfl ((Ob.uncond (t := 100) hb rfl (ob_indexAddrs rfl Try.underlying41 sz3 (.tmp rfl) (.tmp rfl) (ite_t hb e_x16))))))) (opsS_cons (.guarded _ (an 1 rfl rfl rfl (an 5 rfl rfl rfl Av.nil)) rfl rfl rfl rfl (fun hb => (Ob.uncond (t := 102) hb rfl (ob_loadr rfl tk3 (.tmp rfl))))) (opsS_cons (.guarded _ (av 1 rfl rfl (an 1 rfl rfl rfl Av.nil)) rfl rfl rfl rfl (fun hb => ob_fieldAddr (off' := 0) rfl Try.underlying44 rfl sz3 (by decide) (.tmp rfl) rfl)) (opsS_cons (.guarded _ (an 1 rfl rfl rfl (an 7 rfl rfl rfl Av.nil)) rfl rfl rfl rfl (fun hb => (Ob.uncond (t := 104) hb rfl (ob_load rfl tk3 (.tmp rfl) (.head _) (lg_api_Op_Author p1))))) opsS_nil))))))))) (out_old (t := 1) rfl rfl (out_old (t := 4) rfl rfl (out_old (t := 5) rfl rfl (out_new (i := 1) (by decide) rfl rfl (out_new (i := 6) (by decide) rfl rfl (out_new (i := 8) (by decide) rfl rfl out_nil)))))) fun _ _ s110 => ?_
     refine qg s110 rfl rfl rfl rfl (fun hb => (Ob.uncond (t := 105) hb rfl ((Ob.uncond (t := 103) hb rfl (ob_eql rfl (.tmp rfl) (.tmp rfl)))))) fun _ _ s111 => ?_; clear s110
     refine q1 s111 rfl (ob_or2 rfl (.tmp rfl) opd_bool (.tmp rfl)) fun _ _ s112 => ?_; clear s111
     refine q1 s112 rfl (ob_assign rfl (.tmp rfl)) fun _ _ s113 => ?_; clear s112
     refine wpList_nil ?_
     refine in_normal ?_
     refine then_normal (hK23 _ _ ?_)
     have s114 := s113.sub (u 1 rfl (u 4 rfl (u 5 rfl .nil))); clear s113
     refine wp_region_lit ?_
     refine q1 s114 rfl (mv rfl rfl) fun _ _ s115 => ?_; clear s114
     refine q1 s115 rfl (ob_add rfl (.tmp rfl) (opd_int rfl)) fun _ _ s116 => ?_; clear s115
     refine q1 s116 rfl (ob_assign rfl (.tmp rfl)) fun _ _ s117 => ?_; clear s116
     refine wpList_nil ?_
     refine then_normal ?_
     exact hK20 ((if y3 then true else (x16 == p1.Author)), (iadd .i64 y4 (1 : Int))) _ _ h32 (s117.sub (.cons rfl (.cons rfl (.cons rfl .nil))))
   ·have h33 := ite_f hc4 h23; clear h23
    refine wp_exit ?_
    refine (then_exit (then_exit (in_here ?_)))
    refine then_normal ?_
    exact hj2 y3 _ _ h33 (s99.sub (.cons rfl (.cons rfl .nil)))
  refine wp_block ?_
  refine wp_loop_fuel (fun m (q : Int) => cabalref11_Right.l3 k p1 m q) r (fun _ => rfl) (fun q a w => St ⟨156, w0, ok, []⟩ [BF b1 44 k_api_Op p1] [(1, (ptrB b1 0)), (3, ((kint .i64).V q))] a w) ?_ k (1 : Int) _ _ h6 (s48.sub (.cons rfl (.cons rfl .nil)))
  rintro n3 y5 a118 w118 h34 s118 K27 hK27
  replace h34 : cabalref11_Right.l3 k p1 (n3 + 1) y5 = some r := h34; rw [cabalref11_Right.l3] at h34
  have h35 := h34; clear h34
  refine wp_seq_k fun K28 hK28 => wp_seq_k fun K29 hK29 => ?_
  refine wp_region_lit ?_
  refine q1 s118 rfl (mv rfl rfl) fun _ _ s119 => ?_; clear s118
  refine q1 s119 rfl (ob_fieldAddr (off' := 2) rfl Try.underlying44 rfl sz40 (by decide) (.tmp rfl) rfl) fun _ _ s120 => ?_; clear s119
  refine q1 s120 rfl (ob_load rfl tk40 (.tmp rfl) (.head _) (lg_api_Op_Parents p1)) fun _ _ s121 => ?_; clear s120
  refine q1 s121 rfl (ob_lens rfl Try.underlying40 (.tmp rfl)) fun _ _ s122 => ?_; clear s121
  refine q1 s122 rfl (ob_lss rfl (.tmp rfl) (.tmp rfl)) fun _ _ s123 => ?_; clear s122
  refine wn hK29 ?_
  have s124 := s123.sub (u 1 rfl (u 3 rfl (u 49 rfl .nil))); clear s123
  refine cond_split s124 (.tmp rfl) (fun hc6 => ?_) (fun hc6 => ?_)
  ·have h36 := ite_t hc6 h35; clear h35
   refine wp_skip ?_
   refine then_normal (hK28 _ _ ?_)
   have s125 := s124.sub (u 1 rfl (u 3 rfl .nil)); clear s124
   refine wp_seq_k fun K30 hK30 => wp_block ?_
   refine wp_seq_k fun K31 hK31 => ?_
   obtain ⟨x17, e_x17, h37⟩ := bind_some h36; clear h36
   obtain ⟨x18, e_x18, h38⟩ := bind_some h37; clear h37
   refine wp_goes (Fs := [(ptrB b1 2), ((ksl (karr 32 (kint .u8))).V p1.Parents), ((kint .i64).V y5), ((kint .i64).V (isub .i64 y5 (1 : Int))), (ptrTo (karr 32 (kint .u8)) x17), ((karr 32 (kint .u8)).V x17), (ptrB b1 2), ((ksl (karr 32 (kint .u8))).V p1.Parents), ((kint .i64).V y5), (ptrTo (karr 32 (kint .u8)) x18), ((karr 32 (kint .u8)).V x18)]) (bits := [0, 1, 0, 4, 15, 31, 0, 64, 0, 448, 960, 2047, 4095]) (m := 11) (todo := 0) mx s125 ?_; clear s125
   refine goes_last (by kernel_rfl) rfl (oc (av 1 rfl rfl Av.nil) rfl rfl (ob_fieldAddr (off' := 2) rfl Try.underlying44 rfl sz40 (by decide) (.tmp rfl) rfl) (oc (an 0 rfl rfl rfl Av.nil) rfl rfl (ob_load rfl tk40 (.tmp rfl) (.head _) (lg_api_Op_Parents p1)) (oc (av 3 rfl rfl Av.nil) rfl rfl (mv rfl rfl) (oc (an 2 rfl rfl rfl Av.nil) rfl rfl (ob_sub rfl (.tmp rfl) (opd_int rfl)) (oc (an 1 rfl rfl rfl (an 3 rfl rfl rfl Av.nil)) rfl rfl (ob_indexAddrs rfl Try.underlying40 sz39 (.tmp rfl) (.tmp rfl) e_x17) (oc (an 4 rfl rfl rfl Av.nil) rfl rfl (ob_loadr rfl tk39 (.tmp rfl)) (oc (av 1 rfl rfl Av.nil) rfl rfl (ob_fieldAddr (off' := 2) rfl Try.underlying44 rfl sz40 (by decide) (.tmp rfl) rfl) (oc (an 6 rfl rfl rfl Av.nil) rfl rfl (ob_load rfl tk40 (.tmp rfl) (.head _) (lg_api_Op_Parents p1)) (oc (av 3 rfl rfl Av.nil) rfl rfl (mv rfl rfl) (oc (an 7 rfl rfl rfl (an 8 rfl rfl rfl Av.nil)) rfl rfl (ob_indexAddrs rfl Try.underlying40 sz39 (.tmp rfl) (.tmp rfl) e_x18) (oc (an 9 rfl rfl rfl Av.nil) rfl rfl (ob_loadr rfl tk39 (.tmp rfl)) opsS_nil))))))))))) (out_old (t := 1) rfl rfl (out_old (t := 3) rfl rfl (out_new (i := 5) (by decide) rfl rfl (out_new (i := 10) (by decide) rfl rfl out_nil)))) fun _ _ s126 => ?_
   obtain ⟨x19, e_x19, h39⟩ := bind_some h38; clear h38
   refine q1 s126 rfl (ob_callD (args := [_, _]) rfl .direct hb108 (fun a w s fs gs hf hg => by obtain rfl := hf.unnil; obtain rfl := hg.unnil; exact c_cabalref11_Less k _ _ _ e_x19 _ _ _ _ (s.arg (.tmp rfl)) (s.arg (.tmp rfl)))) fun _ _ s127 => ?_; clear s126
   refine q1 s127 rfl (ob_not rfl (.tmp rfl)) fun _ _ s128 => ?_; clear s127
   refine wn hK31 ?_
   have s129 := s128.sub (u 1 rfl (u 3 rfl (u 64 rfl .nil))); clear s128
   refine cond_split s129 (.tmp rfl) (fun hc7 => ?_) (fun hc7 => ?_)
   ·have h40 := ite_t hc7 h39; clear h39
    refine wp_seq_k fun K32 hK32 => wp_region_lit ?_
    refine q1 s129 rfl (ob_assign rfl opd_bool) fun _ _ s130 => ?_; clear s129
    refine wn hK32 ?_
    have s131 := s130.sub (u 2 rfl .nil); clear s130
    have s132 := St.drop (A := []) s131; clear s131
    refine wp_ret ?_
    obtain rfl := Option.some.inj h40
    exact leave s132 (.inl rfl) rfl (.cons (.tmp rfl) .nil)
   ·have h41 := ite_f hc7 h39; clear h39
    refine wp_skip ?_
    refine in_normal ?_
    refine then_normal (hK30 _ _ ?_)
    have s133 := s129.sub (u 1 rfl (u 3 rfl .nil)); clear s129
    refine wp_region_lit ?_
    refine q1 s133 rfl (mv rfl rfl) fun _ _ s134 => ?_; clear s133
    refine q1 s134 rfl (ob_add rfl (.tmp rfl) (opd_int rfl)) fun _ _ s135 => ?_; clear s134
    refine q1 s135 rfl (ob_assign rfl (.tmp rfl)) fun _ _ s136 => ?_; clear s135
    refine wpList_nil ?_
    refine then_normal ?_
    exact hK27 (iadd .i64 y5 (1 : Int)) _ _ h41 (s136.sub (.cons rfl (.cons rfl .nil)))
  ·have h42 := ite_f hc6 h35; clear h35
   refine wp_exit ?_
   refine (then_exit (then_exit (in_here ?_)))
   refine then_normal ?_
   exact hj1 _ _ h42 (s124.sub (.cons rfl .nil))

/- 38 cabal/cabalref15.SameInts -/
theorem c_cabalref15_SameInts (k : Nat) (p1 : (List Int)) (p2 : (List Int)) (r : Bool) (h0 : cabalref15_SameInts k p1 p2 = some r) (ok : Ok) (w0 : World) (z0 : Value) (z1 : Value) (u0 : ((ksl (kint .i64)).V p1).holds ok w0 z0) (u1 : ((ksl (kint .i64)).V p2).holds ok w0 z1) :
 Gives Try.prog 38 [z0, z1] ok w0 (resFact [kbool.V r]) := by
 unfold cabalref15_SameInts at h0
 refine enter (N := 26) Try.func38 rfl rfl (of_decide_eq_true rfl) (.cons u0 (.cons u1 .nil)) fun a1 s1 => ?_
 refine wp_seq_k fun K1 hK1 => wp_region_lit ?_
 refine q1 s1 rfl (ob_assign rfl opd_bool) fun _ _ s2 => ?_; clear s1
 refine wn hK1 ?_
 have s3 := s2.sub (u 0 rfl (u 1 rfl .nil)); clear s2
 refine wp_seq_k fun K2 hK2 => wp_seq_k fun K3 hK3 => ?_
 refine wp_region_lit ?_
 refine q1 s3 rfl (mv rfl rfl) fun _ _ s4 => ?_; clear s3
 refine q1 s4 rfl (ob_lens rfl Try.underlying41 (.tmp rfl)) fun _ _ s5 => ?_; clear s4
 refine q1 s5 rfl (mv rfl rfl) fun _ _ s6 => ?_; clear s5
 refine q1 s6 rfl (ob_lens rfl Try.underlying41 (.tmp rfl)) fun _ _ s7 => ?_; clear s6
 refine q1 s7 rfl (ob_neq rfl (.tmp rfl) (.tmp rfl)) fun _ _ s8 => ?_; clear s7
 refine wn hK3 ?_
 have s9 := s8.sub (u 0 rfl (u 1 rfl (u 10 rfl .nil))); clear s8
 refine cond_split s9 (.tmp rfl) (fun hc1 => ?_) (fun hc1 => ?_)
 ·have h1 := ite_t hc1 h0; clear h0
  refine wp_seq_k fun K4 hK4 => wp_region_lit ?_
  refine q1 s9 rfl (ob_assign rfl opd_bool) fun _ _ s10 => ?_; clear s9
  refine wn hK4 ?_
  have s11 := s10.sub (u 4 rfl .nil); clear s10
  refine wp_ret ?_
  obtain rfl := Option.some.inj h1
  exact leave s11 (.inl rfl) rfl (.cons (.tmp rfl) .nil)
 ·have h2 := ite_f hc1 h0; clear h0
  refine wp_skip ?_
  refine then_normal (hK2 _ _ ?_)
  have s12 := s9.sub (u 0 rfl (u 1 rfl .nil)); clear s9
  refine wp_seq_k fun K5 hK5 => wp_seq_k fun K6 hK6 => ?_
  refine wp_region_lit ?_
  refine q1 s12 rfl (ob_assign rfl (opd_int rfl)) fun _ _ s13 => ?_; clear s12
  refine wn hK6 ?_
  have s14 := s13.sub (u 0 rfl (u 1 rfl (u 5 rfl .nil))); clear s13
  have hj1 : ∀ (a : Act) (w : World), (cabalref15_SameInts.j1 k) = some r → St ⟨26, w0, ok, []⟩ [] [] a w → K5 a w := by
   intro a15 w15 h3 s15
   unfold cabalref15_SameInts.j1 at h3
   refine hK5 _ _ ?_
   refine wp_seq_k fun K7 hK7 => wp_region_lit ?_
   refine q1 s15 rfl (ob_assign rfl opd_bool) fun _ _ s16 => ?_; clear s15
   refine wn hK7 ?_
   have s17 := s16.sub (u 4 rfl .nil); clear s16
   refine wp_ret ?_
   obtain rfl := Option.some.inj h3
   exact leave s17 (.inl rfl) rfl (.cons (.tmp rfl) .nil)
  refine wp_block ?_
  refine wp_loop_fuel (fun m (q : Int) => cabalref15_SameInts.l1 k p1 p2 m q) r (fun _ => rfl) (fun q a w => St ⟨26, w0, ok, []⟩ [] [(0, ((ksl (kint .i64)).V p1)), (1, ((ksl (kint .i64)).V p2)), (5, ((kint .i64).V q))] a w) ?_ k (0 : Int) _ _ h2 (s14.sub (.cons rfl (.cons rfl (.cons rfl .nil))))
  rintro n1 y1 a18 w18 h4 s18 K8 hK8
  replace h4 : cabalref15_SameInts.l1 k p1 p2 (n1 + 1) y1 = some r := h4; rw [cabalref15_SameInts.l1] at h4
  have h5 := h4; clear h4
  refine wp_seq_k fun K9 hK9 => wp_seq_k fun K10 hK10 => ?_
  refine wp_region_lit ?_
  refine q1 s18 rfl (mv rfl rfl) fun _ _ s19 => ?_; clear s18
  refine q1 s19 rfl (mv rfl rfl) fun _ _ s20 => ?_; clear s19
  refine q1 s20 rfl (ob_lens rfl Try.underlying41 (.tmp rfl)) fun _ _ s21 => ?_; clear s20
  refine q1 s21 rfl (ob_lss rfl (.tmp rfl) (.tmp rfl)) fun _ _ s22 => ?_; clear s21
  refine wn hK10 ?_
  have s23 := s22.sub (u 0 rfl (u 1 rfl (u 5 rfl (u 14 rfl .nil)))); clear s22
  refine cond_split s23 (.tmp rfl) (fun hc2 => ?_) (fun hc2 => ?_)
  ·have h6 := ite_t hc2 h5; clear h5
   refine wp_skip ?_
   refine then_normal (hK9 _ _ ?_)
   have s24 := s23.sub (u 0 rfl (u 1 rfl (u 5 rfl .nil))); clear s23
   refine wp_seq_k fun K11 hK11 => wp_block ?_
   refine wp_seq_k fun K12 hK12 => ?_
   obtain ⟨x1, e_x1, h7⟩ := bind_some h6; clear h6
   obtain ⟨x2, e_x2, h8⟩ := bind_some h7; clear h7
   refine wp_goes (Fs := [((ksl (kint .i64)).V p1), ((kint .i64).V y1), (ptrTo (kint .i64) x1), ((kint .i64).V x1), ((ksl (kint .i64)).V p2), ((kint .i64).V y1), (ptrTo (kint .i64) x2), ((kint .i64).V x2)]) (bits := [0, 0, 3, 7, 0, 0, 48, 112, 255]) (m := 8) (todo := 0) mx s24 ?_; clear s24
   refine goes_last (by kernel_rfl) rfl (oc (av 0 rfl rfl Av.nil) rfl rfl (mv rfl rfl) (oc (av 5 rfl rfl Av.nil) rfl rfl (mv rfl rfl) (oc (an 0 rfl rfl rfl (an 1 rfl rfl rfl Av.nil)) rfl rfl (ob_indexAddrs rfl Try.underlying41 sz3 (.tmp rfl) (.tmp rfl) e_x1) (oc (an 2 rfl rfl rfl Av.nil) rfl rfl (ob_loadr rfl tk3 (.tmp rfl)) (oc (av 1 rfl rfl Av.nil) rfl rfl (mv rfl rfl) (oc (av 5 rfl rfl Av.nil) rfl rfl (mv rfl rfl) (oc (an 4 rfl rfl rfl (an 5 rfl rfl rfl Av.nil)) rfl rfl (ob_indexAddrs rfl Try.underlying41 sz3 (.tmp rfl) (.tmp rfl) e_x2) (oc (an 6 rfl rfl rfl Av.nil) rfl rfl (ob_loadr rfl tk3 (.tmp rfl)) opsS_nil)))))))) (out_old (t := 0) rfl rfl (out_old (t := 1) rfl rfl (out_old (t := 5) rfl rfl (out_new (i := 3) (by decide) rfl rfl (out_new (i := 7) (by decide) rfl rfl out_nil))))) fun _ _ s25 => ?_
   refine q1 s25 rfl (ob_neq rfl (.tmp rfl) (.tmp rfl)) fun _ _ s26 => ?_; clear s25
   refine wn hK12 ?_
   have s27 := s26.sub (u 0 rfl (u 1 rfl (u 5 rfl (u 25 rfl .nil)))); clear s26
   refine cond_split s27 (.tmp rfl) (fun hc3 => ?_) (fun hc3 => ?_)
   ·have h9 := ite_t hc3 h8; clear h8
    refine wp_seq_k fun K13 hK13 => wp_region_lit ?_
    refine q1 s27 rfl (ob_assign rfl opd_bool) fun _ _ s28 => ?_; clear s27
    refine wn hK13 ?_
    have s29 := s28.sub (u 4 rfl .nil); clear s28
    refine wp_ret ?_
    obtain rfl := Option.some.inj h9
    exact leave s29 (.inl rfl) rfl (.cons (.tmp rfl) .nil)
   ·have h10 := ite_f hc3 h8; clear h8
    refine wp_skip ?_
    refine in_normal ?_
    refine then_normal (hK11 _ _ ?_)
    have s30 := s27.sub (u 0 rfl (u 1 rfl (u 5 rfl .nil))); clear s27
    refine wp_region_lit ?_
    refine q1 s30 rfl (mv rfl rfl) fun _ _ s31 => ?_; clear s30
    refine q1 s31 rfl (ob_add rfl (.tmp rfl) (opd_int rfl)) fun _ _ s32 => ?_; clear s31
    refine q1 s32 rfl (ob_assign rfl (.tmp rfl)) fun _ _ s33 => ?_; clear s32
    refine wpList_nil ?_
    refine then_normal ?_
    exact hK8 (iadd .i64 y1 (1 : Int)) _ _ h10 (s33.sub (.cons rfl (.cons rfl (.cons rfl .nil))))
  ·have h11 := ite_f hc2 h5; clear h5
   refine wp_exit ?_
   refine (then_exit (then_exit (in_here ?_)))
   refine then_normal ?_
   exact hj1 _ _ h11 (s23.sub .nil)

/- 86 cabal/cabalref15.turn -/
theorem c_cabalref15_turn (k : Nat) (p1 : (List api_Node)) (p2 : api_Op) (p3 : (List Int)) (r : Bool) (h0 : cabalref15_turn k p1 p2 p3 = some r) (ok : Ok) (w0 : World) (z0 : Value) (z1 : Value) (z2 : Value) (u0 : ((ksl k_api_Node).V p1).holds ok w0 z0) (u1 : (k_api_Op.V p2).holds ok w0 z1) (u2 : ((ksl (kint .i64)).V p3).holds ok w0 z2) :
 Gives Try.prog 86 [z0, z1, z2] ok w0 (resFact [kbool.V r]) := by
 unfold cabalref15_turn at h0
 refine enter (N := 42) Try.func86 rfl rfl (of_decide_eq_true rfl) (.cons u0 (.cons u1 (.cons u2 .nil))) fun a1 s1 => ?_
 refine wp_seq_k fun K1 hK1 => wp_region_lit ?_
 refine qx (B' := (fun b1 : Nat => [BF b1 44 k_api_Op p2])) s1 rfl (ob_box rfl (.tmp rfl)) fun b1 _ _ s2 => ?_; clear s1
 refine q1 s2 rfl (ob_assign rfl opd_bool) fun _ _ s3 => ?_; clear s2
 refine wn hK1 ?_
 have s4 := s3.sub (u 0 rfl (u 2 rfl (u 4 rfl .nil))); clear s3
 refine wp_seq_k fun K2 hK2 => wp_seq_k fun K3 hK3 => ?_
 refine wp_region_lit ?_
 refine q1 s4 rfl (ob_fieldAddr (off' := 3) rfl Try.underlying44 rfl sz3 (by decide) (.tmp rfl) rfl) fun _ _ s5 => ?_; clear s4
 refine q1 s5 rfl (ob_load rfl tk3 (.tmp rfl) (.head _) (lg_api_Op_Kind p2)) fun _ _ s6 => ?_; clear s5
 refine q1 s6 rfl (ob_eql rfl (.tmp rfl) (opd_int rfl)) fun _ _ s7 => ?_; clear s6
 refine q1 s7 rfl (mv rfl rfl) fun _ _ s8 => ?_; clear s7
 refine q1 s8 rfl (ob_lens rfl Try.underlying22 (.tmp rfl)) fun _ _ s9 => ?_; clear s8
 refine q1 s9 rfl (ob_eql rfl (.tmp rfl) (opd_int rfl)) fun _ _ s10 => ?_; clear s9
 refine q1 s10 rfl (ob_bneq rfl Try.underlying4 (.tmp rfl) (.tmp rfl)) fun _ _ s11 => ?_; clear s10
 refine wn hK3 ?_
 have s12 := s11.sub (u 0 rfl (u 2 rfl (u 4 rfl (u 15 rfl .nil)))); clear s11
 refine cond_split s12 (.tmp rfl) (fun hc1 => ?_) (fun hc1 => ?_)
 ·have h1 := ite_t hc1 h0; clear h0
  refine wp_seq_k fun K4 hK4 => wp_region_lit ?_
  refine q1 s12 rfl (ob_assign rfl opd_bool) fun _ _ s13 => ?_; clear s12
  refine wn hK4 ?_
  have s14 := s13.sub (u 6 rfl .nil); clear s13
  have s15 := St.drop (A := []) s14; clear s14
  refine wp_ret ?_
  obtain rfl := Option.some.inj h1
  exact leave s15 (.inl rfl) rfl (.cons (.tmp rfl) .nil)
 ·have h2 := ite_f hc1 h0; clear h0
  refine wp_skip ?_
  refine then_normal (hK2 _ _ ?_)
  have s16 := s12.sub (u 0 rfl (u 2 rfl (u 4 rfl .nil))); clear s12
  refine wp_seq_k fun K5 hK5 => wp_region_lit ?_
  refine q1 s16 rfl (ob_assign rfl (opd_int rfl)) fun _ _ s17 => ?_; clear s16
  refine wn hK5 ?_
  have s18 := s17.sub (u 0 rfl (u 2 rfl (u 4 rfl (u 7 rfl .nil)))); clear s17
  refine wp_seq_k fun K6 hK6 => wp_seq_k fun K7 hK7 => ?_
  refine wp_region_lit ?_
  refine q1 s18 rfl (ob_assign rfl (opd_int rfl)) fun _ _ s19 => ?_; clear s18
  refine wn hK7 ?_
  have s20 := s19.sub (u 0 rfl (u 2 rfl (u 4 rfl (u 7 rfl (u 8 rfl .nil))))); clear s19
  have hj1 : ∀ (y1 : Int) (a : Act) (w : World), (cabalref15_turn.j1 k p2) y1 = some r → St ⟨42, w0, ok, []⟩ [BF b1 44 k_api_Op p2] [(4, (ptrB b1 0)), (7, ((kint .u32).V y1))] a w → K6 a w := by
   intro y1 a21 w21 h3 s21
   unfold cabalref15_turn.j1 at h3
   refine hK6 _ _ ?_
   refine wp_seq_k fun K8 hK8 => wp_region_lit ?_
   refine q1 s21 rfl (ob_fieldAddr (off' := 1) rfl Try.underlying44 rfl sz25 (by decide) (.tmp rfl) rfl) fun _ _ s22 => ?_; clear s21
   refine q1 s22 rfl (ob_load rfl tk25 (.tmp rfl) (.head _) (lg_api_Op_Seq p2)) fun _ _ s23 => ?_; clear s22
   refine q1 s23 rfl (mv rfl rfl) fun _ _ s24 => ?_; clear s23
   refine q1 s24 rfl (ob_add rfl (.tmp rfl) (opd_int rfl)) fun _ _ s25 => ?_; clear s24
   refine q1 s25 rfl (ob_eql rfl (.tmp rfl) (.tmp rfl)) fun _ _ s26 => ?_; clear s25
   refine q1 s26 rfl (ob_assign rfl (.tmp rfl)) fun _ _ s27 => ?_; clear s26
   refine wn hK8 ?_
   have s28 := s27.sub (u 6 rfl .nil); clear s27
   have s29 := St.drop (A := []) s28; clear s28
   refine wp_ret ?_
   obtain rfl := Option.some.inj h3
   exact leave s29 (.inl rfl) rfl (.cons (.tmp rfl) .nil)
  refine wp_block ?_
  refine wp_loop_fuel (fun m (q : Int × Int) => cabalref15_turn.l1 k p1 p2 p3 m q.1 q.2) r (fun _ => rfl) (fun q a w => St ⟨42, w0, ok, []⟩ [BF b1 44 k_api_Op p2] [(0, ((ksl k_api_Node).V p1)), (2, ((ksl (kint .i64)).V p3)), (4, (ptrB b1 0)), (7, ((kint .u32).V q.1)), (8, ((kint .i64).V q.2))] a w) ?_ k ((0 : Int), (0 : Int)) _ _ h2 (s20.sub (.cons rfl (.cons rfl (.cons rfl (.cons rfl (.cons rfl .nil))))))
  rintro n1 ⟨y2, y3⟩ a30 w30 h4 s30 K9 hK9
  replace h4 : cabalref15_turn.l1 k p1 p2 p3 (n1 + 1) y2 y3 = some r := h4; rw [cabalref15_turn.l1] at h4
  have h5 := h4; clear h4
  refine wp_seq_k fun K10 hK10 => wp_seq_k fun K11 hK11 => ?_
  refine wp_region_lit ?_
  refine q1 s30 rfl (mv rfl rfl) fun _ _ s31 => ?_; clear s30
  refine q1 s31 rfl (mv rfl rfl) fun _ _ s32 => ?_; clear s31
  refine q1 s32 rfl (ob_lens rfl Try.underlying22 (.tmp rfl)) fun _ _ s33 => ?_; clear s32
  refine q1 s33 rfl (ob_lss rfl (.tmp rfl) (.tmp rfl)) fun _ _ s34 => ?_; clear s33
  refine wn hK11 ?_
  have s35 := s34.sub (u 0 rfl (u 2 rfl (u 4 rfl (u 7 rfl (u 8 rfl (u 19 rfl .nil)))))); clear s34
  refine cond_split s35 (.tmp rfl) (fun hc2 => ?_) (fun hc2 => ?_)
  ·have h6 := ite_t hc2 h5; clear h5
   refine wp_skip ?_
   refine then_normal (hK10 _ _ ?_)
   have s36 := s35.sub (u 0 rfl (u 2 rfl (u 4 rfl (u 7 rfl (u 8 rfl .nil))))); clear s35
   refine wp_seq_k fun K12 hK12 => ?_
   have hj2 : ∀ (y4 : Int) (a : Act) (w : World), (cabalref15_turn.j2 k y3 (cabalref15_turn.l1 k p1 p2 p3 n1)) y4 = some r → St ⟨42, w0, ok, []⟩ [BF b1 44 k_api_Op p2] [(0, ((ksl k_api_Node).V p1)), (2, ((ksl (kint .i64)).V p3)), (4, (ptrB b1 0)), (7, ((kint .u32).V y4)), (8, ((kint .i64).V y3))] a w → K12 a w := by
    intro y4 a37 w37 h7 s37
    unfold cabalref15_turn.j2 at h7
    refine hK12 _ _ ?_
    refine wp_region_lit ?_
    refine q1 s37 rfl (mv rfl rfl) fun _ _ s38 => ?_; clear s37
    refine q1 s38 rfl (ob_add rfl (.tmp rfl) (opd_int rfl)) fun _ _ s39 => ?_; clear s38
    refine q1 s39 rfl (ob_assign rfl (.tmp rfl)) fun _ _ s40 => ?_; clear s39
    refine wpList_nil ?_
    refine then_normal ?_
    exact hK9 (y4, (iadd .i64 y3 (1 : Int))) _ _ h7 (s40.sub (.cons rfl (.cons rfl (.cons rfl (.cons rfl (.cons rfl .nil))))))
   refine wp_block ?_
   refine wp_seq_k fun K13 hK13 => ?_
   obtain ⟨x1, e_x1, h8⟩ := bind_some h6; clear h6
   refine wp_goes (Fs := [((ksl k_api_Node).V p1), ((kint .i64).V y3), (ptrTo k_api_Node x1), (ptrTo k_api_Op x1.Op), (ptrTo (kint .i64) x1.Op.Author), ((kint .i64).V x1.Op.Author), (ptrB b1 0), ((kint .i64).V p2.Author)]) (bits := [0, 0, 3, 7, 15, 31, 0, 64, 255]) (m := 8) (todo := 0) mx s36 ?_; clear s36
   refine goes_last (by kernel_rfl) rfl (oc (av 0 rfl rfl Av.nil) rfl rfl (mv rfl rfl) (oc (av 8 rfl rfl Av.nil) rfl rfl (mv rfl rfl) (oc (an 0 rfl rfl rfl (an 1 rfl rfl rfl Av.nil)) rfl rfl (ob_indexAddrs rfl Try.underlying22 sz46 (.tmp rfl) (.tmp rfl) e_x1) (oc (an 2 rfl rfl rfl Av.nil) rfl rfl (ob_fieldAddrr rfl Try.underlying46 rfl sz44 (by decide) (.tmp rfl) (lg_api_Node_Op x1)) (oc (an 3 rfl rfl rfl Av.nil) rfl rfl (ob_fieldAddrr rfl Try.underlying44 rfl sz3 (by decide) (.tmp rfl) (lg_api_Op_Author x1.Op)) (oc (an 4 rfl rfl rfl Av.nil) rfl rfl (ob_loadr rfl tk3 (.tmp rfl)) (oc (av 4 rfl rfl Av.nil) rfl rfl (ob_fieldAddr (off' := 0) rfl Try.underlying44 rfl sz3 (by decide) (.tmp rfl) rfl) (oc (an 6 rfl rfl rfl Av.nil) rfl rfl (ob_load rfl tk3 (.tmp rfl) (.head _) (lg_api_Op_Author p2)) opsS_nil)))))))) (out_old (t := 0) rfl rfl (out_old (t := 2) rfl rfl (out_old (t := 4) rfl rfl (out_old (t := 7) rfl rfl (out_old (t := 8) rfl rfl (out_new (i := 5) (by decide) rfl rfl (out_new (i := 7) (by decide) rfl rfl out_nil))))))) fun _ _ s41 => ?_
   refine q1 s41 rfl (ob_eql rfl (.tmp rfl) (.tmp rfl)) fun _ _ s42 => ?_; clear s41
   refine wn hK13 ?_
   have s43 := s42.sub (u 0 rfl (u 2 rfl (u 4 rfl (u 7 rfl (u 8 rfl (u 30 rfl .nil)))))); clear s42
   refine cond_split s43 (.tmp rfl) (fun hc3 => ?_) (fun hc3 => ?_)
   ·have h9 := ite_t hc3 h8; clear h8
    refine wp_seq_k fun K14 hK14 => wp_seq_k fun K15 hK15 => ?_
    refine wp_region_lit ?_
    refine q1 s43 rfl (mv rfl rfl) fun _ _ s44 => ?_; clear s43
    refine q1 s44 rfl (mv rfl rfl) fun _ _ s45 => ?_; clear s44
    obtain ⟨x2, e_x2, h10⟩ := bind_some h9; clear h9
    refine q1 s45 rfl (ob_callD (args := [_, _]) rfl .direct hb44 (fun a w s fs gs hf hg => by obtain rfl := hf.unnil; obtain rfl := hg.unnil; exact c_cabalref15_In k _ _ _ e_x2 _ _ _ _ (s.arg (.tmp rfl)) (s.arg (.tmp rfl)))) fun _ _ s46 => ?_; clear s45
    refine q1 s46 rfl (ob_not rfl (.tmp rfl)) fun _ _ s47 => ?_; clear s46
    refine wn hK15 ?_
    have s48 := s47.sub (u 0 rfl (u 2 rfl (u 4 rfl (u 7 rfl (u 8 rfl (u 34 rfl .nil)))))); clear s47
    refine cond_split s48 (.tmp rfl) (fun hc4 => ?_) (fun hc4 => ?_)
    ·have h11 := ite_t hc4 h10; clear h10
     refine wp_seq_k fun K16 hK16 => wp_region_lit ?_
     refine q1 s48 rfl (ob_assign rfl opd_bool) fun _ _ s49 => ?_; clear s48
     refine wn hK16 ?_
     have s50 := s49.sub (u 6 rfl .nil); clear s49
     have s51 := St.drop (A := []) s50; clear s50
     refine wp_ret ?_
     obtain rfl := Option.some.inj h11
     exact leave s51 (.inl rfl) rfl (.cons (.tmp rfl) .nil)
    ·have h12 := ite_f hc4 h10; clear h10
     refine wp_skip ?_
     refine then_normal (hK14 _ _ ?_)
     have s52 := s48.sub (u 0 rfl (u 2 rfl (u 4 rfl (u 7 rfl (u 8 rfl (u 34 rfl .nil)))))); clear s48
     refine wp_region_lit ?_
     refine q1 s52 rfl (mv rfl rfl) fun _ _ s53 => ?_; clear s52
     refine q1 s53 rfl (ob_add rfl (.tmp rfl) (opd_int rfl)) fun _ _ s54 => ?_; clear s53
     refine q1 s54 rfl (ob_assign rfl (.tmp rfl)) fun _ _ s55 => ?_; clear s54
     refine wpList_nil ?_
     refine in_normal ?_
     refine then_normal ?_
     exact hj2 (iadd .u32 y2 (1 : Int)) _ _ h12 (s55.sub (.cons rfl (.cons rfl (.cons rfl (.cons rfl (.cons rfl .nil))))))
   ·have h13 := ite_f hc3 h8; clear h8
    refine wp_skip ?_
    refine in_normal ?_
    refine then_normal ?_
    exact hj2 y2 _ _ h13 (s43.sub (.cons rfl (.cons rfl (.cons rfl (.cons rfl (.cons rfl .nil))))))
  ·have h14 := ite_f hc2 h5; clear h5
   refine wp_exit ?_
   refine (then_exit (then_exit (in_here ?_)))
   refine then_normal ?_
   exact hj1 y2 _ _ h14 (s35.sub (.cons rfl (.cons rfl .nil)))

/- 30 cabal/cabalref15.Right -/
theorem c_cabalref15_Right (k : Nat) (p1 : (List api_Node)) (r : Bool) (h0 : cabalref15_Right k p1 = some r) (ok : Ok) (w0 : World) (z0 : Value) (u0 : ((ksl k_api_Node).V p1).holds ok w0 z0) :
 Gives Try.prog 30 [z0] ok w0 (resFact [kbool.V r]) := by
 unfold cabalref15_Right at h0
 refine enter (N := 74) Try.func30 rfl rfl (of_decide_eq_true rfl) (.cons u0 .nil) fun a1 s1 => ?_
 refine wp_seq_k fun K1 hK1 => wp_region_lit ?_
 refine q1 s1 rfl (ob_assign rfl opd_bool) fun _ _ s2 => ?_; clear s1
 refine wn hK1 ?_
 have s3 := s2.sub (u 0 rfl .nil); clear s2
 refine wp_seq_k fun K2 hK2 => wp_seq_k fun K3 hK3 => ?_
 refine wp_region_lit ?_
 refine q1 s3 rfl (mv rfl rfl) fun _ _ s4 => ?_; clear s3
 refine q1 s4 rfl (ob_lens rfl Try.underlying22 (.tmp rfl)) fun _ _ s5 => ?_; clear s4
 refine q1 s5 rfl (ob_gtr rfl (.tmp rfl) (opd_int rfl)) fun _ _ s6 => ?_; clear s5
 refine wn hK3 ?_
 have s7 := s6.sub (u 0 rfl (u 8 rfl .nil)); clear s6
 refine cond_split s7 (.tmp rfl) (fun hc1 => ?_) (fun hc1 => ?_)
 ·have h1 := ite_t hc1 h0; clear h0
  refine wp_seq_k fun K4 hK4 => wp_region_lit ?_
  refine q1 s7 rfl (ob_assign rfl opd_bool) fun _ _ s8 => ?_; clear s7
  refine wn hK4 ?_
  have s9 := s8.sub (u 2 rfl .nil); clear s8
  refine wp_ret ?_
  obtain rfl := Option.some.inj h1
  exact leave s9 (.inl rfl) rfl (.cons (.tmp rfl) .nil)
 ·have h2 := ite_f hc1 h0; clear h0
  refine wp_skip ?_
  refine then_normal (hK2 _ _ ?_)
  have s10 := s7.sub (u 0 rfl .nil); clear s7
  refine wp_seq_k fun K5 hK5 => wp_seq_k fun K6 hK6 => ?_
  refine wp_region_lit ?_
  refine q1 s10 rfl (ob_assign rfl (opd_int rfl)) fun _ _ s11 => ?_; clear s10
  refine wn hK6 ?_
  have s12 := s11.sub (u 0 rfl (u 3 rfl .nil)); clear s11
  have hj1 : ∀ (a : Act) (w : World), (cabalref15_Right.j1 k) = some r → St ⟨74, w0, ok, []⟩ [] [] a w → K5 a w := by
   intro a13 w13 h3 s13
   unfold cabalref15_Right.j1 at h3
   refine hK5 _ _ ?_
   refine wp_seq_k fun K7 hK7 => wp_region_lit ?_
   refine q1 s13 rfl (ob_assign rfl opd_bool) fun _ _ s14 => ?_; clear s13
   refine wn hK7 ?_
   have s15 := s14.sub (u 2 rfl .nil); clear s14
   refine wp_ret ?_
   obtain rfl := Option.some.inj h3
   exact leave s15 (.inl rfl) rfl (.cons (.tmp rfl) .nil)
  refine wp_block ?_
  refine wp_loop_fuel (fun m (q : Int) => cabalref15_Right.l1 k p1 m q) r (fun _ => rfl) (fun q a w => St ⟨74, w0, ok, []⟩ [] [(0, ((ksl k_api_Node).V p1)), (3, ((kint .i64).V q))] a w) ?_ k (0 : Int) _ _ h2 (s12.sub (.cons rfl (.cons rfl .nil)))
  rintro n1 y1 a16 w16 h4 s16 K8 hK8
  replace h4 : cabalref15_Right.l1 k p1 (n1 + 1) y1 = some r := h4; rw [cabalref15_Right.l1] at h4
  have h5 := h4; clear h4
  refine wp_seq_k fun K9 hK9 => wp_seq_k fun K10 hK10 => ?_
  refine wp_region_lit ?_
  refine q1 s16 rfl (mv rfl rfl) fun _ _ s17 => ?_; clear s16
  refine q1 s17 rfl (mv rfl rfl) fun _ _ s18 => ?_; clear s17
  refine q1 s18 rfl (ob_lens rfl Try.underlying22 (.tmp rfl)) fun _ _ s19 => ?_; clear s18
  refine q1 s19 rfl (ob_lss rfl (.tmp rfl) (.tmp rfl)) fun _ _ s20 => ?_; clear s19
  refine wn hK10 ?_
  have s21 := s20.sub (u 0 rfl (u 3 rfl (u 12 rfl .nil))); clear s20
  refine cond_split s21 (.tmp rfl) (fun hc2 => ?_) (fun hc2 => ?_)
  ·have h6 := ite_t hc2 h5; clear h5
   refine wp_skip ?_
   refine then_normal (hK9 _ _ ?_)
   have s22 := s21.sub (u 0 rfl (u 3 rfl .nil)); clear s21
   refine wp_seq_k fun K11 hK11 => wp_block ?_
   refine wp_seq_k fun K12 hK12 => ?_
   obtain ⟨x1, e_x1, h7⟩ := bind_some h6; clear h6
   obtain ⟨x2, e_x2, h8⟩ := bind_some h7; clear h7
   obtain ⟨x3, e_x3, h9⟩ := bind_some h8; clear h8
   refine wp_goes (Fs := [((ksl k_api_Node).V p1), ((kint .i64).V y1), ((ksl k_api_Node).V x1), ((ksl k_api_Node).V p1), ((kint .i64).V y1), (ptrTo k_api_Node x2), (ptrTo k_api_Op x2.Op), (ptrTo (ksl (karr 32 (kint .u8))) x2.Op.Parents), ((ksl (karr 32 (kint .u8))).V x2.Op.Parents), (tup [((ksl (kint .i64)).V x3.1), (kbool.V x3.2)]), (tup [((ksl (kint .i64)).V x3.1), (kbool.V x3.2)]), ((ksl (kint .i64)).V x3.1), (kbool.V x3.2), ((ksl (kint .i64)).V x3.1)]) (bits := [0, 0, 3, 0, 0, 24, 56, 120, 248, 511, 1023, 2047, 2047, 4095, 16383]) (m := 14) (todo := 0) mx s22 ?_; clear s22
   refine goes_last (by kernel_rfl) rfl (oc (av 0 rfl rfl Av.nil) rfl rfl (mv rfl rfl) (oc (av 3 rfl rfl Av.nil) rfl rfl (mv rfl rfl) (oc (an 0 rfl rfl rfl (an 1 rfl rfl rfl Av.nil)) rfl rfl (ob_cuts rfl Try.underlying22 sz46 (.tmp rfl) .none (.some (.tmp rfl)) e_x1) (oc (av 0 rfl rfl Av.nil) rfl rfl (mv rfl rfl) (oc (av 3 rfl rfl Av.nil) rfl rfl (mv rfl rfl) (oc (an 3 rfl rfl rfl (an 4 rfl rfl rfl Av.nil)) rfl rfl (ob_indexAddrs rfl Try.underlying22 sz46 (.tmp rfl) (.tmp rfl) e_x2) (oc (an 5 rfl rfl rfl Av.nil) rfl rfl (ob_fieldAddrr rfl Try.underlying46 rfl sz44 (by decide) (.tmp rfl) (lg_api_Node_Op x2)) (oc (an 6 rfl rfl rfl Av.nil) rfl rfl (ob_fieldAddrr rfl Try.underlying44 rfl sz40 (by decide) (.tmp rfl) (lg_api_Op_Parents x2.Op)) (oc (an 7 rfl rfl rfl Av.nil) rfl rfl (ob_loadr rfl tk40 (.tmp rfl)) (oc (an 2 rfl rfl rfl (an 8 rfl rfl rfl Av.nil)) rfl rfl ((ObF.ob (ob_callF (F := resFact [((ksl (kint .i64)).V x3.1), (kbool.V x3.2)]) (args := [_, _]) rfl .direct hb55 (fun a w s fs gs hf hg => by obtain rfl := hf.unnil; obtain rfl := hg.unnil; exact c_cabalref15_Past k _ _ _ e_x3 _ _ _ _ (s.arg (.tmp rfl)) (s.arg (.tmp rfl))) (by exact fun g => ResF.all (.row (.head _) (KFlat.int _) (.flat (Flat.V KFlat.bool) .nil)))))) (oc (an 9 rfl rfl rfl Av.nil) rfl rfl (mv rfl rfl) (oc (an 10 rfl rfl rfl Av.nil) rfl rfl (ob_extract rfl (.tmp rfl) rfl) (oc (an 10 rfl rfl rfl Av.nil) rfl rfl (ob_extract rfl (.tmp rfl) rfl) (oc (an 11 rfl rfl rfl Av.nil) rfl rfl (ob_assign rfl (.tmp rfl)) opsS_nil)))))))))))))) (out_old (t := 0) rfl rfl (out_old (t := 3) rfl rfl (out_new (i := 13) (by decide) rfl rfl (out_new (i := 12) (by decide) rfl rfl out_nil)))) fun _ _ s23 => ?_
   refine q1 s23 rfl (ob_assign rfl (.tmp rfl)) fun _ _ s24 => ?_; clear s23
   refine wn hK12 ?_
   have s25 := s24.sub (u 0 rfl (u 3 rfl (u 4 rfl (u 5 rfl .nil)))); clear s24
   refine wp_seq_k fun K13 hK13 => ?_
   obtain ⟨x4, e_x4, h10⟩ := bind_some h9; clear h9
   obtain ⟨x5, e_x5, h11⟩ := bind_some h10; clear h10
   obtain ⟨x6, e_x6, h12⟩ := bind_some h11; clear h11
   obtain ⟨x7, e_x7, h13⟩ := bind_some h12; clear h12
   obtain ⟨x8, e_x8, h14⟩ := bind_some h13; clear h13
   obtain ⟨x9, e_x9, h15⟩ := bind_some h14; clear h14; replace e_x9 := Option.some.inj e_x9
   obtain ⟨x10, e_x10, h16⟩ := bind_some h15; clear h15
   obtain ⟨x11, e_x11, h17⟩ := bind_some h16; clear h16
   obtain ⟨x12, e_x12, h18⟩ := bind_some h17; clear h17
   obtain ⟨x13, e_x13, h19⟩ := bind_some h18; clear h18
   refine wp_goes (Fs := [(kbool.V x3.2), (kbool.V (!x3.2)), (kbool.V (!x3.2)), (Fact.when ((!x3.2) == false) ((ksl k_api_Node).V p1)), (Fact.when ((!x3.2) == false) ((kint .i64).V y1)), (Fact.when ((!x3.2) == false) (ptrTo k_api_Node x4)), (Fact.when ((!x3.2) == false) (ptrTo k_api_Op x4.Op)), (Fact.when ((!x3.2) == false) (k_api_Op.V x4.Op)), (Fact.when ((!x3.2) == false) (kbool.V x5)), (Fact.when ((!x3.2) == false) (kbool.V (!x5))), (kbool.V (if (!x3.2) then true else (!x5))), (kbool.V (if (!x3.2) then true else (!x5))), (Fact.when ((if (!x3.2) then true else (!x5)) == false) ((ksl k_api_Node).V p1)), (Fact.when ((if (!x3.2) then true else (!x5)) == false) ((kint .i64).V y1)), (Fact.when ((if (!x3.2) then true else (!x5)) == false) ((ksl k_api_Node).V x6)), (Fact.when ((if (!x3.2) then true else (!x5)) == false) ((ksl k_api_Node).V p1)), (Fact.when ((if (!x3.2) then true else (!x5)) == false) ((kint .i64).V y1)), (Fact.when ((if (!x3.2) then true else (!x5)) == false) (ptrTo k_api_Node x7)), (Fact.when ((if (!x3.2) then true else (!x5)) == false) (ptrTo (karr 32 (kint .u8)) x7.Id)), (Fact.when ((if (!x3.2) then true else (!x5)) == false) ((karr 32 (kint .u8)).V x7.Id)), (Fact.when ((if (!x3.2) then true else (!x5)) == false) ((kint .i64).V x8)), (Fact.when ((if (!x3.2) then true else (!x5)) == false) (kbool.V (decide (x8 ≥ (0 : Int))))), (kbool.V x9), (kbool.V x9), (Fact.when (x9 == false) ((ksl (kint .i64)).V x3.1)), (Fact.when (x9 == false) ((ksl k_api_Node).V p1)), (Fact.when (x9 == false) ((kint .i64).V y1)), (Fact.when (x9 == false) (ptrTo k_api_Node x10)), (Fact.when (x9 == false) (ptrTo (ksl (kint .i64)) x10.Past)), (Fact.when (x9 == false) ((ksl (kint .i64)).V x10.Past)), (Fact.when (x9 == false) (kbool.V x11)), (Fact.when (x9 == false) (kbool.V (!x11))), (kbool.V (if x9 then true else (!x11))), (kbool.V (if x9 then true else (!x11))), (Fact.when ((if x9 then true else (!x11)) == false) ((ksl k_api_Node).V p1)), (Fact.when ((if x9 then true else (!x11)) == false) ((kint .i64).V y1)), (Fact.when ((if x9 then true else (!x11)) == false) ((ksl k_api_Node).V x12)), (Fact.when ((if x9 then true else (!x11)) == false) ((ksl k_api_Node).V p1)), (Fact.when ((if x9 then true else (!x11)) == false) ((kint .i64).V y1)), (Fact.when ((if x9 then true else (!x11)) == false) (ptrTo k_api_Node x13)), (Fact.when ((if x9 then true else (!x11)) == false) (ptrTo k_api_Op x13.Op)), (Fact.when ((if x9 then true else (!x11)) == false) (k_api_Op.V x13.Op)), (Fact.when ((if x9 then true else (!x11)) == false) ((ksl (kint .i64)).V x3.1))]) (bits := [0, 1, 3, 7, 7, 31, 63, 127, 255, 511, 1023, 2047, 4095, 4095, 16383, 4095, 4095, 102399, 233471, 495615, 1048575, 2097151, 4194303, 8388607, 16777215, 16777215, 16777215, 117440511, 251658239, 520093695, 1073741823, 2147483647, 4294967295, 8589934591, 17179869183, 17179869183, 68719476735, 17179869183, 17179869183, 429496729599, 979252543487, 2078764171263, 17179869183, 8796093022207, 17592186044415, 35184372088831]) (m := 43) (todo := 0) mx s25 ?_; clear s25
   refine goes_last (by kernel_rfl) rfl (oc (av 5 rfl rfl Av.nil) rfl rfl (mv rfl rfl) (oc (an 0 rfl rfl rfl Av.nil) rfl rfl (ob_not rfl (.tmp rfl)) (oc (an 1 rfl rfl rfl Av.nil) rfl rfl (mv rfl rfl) (opsS_cons (.guarded _ (av 0 rfl rfl (an 2 rfl rfl rfl Av.nil)) rfl rfl rfl rfl (fun hb => ob_move rfl (.tmp rfl))) (opsS_cons (.guarded _ (av 3 rfl rfl (an 2 rfl rfl rfl Av.nil)) rfl rfl rfl rfl (fun hb => ob_move rfl (.tmp rfl))) (opsS_cons (.guarded _ (an 2 rfl rfl rfl (an 3 rfl rfl rfl (an 4 rfl rfl rfl Av.nil))) rfl rfl rfl rfl (fun hb => (Ob.uncond (t := 32) hb rfl ((Ob.uncond (t := 31) hb rfl (ob_indexAddrs rfl Try.underlying22 sz46 (.tmp rfl) (.tmp rfl) (ite_t hb e_x4))))))) (opsS_cons (.guarded _ (an 2 rfl rfl rfl (an 5 rfl rfl rfl Av.nil)) rfl rfl rfl rfl (fun hb => (Ob.uncond (t := 33) hb rfl (ob_fieldAddrr rfl Try.underlying46 rfl sz44 (by decide) (.tmp rfl) (lg_api_Node_Op x4))))) (opsS_cons (.guarded _ (an 2 rfl rfl rfl (an 6 rfl rfl rfl Av.nil)) rfl rfl rfl rfl (fun hb => (Ob.uncond (t := 34) hb rfl (ob_loadr rfl tk44 (.tmp rfl))))) (opsS_cons (.guarded _ (an 2 rfl rfl rfl (an 7 rfl rfl rfl Av.nil)) rfl rfl rfl rfl (fun hb => (Ob.uncond (t := 35) hb rfl (ob_callD (args := [_]) rfl .direct hb85 (fun a w s fs gs hf hg => by obtain rfl := hf.unnil; obtain rfl := hg.unnil; exact c_cabalref11_Right k _ _ (ite_t hb e_x5) _ _ _ (s.arg (.tmp rfl))))))) (opsS_cons (.guarded _ (an 2 rfl rfl rfl (an 8 rfl rfl rfl Av.nil)) rfl rfl rfl rfl (fun hb => (Ob.uncond (t := 36) hb rfl (ob_not rfl (.tmp rfl))))) (oc (an 2 rfl rfl rfl (an 9 rfl rfl rfl Av.nil)) rfl rfl (ob_or2 rfl (.tmp rfl) opd_bool (.tmp rfl)) (oc (an 10 rfl rfl rfl Av.nil) rfl rfl (mv rfl rfl) (opsS_cons (.guarded _ (av 0 rfl rfl (an 11 rfl rfl rfl Av.nil)) rfl rfl rfl rfl (fun hb => ob_move rfl (.tmp rfl))) (opsS_cons (.guarded _ (av 3 rfl rfl (an 11 rfl rfl rfl Av.nil)) rfl rfl rfl rfl (fun hb => ob_move rfl (.tmp rfl))) (opsS_cons (.guarded _ (an 11 rfl rfl rfl (an 12 rfl rfl rfl (an 13 rfl rfl rfl Av.nil))) rfl rfl rfl rfl (fun hb => (Ob.uncond (t := 41) hb rfl ((Ob.uncond (t := 40) hb rfl (ob_cuts rfl Try.underlying22 sz46 (.tmp rfl) .none (.some (.tmp rfl)) (ite_t hb e_x6))))))) (opsS_cons (.guarded _ (av 0 rfl rfl (an 11 rfl rfl rfl Av.nil)) rfl rfl rfl rfl (fun hb => ob_move rfl (.tmp rfl))) (opsS_cons (.guarded _ (av 3 rfl rfl (an 11 rfl rfl rfl Av.nil)) rfl rfl rfl rfl (fun hb => ob_move rfl (.tmp rfl))) (opsS_cons (.guarded _ (an 11 rfl rfl rfl (an 15 rfl rfl rfl (an 16 rfl rfl rfl Av.nil))) rfl rfl rfl rfl (fun hb => (Ob.uncond (t := 44) hb rfl ((Ob.uncond (t := 43) hb rfl (ob_indexAddrs rfl Try.underlying22 sz46 (.tmp rfl) (.tmp rfl) (ite_t hb e_x7))))))) (opsS_cons (.guarded _ (an 11 rfl rfl rfl (an 17 rfl rfl rfl Av.nil)) rfl rfl rfl rfl (fun hb => (Ob.uncond (t := 45) hb rfl (ob_fieldAddrr rfl Try.underlying46 rfl sz39 (by decide) (.tmp rfl) (lg_api_Node_Id x7))))) (opsS_cons (.guarded _ (an 11 rfl rfl rfl (an 18 rfl rfl rfl Av.nil)) rfl rfl rfl rfl (fun hb => (Ob.uncond (t := 46) hb rfl (ob_loadr rfl tk39 (.tmp rfl))))) (opsS_cons (.guarded _ (an 11 rfl rfl rfl (an 14 rfl rfl rfl (an 19 rfl rfl rfl Av.nil))) rfl rfl rfl rfl (fun hb => (Ob.uncond (t := 47) hb rfl ((Ob.uncond (t := 42) hb rfl (ob_callD (args := [_, _]) rfl .direct hb56 (fun a w s fs gs hf hg => by obtain rfl := hf.unnil; obtain rfl := hg.unnil; exact c_cabalref15_Find k _ _ _ (ite_t hb e_x8) _ _ _ _ (s.arg (.tmp rfl)) (s.arg (.tmp rfl))))))))) (opsS_cons (.guarded _ (an 11 rfl rfl rfl (an 20 rfl rfl rfl Av.nil)) rfl rfl rfl rfl (fun hb => (Ob.uncond (t := 48) hb rfl (ob_geq rfl (.tmp rfl) (opd_int rfl))))) (oc (an 11 rfl rfl rfl (an 21 rfl rfl rfl Av.nil)) rfl rfl ((ob_or2 rfl (.tmp rfl) opd_bool (.tmp rfl)).nm e_x9) (oc (an 22 rfl rfl rfl Av.nil) rfl rfl (mv rfl rfl) (opsS_cons (.guarded _ (av 4 rfl rfl (an 23 rfl rfl rfl Av.nil)) rfl rfl rfl rfl (fun hb => ob_move rfl (.tmp rfl))) (opsS_cons (.guarded _ (av 0 rfl rfl (an 23 rfl rfl rfl Av.nil)) rfl rfl rfl rfl (fun hb => ob_move rfl (.tmp rfl))) (opsS_cons (.guarded _ (av 3 rfl rfl (an 23 rfl rfl rfl Av.nil)) rfl rfl rfl rfl (fun hb => ob_move rfl (.tmp rfl))) (opsS_cons (.guarded _ (an 23 rfl rfl rfl (an 25 rfl rfl rfl (an 26 rfl rfl rfl Av.nil))) rfl rfl rfl rfl (fun hb => (Ob.uncond (t := 54) hb rfl ((Ob.uncond (t := 53) hb rfl (ob_indexAddrs rfl Try.underlying22 sz46 (.tmp rfl) (.tmp rfl) (ite_t hb e_x10))))))) (opsS_cons (.guarded _ (an 23 rfl rfl rfl (an 27 rfl rfl rfl Av.nil)) rfl rfl rfl rfl (fun hb => (Ob.uncond (t := 55) hb rfl (ob_fieldAddrr rfl Try.underlying46 rfl sz41 (by decide) (.tmp rfl) (lg_api_Node_Past x10))))) (opsS_cons (.guarded _ (an 23 rfl rfl rfl (an 28 rfl rfl rfl Av.nil)) rfl rfl rfl rfl (fun hb => (Ob.uncond (t := 56) hb rfl (ob_loadr rfl tk41 (.tmp rfl))))) (opsS_cons (.guarded _ (an 23 rfl rfl rfl (an 24 rfl rfl rfl (an 29 rfl rfl rfl Av.nil))) rfl rfl rfl rfl (fun hb => (Ob.uncond (t := 57) hb rfl ((Ob.uncond (t := 52) hb rfl (ob_callD (args := [_, _]) rfl .direct hb38 (fun a w s fs gs hf hg => by obtain rfl := hf.unnil; obtain rfl := hg.unnil; exact c_cabalref15_SameInts k _ _ _ (ite_t hb e_x11) _ _ _ _ (s.arg (.tmp rfl)) (s.arg (.tmp rfl))))))))) (opsS_cons (.guarded _ (an 23 rfl rfl rfl (an 30 rfl rfl rfl Av.nil)) rfl rfl rfl rfl (fun hb => (Ob.uncond (t := 58) hb rfl (ob_not rfl (.tmp rfl))))) (oc (an 23 rfl rfl rfl (an 31 rfl rfl rfl Av.nil)) rfl rfl (ob_or2 rfl (.tmp rfl) opd_bool (.tmp rfl)) (oc (an 32 rfl rfl rfl Av.nil) rfl rfl (mv rfl rfl) (opsS_cons (.guarded _ (av 0 rfl rfl (an 33 rfl rfl rfl Av.nil)) rfl rfl rfl rfl (fun hb => ob_move rfl (.tmp rfl))) (opsS_cons (.guarded _ (av 3 rfl rfl (an 33 rfl rfl rfl Av.nil)) rfl rfl rfl rfl (fun hb => ob_move rfl (.tmp rfl))) (opsS_cons (.guarded _ (an 33 rfl rfl rfl (an 34 rfl rfl rfl (an 35 rfl rfl rfl Av.nil))) rfl rfl rfl rfl (fun hb => (Ob.uncond (t := 63) hb rfl ((Ob.uncond (t := 62) hb rfl (ob_cuts rfl Try.underlying22 sz46 (.tmp rfl) .none (.some (.tmp rfl)) (ite_t hb e_x12))))))) (opsS_cons (.guarded _ (av 0 rfl rfl (an 33 rfl rfl rfl Av.nil)) rfl rfl rfl rfl (fun hb => ob_move rfl (.tmp rfl))) (opsS_cons (.guarded _ (av 3 rfl rfl (an 33 rfl rfl rfl Av.nil)) rfl rfl rfl rfl (fun hb => ob_move rfl (.tmp rfl))) (opsS_cons (.guarded _ (an 33 rfl rfl rfl (an 37 rfl rfl rfl (an 38 rfl rfl rfl Av.nil))) rfl rfl rfl rfl (fun hb => (Ob.uncond (t := 66) hb rfl ((Ob.uncond (t := 65) hb rfl (ob_indexAddrs rfl Try.underlying22 sz46 (.tmp rfl) (.tmp rfl) (ite_t hb e_x13))))))) (opsS_cons (.guarded _ (an 33 rfl rfl rfl (an 39 rfl rfl rfl Av.nil)) rfl rfl rfl rfl (fun hb => (Ob.uncond (t := 67) hb rfl (ob_fieldAddrr rfl Try.underlying46 rfl sz44 (by decide) (.tmp rfl) (lg_api_Node_Op x13))))) (opsS_cons (.guarded _ (an 33 rfl rfl rfl (an 40 rfl rfl rfl Av.nil)) rfl rfl rfl rfl (fun hb => (Ob.uncond (t := 68) hb rfl (ob_loadr rfl tk44 (.tmp rfl))))) (opsS_cons (.guarded _ (av 4 rfl rfl (an 33 rfl rfl rfl Av.nil)) rfl rfl rfl rfl (fun hb => ob_move rfl (.tmp rfl))) opsS_nil))))))))))))))))))))))))))))))))))))))))))) (out_old (t := 0) rfl rfl (out_old (t := 3) rfl rfl (out_new (i := 33) (by decide) rfl rfl (out_new (i := 36) (by decide) rfl rfl (out_new (i := 41) (by decide) rfl rfl (out_new (i := 42) (by decide) rfl rfl out_nil)))))) fun _ _ s26 => ?_
   obtain ⟨x14, e_x14, h20⟩ := bind_some h19; clear h19
   refine qg s26 rfl rfl rfl rfl (fun hb => (Ob.uncond (t := 70) hb rfl ((Ob.uncond (t := 69) hb rfl ((Ob.uncond (t := 64) hb rfl (ob_callD (args := [_, _, _]) rfl .direct hb86 (fun a w s fs gs hf hg => by obtain rfl := hf.unnil; obtain rfl := hg.unnil; exact c_cabalref15_turn k _ _ _ _ (ite_t hb e_x14) _ _ _ _ _ (s.arg (.tmp rfl)) (s.arg (.tmp rfl)) (s.arg (.tmp rfl)))))))))) fun _ _ s27 => ?_; clear s26
   refine qg s27 rfl rfl rfl rfl (fun hb => (Ob.uncond (t := 71) hb rfl (ob_not rfl (.tmp rfl)))) fun _ _ s28 => ?_; clear s27
   refine q1 s28 rfl (ob_or2 rfl (.tmp rfl) opd_bool (.tmp rfl)) fun _ _ s29 => ?_; clear s28
   refine wn hK13 ?_
   have s30 := s29.sub (u 0 rfl (u 3 rfl (u 73 rfl .nil))); clear s29
   refine cond_split s30 (.tmp rfl) (fun hc3 => ?_) (fun hc3 => ?_)
   ·have h21 := ite_t hc3 h20; clear h20
    refine wp_seq_k fun K14 hK14 => wp_region_lit ?_
    refine q1 s30 rfl (ob_assign rfl opd_bool) fun _ _ s31 => ?_; clear s30
    refine wn hK14 ?_
    have s32 := s31.sub (u 2 rfl .nil); clear s31
    refine wp_ret ?_
    obtain rfl := Option.some.inj h21
    exact leave s32 (.inl rfl) rfl (.cons (.tmp rfl) .nil)
   ·have h22 := ite_f hc3 h20; clear h20
    refine wp_skip ?_
    refine in_normal ?_
    refine then_normal (hK11 _ _ ?_)
    have s33 := s30.sub (u 0 rfl (u 3 rfl .nil)); clear s30
    refine wp_region_lit ?_
    refine q1 s33 rfl (mv rfl rfl) fun _ _ s34 => ?_; clear s33
    refine q1 s34 rfl (ob_add rfl (.tmp rfl) (opd_int rfl)) fun _ _ s35 => ?_; clear s34
    refine q1 s35 rfl (ob_assign rfl (.tmp rfl)) fun _ _ s36 => ?_; clear s35
    refine wpList_nil ?_
    refine then_normal ?_
    exact hK8 (iadd .i64 y1 (1 : Int)) _ _ h22 (s36.sub (.cons rfl (.cons rfl .nil)))
  ·have h23 := ite_f hc2 h5; clear h5
   refine wp_exit ?_
   refine (then_exit (then_exit (in_here ?_)))
   refine then_normal ?_
   exact hj1 _ _ h23 (s21.sub .nil)

/- 73 cabal/cabalref19.Find -/
theorem c_cabalref19_Find (k : Nat) (p1 : (List api_Held)) (p2 : (List Int)) (r : Int) (h0 : cabalref19_Find k p1 p2 = some r) (ok : Ok) (w0 : World) (z0 : Value) (z1 : Value) (u0 : ((ksl k_api_Held).V p1).holds ok w0 z0) (u1 : ((karr 32 (kint .u8)).V p2).holds ok w0 z1) :
 Gives Try.prog 73 [z0, z1] ok w0 (resFact [(kint .i64).V r]) := by
 unfold cabalref19_Find at h0
 refine enter (N := 20) Try.func73 rfl rfl (of_decide_eq_true rfl) (.cons u0 (.cons u1 .nil)) fun a1 s1 => ?_
 refine wp_seq_k fun K1 hK1 => wp_region_lit ?_
 refine qx (B' := (fun b1 : Nat => [BF b1 39 (karr 32 (kint .u8)) p2])) s1 rfl (ob_box rfl (.tmp rfl)) fun b1 _ _ s2 => ?_; clear s1
 refine q1 s2 rfl (ob_assign rfl (opd_int rfl)) fun _ _ s3 => ?_; clear s2
 refine wn hK1 ?_
 have s4 := s3.sub (u 0 rfl (u 3 rfl .nil)); clear s3
 refine wp_seq_k fun K2 hK2 => wp_seq_k fun K3 hK3 => ?_
 refine wp_region_lit ?_
 refine q1 s4 rfl (ob_assign rfl (opd_int rfl)) fun _ _ s5 => ?_; clear s4
 refine wn hK3 ?_
 have s6 := s5.sub (u 0 rfl (u 3 rfl (u 5 rfl .nil))); clear s5
 have hj1 : ∀ (a : Act) (w : World), (cabalref19_Find.j1 k) = some r → St ⟨20, w0, ok, []⟩ [] [] a w → K2 a w := by
  intro a7 w7 h1 s7
  unfold cabalref19_Find.j1 at h1
  refine hK2 _ _ ?_
  refine wp_seq_k fun K4 hK4 => wp_region_lit ?_
  refine q1 s7 rfl (ob_assign rfl (opd_int rfl)) fun _ _ s8 => ?_; clear s7
  refine wn hK4 ?_
  have s9 := s8.sub (u 4 rfl .nil); clear s8
  refine wp_ret ?_
  obtain rfl := Option.some.inj h1
  exact leave s9 (.inl rfl) rfl (.cons (.tmp rfl) .nil)
 refine wp_block ?_
 refine wp_loop_fuel (fun m (q : Int) => cabalref19_Find.l1 k p1 p2 m q) r (fun _ => rfl) (fun q a w => St ⟨20, w0, ok, []⟩ [BF b1 39 (karr 32 (kint .u8)) p2] [(0, ((ksl k_api_Held).V p1)), (3, (ptrB b1 0)), (5, ((kint .i64).V q))] a w) ?_ k (0 : Int) _ _ h0 (s6.sub (.cons rfl (.cons rfl (.cons rfl .nil))))
 rintro n1 y1 a10 w10 h2 s10 K5 hK5
 replace h2 : cabalref19_Find.l1 k p1 p2 (n1 + 1) y1 = some r := h2; rw [cabalref19_Find.l1] at h2
 have h3 := h2; clear h2
 refine wp_seq_k fun K6 hK6 => wp_seq_k fun K7 hK7 => ?_
 refine wp_region_lit ?_
 refine q1 s10 rfl (mv rfl rfl) fun _ _ s11 => ?_; clear s10
 refine q1 s11 rfl (mv rfl rfl) fun _ _ s12 => ?_; clear s11
 refine q1 s12 rfl (ob_lens rfl Try.underlying85 (.tmp rfl)) fun _ _ s13 => ?_; clear s12
 refine q1 s13 rfl (ob_lss rfl (.tmp rfl) (.tmp rfl)) fun _ _ s14 => ?_; clear s13
 refine wn hK7 ?_
 have s15 := s14.sub (u 0 rfl (u 3 rfl (u 5 rfl (u 9 rfl .nil)))); clear s14
 refine cond_split s15 (.tmp rfl) (fun hc1 => ?_) (fun hc1 => ?_)
 ·have h4 := ite_t hc1 h3; clear h3
  refine wp_skip ?_
  refine then_normal (hK6 _ _ ?_)
  have s16 := s15.sub (u 0 rfl (u 3 rfl (u 5 rfl .nil))); clear s15
  refine wp_seq_k fun K8 hK8 => wp_block ?_
  refine wp_seq_k fun K9 hK9 => ?_
  obtain ⟨x1, e_x1, h5⟩ := bind_some h4; clear h4
  refine wp_goes (Fs := [((ksl k_api_Held).V p1), ((kint .i64).V y1), (ptrTo k_api_Held x1), (ptrTo (karr 32 (kint .u8)) x1.Id), ((karr 32 (kint .u8)).V x1.Id), ((karr 32 (kint .u8)).V p2)]) (bits := [0, 0, 3, 7, 15, 0, 63]) (m := 6) (todo := 0) mx s16 ?_; clear s16
  refine goes_last (by kernel_rfl) rfl (oc (av 0 rfl rfl Av.nil) rfl rfl (mv rfl rfl) (oc (av 5 rfl rfl Av.nil) rfl rfl (mv rfl rfl) (oc (an 0 rfl rfl rfl (an 1 rfl rfl rfl Av.nil)) rfl rfl (ob_indexAddrs rfl Try.underlying85 sz91 (.tmp rfl) (.tmp rfl) e_x1) (oc (an 2 rfl rfl rfl Av.nil) rfl rfl (ob_fieldAddrr rfl Try.underlying91 rfl sz39 (by decide) (.tmp rfl) (lg_api_Held_Id x1)) (oc (an 3 rfl rfl rfl Av.nil) rfl rfl (ob_loadr rfl tk39 (.tmp rfl)) (oc (av 3 rfl rfl Av.nil) rfl rfl (ob_load rfl tk39 (.tmp rfl) (.head _) (LG.refl _ _)) opsS_nil)))))) (out_old (t := 0) rfl rfl (out_old (t := 3) rfl rfl (out_old (t := 5) rfl rfl (out_new (i := 4) (by decide) rfl rfl (out_new (i := 5) (by decide) rfl rfl out_nil))))) fun _ _ s17 => ?_
  refine q1 s17 rfl (ob_eqAgg rfl rfl (by kernel_rfl) eq39 (by decide) (.tmp rfl) (.tmp rfl)) fun _ _ s18 => ?_; clear s17
  refine wn hK9 ?_
  have s19 := s18.sub (u 0 rfl (u 3 rfl (u 5 rfl (u 18 rfl .nil)))); clear s18
  refine cond_split s19 (.tmp rfl) (fun hc2 => ?_) (fun hc2 => ?_)
  ·have h6 := ite_t hc2 h5; clear h5
   refine wp_seq_k fun K10 hK10 => wp_region_lit ?_
   refine q1 s19 rfl (mv rfl rfl) fun _ _ s20 => ?_; clear s19
   refine q1 s20 rfl (ob_assign rfl (.tmp rfl)) fun _ _ s21 => ?_; clear s20
   refine wn hK10 ?_
   have s22 := s21.sub (u 4 rfl .nil); clear s21
   have s23 := St.drop (A := []) s22; clear s22
   refine wp_ret ?_
   obtain rfl := Option.some.inj h6
   exact leave s23 (.inl rfl) rfl (.cons (.tmp rfl) .nil)
  ·have h7 := ite_f hc2 h5; clear h5
   refine wp_skip ?_
   refine in_normal ?_
   refine then_normal (hK8 _ _ ?_)
   have s24 := s19.sub (u 0 rfl (u 3 rfl (u 5 rfl .nil))); clear s19
   refine wp_region_lit ?_
   refine q1 s24 rfl (mv rfl rfl) fun _ _ s25 => ?_; clear s24
   refine q1 s25 rfl (ob_add rfl (.tmp rfl) (opd_int rfl)) fun _ _ s26 => ?_; clear s25
   refine q1 s26 rfl (ob_assign rfl (.tmp rfl)) fun _ _ s27 => ?_; clear s26
   refine wpList_nil ?_
   refine then_normal ?_
   exact hK5 (iadd .i64 y1 (1 : Int)) _ _ h7 (s27.sub (.cons rfl (.cons rfl (.cons rfl .nil))))
 ·have h8 := ite_f hc1 h3; clear h3
  refine wp_exit ?_
  refine (then_exit (then_exit (in_here ?_)))
  refine then_normal ?_
  have s28 := St.drop (A := []) s15; clear s15
  exact hj1 _ _ h8 (s28.sub .nil)

/- 63 cabal/cabalref19.Right -/
theorem c_cabalref19_Right (k : Nat) (p1 : (List api_Held)) (r : Bool) (h0 : cabalref19_Right k p1 = some r) (ok : Ok) (w0 : World) (z0 : Value) (u0 : ((ksl k_api_Held).V p1).holds ok w0 z0) :
 Gives Try.prog 63 [z0] ok w0 (resFact [kbool.V r]) := by
 unfold cabalref19_Right at h0
 refine enter (N := 31) Try.func63 rfl rfl (of_decide_eq_true rfl) (.cons u0 .nil) fun a1 s1 => ?_
 refine wp_seq_k fun K1 hK1 => wp_region_lit ?_
 refine q1 s1 rfl (ob_assign rfl opd_bool) fun _ _ s2 => ?_; clear s1
 refine wn hK1 ?_
 have s3 := s2.sub (u 0 rfl .nil); clear s2
 refine wp_seq_k fun K2 hK2 => wp_seq_k fun K3 hK3 => ?_
 refine wp_region_lit ?_
 refine q1 s3 rfl (ob_assign rfl (opd_int rfl)) fun _ _ s4 => ?_; clear s3
 refine wn hK3 ?_
 have s5 := s4.sub (u 0 rfl (u 3 rfl .nil)); clear s4
 have hj1 : ∀ (a : Act) (w : World), (cabalref19_Right.j1 k p1) = some r → St ⟨31, w0, ok, []⟩ [] [(0, ((ksl k_api_Held).V p1))] a w → K2 a w := by
  intro a6 w6 h1 s6
  unfold cabalref19_Right.j1 at h1
  refine hK2 _ _ ?_
  refine wp_seq_k fun K4 hK4 => wp_region_lit ?_
  refine q1 s6 rfl (mv rfl rfl) fun _ _ s7 => ?_; clear s6
  refine q1 s7 rfl (ob_lens rfl Try.underlying85 (.tmp rfl)) fun _ _ s8 => ?_; clear s7
  refine q1 s8 rfl (ob_leq rfl (.tmp rfl) (opd_int rfl)) fun _ _ s9 => ?_; clear s8
  refine q1 s9 rfl (ob_assign rfl (.tmp rfl)) fun _ _ s10 => ?_; clear s9
  refine wn hK4 ?_
  have s11 := s10.sub (u 2 rfl .nil); clear s10
  refine wp_ret ?_
  obtain rfl := Option.some.inj h1
  exact leave s11 (.inl rfl) rfl (.cons (.tmp rfl) .nil)
 refine wp_block ?_
 refine wp_loop_fuel (fun m (q : Int) => cabalref19_Right.l1 k p1 m q) r (fun _ => rfl) (fun q a w => St ⟨31, w0, ok, []⟩ [] [(0, ((ksl k_api_Held).V p1)), (3, ((kint .i64).V q))] a w) ?_ k (0 : Int) _ _ h0 (s5.sub (.cons rfl (.cons rfl .nil)))
 rintro n1 y1 a12 w12 h2 s12 K5 hK5
 replace h2 : cabalref19_Right.l1 k p1 (n1 + 1) y1 = some r := h2; rw [cabalref19_Right.l1] at h2
 have h3 := h2; clear h2
 refine wp_seq_k fun K6 hK6 => wp_seq_k fun K7 hK7 => ?_
 refine wp_region_lit ?_
 refine q1 s12 rfl (mv rfl rfl) fun _ _ s13 => ?_; clear s12
 refine q1 s13 rfl (mv rfl rfl) fun _ _ s14 => ?_; clear s13
 refine q1 s14 rfl (ob_lens rfl Try.underlying85 (.tmp rfl)) fun _ _ s15 => ?_; clear s14
 refine q1 s15 rfl (ob_lss rfl (.tmp rfl) (.tmp rfl)) fun _ _ s16 => ?_; clear s15
 refine wn hK7 ?_
 have s17 := s16.sub (u 0 rfl (u 3 rfl (u 7 rfl .nil))); clear s16
 refine cond_split s17 (.tmp rfl) (fun hc1 => ?_) (fun hc1 => ?_)
 ·have h4 := ite_t hc1 h3; clear h3
  refine wp_skip ?_
  refine then_normal (hK6 _ _ ?_)
  have s18 := s17.sub (u 0 rfl (u 3 rfl .nil)); clear s17
  refine wp_seq_k fun K8 hK8 => wp_block ?_
  refine wp_seq_k fun K9 hK9 => wp_region_lit ?_
  refine q1 s18 rfl (mv rfl rfl) fun _ _ s19 => ?_; clear s18
  refine q1 s19 rfl (mv rfl rfl) fun _ _ s20 => ?_; clear s19
  obtain ⟨x1, e_x1, h5⟩ := bind_some h4; clear h4
  refine q1 s20 rfl (ob_indexAddrs rfl Try.underlying85 sz91 (.tmp rfl) (.tmp rfl) e_x1) fun _ _ s21 => ?_; clear s20
  refine q1 s21 rfl (ob_fieldAddrr rfl Try.underlying91 rfl sz44 (by decide) (.tmp rfl) (lg_api_Held_Op x1)) fun _ _ s22 => ?_; clear s21
  refine q1 s22 rfl (ob_loadr rfl tk44 (.tmp rfl)) fun _ _ s23 => ?_; clear s22
  obtain ⟨x2, e_x2, h6⟩ := bind_some h5; clear h5
  refine q1 s23 rfl (ob_callD (args := [_]) rfl .direct hb85 (fun a w s fs gs hf hg => by obtain rfl := hf.unnil; obtain rfl := hg.unnil; exact c_cabalref11_Right k _ _ e_x2 _ _ _ (s.arg (.tmp rfl)))) fun _ _ s24 => ?_; clear s23
  refine q1 s24 rfl (ob_not rfl (.tmp rfl)) fun _ _ s25 => ?_; clear s24
  refine q1 s25 rfl (mv rfl rfl) fun _ _ s26 => ?_; clear s25
  refine qg s26 rfl rfl rfl rfl (fun hb => ob_move rfl (.tmp rfl)) fun _ _ s27 => ?_; clear s26
  refine qg s27 rfl rfl rfl rfl (fun hb => ob_move rfl (.tmp rfl)) fun _ _ s28 => ?_; clear s27
  refine qg s28 rfl rfl rfl rfl (fun hb => ob_move rfl (.tmp rfl)) fun _ _ s29 => ?_; clear s28
  obtain ⟨x3, e_x3, h7⟩ := bind_some h6; clear h6
  refine qg s29 rfl rfl rfl rfl (fun hb => (Ob.uncond (t := 20) hb rfl ((Ob.uncond (t := 19) hb rfl (ob_indexAddrs rfl Try.underlying85 sz91 (.tmp rfl) (.tmp rfl) (ite_t hb e_x3)))))) fun _ _ s30 => ?_; clear s29
  refine qg s30 rfl rfl rfl rfl (fun hb => (Ob.uncond (t := 21) hb rfl (ob_fieldAddrr rfl Try.underlying91 rfl sz39 (by decide) (.tmp rfl) (lg_api_Held_Id x3)))) fun _ _ s31 => ?_; clear s30
  refine qg s31 rfl rfl rfl rfl (fun hb => (Ob.uncond (t := 22) hb rfl (ob_loadr rfl tk39 (.tmp rfl)))) fun _ _ s32 => ?_; clear s31
  obtain ⟨x4, e_x4, h8⟩ := bind_some h7; clear h7
  refine qg s32 rfl rfl rfl rfl (fun hb => (Ob.uncond (t := 23) hb rfl ((Ob.uncond (t := 18) hb rfl (ob_callD (args := [_, _]) rfl .direct hb73 (fun a w s fs gs hf hg => by obtain rfl := hf.unnil; obtain rfl := hg.unnil; exact c_cabalref19_Find k _ _ _ (ite_t hb e_x4) _ _ _ _ (s.arg (.tmp rfl)) (s.arg (.tmp rfl)))))))) fun _ _ s33 => ?_; clear s32
  refine qg s33 rfl rfl rfl rfl (fun hb => ob_move rfl (.tmp rfl)) fun _ _ s34 => ?_; clear s33
  refine qg s34 rfl rfl rfl rfl (fun hb => (Ob.uncond (t := 25) hb rfl ((Ob.uncond (t := 24) hb rfl (ob_neq rfl (.tmp rfl) (.tmp rfl)))))) fun _ _ s35 => ?_; clear s34
  refine q1 s35 rfl (ob_or2 rfl (.tmp rfl) opd_bool (.tmp rfl)) fun _ _ s36 => ?_; clear s35
  refine wn hK9 ?_
  have s37 := s36.sub (u 0 rfl (u 3 rfl (u 27 rfl .nil))); clear s36
  refine cond_split s37 (.tmp rfl) (fun hc2 => ?_) (fun hc2 => ?_)
  ·have h9 := ite_t hc2 h8; clear h8
   refine wp_seq_k fun K10 hK10 => wp_region_lit ?_
   refine q1 s37 rfl (ob_assign rfl opd_bool) fun _ _ s38 => ?_; clear s37
   refine wn hK10 ?_
   have s39 := s38.sub (u 2 rfl .nil); clear s38
   refine wp_ret ?_
   obtain rfl := Option.some.inj h9
   exact leave s39 (.inl rfl) rfl (.cons (.tmp rfl) .nil)
  ·have h10 := ite_f hc2 h8; clear h8
   refine wp_skip ?_
   refine in_normal ?_
   refine then_normal (hK8 _ _ ?_)
   have s40 := s37.sub (u 0 rfl (u 3 rfl .nil)); clear s37
   refine wp_region_lit ?_
   refine q1 s40 rfl (mv rfl rfl) fun _ _ s41 => ?_; clear s40
   refine q1 s41 rfl (ob_add rfl (.tmp rfl) (opd_int rfl)) fun _ _ s42 => ?_; clear s41
   refine q1 s42 rfl (ob_assign rfl (.tmp rfl)) fun _ _ s43 => ?_; clear s42
   refine wpList_nil ?_
   refine then_normal ?_
   exact hK5 (iadd .i64 y1 (1 : Int)) _ _ h10 (s43.sub (.cons rfl (.cons rfl .nil)))
 ·have h11 := ite_f hc1 h3; clear h3
  refine wp_exit ?_
  refine (then_exit (then_exit (in_here ?_)))
  refine then_normal ?_
  exact hj1 _ _ h11 (s17.sub (.cons rfl .nil))

/- 64 cabal/cabalref19.Ready -/
theorem c_cabalref19_Ready (k : Nat) (p1 : (List api_Node)) (p2 : (List api_Held)) (r : Int) (h0 : cabalref19_Ready k p1 p2 = some r) (ok : Ok) (w0 : World) (z0 : Value) (z1 : Value) (u0 : ((ksl k_api_Node).V p1).holds ok w0 z0) (u1 : ((ksl k_api_Held).V p2).holds ok w0 z1) :
 Gives Try.prog 64 [z0, z1] ok w0 (resFact [(kint .i64).V r]) := by
 unfold cabalref19_Ready at h0
 refine enter (N := 42) Try.func64 rfl rfl (of_decide_eq_true rfl) (.cons u0 (.cons u1 .nil)) fun a1 s1 => ?_
 refine wp_seq_k fun K1 hK1 => wp_region_lit ?_
 refine q1 s1 rfl (ob_assign rfl (opd_int rfl)) fun _ _ s2 => ?_; clear s1
 refine wn hK1 ?_
 have s3 := s2.sub (u 0 rfl (u 1 rfl .nil)); clear s2
 refine wp_seq_k fun K2 hK2 => wp_seq_k fun K3 hK3 => ?_
 refine wp_region_lit ?_
 refine q1 s3 rfl (ob_assign rfl (opd_int rfl)) fun _ _ s4 => ?_; clear s3
 refine wn hK3 ?_
 have s5 := s4.sub (u 0 rfl (u 1 rfl (u 5 rfl .nil))); clear s4
 have hj1 : ∀ (a : Act) (w : World), (cabalref19_Ready.j1 k) = some r → St ⟨42, w0, ok, []⟩ [] [] a w → K2 a w := by
  intro a6 w6 h1 s6
  unfold cabalref19_Ready.j1 at h1
  refine hK2 _ _ ?_
  refine wp_seq_k fun K4 hK4 => wp_region_lit ?_
  refine q1 s6 rfl (ob_assign rfl (opd_int rfl)) fun _ _ s7 => ?_; clear s6
  refine wn hK4 ?_
  have s8 := s7.sub (u 4 rfl .nil); clear s7
  refine wp_ret ?_
  obtain rfl := Option.some.inj h1
  exact leave s8 (.inl rfl) rfl (.cons (.tmp rfl) .nil)
 refine wp_block ?_
 refine wp_loop_fuel (fun m (q : Int) => cabalref19_Ready.l1 k p2 p1 m q) r (fun _ => rfl) (fun q a w => St ⟨42, w0, ok, []⟩ [] [(0, ((ksl k_api_Node).V p1)), (1, ((ksl k_api_Held).V p2)), (5, ((kint .i64).V q))] a w) ?_ k (0 : Int) _ _ h0 (s5.sub (.cons rfl (.cons rfl (.cons rfl .nil))))
 rintro n1 y1 a9 w9 h2 s9 K5 hK5
 replace h2 : cabalref19_Ready.l1 k p2 p1 (n1 + 1) y1 = some r := h2; rw [cabalref19_Ready.l1] at h2
 have h3 := h2; clear h2
 refine wp_seq_k fun K6 hK6 => wp_seq_k fun K7 hK7 => ?_
 refine wp_region_lit ?_
 refine q1 s9 rfl (mv rfl rfl) fun _ _ s10 => ?_; clear s9
 refine q1 s10 rfl (mv rfl rfl) fun _ _ s11 => ?_; clear s10
 refine q1 s11 rfl (ob_lens rfl Try.underlying85 (.tmp rfl)) fun _ _ s12 => ?_; clear s11
 refine q1 s12 rfl (ob_lss rfl (.tmp rfl) (.tmp rfl)) fun _ _ s13 => ?_; clear s12
 refine wn hK7 ?_
 have s14 := s13.sub (u 0 rfl (u 1 rfl (u 5 rfl (u 11 rfl .nil)))); clear s13
 refine cond_split s14 (.tmp rfl) (fun hc1 => ?_) (fun hc1 => ?_)
 ·have h4 := ite_t hc1 h3; clear h3
  refine wp_skip ?_
  refine then_normal (hK6 _ _ ?_)
  have s15 := s14.sub (u 0 rfl (u 1 rfl (u 5 rfl .nil))); clear s14
  refine wp_seq_k fun K8 hK8 => ?_
  have hj2 : ∀ (a : Act) (w : World), (cabalref19_Ready.j2 k y1 (cabalref19_Ready.l1 k p2 p1 n1)) = some r → St ⟨42, w0, ok, []⟩ [] [(0, ((ksl k_api_Node).V p1)), (1, ((ksl k_api_Held).V p2)), (5, ((kint .i64).V y1))] a w → K8 a w := by
   intro a16 w16 h5 s16
   unfold cabalref19_Ready.j2 at h5
   refine hK8 _ _ ?_
   refine wp_region_lit ?_
   refine q1 s16 rfl (mv rfl rfl) fun _ _ s17 => ?_; clear s16
   refine q1 s17 rfl (ob_add rfl (.tmp rfl) (opd_int rfl)) fun _ _ s18 => ?_; clear s17
   refine q1 s18 rfl (ob_assign rfl (.tmp rfl)) fun _ _ s19 => ?_; clear s18
   refine wpList_nil ?_
   refine then_normal ?_
   exact hK5 (iadd .i64 y1 (1 : Int)) _ _ h5 (s19.sub (.cons rfl (.cons rfl (.cons rfl .nil))))
  refine wp_block ?_
  refine wp_seq_k fun K9 hK9 => wp_region_lit ?_
  refine q1 s15 rfl (ob_assign rfl opd_bool) fun _ _ s20 => ?_; clear s15
  refine wn hK9 ?_
  have s21 := s20.sub (u 0 rfl (u 1 rfl (u 5 rfl (u 6 rfl .nil)))); clear s20
  refine wp_seq_k fun K10 hK10 => wp_seq_k fun K11 hK11 => ?_
  refine wp_region_lit ?_
  refine q1 s21 rfl (ob_assign rfl (opd_int rfl)) fun _ _ s22 => ?_; clear s21
  refine wn hK11 ?_
  have s23 := s22.sub (u 0 rfl (u 1 rfl (u 5 rfl (u 6 rfl (u 7 rfl .nil))))); clear s22
  have hj3 : ∀ (y2 : Bool) (a : Act) (w : World), (cabalref19_Ready.j3 k y1 (cabalref19_Ready.l1 k p2 p1 n1)) y2 = some r → St ⟨42, w0, ok, []⟩ [] [(0, ((ksl k_api_Node).V p1)), (1, ((ksl k_api_Held).V p2)), (5, ((kint .i64).V y1)), (6, (kbool.V y2))] a w → K10 a w := by
   intro y2 a24 w24 h6 s24
   unfold cabalref19_Ready.j3 at h6
   refine hK10 _ _ ?_
   refine wp_seq_k fun K12 hK12 => wp_region_lit ?_
   refine q1 s24 rfl (mv rfl rfl) fun _ _ s25 => ?_; clear s24
   refine wn hK12 ?_
   have s26 := s25.sub (u 0 rfl (u 1 rfl (u 5 rfl (u 40 rfl .nil)))); clear s25
   refine cond_split s26 (.tmp rfl) (fun hc2 => ?_) (fun hc2 => ?_)
   ·have h7 := ite_t hc2 h6; clear h6
    refine wp_seq_k fun K13 hK13 => wp_region_lit ?_
    refine q1 s26 rfl (mv rfl rfl) fun _ _ s27 => ?_; clear s26
    refine q1 s27 rfl (ob_assign rfl (.tmp rfl)) fun _ _ s28 => ?_; clear s27
    refine wn hK13 ?_
    have s29 := s28.sub (u 4 rfl .nil); clear s28
    refine wp_ret ?_
    obtain rfl := Option.some.inj h7
    exact leave s29 (.inl rfl) rfl (.cons (.tmp rfl) .nil)
   ·have h8 := ite_f hc2 h6; clear h6
    refine wp_skip ?_
    refine in_normal ?_
    refine then_normal ?_
    exact hj2 _ _ h8 (s26.sub (.cons rfl (.cons rfl (.cons rfl .nil))))
  refine wp_block ?_
  refine wp_loop_fuel (fun m (q : Bool × Int) => cabalref19_Ready.l2 k p2 y1 p1 (cabalref19_Ready.l1 k p2 p1 n1) m q.1 q.2) r (fun _ => rfl) (fun q a w => St ⟨42, w0, ok, []⟩ [] [(0, ((ksl k_api_Node).V p1)), (1, ((ksl k_api_Held).V p2)), (5, ((kint .i64).V y1)), (6, (kbool.V q.1)), (7, ((kint .i64).V q.2))] a w) ?_ k (true, (0 : Int)) _ _ h4 (s23.sub (.cons rfl (.cons rfl (.cons rfl (.cons rfl (.cons rfl .nil))))))
  rintro n2 ⟨y3, y4⟩ a30 w30 h9 s30 K14 hK14
  replace h9 : cabalref19_Ready.l2 k p2 y1 p1 (cabalref19_Ready.l1 k p2 p1 n1) (n2 + 1) y3 y4 = some r := h9; rw [cabalref19_Ready.l2] at h9
  have h10 := h9; clear h9
  refine wp_seq_k fun K15 hK15 => wp_seq_k fun K16 hK16 => ?_
  refine wp_region_lit ?_
  refine q1 s30 rfl (mv rfl rfl) fun _ _ s31 => ?_; clear s30
  refine q1 s31 rfl (mv rfl rfl) fun _ _ s32 => ?_; clear s31
  refine q1 s32 rfl (mv rfl rfl) fun _ _ s33 => ?_; clear s32
  obtain ⟨x1, e_x1, h11⟩ := bind_some h10; clear h10
  refine q1 s33 rfl (ob_indexAddrs rfl Try.underlying85 sz91 (.tmp rfl) (.tmp rfl) e_x1) fun _ _ s34 => ?_; clear s33
  refine q1 s34 rfl (ob_fieldAddrr rfl Try.underlying91 rfl sz44 (by decide) (.tmp rfl) (lg_api_Held_Op x1)) fun _ _ s35 => ?_; clear s34
  refine q1 s35 rfl (ob_fieldAddrr rfl Try.underlying44 rfl sz40 (by decide) (.tmp rfl) (lg_api_Op_Parents x1.Op)) fun _ _ s36 => ?_; clear s35
  refine q1 s36 rfl (ob_loadr rfl tk40 (.tmp rfl)) fun _ _ s37 => ?_; clear s36
  refine q1 s37 rfl (ob_lens rfl Try.underlying40 (.tmp rfl)) fun _ _ s38 => ?_; clear s37
  refine q1 s38 rfl (ob_lss rfl (.tmp rfl) (.tmp rfl)) fun _ _ s39 => ?_; clear s38
  refine wn hK16 ?_
  have s40 := s39.sub (u 0 rfl (u 1 rfl (u 5 rfl (u 6 rfl (u 7 rfl (u 22 rfl .nil)))))); clear s39
  refine cond_split s40 (.tmp rfl) (fun hc3 => ?_) (fun hc3 => ?_)
  ·have h12 := ite_t hc3 h11; clear h11
   refine wp_skip ?_
   refine then_normal (hK15 _ _ ?_)
   have s41 := s40.sub (u 0 rfl (u 1 rfl (u 5 rfl (u 6 rfl (u 7 rfl .nil))))); clear s40
   refine wp_seq_k fun K17 hK17 => wp_block ?_
   refine wp_region_lit ?_
   refine q1 s41 rfl (mv rfl rfl) fun _ _ s42 => ?_; clear s41
   refine q1 s42 rfl (mv rfl rfl) fun _ _ s43 => ?_; clear s42
   refine qg s43 rfl rfl rfl rfl (fun hb => ob_move rfl (.tmp rfl)) fun _ _ s44 => ?_; clear s43
   refine qg s44 rfl rfl rfl rfl (fun hb => ob_move rfl (.tmp rfl)) fun _ _ s45 => ?_; clear s44
   refine qg s45 rfl rfl rfl rfl (fun hb => ob_move rfl (.tmp rfl)) fun _ _ s46 => ?_; clear s45
   obtain ⟨x2, e_x2, h13⟩ := bind_some h12; clear h12
   refine qg s46 rfl rfl rfl rfl (fun hb => (Ob.uncond (t := 29) hb rfl ((Ob.uncond (t := 28) hb rfl (ob_indexAddrs rfl Try.underlying85 sz91 (.tmp rfl) (.tmp rfl) (ite_t hb e_x2)))))) fun _ _ s47 => ?_; clear s46
   refine qg s47 rfl rfl rfl rfl (fun hb => (Ob.uncond (t := 30) hb rfl (ob_fieldAddrr rfl Try.underlying91 rfl sz44 (by decide) (.tmp rfl) (lg_api_Held_Op x2)))) fun _ _ s48 => ?_; clear s47
   refine qg s48 rfl rfl rfl rfl (fun hb => (Ob.uncond (t := 31) hb rfl (ob_fieldAddrr rfl Try.underlying44 rfl sz40 (by decide) (.tmp rfl) (lg_api_Op_Parents x2.Op)))) fun _ _ s49 => ?_; clear s48
   refine qg s49 rfl rfl rfl rfl (fun hb => (Ob.uncond (t := 32) hb rfl (ob_loadr rfl tk40 (.tmp rfl)))) fun _ _ s50 => ?_; clear s49
   refine qg s50 rfl rfl rfl rfl (fun hb => ob_move rfl (.tmp rfl)) fun _ _ s51 => ?_; clear s50
   obtain ⟨x3, e_x3, h14⟩ := bind_some h13; clear h13
   refine qg s51 rfl rfl rfl rfl (fun hb => (Ob.uncond (t := 34) hb rfl ((Ob.uncond (t := 33) hb rfl (ob_indexAddrs rfl Try.underlying40 sz39 (.tmp rfl) (.tmp rfl) (ite_t hb e_x3)))))) fun _ _ s52 => ?_; clear s51
   refine qg s52 rfl rfl rfl rfl (fun hb => (Ob.uncond (t := 35) hb rfl (ob_loadr rfl tk39 (.tmp rfl)))) fun _ _ s53 => ?_; clear s52
   obtain ⟨x4, e_x4, h15⟩ := bind_some h14; clear h14
   refine qg s53 rfl rfl rfl rfl (fun hb => (Ob.uncond (t := 36) hb rfl ((Ob.uncond (t := 27) hb rfl (ob_callD (args := [_, _]) rfl .direct hb56 (fun a w s fs gs hf hg => by obtain rfl := hf.unnil; obtain rfl := hg.unnil; exact c_cabalref15_Find k _ _ _ (ite_t hb e_x4) _ _ _ _ (s.arg (.tmp rfl)) (s.arg (.tmp rfl)))))))) fun _ _ s54 => ?_; clear s53
   refine qg s54 rfl rfl rfl rfl (fun hb => (Ob.uncond (t := 37) hb rfl (ob_geq rfl (.tmp rfl) (opd_int rfl)))) fun _ _ s55 => ?_; clear s54
   refine q1 s55 rfl (ob_and2 rfl (.tmp rfl) (.tmp rfl) opd_bool) fun _ _ s56 => ?_; clear s55
   refine q1 s56 rfl (ob_assign rfl (.tmp rfl)) fun _ _ s57 => ?_; clear s56
   refine wpList_nil ?_
   refine in_normal ?_
   refine then_normal (hK17 _ _ ?_)
   have s58 := s57.sub (u 0 rfl (u 1 rfl (u 5 rfl (u 6 rfl (u 7 rfl .nil))))); clear s57
   refine wp_region_lit ?_
   refine q1 s58 rfl (mv rfl rfl) fun _ _ s59 => ?_; clear s58
   refine q1 s59 rfl (ob_add rfl (.tmp rfl) (opd_int rfl)) fun _ _ s60 => ?_; clear s59
   refine q1 s60 rfl (ob_assign rfl (.tmp rfl)) fun _ _ s61 => ?_; clear s60
   refine wpList_nil ?_
   refine then_normal ?_
   exact hK14 ((if y3 then (decide (x4 ≥ (0 : Int))) else false), (iadd .i64 y4 (1 : Int))) _ _ h15 (s61.sub (.cons rfl (.cons rfl (.cons rfl (.cons rfl (.cons rfl .nil))))))
  ·have h16 := ite_f hc3 h11; clear h11
   refine wp_exit ?_
   refine (then_exit (then_exit (in_here ?_)))
   refine then_normal ?_
   exact hj3 y3 _ _ h16 (s40.sub (.cons rfl (.cons rfl (.cons rfl (.cons rfl .nil)))))
 ·have h17 := ite_f hc1 h3; clear h3
  refine wp_exit ?_
  refine (then_exit (then_exit (in_here ?_)))
  refine then_normal ?_
  exact hj1 _ _ h17 (s14.sub .nil)

/- 116 cabal/cabalref19.put -/
theorem c_cabalref19_put (k : Nat) (p1 : (List (List Int))) (p2 : (List Int)) (r : (List (List Int))) (h0 : cabalref19_put k p1 p2 = some r) (ok : Ok) (w0 : World) (z0 : Value) (z1 : Value) (u0 : ((ksl (karr 32 (kint .u8))).V p1).holds ok w0 z0) (u1 : ((karr 32 (kint .u8)).V p2).holds ok w0 z1) :
 Gives Try.prog 116 [z0, z1] ok w0 (resFact [(ksl (karr 32 (kint .u8))).V r]) := by
 unfold cabalref19_put at h0
 refine enter (N := 48) Try.func116 rfl rfl (of_decide_eq_true rfl) (.cons u0 (.cons u1 .nil)) fun a1 s1 => ?_
 refine wp_seq_k fun K1 hK1 => wp_region_lit ?_
 refine qx (B' := (fun b1 : Nat => [BF b1 39 (karr 32 (kint .u8)) p2])) s1 rfl (ob_box rfl (.tmp rfl)) fun b1 _ _ s2 => ?_; clear s1
 refine q1 s2 rfl (ob_assign rfl opd_is) fun _ _ s3 => ?_; clear s2
 have s4 := St.adopt s3 (G := RowF (nilRow 29) 39 (karr 32 (kint .u8)) []) rfl (rowNilN _ _ _ _ _); clear s3
 refine wn hK1 ?_
 have s5 := s4.sub (u 0 rfl (u 3 rfl .nil)); clear s4
 have s6 := St.drop (A := []) s5; clear s5
 refine wp_seq_k fun K2 hK2 => wp_region_lit ?_
 refine q1 s6 rfl (ob_assign rfl (opd_int rfl)) fun _ _ s7 => ?_; clear s6
 refine wn hK2 ?_
 have s8 := s7.sub (u 0 rfl (u 3 rfl (u 5 rfl .nil))); clear s7
 refine wp_seq_k fun K3 hK3 => ?_
 have hj1 : ∀ (y1 : Int) (a : Act) (w : World), (cabalref19_put.j1 k p1 p2) y1 = some r → St ⟨48, w0, ok, []⟩ [BF b1 39 (karr 32 (kint .u8)) p2] [(0, ((ksl (karr 32 (kint .u8))).V p1)), (3, (ptrB b1 0)), (5, ((kint .i64).V y1))] a w → K3 a w := by
  intro y1 a9 w9 h1 s9
  unfold cabalref19_put.j1 at h1
  refine hK3 _ _ ?_
  refine wp_seq_k fun K4 hK4 => wp_seq_k fun K5 hK5 => ?_
  obtain ⟨x1, e_x1, h2⟩ := bind_some h1; clear h1
  refine wp_goes (Fs := [((kint .i64).V y1), ((ksl (karr 32 (kint .u8))).V p1), ((kint .i64).V (p1.length : Int)), (kbool.V (decide (y1 < (p1.length : Int)))), (kbool.V (decide (y1 < (p1.length : Int)))), (Fact.when ((decide (y1 < (p1.length : Int))) == true) ((ksl (karr 32 (kint .u8))).V p1)), (Fact.when ((decide (y1 < (p1.length : Int))) == true) ((kint .i64).V y1)), (Fact.when ((decide (y1 < (p1.length : Int))) == true) (ptrTo (karr 32 (kint .u8)) x1)), (Fact.when ((decide (y1 < (p1.length : Int))) == true) ((karr 32 (kint .u8)).V x1)), (Fact.when ((decide (y1 < (p1.length : Int))) == true) ((karr 32 (kint .u8)).V p2))]) (bits := [0, 0, 2, 7, 15, 31, 31, 127, 255, 31, 1023, 2047]) (m := 10) (todo := 0) mx s9 ?_; clear s9
  refine goes_last (by kernel_rfl) rfl (oc (av 5 rfl rfl Av.nil) rfl rfl (mv rfl rfl) (oc (av 0 rfl rfl Av.nil) rfl rfl (mv rfl rfl) (oc (an 1 rfl rfl rfl Av.nil) rfl rfl (ob_lens rfl Try.underlying40 (.tmp rfl)) (oc (an 0 rfl rfl rfl (an 2 rfl rfl rfl Av.nil)) rfl rfl (ob_lss rfl (.tmp rfl) (.tmp rfl)) (oc (an 3 rfl rfl rfl Av.nil) rfl rfl (mv rfl rfl) (opsS_cons (.guarded _ (av 0 rfl rfl (an 4 rfl rfl rfl Av.nil)) rfl rfl rfl rfl (fun hb => ob_move rfl (.tmp rfl))) (opsS_cons (.guarded _ (av 5 rfl rfl (an 4 rfl rfl rfl Av.nil)) rfl rfl rfl rfl (fun hb => ob_move rfl (.tmp rfl))) (opsS_cons (.guarded _ (an 4 rfl rfl rfl (an 5 rfl rfl rfl (an 6 rfl rfl rfl Av.nil))) rfl rfl rfl rfl (fun hb => (Ob.uncond (t := 27) hb rfl ((Ob.uncond (t := 26) hb rfl (ob_indexAddrs rfl Try.underlying40 sz39 (.tmp rfl) (.tmp rfl) (ite_t hb e_x1))))))) (opsS_cons (.guarded _ (an 4 rfl rfl rfl (an 7 rfl rfl rfl Av.nil)) rfl rfl rfl rfl (fun hb => (Ob.uncond (t := 28) hb rfl (ob_loadr rfl tk39 (.tmp rfl))))) (opsS_cons (.guarded _ (av 3 rfl rfl (an 4 rfl rfl rfl Av.nil)) rfl rfl rfl rfl (fun hb => ob_load rfl tk39 (.tmp rfl) (.head _) (LG.refl _ _))) opsS_nil)))))))))) (out_old (t := 0) rfl rfl (out_old (t := 3) rfl rfl (out_old (t := 5) rfl rfl (out_new (i := 4) (by decide) rfl rfl (out_new (i := 8) (by decide) rfl rfl (out_new (i := 9) (by decide) rfl rfl out_nil)))))) fun _ _ s10 => ?_
  refine qg s10 rfl rfl rfl rfl (fun hb => (Ob.uncond (t := 30) hb rfl ((Ob.uncond (t := 29) hb rfl (ob_eqAgg rfl rfl (by kernel_rfl) eq39 (by decide) (.tmp rfl) (.tmp rfl)))))) fun _ _ s11 => ?_; clear s10
  obtain ⟨x2, e_x2, h3⟩ := bind_some h2; clear h2; replace e_x2 := Option.some.inj e_x2
  refine q1 s11 rfl ((ob_and2 rfl (.tmp rfl) (.tmp rfl) opd_bool).nm e_x2) fun _ _ s12 => ?_; clear s11
  refine wn hK5 ?_
  have s13 := s12.sub (u 0 rfl (u 3 rfl (u 5 rfl (u 32 rfl .nil)))); clear s12
  refine cond_split s13 (.tmp rfl) (fun hc1 => ?_) (fun hc1 => ?_)
  ·have h4 := ite_t hc1 h3; clear h3
   refine wp_seq_k fun K6 hK6 => wp_region_lit ?_
   refine q1 s13 rfl (mv rfl rfl) fun _ _ s14 => ?_; clear s13
   refine q1 s14 rfl (ob_assign rfl (.tmp rfl)) fun _ _ s15 => ?_; clear s14
   refine wn hK6 ?_
   have s16 := s15.sub (u 4 rfl .nil); clear s15
   have s17 := St.drop (A := []) s16; clear s16
   refine wp_ret ?_
   obtain rfl := Option.some.inj h4
   exact leave s17 (.inl rfl) rfl (.cons (.tmp rfl) .nil)
  ·have h5 := ite_f hc1 h3; clear h3
   refine wp_skip ?_
   refine then_normal (hK4 _ _ ?_)
   have s18 := s13.sub (u 0 rfl (u 3 rfl (u 5 rfl .nil))); clear s13
   refine wp_seq_k fun K7 hK7 => wp_region_lit ?_
   refine q1 s18 rfl (ob_assign rfl opd_is) fun _ _ s19 => ?_; clear s18
   have s20 := St.adopt s19 (G := RowF (nilRow 30) 39 (karr 32 (kint .u8)) []) rfl (rowNilN _ _ _ _ _); clear s19
   refine wn hK7 ?_
   have s21 := s20.sub (u 0 rfl (u 3 rfl (u 5 rfl (u 6 rfl .nil)))); clear s20
   refine wp_seq_k fun K8 hK8 => wp_region_lit ?_
   refine q1 s21 rfl (mv rfl rfl) fun _ _ s22 => ?_; clear s21
   refine q1 s22 rfl (mv rfl rfl) fun _ _ s23 => ?_; clear s22
   refine q1 s23 rfl (mv rfl rfl) fun _ _ s24 => ?_; clear s23
   obtain ⟨x3, e_x3, h6⟩ := bind_some h5; clear h5
   refine q1 s24 rfl (ob_cuts rfl Try.underlying40 sz39 (.tmp rfl) .none (.some (.tmp rfl)) e_x3) fun _ _ s25 => ?_; clear s24
   obtain ⟨g1, h7⟩ := guard_some h6; clear h6
   refine qx (B' := (fun v1 : Value => [RowF v1 39 (karr 32 (kint .u8)) (([] : (List (List Int))) ++ x3), BF b1 39 (karr 32 (kint .u8)) p2])) s25 rfl (ob_appendL2 (A := []) rfl Try.underlying40 ap39 (Zr.arr 32 (Zr.int .u8)) (by decide) (.tmp rfl) (.tmp rfl) rfl g1) fun v1 _ _ s26 => ?_; clear s25
   refine q1 s26 rfl (ob_assign rfl (.tmp rfl)) fun _ _ s27 => ?_; clear s26
   refine wn hK8 ?_
   have s28 := s27.sub (u 0 rfl (u 3 rfl (u 5 rfl (u 6 rfl .nil)))); clear s27
   refine wp_seq_k fun K9 hK9 => wp_region_lit ?_
   refine q1 s28 rfl (mv rfl rfl) fun _ _ s29 => ?_; clear s28
   refine q1 s29 rfl (ob_load rfl tk39 (.tmp rfl) (.tail _ (.head _)) (LG.refl _ _)) fun _ _ s30 => ?_; clear s29
   refine q1 s30 rfl (ob_mkSlice (k := (karr 32 (kint .u8))) (xs := ([p2] : (List (List Int)))) rfl Try.underlying40 zz39 sz39 (Zr.arr 32 (Zr.int .u8)) (by decide) (by decide) (.cons (.tmp rfl) rfl (LS.arr' (i := 0) (ys := ([p2] : (List (List Int)))) (by simp) (by rfl)) (.nil _))) fun _ _ s31 => ?_; clear s30
   obtain ⟨g2, h8⟩ := guard_some h7; clear h7
   refine qx (B' := (fun v2 : Value => [RowF v2 39 (karr 32 (kint .u8)) ((([] : (List (List Int))) ++ x3) ++ ([p2] : (List (List Int)))), BF b1 39 (karr 32 (kint .u8)) p2])) s31 rfl (ob_appendL2 (A := []) rfl Try.underlying40 ap39 (Zr.arr 32 (Zr.int .u8)) (by decide) (.tmp rfl) (.tmp rfl) rfl g2) fun v2 _ _ s32 => ?_; clear s31
   refine q1 s32 rfl (ob_assign rfl (.tmp rfl)) fun _ _ s33 => ?_; clear s32
   refine wn hK9 ?_
   have s34 := s33.sub (u 0 rfl (u 5 rfl (u 6 rfl .nil))); clear s33
   have s35 := St.drop (A := [_]) s34; clear s34
   refine wp_seq_k fun K10 hK10 => wp_region_lit ?_
   refine q1 s35 rfl (mv rfl rfl) fun _ _ s36 => ?_; clear s35
   refine q1 s36 rfl (mv rfl rfl) fun _ _ s37 => ?_; clear s36
   refine q1 s37 rfl (mv rfl rfl) fun _ _ s38 => ?_; clear s37
   obtain ⟨x4, e_x4, h9⟩ := bind_some h8; clear h8
   refine q1 s38 rfl (ob_cuts rfl Try.underlying40 sz39 (.tmp rfl) (.some (.tmp rfl)) .none e_x4) fun _ _ s39 => ?_; clear s38
   obtain ⟨g3, h10⟩ := guard_some h9; clear h9
   refine qx (B' := (fun v3 : Value => [RowF v3 39 (karr 32 (kint .u8)) (((([] : (List (List Int))) ++ x3) ++ ([p2] : (List (List Int)))) ++ x4)])) s39 rfl (ob_appendL2 (A := []) rfl Try.underlying40 ap39 (Zr.arr 32 (Zr.int .u8)) (by decide) (.tmp rfl) (.tmp rfl) rfl g3) fun v3 _ _ s40 => ?_; clear s39
   refine q1 s40 rfl (ob_assign rfl (.tmp rfl)) fun _ _ s41 => ?_; clear s40
   refine wn hK10 ?_
   have s42 := s41.sub (u 4 rfl .nil); clear s41
   refine wp_ret ?_
   have s43 := St.freezeAllM (A := []) s42 (ts := [4]) (.cons rfl .nil); clear s42
   obtain rfl := Option.some.inj h10
   exact leave s43 (.inl rfl) rfl (.cons (.tmp rfl) .nil)
 refine wp_block ?_
 refine wp_loop_fuel (fun m (q : Int) => cabalref19_put.l1 k p1 p2 m q) r (fun _ => rfl) (fun q a w => St ⟨48, w0, ok, []⟩ [BF b1 39 (karr 32 (kint .u8)) p2] [(0, ((ksl (karr 32 (kint .u8))).V p1)), (3, (ptrB b1 0)), (5, ((kint .i64).V q))] a w) ?_ k (0 : Int) _ _ h0 (s8.sub (.cons rfl (.cons rfl (.cons rfl .nil))))
 rintro n1 y2 a44 w44 h11 s44 K11 hK11
 replace h11 : cabalref19_put.l1 k p1 p2 (n1 + 1) y2 = some r := h11; rw [cabalref19_put.l1] at h11
 have h12 := h11; clear h11
 refine wp_seq_k fun K12 hK12 => wp_seq_k fun K13 hK13 => ?_
 obtain ⟨x5, e_x5, h13⟩ := bind_some h12; clear h12
 refine wp_goes (Fs := [((kint .i64).V y2), ((ksl (karr 32 (kint .u8))).V p1), ((kint .i64).V (p1.length : Int)), (kbool.V (decide (y2 < (p1.length : Int)))), (kbool.V (decide (y2 < (p1.length : Int)))), (Fact.when ((decide (y2 < (p1.length : Int))) == true) ((ksl (karr 32 (kint .u8))).V p1)), (Fact.when ((decide (y2 < (p1.length : Int))) == true) ((kint .i64).V y2)), (Fact.when ((decide (y2 < (p1.length : Int))) == true) (ptrTo (karr 32 (kint .u8)) x5)), (Fact.when ((decide (y2 < (p1.length : Int))) == true) ((karr 32 (kint .u8)).V x5)), (Fact.when ((decide (y2 < (p1.length : Int))) == true) ((karr 32 (kint .u8)).V p2))]) (bits := [0, 0, 2, 7, 15, 31, 31, 127, 255, 31, 1023, 2047]) (m := 10) (todo := 0) mx s44 ?_; clear s44
 refine goes_last (by kernel_rfl) rfl (oc (av 5 rfl rfl Av.nil) rfl rfl (mv rfl rfl) (oc (av 0 rfl rfl Av.nil) rfl rfl (mv rfl rfl) (oc (an 1 rfl rfl rfl Av.nil) rfl rfl (ob_lens rfl Try.underlying40 (.tmp rfl)) (oc (an 0 rfl rfl rfl (an 2 rfl rfl rfl Av.nil)) rfl rfl (ob_lss rfl (.tmp rfl) (.tmp rfl)) (oc (an 3 rfl rfl rfl Av.nil) rfl rfl (mv rfl rfl) (opsS_cons (.guarded _ (av 0 rfl rfl (an 4 rfl rfl rfl Av.nil)) rfl rfl rfl rfl (fun hb => ob_move rfl (.tmp rfl))) (opsS_cons (.guarded _ (av 5 rfl rfl (an 4 rfl rfl rfl Av.nil)) rfl rfl rfl rfl (fun hb => ob_move rfl (.tmp rfl))) (opsS_cons (.guarded _ (an 4 rfl rfl rfl (an 5 rfl rfl rfl (an 6 rfl rfl rfl Av.nil))) rfl rfl rfl rfl (fun hb => (Ob.uncond (t := 13) hb rfl ((Ob.uncond (t := 12) hb rfl (ob_indexAddrs rfl Try.underlying40 sz39 (.tmp rfl) (.tmp rfl) (ite_t hb e_x5))))))) (opsS_cons (.guarded _ (an 4 rfl rfl rfl (an 7 rfl rfl rfl Av.nil)) rfl rfl rfl rfl (fun hb => (Ob.uncond (t := 14) hb rfl (ob_loadr rfl tk39 (.tmp rfl))))) (opsS_cons (.guarded _ (av 3 rfl rfl (an 4 rfl rfl rfl Av.nil)) rfl rfl rfl rfl (fun hb => ob_load rfl tk39 (.tmp rfl) (.head _) (LG.refl _ _))) opsS_nil)))))))))) (out_old (t := 0) rfl rfl (out_old (t := 3) rfl rfl (out_old (t := 5) rfl rfl (out_new (i := 4) (by decide) rfl rfl (out_new (i := 8) (by decide) rfl rfl (out_new (i := 9) (by decide) rfl rfl out_nil)))))) fun _ _ s45 => ?_
 obtain ⟨x6, e_x6, h14⟩ := bind_some h13; clear h13
 refine qg s45 rfl rfl rfl rfl (fun hb => (Ob.uncond (t := 16) hb rfl ((Ob.uncond (t := 15) hb rfl (ob_callD (args := [_, _]) rfl .direct hb108 (fun a w s fs gs hf hg => by obtain rfl := hf.unnil; obtain rfl := hg.unnil; exact c_cabalref11_Less k _ _ _ (ite_t hb e_x6) _ _ _ _ (s.arg (.tmp rfl)) (s.arg (.tmp rfl)))))))) fun _ _ s46 => ?_; clear s45
 refine q1 s46 rfl (ob_and2 rfl (.tmp rfl) (.tmp rfl) opd_bool) fun _ _ s47 => ?_; clear s46
 refine wn hK13 ?_
 have s48 := s47.sub (u 0 rfl (u 3 rfl (u 5 rfl (u 18 rfl .nil)))); clear s47
 refine cond_split s48 (.tmp rfl) (fun hc2 => ?_) (fun hc2 => ?_)
 ·have h15 := ite_t hc2 h14; clear h14
  refine wp_skip ?_
  refine then_normal (hK12 _ _ ?_)
  have s49 := s48.sub (u 0 rfl (u 3 rfl (u 5 rfl .nil))); clear s48
  refine wp_block ?_
  refine wp_region_lit ?_
  refine q1 s49 rfl (mv rfl rfl) fun _ _ s50 => ?_; clear s49
  refine q1 s50 rfl (ob_add rfl (.tmp rfl) (opd_int rfl)) fun _ _ s51 => ?_; clear s50
  refine q1 s51 rfl (ob_assign rfl (.tmp rfl)) fun _ _ s52 => ?_; clear s51
  refine wpList_nil ?_
  refine in_normal ?_
  refine then_normal ?_
  exact hK11 (iadd .i64 y2 (1 : Int)) _ _ h15 (s52.sub (.cons rfl (.cons rfl (.cons rfl .nil))))
 ·have h16 := ite_f hc2 h14; clear h14
  refine wp_exit ?_
  refine (then_exit (then_exit (in_here ?_)))
  refine then_normal ?_
  exact hj1 y2 _ _ h16 (s48.sub (.cons rfl (.cons rfl (.cons rfl .nil))))

/- 65 cabal/cabalref19.Wanted -/
theorem c_cabalref19_Wanted (k : Nat) (p1 : (List api_Node)) (p2 : (List api_Held)) (r : (List (List Int))) (h0 : cabalref19_Wanted k p1 p2 = some r) (ok : Ok) (w0 : World) (z0 : Value) (z1 : Value) (u0 : ((ksl k_api_Node).V p1).holds ok w0 z0) (u1 : ((ksl k_api_Held).V p2).holds ok w0 z1) :
 Gives Try.prog 65 [z0, z1] ok w0 (resFact [(ksl (karr 32 (kint .u8))).V r]) := by
 unfold cabalref19_Wanted at h0
 refine enter (N := 49) Try.func65 rfl rfl (of_decide_eq_true rfl) (.cons u0 (.cons u1 .nil)) fun a1 s1 => ?_
 refine wp_seq_k fun K1 hK1 => wp_region_lit ?_
 refine q1 s1 rfl (ob_assign rfl opd_is) fun _ _ s2 => ?_; clear s1
 have s3 := St.adopt s2 (G := RowF (nilRow 27) 39 (karr 32 (kint .u8)) []) rfl (rowNilN _ _ _ _ _); clear s2
 refine wn hK1 ?_
 have s4 := s3.sub (u 0 rfl (u 1 rfl .nil)); clear s3
 have s5 := St.drop (A := []) s4; clear s4
 refine wp_seq_k fun K2 hK2 => wp_region_lit ?_
 refine q1 s5 rfl (ob_assign rfl opd_is) fun _ _ s6 => ?_; clear s5
 have s7 := St.adopt s6 (G := RowF (nilRow 28) 39 (karr 32 (kint .u8)) []) rfl (rowNilN _ _ _ _ _); clear s6
 refine wn hK2 ?_
 have s8 := s7.sub (u 0 rfl (u 1 rfl (u 5 rfl .nil))); clear s7
 refine wp_seq_k fun K3 hK3 => wp_seq_k fun K4 hK4 => ?_
 refine wp_region_lit ?_
 refine q1 s8 rfl (ob_assign rfl (opd_int rfl)) fun _ _ s9 => ?_; clear s8
 refine wn hK4 ?_
 have s10 := s9.sub (u 0 rfl (u 1 rfl (u 5 rfl (u 6 rfl .nil)))); clear s9
 have hj1 : ∀ (y1 : (List (List Int))) (a : Act) (w : World), (cabalref19_Wanted.j1 k) y1 = some r → St ⟨49, w0, ok, []⟩ [] [(5, ((ksl (karr 32 (kint .u8))).V y1))] a w → K3 a w := by
  intro y1 a11 w11 h1 s11
  unfold cabalref19_Wanted.j1 at h1
  refine hK3 _ _ ?_
  refine wp_seq_k fun K5 hK5 => wp_region_lit ?_
  refine q1 s11 rfl (mv rfl rfl) fun _ _ s12 => ?_; clear s11
  refine q1 s12 rfl (ob_assign rfl (.tmp rfl)) fun _ _ s13 => ?_; clear s12
  refine wn hK5 ?_
  have s14 := s13.sub (u 4 rfl .nil); clear s13
  refine wp_ret ?_
  obtain rfl := Option.some.inj h1
  exact leave s14 (.inl rfl) rfl (.cons (.tmp rfl) .nil)
 refine wp_block ?_
 have s15 := St.freezeAllM (A := []) s10 (ts := [5]) (.cons rfl .nil); clear s10
 refine wp_loop_fuel (fun m (q : (List (List Int)) × Int) => cabalref19_Wanted.l1 k p2 p1 m q.1 q.2) r (fun _ => rfl) (fun q a w => St ⟨49, w0, ok, []⟩ [] [(0, ((ksl k_api_Node).V p1)), (1, ((ksl k_api_Held).V p2)), (5, ((ksl (karr 32 (kint .u8))).V q.1)), (6, ((kint .i64).V q.2))] a w) ?_ k (([] : (List (List Int))), (0 : Int)) _ _ h0 (s15.sub (.cons rfl (.cons rfl (.cons rfl (.cons rfl .nil)))))
 rintro n1 ⟨y2, y3⟩ a16 w16 h2 s16 K6 hK6
 replace h2 : cabalref19_Wanted.l1 k p2 p1 (n1 + 1) y2 y3 = some r := h2; rw [cabalref19_Wanted.l1] at h2
 have h3 := h2; clear h2
 refine wp_seq_k fun K7 hK7 => wp_seq_k fun K8 hK8 => ?_
 refine wp_region_lit ?_
 refine q1 s16 rfl (mv rfl rfl) fun _ _ s17 => ?_; clear s16
 refine q1 s17 rfl (mv rfl rfl) fun _ _ s18 => ?_; clear s17
 refine q1 s18 rfl (ob_lens rfl Try.underlying85 (.tmp rfl)) fun _ _ s19 => ?_; clear s18
 refine q1 s19 rfl (ob_lss rfl (.tmp rfl) (.tmp rfl)) fun _ _ s20 => ?_; clear s19
 refine wn hK8 ?_
 have s21 := s20.sub (u 0 rfl (u 1 rfl (u 5 rfl (u 6 rfl (u 12 rfl .nil))))); clear s20
 refine cond_split s21 (.tmp rfl) (fun hc1 => ?_) (fun hc1 => ?_)
 ·have h4 := ite_t hc1 h3; clear h3
  refine wp_skip ?_
  refine then_normal (hK7 _ _ ?_)
  have s22 := s21.sub (u 0 rfl (u 1 rfl (u 5 rfl (u 6 rfl .nil)))); clear s21
  refine wp_seq_k fun K9 hK9 => ?_
  have hj2 : ∀ (y4 : (List (List Int))) (a : Act) (w : World), (cabalref19_Wanted.j2 k y3 (cabalref19_Wanted.l1 k p2 p1 n1)) y4 = some r → St ⟨49, w0, ok, []⟩ [] [(0, ((ksl k_api_Node).V p1)), (1, ((ksl k_api_Held).V p2)), (5, ((ksl (karr 32 (kint .u8))).V y4)), (6, ((kint .i64).V y3))] a w → K9 a w := by
   intro y4 a23 w23 h5 s23
   unfold cabalref19_Wanted.j2 at h5
   refine hK9 _ _ ?_
   refine wp_region_lit ?_
   refine q1 s23 rfl (mv rfl rfl) fun _ _ s24 => ?_; clear s23
   refine q1 s24 rfl (ob_add rfl (.tmp rfl) (opd_int rfl)) fun _ _ s25 => ?_; clear s24
   refine q1 s25 rfl (ob_assign rfl (.tmp rfl)) fun _ _ s26 => ?_; clear s25
   refine wpList_nil ?_
   refine then_normal ?_
   exact hK6 (y4, (iadd .i64 y3 (1 : Int))) _ _ h5 (s26.sub (.cons rfl (.cons rfl (.cons rfl (.cons rfl .nil)))))
  refine wp_block ?_
  refine wp_seq_k fun K10 hK10 => wp_region_lit ?_
  refine q1 s22 rfl (ob_assign rfl (opd_int rfl)) fun _ _ s27 => ?_; clear s22
  refine wn hK10 ?_
  have s28 := s27.sub (u 0 rfl (u 1 rfl (u 5 rfl (u 6 rfl (u 7 rfl .nil))))); clear s27
  refine wp_block ?_
  refine wp_loop_fuel (fun m (q : (List (List Int)) × Int) => cabalref19_Wanted.l2 k p2 y3 p1 (cabalref19_Wanted.l1 k p2 p1 n1) m q.1 q.2) r (fun _ => rfl) (fun q a w => St ⟨49, w0, ok, []⟩ [] [(0, ((ksl k_api_Node).V p1)), (1, ((ksl k_api_Held).V p2)), (5, ((ksl (karr 32 (kint .u8))).V q.1)), (6, ((kint .i64).V y3)), (7, ((kint .i64).V q.2))] a w) ?_ k (y2, (0 : Int)) _ _ h4 (s28.sub (.cons rfl (.cons rfl (.cons rfl (.cons rfl (.cons rfl .nil))))))
  rintro n2 ⟨y5, y6⟩ a29 w29 h6 s29 K11 hK11
  replace h6 : cabalref19_Wanted.l2 k p2 y3 p1 (cabalref19_Wanted.l1 k p2 p1 n1) (n2 + 1) y5 y6 = some r := h6; rw [cabalref19_Wanted.l2] at h6
  have h7 := h6; clear h6
  refine wp_seq_k fun K12 hK12 => wp_seq_k fun K13 hK13 => ?_
  refine wp_region_lit ?_
  refine q1 s29 rfl (mv rfl rfl) fun _ _ s30 => ?_; clear s29
  refine q1 s30 rfl (mv rfl rfl) fun _ _ s31 => ?_; clear s30
  refine q1 s31 rfl (mv rfl rfl) fun _ _ s32 => ?_; clear s31
  obtain ⟨x1, e_x1, h8⟩ := bind_some h7; clear h7
  refine q1 s32 rfl (ob_indexAddrs rfl Try.underlying85 sz91 (.tmp rfl) (.tmp rfl) e_x1) fun _ _ s33 => ?_; clear s32
  refine q1 s33 rfl (ob_fieldAddrr rfl Try.underlying91 rfl sz44 (by decide) (.tmp rfl) (lg_api_Held_Op x1)) fun _ _ s34 => ?_; clear s33
  refine q1 s34 rfl (ob_fieldAddrr rfl Try.underlying44 rfl sz40 (by decide) (.tmp rfl) (lg_api_Op_Parents x1.Op)) fun _ _ s35 => ?_; clear s34
  refine q1 s35 rfl (ob_loadr rfl tk40 (.tmp rfl)) fun _ _ s36 => ?_; clear s35
  refine q1 s36 rfl (ob_lens rfl Try.underlying40 (.tmp rfl)) fun _ _ s37 => ?_; clear s36
  refine q1 s37 rfl (ob_lss rfl (.tmp rfl) (.tmp rfl)) fun _ _ s38 => ?_; clear s37
  refine wn hK13 ?_
  have s39 := s38.sub (u 0 rfl (u 1 rfl (u 5 rfl (u 6 rfl (u 7 rfl (u 23 rfl .nil)))))); clear s38
  refine cond_split s39 (.tmp rfl) (fun hc2 => ?_) (fun hc2 => ?_)
  ·have h9 := ite_t hc2 h8; clear h8
   refine wp_skip ?_
   refine then_normal (hK12 _ _ ?_)
   have s40 := s39.sub (u 0 rfl (u 1 rfl (u 5 rfl (u 6 rfl (u 7 rfl .nil))))); clear s39
   refine wp_seq_k fun K14 hK14 => ?_
   have hj3 : ∀ (y7 : (List (List Int))) (a : Act) (w : World), (cabalref19_Wanted.j3 k y6 (cabalref19_Wanted.l2 k p2 y3 p1 (cabalref19_Wanted.l1 k p2 p1 n1) n2)) y7 = some r → St ⟨49, w0, ok, []⟩ [] [(0, ((ksl k_api_Node).V p1)), (1, ((ksl k_api_Held).V p2)), (5, ((ksl (karr 32 (kint .u8))).V y7)), (6, ((kint .i64).V y3)), (7, ((kint .i64).V y6))] a w → K14 a w := by
    intro y7 a41 w41 h10 s41
    unfold cabalref19_Wanted.j3 at h10
    refine hK14 _ _ ?_
    refine wp_region_lit ?_
    refine q1 s41 rfl (mv rfl rfl) fun _ _ s42 => ?_; clear s41
    refine q1 s42 rfl (ob_add rfl (.tmp rfl) (opd_int rfl)) fun _ _ s43 => ?_; clear s42
    refine q1 s43 rfl (ob_assign rfl (.tmp rfl)) fun _ _ s44 => ?_; clear s43
    refine wpList_nil ?_
    refine then_normal ?_
    exact hK11 (y7, (iadd .i64 y6 (1 : Int))) _ _ h10 (s44.sub (.cons rfl (.cons rfl (.cons rfl (.cons rfl (.cons rfl .nil))))))
   refine wp_block ?_
   refine wp_seq_k fun K15 hK15 => wp_region_lit ?_
   refine q1 s40 rfl (mv rfl rfl) fun _ _ s45 => ?_; clear s40
   refine q1 s45 rfl (mv rfl rfl) fun _ _ s46 => ?_; clear s45
   obtain ⟨x2, e_x2, h11⟩ := bind_some h9; clear h9
   refine q1 s46 rfl (ob_indexAddrs rfl Try.underlying85 sz91 (.tmp rfl) (.tmp rfl) e_x2) fun _ _ s47 => ?_; clear s46
   refine q1 s47 rfl (ob_fieldAddrr rfl Try.underlying91 rfl sz44 (by decide) (.tmp rfl) (lg_api_Held_Op x2)) fun _ _ s48 => ?_; clear s47
   refine q1 s48 rfl (ob_fieldAddrr rfl Try.underlying44 rfl sz40 (by decide) (.tmp rfl) (lg_api_Op_Parents x2.Op)) fun _ _ s49 => ?_; clear s48
   refine q1 s49 rfl (ob_loadr rfl tk40 (.tmp rfl)) fun _ _ s50 => ?_; clear s49
   refine q1 s50 rfl (mv rfl rfl) fun _ _ s51 => ?_; clear s50
   obtain ⟨x3, e_x3, h12⟩ := bind_some h11; clear h11
   refine q1 s51 rfl (ob_indexAddrs rfl Try.underlying40 sz39 (.tmp rfl) (.tmp rfl) e_x3) fun _ _ s52 => ?_; clear s51
   refine q1 s52 rfl (ob_loadr rfl tk39 (.tmp rfl)) fun _ _ s53 => ?_; clear s52
   refine qx (B' := (fun b1 : Nat => [BF b1 39 (karr 32 (kint .u8)) (List.replicate 32 (0 : Int))])) s53 rfl (ob_new (k := (karr 32 (kint .u8))) rfl zz39 (Zr.arr 32 (Zr.int .u8))) fun b1 _ _ s54 => ?_; clear s53
   refine seq_opx0 (B' := (fun _ : Unit => [BF b1 39 (karr 32 (kint .u8)) x3])) s54 rfl rfl (ob_store (A := []) rfl tk39 (.tmp rfl) (.tmp rfl) rfl (LS.refl _ _ _) rfl) fun _ a55 w55 s55 => ?_; clear s54
   refine wn hK15 ?_
   have s56 := s55.sub (u 0 rfl (u 1 rfl (u 5 rfl (u 6 rfl (u 7 rfl (u 8 rfl .nil)))))); clear s55
   refine wp_seq_k fun K16 hK16 => wp_region_lit ?_
   refine q1 s56 rfl (mv rfl rfl) fun _ _ s57 => ?_; clear s56
   refine q1 s57 rfl (ob_load rfl tk39 (.tmp rfl) (.head _) (LG.refl _ _)) fun _ _ s58 => ?_; clear s57
   obtain ⟨x4, e_x4, h13⟩ := bind_some h12; clear h12
   refine q1 s58 rfl (ob_callD (args := [_, _]) rfl .direct hb56 (fun a w s fs gs hf hg => by obtain rfl := hf.unnil; obtain rfl := hg.unnil; exact c_cabalref15_Find k _ _ _ e_x4 _ _ _ _ (s.arg (.tmp rfl)) (s.arg (.tmp rfl)))) fun _ _ s59 => ?_; clear s58
   refine q1 s59 rfl (ob_lss rfl (.tmp rfl) (opd_int rfl)) fun _ _ s60 => ?_; clear s59
   refine q1 s60 rfl (mv rfl rfl) fun _ _ s61 => ?_; clear s60
   refine qg s61 rfl rfl rfl rfl (fun hb => ob_move rfl (.tmp rfl)) fun _ _ s62 => ?_; clear s61
   refine qg s62 rfl rfl rfl rfl (fun hb => ob_load rfl tk39 (.tmp rfl) (.head _) (LG.refl _ _)) fun _ _ s63 => ?_; clear s62
   obtain ⟨x5, e_x5, h14⟩ := bind_some h13; clear h13
   refine qg s63 rfl rfl rfl rfl (fun hb => (Ob.uncond (t := 41) hb rfl ((Ob.uncond (t := 40) hb rfl (ob_callD (args := [_, _]) rfl .direct hb73 (fun a w s fs gs hf hg => by obtain rfl := hf.unnil; obtain rfl := hg.unnil; exact c_cabalref19_Find k _ _ _ (ite_t hb e_x5) _ _ _ _ (s.arg (.tmp rfl)) (s.arg (.tmp rfl)))))))) fun _ _ s64 => ?_; clear s63
   refine qg s64 rfl rfl rfl rfl (fun hb => (Ob.uncond (t := 42) hb rfl (ob_lss rfl (.tmp rfl) (opd_int rfl)))) fun _ _ s65 => ?_; clear s64
   obtain ⟨x6, e_x6, h15⟩ := bind_some h14; clear h14; replace e_x6 := Option.some.inj e_x6
   refine q1 s65 rfl ((ob_and2 rfl (.tmp rfl) (.tmp rfl) opd_bool).nm e_x6) fun _ _ s66 => ?_; clear s65
   refine wn hK16 ?_
   have s67 := s66.sub (u 0 rfl (u 1 rfl (u 5 rfl (u 6 rfl (u 7 rfl (u 8 rfl (u 44 rfl .nil))))))); clear s66
   refine cond_split s67 (.tmp rfl) (fun hc3 => ?_) (fun hc3 => ?_)
   ·have h16 := ite_t hc3 h15; clear h15
    refine wp_region_lit ?_
    refine q1 s67 rfl (mv rfl rfl) fun _ _ s68 => ?_; clear s67
    refine q1 s68 rfl (ob_load rfl tk39 (.tmp rfl) (.head _) (LG.refl _ _)) fun _ _ s69 => ?_; clear s68
    obtain ⟨x7, e_x7, h17⟩ := bind_some h16; clear h16
    refine q1 s69 rfl (ob_callD (args := [_, _]) rfl .direct hb116 (fun a w s fs gs hf hg => by obtain rfl := hf.unnil; obtain rfl := hg.unnil; exact c_cabalref19_put k _ _ _ e_x7 _ _ _ _ (s.arg (.tmp rfl)) (s.arg (.tmp rfl)))) fun _ _ s70 => ?_; clear s69
    refine q1 s70 rfl (ob_assign rfl (.tmp rfl)) fun _ _ s71 => ?_; clear s70
    refine wpList_nil ?_
    refine in_normal ?_
    refine then_normal ?_
    have s72 := St.drop (A := []) s71; clear s71
    exact hj3 x7 _ _ h17 (s72.sub (.cons rfl (.cons rfl (.cons rfl (.cons rfl (.cons rfl .nil))))))
   ·have h18 := ite_f hc3 h15; clear h15
    refine wp_skip ?_
    refine in_normal ?_
    refine then_normal ?_
    have s73 := St.drop (A := []) s67; clear s67
    exact hj3 y5 _ _ h18 (s73.sub (.cons rfl (.cons rfl (.cons rfl (.cons rfl (.cons rfl .nil))))))
  ·have h19 := ite_f hc2 h8; clear h8
   refine wp_exit ?_
   refine (then_exit (then_exit (in_here ?_)))
   refine in_normal ?_
   refine then_normal ?_
   exact hj2 y5 _ _ h19 (s39.sub (.cons rfl (.cons rfl (.cons rfl (.cons rfl .nil)))))
 ·have h20 := ite_f hc1 h3; clear h3
  refine wp_exit ?_
  refine (then_exit (then_exit (in_here ?_)))
  refine then_normal ?_
  exact hj1 y2 _ _ h20 (s21.sub (.cons rfl .nil))

/- 49 cabal/cabalref08.SameKeys -/
theorem c_cabalref08_SameKeys (k : Nat) (p1 : (List (List Int))) (p2 : (List (List Int))) (r : Bool) (h0 : cabalref08_SameKeys k p1 p2 = some r) (ok : Ok) (w0 : World) (z0 : Value) (z1 : Value) (u0 : ((ksl (karr 32 (kint .u8))).V p1).holds ok w0 z0) (u1 : ((ksl (karr 32 (kint .u8))).V p2).holds ok w0 z1) :
 Gives Try.prog 49 [z0, z1] ok w0 (resFact [kbool.V r]) := by
 unfold cabalref08_SameKeys at h0
 refine enter (N := 26) Try.func49 rfl rfl (of_decide_eq_true rfl) (.cons u0 (.cons u1 .nil)) fun a1 s1 => ?_
 refine wp_seq_k fun K1 hK1 => wp_region_lit ?_
 refine q1 s1 rfl (ob_assign rfl opd_bool) fun _ _ s2 => ?_; clear s1
 refine wn hK1 ?_
 have s3 := s2.sub (u 0 rfl (u 1 rfl .nil)); clear s2
 refine wp_seq_k fun K2 hK2 => wp_seq_k fun K3 hK3 => ?_
 refine wp_region_lit ?_
 refine q1 s3 rfl (mv rfl rfl) fun _ _ s4 => ?_; clear s3
 refine q1 s4 rfl (ob_lens rfl Try.underlying40 (.tmp rfl)) fun _ _ s5 => ?_; clear s4
 refine q1 s5 rfl (mv rfl rfl) fun _ _ s6 => ?_; clear s5
 refine q1 s6 rfl (ob_lens rfl Try.underlying40 (.tmp rfl)) fun _ _ s7 => ?_; clear s6
 refine q1 s7 rfl (ob_neq rfl (.tmp rfl) (.tmp rfl)) fun _ _ s8 => ?_; clear s7
 refine wn hK3 ?_
 have s9 := s8.sub (u 0 rfl (u 1 rfl (u 10 rfl .nil))); clear s8
 refine cond_split s9 (.tmp rfl) (fun hc1 => ?_) (fun hc1 => ?_)
 ·have h1 := ite_t hc1 h0; clear h0
  refine wp_seq_k fun K4 hK4 => wp_region_lit ?_
  refine q1 s9 rfl (ob_assign rfl opd_bool) fun _ _ s10 => ?_; clear s9
  refine wn hK4 ?_
  have s11 := s10.sub (u 4 rfl .nil); clear s10
  refine wp_ret ?_
  obtain rfl := Option.some.inj h1
  exact leave s11 (.inl rfl) rfl (.cons (.tmp rfl) .nil)
 ·have h2 := ite_f hc1 h0; clear h0
  refine wp_skip ?_
  refine then_normal (hK2 _ _ ?_)
  have s12 := s9.sub (u 0 rfl (u 1 rfl .nil)); clear s9
  refine wp_seq_k fun K5 hK5 => wp_seq_k fun K6 hK6 => ?_
  refine wp_region_lit ?_
  refine q1 s12 rfl (ob_assign rfl (opd_int rfl)) fun _ _ s13 => ?_; clear s12
  refine wn hK6 ?_
  have s14 := s13.sub (u 0 rfl (u 1 rfl (u 5 rfl .nil))); clear s13
  have hj1 : ∀ (a : Act) (w : World), (cabalref08_SameKeys.j1 k) = some r → St ⟨26, w0, ok, []⟩ [] [] a w → K5 a w := by
   intro a15 w15 h3 s15
   unfold cabalref08_SameKeys.j1 at h3
   refine hK5 _ _ ?_
   refine wp_seq_k fun K7 hK7 => wp_region_lit ?_
   refine q1 s15 rfl (ob_assign rfl opd_bool) fun _ _ s16 => ?_; clear s15
   refine wn hK7 ?_
   have s17 := s16.sub (u 4 rfl .nil); clear s16
   refine wp_ret ?_
   obtain rfl := Option.some.inj h3
   exact leave s17 (.inl rfl) rfl (.cons (.tmp rfl) .nil)
  refine wp_block ?_
  refine wp_loop_fuel (fun m (q : Int) => cabalref08_SameKeys.l1 k p1 p2 m q) r (fun _ => rfl) (fun q a w => St ⟨26, w0, ok, []⟩ [] [(0, ((ksl (karr 32 (kint .u8))).V p1)), (1, ((ksl (karr 32 (kint .u8))).V p2)), (5, ((kint .i64).V q))] a w) ?_ k (0 : Int) _ _ h2 (s14.sub (.cons rfl (.cons rfl (.cons rfl .nil))))
  rintro n1 y1 a18 w18 h4 s18 K8 hK8
  replace h4 : cabalref08_SameKeys.l1 k p1 p2 (n1 + 1) y1 = some r := h4; rw [cabalref08_SameKeys.l1] at h4
  have h5 := h4; clear h4
  refine wp_seq_k fun K9 hK9 => wp_seq_k fun K10 hK10 => ?_
  refine wp_region_lit ?_
  refine q1 s18 rfl (mv rfl rfl) fun _ _ s19 => ?_; clear s18
  refine q1 s19 rfl (mv rfl rfl) fun _ _ s20 => ?_; clear s19
  refine q1 s20 rfl (ob_lens rfl Try.underlying40 (.tmp rfl)) fun _ _ s21 => ?_; clear s20
  refine q1 s21 rfl (ob_lss rfl (.tmp rfl) (.tmp rfl)) fun _ _ s22 => ?_; clear s21
  refine wn hK10 ?_
  have s23 := s22.sub (u 0 rfl (u 1 rfl (u 5 rfl (u 14 rfl .nil)))); clear s22
  refine cond_split s23 (.tmp rfl) (fun hc2 => ?_) (fun hc2 => ?_)
  ·have h6 := ite_t hc2 h5; clear h5
   refine wp_skip ?_
   refine then_normal (hK9 _ _ ?_)
   have s24 := s23.sub (u 0 rfl (u 1 rfl (u 5 rfl .nil))); clear s23
   refine wp_seq_k fun K11 hK11 => wp_block ?_
   refine wp_seq_k fun K12 hK12 => ?_
   obtain ⟨x1, e_x1, h7⟩ := bind_some h6; clear h6
   obtain ⟨x2, e_x2, h8⟩ := bind_some h7; clear h7
   refine wp_goes (Fs := [((ksl (karr 32 (kint .u8))).V p1), ((kint .i64).V y1), (ptrTo (karr 32 (kint .u8)) x1), ((karr 32 (kint .u8)).V x1), ((ksl (karr 32 (kint .u8))).V p2), ((kint .i64).V y1), (ptrTo (karr 32 (kint .u8)) x2), ((karr 32 (kint .u8)).V x2)]) (bits := [0, 0, 3, 7, 0, 0, 48, 112, 255]) (m := 8) (todo := 0) mx s24 ?_; clear s24
   refine goes_last (by kernel_rfl) rfl (oc (av 0 rfl rfl Av.nil) rfl rfl (mv rfl rfl) (oc (av 5 rfl rfl Av.nil) rfl rfl (mv rfl rfl) (oc (an 0 rfl rfl rfl (an 1 rfl rfl rfl Av.nil)) rfl rfl (ob_indexAddrs rfl Try.underlying40 sz39 (.tmp rfl) (.tmp rfl) e_x1) (oc (an 2 rfl rfl rfl Av.nil) rfl rfl (ob_loadr rfl tk39 (.tmp rfl)) (oc (av 1 rfl rfl Av.nil) rfl rfl (mv rfl rfl) (oc (av 5 rfl rfl Av.nil) rfl rfl (mv rfl rfl) (oc (an 4 rfl rfl rfl (an 5 rfl rfl rfl Av.nil)) rfl rfl (ob_indexAddrs rfl Try.underlying40 sz39 (.tmp rfl) (.tmp rfl) e_x2) (oc (an 6 rfl rfl rfl Av.nil) rfl rfl (ob_loadr rfl tk39 (.tmp rfl)) opsS_nil)))))))) (out_old (t := 0) rfl rfl (out_old (t := 1) rfl rfl (out_old (t := 5) rfl rfl (out_new (i := 3) (by decide) rfl rfl (out_new (i := 7) (by decide) rfl rfl out_nil))))) fun _ _ s25 => ?_
   refine q1 s25 rfl (ob_neqAgg rfl rfl (by kernel_rfl) eq39 (by decide) (.tmp rfl) (.tmp rfl)) fun _ _ s26 => ?_; clear s25
   refine wn hK12 ?_
   have s27 := s26.sub (u 0 rfl (u 1 rfl (u 5 rfl (u 25 rfl .nil)))); clear s26
   refine cond_split s27 (.tmp rfl) (fun hc3 => ?_) (fun hc3 => ?_)
   ·have h9 := ite_t hc3 h8; clear h8
    refine wp_seq_k fun K13 hK13 => wp_region_lit ?_
    refine q1 s27 rfl (ob_assign rfl opd_bool) fun _ _ s28 => ?_; clear s27
    refine wn hK13 ?_
    have s29 := s28.sub (u 4 rfl .nil); clear s28
    refine wp_ret ?_
    obtain rfl := Option.some.inj h9
    exact leave s29 (.inl rfl) rfl (.cons (.tmp rfl) .nil)
   ·have h10 := ite_f hc3 h8; clear h8
    refine wp_skip ?_
    refine in_normal ?_
    refine then_normal (hK11 _ _ ?_)
    have s30 := s27.sub (u 0 rfl (u 1 rfl (u 5 rfl .nil))); clear s27
    refine wp_region_lit ?_
    refine q1 s30 rfl (mv rfl rfl) fun _ _ s31 => ?_; clear s30
    refine q1 s31 rfl (ob_add rfl (.tmp rfl) (opd_int rfl)) fun _ _ s32 => ?_; clear s31
    refine q1 s32 rfl (ob_assign rfl (.tmp rfl)) fun _ _ s33 => ?_; clear s32
    refine wpList_nil ?_
    refine then_normal ?_
    exact hK8 (iadd .i64 y1 (1 : Int)) _ _ h10 (s33.sub (.cons rfl (.cons rfl (.cons rfl .nil))))
  ·have h11 := ite_f hc2 h5; clear h5
   refine wp_exit ?_
   refine (then_exit (then_exit (in_here ?_)))
   refine then_normal ?_
   exact hj1 _ _ h11 (s23.sub .nil)

/- 17 cabal/caballaw19.QueueReady -/
theorem c_caballaw19_QueueReady (k : Nat) (p1 : (List api_Node)) (p2 : (List api_Held)) (r : Bool) (h0 : caballaw19_QueueReady k p1 p2 = some r) (ok : Ok) (w0 : World) (z0 : Value) (z1 : Value) (u0 : ((ksl k_api_Node).V p1).holds ok w0 z0) (u1 : ((ksl k_api_Held).V p2).holds ok w0 z1) :
 Gives Try.prog 17 [z0, z1] ok w0 (resFact [kbool.V r]) := by
 unfold caballaw19_QueueReady at h0
 refine enter (N := 55) Try.func17 rfl rfl (of_decide_eq_true rfl) (.cons u0 (.cons u1 .nil)) fun a1 s1 => ?_
 refine wp_seq_k fun K1 hK1 => wp_region_lit ?_
 refine q1 s1 rfl (ob_assign rfl opd_bool) fun _ _ s2 => ?_; clear s1
 refine wn hK1 ?_
 have s3 := s2.sub (u 0 rfl (u 1 rfl .nil)); clear s2
 refine wp_seq_k fun K2 hK2 => wp_seq_k fun K3 hK3 => ?_
 refine wp_region_lit ?_
 obtain ⟨x1, e_x1, h1⟩ := bind_some h0; clear h0
 refine q1 s3 rfl (ob_callD (args := []) rfl .direct hb59 (fun a w s fs gs hf hg => by obtain rfl := hf.unnil; obtain rfl := hg.unnil; exact c_caballaw19_alive k _ e_x1 _ _)) fun _ _ s4 => ?_; clear s3
 refine q1 s4 rfl (ob_not rfl (.tmp rfl)) fun _ _ s5 => ?_; clear s4
 refine wn hK3 ?_
 have s6 := s5.sub (u 0 rfl (u 1 rfl (u 8 rfl .nil))); clear s5
 refine cond_split s6 (.tmp rfl) (fun hc1 => ?_) (fun hc1 => ?_)
 ·have h2 := ite_t hc1 h1; clear h1
  refine wp_seq_k fun K4 hK4 => wp_region_lit ?_
  refine q1 s6 rfl (ob_assign rfl opd_bool) fun _ _ s7 => ?_; clear s6
  refine wn hK4 ?_
  have s8 := s7.sub (u 4 rfl .nil); clear s7
  refine wp_ret ?_
  obtain rfl := Option.some.inj h2
  exact leave s8 (.inl rfl) rfl (.cons (.tmp rfl) .nil)
 ·have h3 := ite_f hc1 h1; clear h1
  refine wp_skip ?_
  refine then_normal (hK2 _ _ ?_)
  have s9 := s6.sub (u 0 rfl (u 1 rfl .nil)); clear s6
  refine wp_seq_k fun K5 hK5 => wp_seq_k fun K6 hK6 => ?_
  refine wp_region_lit ?_
  refine q1 s9 rfl (mv rfl rfl) fun _ _ s10 => ?_; clear s9
  obtain ⟨x2, e_x2, h4⟩ := bind_some h3; clear h3
  refine q1 s10 rfl (ob_callD (args := [_]) rfl .direct hb60 (fun a w s fs gs hf hg => by obtain rfl := hf.unnil; obtain rfl := hg.unnil; exact c_cabalref19_Great k _ _ e_x2 _ _ _ (s.arg (.tmp rfl)))) fun _ _ s11 => ?_; clear s10
  refine q1 s11 rfl (mv rfl rfl) fun _ _ s12 => ?_; clear s11
  refine qg s12 rfl rfl rfl rfl (fun hb => ob_move rfl (.tmp rfl)) fun _ _ s13 => ?_; clear s12
  obtain ⟨x3, e_x3, h5⟩ := bind_some h4; clear h4
  refine qg s13 rfl rfl rfl rfl (fun hb => (Ob.uncond (t := 12) hb rfl (ob_callD (args := [_]) rfl .direct hb23 (fun a w s fs gs hf hg => by obtain rfl := hf.unnil; obtain rfl := hg.unnil; exact c_cabalref15_Great k _ _ (ite_t hb e_x3) _ _ _ (s.arg (.tmp rfl)))))) fun _ _ s14 => ?_; clear s13
  refine q1 s14 rfl (ob_or2 rfl (.tmp rfl) opd_bool (.tmp rfl)) fun _ _ s15 => ?_; clear s14
  refine wn hK6 ?_
  have s16 := s15.sub (u 0 rfl (u 1 rfl (u 14 rfl .nil))); clear s15
  refine cond_split s16 (.tmp rfl) (fun hc2 => ?_) (fun hc2 => ?_)
  ·have h6 := ite_t hc2 h5; clear h5
   refine wp_seq_k fun K7 hK7 => wp_region_lit ?_
   obtain ⟨x4, e_x4, h7⟩ := bind_some h6; clear h6
   refine q1 s16 rfl (ob_callD (args := []) rfl .direct hb59 (fun a w s fs gs hf hg => by obtain rfl := hf.unnil; obtain rfl := hg.unnil; exact c_caballaw19_alive k _ e_x4 _ _)) fun _ _ s17 => ?_; clear s16
   refine q1 s17 rfl (ob_assign rfl (.tmp rfl)) fun _ _ s18 => ?_; clear s17
   refine wn hK7 ?_
   have s19 := s18.sub (u 4 rfl .nil); clear s18
   refine wp_ret ?_
   obtain rfl := Option.some.inj h7
   exact leave s19 (.inl rfl) rfl (.cons (.tmp rfl) .nil)
  ·have h8 := ite_f hc2 h5; clear h5
   refine wp_skip ?_
   refine then_normal (hK5 _ _ ?_)
   have s20 := s16.sub (u 0 rfl (u 1 rfl .nil)); clear s16
   refine wp_seq_k fun K8 hK8 => wp_region_lit ?_
   refine q1 s20 rfl (mv rfl rfl) fun _ _ s21 => ?_; clear s20
   refine q1 s21 rfl (mv rfl rfl) fun _ _ s22 => ?_; clear s21
   obtain ⟨x5, e_x5, h9⟩ := bind_some h8; clear h8
   refine q1 s22 rfl (ob_callD (args := [_, _]) rfl .direct hb61 (fun a w s fs gs hf hg => by obtain rfl := hf.unnil; obtain rfl := hg.unnil; exact c_queue_Ready k _ _ _ e_x5 _ _ _ _ (s.arg (.tmp rfl)) (s.arg (.tmp rfl)))) fun _ _ s23 => ?_; clear s22
   refine q1 s23 rfl (mv rfl rfl) fun _ _ s24 => ?_; clear s23
   refine q1 s24 rfl (mv rfl rfl) fun _ _ s25 => ?_; clear s24
   obtain ⟨x6, e_x6, h10⟩ := bind_some h9; clear h9
   refine qx (B' := (fun v1 : Value => [RowF v1 39 (karr 32 (kint .u8)) x6])) s25 rfl (ob_callL (args := [_, _]) (L := []) rfl .direct hb62 (List.Perm.refl _) (fun a w s fs gs hf hg => by obtain rfl := hf.unnil; obtain rfl := hg.unnil; exact c_queue_Wanted k _ _ _ e_x6 _ _ _ _ (s.arg (.tmp rfl)) (s.arg (.tmp rfl))) (by exact fun _ => rfl)) fun v1 _ _ s26 => ?_; clear s25
   refine q1 s26 rfl (ob_assign rfl (.tmp rfl)) fun _ _ s27 => ?_; clear s26
   refine q1 s27 rfl (ob_assign rfl (.tmp rfl)) fun _ _ s28 => ?_; clear s27
   refine wn hK8 ?_
   have s29 := s28.sub (u 0 rfl (u 1 rfl (u 5 rfl (u 6 rfl .nil)))); clear s28
   refine wp_seq_k fun K9 hK9 => wp_seq_k fun K10 hK10 => ?_
   refine wp_region_lit ?_
   refine q1 s29 rfl (mv rfl rfl) fun _ _ s30 => ?_; clear s29
   obtain ⟨x7, e_x7, h11⟩ := bind_some h10; clear h10
   refine q1 s30 rfl (ob_callD (args := [_]) rfl .direct hb30 (fun a w s fs gs hf hg => by obtain rfl := hf.unnil; obtain rfl := hg.unnil; exact c_cabalref15_Right k _ _ e_x7 _ _ _ (s.arg (.tmp rfl)))) fun _ _ s31 => ?_; clear s30
   refine q1 s31 rfl (ob_not rfl (.tmp rfl)) fun _ _ s32 => ?_; clear s31
   refine q1 s32 rfl (mv rfl rfl) fun _ _ s33 => ?_; clear s32
   refine qg s33 rfl rfl rfl rfl (fun hb => ob_move rfl (.tmp rfl)) fun _ _ s34 => ?_; clear s33
   obtain ⟨x8, e_x8, h12⟩ := bind_some h11; clear h11
   refine qg s34 rfl rfl rfl rfl (fun hb => (Ob.uncond (t := 26) hb rfl (ob_callD (args := [_]) rfl .direct hb63 (fun a w s fs gs hf hg => by obtain rfl := hf.unnil; obtain rfl := hg.unnil; exact c_cabalref19_Right k _ _ (ite_t hb e_x8) _ _ _ (s.arg (.tmp rfl)))))) fun _ _ s35 => ?_; clear s34
   refine qg s35 rfl rfl rfl rfl (fun hb => (Ob.uncond (t := 27) hb rfl (ob_not rfl (.tmp rfl)))) fun _ _ s36 => ?_; clear s35
   refine q1 s36 rfl (ob_or2 rfl (.tmp rfl) opd_bool (.tmp rfl)) fun _ _ s37 => ?_; clear s36
   refine wn hK10 ?_
   have s38 := s37.sub (u 0 rfl (u 1 rfl (u 5 rfl (u 6 rfl (u 29 rfl .nil))))); clear s37
   refine cond_split s38 (.tmp rfl) (fun hc3 => ?_) (fun hc3 => ?_)
   ·have h13 := ite_t hc3 h12; clear h12
    refine wp_seq_k fun K11 hK11 => wp_region_lit ?_
    obtain ⟨x9, e_x9, h14⟩ := bind_some h13; clear h13
    refine q1 s38 rfl (ob_callD (args := []) rfl .direct hb59 (fun a w s fs gs hf hg => by obtain rfl := hf.unnil; obtain rfl := hg.unnil; exact c_caballaw19_alive k _ e_x9 _ _)) fun _ _ s39 => ?_; clear s38
    refine q1 s39 rfl (mv rfl rfl) fun _ _ s40 => ?_; clear s39
    refine qg s40 rfl rfl rfl rfl (fun hb => ob_move rfl (.tmp rfl)) fun _ _ s41 => ?_; clear s40
    refine qg s41 rfl rfl rfl rfl (fun hb => (Ob.uncond (t := 32) hb rfl (ob_eql rfl (.tmp rfl) (opd_int rfl)))) fun _ _ s42 => ?_; clear s41
    refine q1 s42 rfl (ob_and2 rfl (.tmp rfl) (.tmp rfl) opd_bool) fun _ _ s43 => ?_; clear s42
    refine q1 s43 rfl (mv rfl rfl) fun _ _ s44 => ?_; clear s43
    refine qg s44 rfl rfl rfl rfl (fun hb => ob_move rfl (.tmp rfl)) fun _ _ s45 => ?_; clear s44
    refine qg s45 rfl rfl rfl rfl (fun hb => (Ob.uncond (t := 36) hb rfl (ob_lenRow rfl Try.underlying40 (.tmp rfl) (.head _)))) fun _ _ s46 => ?_; clear s45
    refine qg s46 rfl rfl rfl rfl (fun hb => (Ob.uncond (t := 37) hb rfl (ob_eql rfl (.tmp rfl) (opd_int rfl)))) fun _ _ s47 => ?_; clear s46
    obtain ⟨x10, e_x10, h15⟩ := bind_some h14; clear h14; replace e_x10 := Option.some.inj e_x10
    refine q1 s47 rfl ((ob_and2 rfl (.tmp rfl) (.tmp rfl) opd_bool).nm e_x10) fun _ _ s48 => ?_; clear s47
    refine q1 s48 rfl (ob_assign rfl (.tmp rfl)) fun _ _ s49 => ?_; clear s48
    refine wn hK11 ?_
    have s50 := s49.sub (u 4 rfl .nil); clear s49
    have s51 := St.drop (A := []) s50; clear s50
    refine wp_ret ?_
    obtain rfl := Option.some.inj h15
    exact leave s51 (.inl rfl) rfl (.cons (.tmp rfl) .nil)
   ·have h16 := ite_f hc3 h12; clear h12
    refine wp_skip ?_
    refine then_normal (hK9 _ _ ?_)
    have s52 := s38.sub (u 0 rfl (u 1 rfl (u 5 rfl (u 6 rfl .nil)))); clear s38
    refine wp_seq_k fun K12 hK12 => wp_region_lit ?_
    obtain ⟨x11, e_x11, h17⟩ := bind_some h16; clear h16
    refine q1 s52 rfl (ob_callD (args := []) rfl .direct hb59 (fun a w s fs gs hf hg => by obtain rfl := hf.unnil; obtain rfl := hg.unnil; exact c_caballaw19_alive k _ e_x11 _ _)) fun _ _ s53 => ?_; clear s52
    refine q1 s53 rfl (mv rfl rfl) fun _ _ s54 => ?_; clear s53
    refine qg s54 rfl rfl rfl rfl (fun hb => ob_move rfl (.tmp rfl)) fun _ _ s55 => ?_; clear s54
    refine qg s55 rfl rfl rfl rfl (fun hb => ob_move rfl (.tmp rfl)) fun _ _ s56 => ?_; clear s55
    refine qg s56 rfl rfl rfl rfl (fun hb => ob_move rfl (.tmp rfl)) fun _ _ s57 => ?_; clear s56
    obtain ⟨x12, e_x12, h18⟩ := bind_some h17; clear h17
    refine qg s57 rfl rfl rfl rfl (fun hb => (Ob.uncond (t := 44) hb rfl ((Ob.uncond (t := 43) hb rfl (ob_callD (args := [_, _]) rfl .direct hb64 (fun a w s fs gs hf hg => by obtain rfl := hf.unnil; obtain rfl := hg.unnil; exact c_cabalref19_Ready k _ _ _ (ite_t hb e_x12) _ _ _ _ (s.arg (.tmp rfl)) (s.arg (.tmp rfl)))))))) fun _ _ s58 => ?_; clear s57
    refine qg s58 rfl rfl rfl rfl (fun hb => (Ob.uncond (t := 45) hb rfl ((Ob.uncond (t := 42) hb rfl (ob_eql rfl (.tmp rfl) (.tmp rfl)))))) fun _ _ s59 => ?_; clear s58
    refine q1 s59 rfl (ob_and2 rfl (.tmp rfl) (.tmp rfl) opd_bool) fun _ _ s60 => ?_; clear s59
    refine q1 s60 rfl (mv rfl rfl) fun _ _ s61 => ?_; clear s60
    refine qg s61 rfl rfl rfl rfl (fun hb => ob_move rfl (.tmp rfl)) fun _ _ s62 => ?_; clear s61
    refine qg s62 rfl rfl rfl rfl (fun hb => ob_move rfl (.tmp rfl)) fun _ _ s63 => ?_; clear s62
    refine qg s63 rfl rfl rfl rfl (fun hb => ob_move rfl (.tmp rfl)) fun _ _ s64 => ?_; clear s63
    obtain ⟨x13, e_x13, h19⟩ := bind_some h18; clear h18
    refine qg s64 rfl rfl rfl rfl (fun hb => (Ob.uncond (t := 51) hb rfl ((Ob.uncond (t := 50) hb rfl (ob_callD (args := [_, _]) rfl .direct hb65 (fun a w s fs gs hf hg => by obtain rfl := hf.unnil; obtain rfl := hg.unnil; exact c_cabalref19_Wanted k _ _ _ (ite_t hb e_x13) _ _ _ _ (s.arg (.tmp rfl)) (s.arg (.tmp rfl)))))))) fun _ _ s65 => ?_; clear s64
    obtain ⟨x14, e_x14, h20⟩ := bind_some h19; clear h19
    refine qg s65 rfl rfl rfl rfl (fun hb => (Ob.uncond (t := 52) hb rfl ((Ob.uncond (t := 49) hb rfl ((ob_lendG (L := [_]) (List.Perm.refl _) (.cons (t := 49) rfl (lendRow (.head _)) .nil) (Flat.res1 (Flat.V KFlat.bool)) (fun _ => ob_callD (args := [_, _]) rfl .direct hb49 (fun a w s fs gs hf hg => by obtain rfl := hf.unnil; obtain rfl := hg.unnil; exact c_cabalref08_SameKeys k _ _ _ (ite_t hb e_x14) _ _ _ _ (s.arg (.tmp rfl)) (s.arg (.tmp rfl)))))))))) fun _ _ s66 => ?_; clear s65
    refine q1 s66 rfl (ob_and2 rfl (.tmp rfl) (.tmp rfl) opd_bool) fun _ _ s67 => ?_; clear s66
    refine q1 s67 rfl (ob_assign rfl (.tmp rfl)) fun _ _ s68 => ?_; clear s67
    refine wn hK12 ?_
    have s69 := s68.sub (u 4 rfl .nil); clear s68
    have s70 := St.drop (A := []) s69; clear s69
    refine wp_ret ?_
    obtain rfl := Option.some.inj h20
    exact leave s70 (.inl rfl) rfl (.cons (.tmp rfl) .nil)

end Go.Proofs.Ytdlnfgpcnfbjiaa
