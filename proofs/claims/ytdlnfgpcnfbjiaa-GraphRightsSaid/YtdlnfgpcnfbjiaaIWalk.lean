/- Each function's code comes to what its plain function answers. No condition. -/
import Derived.Test.YtdlnfgpcnfbjiaaIWalk3
namespace Go.Proofs.Ytdlnfgpcnfbjiaa
open Go Go.RowKit Go.Proofs.Kit Go.Proofs.Pure
set_option linter.unusedVariables false
set_option linter.unusedSimpArgs false
set_option maxRecDepth 100000
set_option maxHeartbeats 2000000

/- 53 cabal/cabalref15.Same -/
theorem c_cabalref15_Same (k : Nat) (p1 : (List api_Node)) (p2 : (List api_Node)) (r : Bool) (h0 : cabalref15_Same k p1 p2 = some r) (ok : Ok) (w0 : World) (z0 : Value) (z1 : Value) (u0 : ((ksl k_api_Node).V p1).holds ok w0 z0) (u1 : ((ksl k_api_Node).V p2).holds ok w0 z1) :
    Gives Try.prog 53 [z0, z1] ok w0 (resFact [kbool.V r]) := by
  unfold cabalref15_Same at h0
  refine enter (N := 56) Try.func53 rfl rfl (of_decide_eq_true rfl) (.cons u0 (.cons u1 .nil)) fun a1 s1 => ?_
  refine wp_seq_k fun K1 hK1 => ?_
  refine wp_region_lit ?_
  refine seq_op s1 rfl rfl (of_decide_eq_true rfl) (ob_assign rfl opd_bool) fun a2 w2 s2 => ?_; clear s1
  refine wpList_nil ?_
  refine then_normal ?_
  refine hK1 _ _ ?_
  have s3 := s2.sub (.cons (t := 0) rfl (.cons (t := 1) rfl .nil)); clear s2
  refine wp_seq_k fun K2 hK2 => ?_
  refine wp_seq_k fun K3 hK3 => ?_
  refine wp_region_lit ?_
  refine seq_op s3 rfl rfl (of_decide_eq_true rfl) (ob_move rfl (.tmp rfl)) fun a4 w4 s4 => ?_; clear s3
  refine seq_op s4 rfl rfl (of_decide_eq_true rfl) (ob_lens rfl Try.underlying22 (.tmp rfl)) fun a5 w5 s5 => ?_; clear s4
  refine seq_op s5 rfl rfl (of_decide_eq_true rfl) (ob_move rfl (.tmp rfl)) fun a6 w6 s6 => ?_; clear s5
  refine seq_op s6 rfl rfl (of_decide_eq_true rfl) (ob_lens rfl Try.underlying22 (.tmp rfl)) fun a7 w7 s7 => ?_; clear s6
  refine seq_op s7 rfl rfl (of_decide_eq_true rfl) (ob_neq rfl (.tmp rfl) (.tmp rfl)) fun a8 w8 s8 => ?_; clear s7
  refine wpList_nil ?_
  refine then_normal ?_
  refine hK3 _ _ ?_
  have s9 := s8.sub (.cons (t := 0) rfl (.cons (t := 1) rfl (.cons (t := 10) rfl .nil))); clear s8
  refine cond_split s9 (.tmp rfl) (fun hc1 => ?_) (fun hc1 => ?_)
  · replace h0 := ite_t hc1 h0
    have h1 := h0; clear h0
    refine wp_seq_k fun K4 hK4 => ?_
    refine wp_region_lit ?_
    refine seq_op s9 rfl rfl (of_decide_eq_true rfl) (ob_assign rfl opd_bool) fun a10 w10 s10 => ?_; clear s9
    refine wpList_nil ?_
    refine then_normal ?_
    refine hK4 _ _ ?_
    have s11 := s10.sub (.cons (t := 4) rfl .nil); clear s10
    refine wp_ret ?_
    obtain rfl := Option.some.inj h1
    exact leave s11 (.inl rfl) rfl (.cons (.tmp rfl) .nil)
  · replace h0 := ite_f hc1 h0
    have h2 := h0; clear h0
    refine wp_skip ?_
    refine then_normal ?_
    refine hK2 _ _ ?_
    have s12 := s9.sub (.cons (t := 0) rfl (.cons (t := 1) rfl .nil)); clear s9
    refine wp_seq_k fun K5 hK5 => ?_
    refine wp_seq_k fun K6 hK6 => ?_
    refine wp_region_lit ?_
    refine seq_op s12 rfl rfl (of_decide_eq_true rfl) (ob_assign rfl (opd_int rfl)) fun a13 w13 s13 => ?_; clear s12
    refine wpList_nil ?_
    refine then_normal ?_
    refine hK6 _ _ ?_
    have s14 := s13.sub (.cons (t := 0) rfl (.cons (t := 1) rfl (.cons (t := 5) rfl .nil))); clear s13
    have hj1 : ∀ (a : Act) (w : World), (cabalref15_Same.j1 k) = some r → St ⟨56, w0, ok, []⟩ [] [] a w → K5 a w := by
      intro a15 w15 h3 s15
      unfold cabalref15_Same.j1 at h3
      refine hK5 _ _ ?_
      refine wp_seq_k fun K7 hK7 => ?_
      refine wp_region_lit ?_
      refine seq_op s15 rfl rfl (of_decide_eq_true rfl) (ob_assign rfl opd_bool) fun a16 w16 s16 => ?_; clear s15
      refine wpList_nil ?_
      refine then_normal ?_
      refine hK7 _ _ ?_
      have s17 := s16.sub (.cons (t := 4) rfl .nil); clear s16
      refine wp_ret ?_
      obtain rfl := Option.some.inj h3
      exact leave s17 (.inl rfl) rfl (.cons (.tmp rfl) .nil)
    refine wp_block ?_
    refine wp_loop_fuel (fun m (q : Int) => cabalref15_Same.l1 k p1 p2 m q) r (fun _ => rfl) (fun q a w => St ⟨56, w0, ok, []⟩ [] [(0, ((ksl k_api_Node).V p1)), (1, ((ksl k_api_Node).V p2)), (5, ((kint .i64).V q))] a w) ?_ k (0 : Int) _ _ h2 (s14.sub (.cons rfl (.cons rfl (.cons rfl .nil))))
    rintro n1 y1 a18 w18 h4 s18 K8 hK8
    replace h4 : cabalref15_Same.l1 k p1 p2 (n1 + 1) y1 = some r := h4; rw [cabalref15_Same.l1] at h4
    have h5 := h4; clear h4
    refine wp_seq_k fun K9 hK9 => ?_
    refine wp_seq_k fun K10 hK10 => ?_
    refine wp_region_lit ?_
    refine seq_op s18 rfl rfl (of_decide_eq_true rfl) (ob_move rfl (.tmp rfl)) fun a19 w19 s19 => ?_; clear s18
    refine seq_op s19 rfl rfl (of_decide_eq_true rfl) (ob_move rfl (.tmp rfl)) fun a20 w20 s20 => ?_; clear s19
    refine seq_op s20 rfl rfl (of_decide_eq_true rfl) (ob_lens rfl Try.underlying22 (.tmp rfl)) fun a21 w21 s21 => ?_; clear s20
    refine seq_op s21 rfl rfl (of_decide_eq_true rfl) (ob_lss rfl (.tmp rfl) (.tmp rfl)) fun a22 w22 s22 => ?_; clear s21
    refine wpList_nil ?_
    refine then_normal ?_
    refine hK10 _ _ ?_
    have s23 := s22.sub (.cons (t := 0) rfl (.cons (t := 1) rfl (.cons (t := 5) rfl (.cons (t := 14) rfl .nil)))); clear s22
    refine cond_split s23 (.tmp rfl) (fun hc2 => ?_) (fun hc2 => ?_)
    · replace h5 := ite_t hc2 h5
      have h6 := h5; clear h5
      refine wp_skip ?_
      refine then_normal ?_
      refine hK9 _ _ ?_
      have s24 := s23.sub (.cons (t := 0) rfl (.cons (t := 1) rfl (.cons (t := 5) rfl .nil))); clear s23
      refine wp_seq_k fun K11 hK11 => ?_
      refine wp_block ?_
      refine wp_seq_k fun K12 hK12 => ?_
      obtain ⟨x1, e_x1, h7⟩ := bind_some h6; clear h6
      obtain ⟨x2, e_x2, h8⟩ := bind_some h7; clear h7
      obtain ⟨x3, e_x3, h9⟩ := bind_some h8; clear h8
      obtain ⟨x4, e_x4, h10⟩ := bind_some h9; clear h9
      obtain ⟨x5, e_x5, h11⟩ := bind_some h10; clear h10
      obtain ⟨x6, e_x6, h12⟩ := bind_some h11; clear h11
      obtain ⟨x7, e_x7, h13⟩ := bind_some h12; clear h12
      refine wp_goes (Fs := [((ksl k_api_Node).V p1), ((kint .i64).V y1), (ptrTo k_api_Node x1), (ptrTo (karr 32 (kint .u8)) x1.Id), ((karr 32 (kint .u8)).V x1.Id), ((ksl k_api_Node).V p2), ((kint .i64).V y1), (ptrTo k_api_Node x2), (ptrTo (karr 32 (kint .u8)) x2.Id), ((karr 32 (kint .u8)).V x2.Id), (kbool.V (!decide (x1.Id = x2.Id))), (kbool.V (!decide (x1.Id = x2.Id))), (Fact.when ((!decide (x1.Id = x2.Id)) == false) ((ksl k_api_Node).V p1)), (Fact.when ((!decide (x1.Id = x2.Id)) == false) ((kint .i64).V y1)), (Fact.when ((!decide (x1.Id = x2.Id)) == false) (ptrTo k_api_Node x3)), (Fact.when ((!decide (x1.Id = x2.Id)) == false) (ptrTo (ksl (kint .i64)) x3.Past)), (Fact.when ((!decide (x1.Id = x2.Id)) == false) ((ksl (kint .i64)).V x3.Past)), (Fact.when ((!decide (x1.Id = x2.Id)) == false) ((ksl k_api_Node).V p2)), (Fact.when ((!decide (x1.Id = x2.Id)) == false) ((kint .i64).V y1)), (Fact.when ((!decide (x1.Id = x2.Id)) == false) (ptrTo k_api_Node x4)), (Fact.when ((!decide (x1.Id = x2.Id)) == false) (ptrTo (ksl (kint .i64)) x4.Past)), (Fact.when ((!decide (x1.Id = x2.Id)) == false) ((ksl (kint .i64)).V x4.Past)), (Fact.when ((!decide (x1.Id = x2.Id)) == false) (kbool.V x5)), (Fact.when ((!decide (x1.Id = x2.Id)) == false) (kbool.V (!x5))), (kbool.V (if (!decide (x1.Id = x2.Id)) then true else (!x5))), (kbool.V (if (!decide (x1.Id = x2.Id)) then true else (!x5))), (Fact.when ((if (!decide (x1.Id = x2.Id)) then true else (!x5)) == false) ((ksl k_api_Node).V p1)), (Fact.when ((if (!decide (x1.Id = x2.Id)) then true else (!x5)) == false) ((kint .i64).V y1)), (Fact.when ((if (!decide (x1.Id = x2.Id)) then true else (!x5)) == false) (ptrTo k_api_Node x6)), (Fact.when ((if (!decide (x1.Id = x2.Id)) then true else (!x5)) == false) (ptrTo k_api_Op x6.Op)), (Fact.when ((if (!decide (x1.Id = x2.Id)) then true else (!x5)) == false) (k_api_Op.V x6.Op)), (Fact.when ((if (!decide (x1.Id = x2.Id)) then true else (!x5)) == false) ((ksl k_api_Node).V p2)), (Fact.when ((if (!decide (x1.Id = x2.Id)) then true else (!x5)) == false) ((kint .i64).V y1)), (Fact.when ((if (!decide (x1.Id = x2.Id)) then true else (!x5)) == false) (ptrTo k_api_Node x7)), (Fact.when ((if (!decide (x1.Id = x2.Id)) then true else (!x5)) == false) (ptrTo k_api_Op x7.Op)), (Fact.when ((if (!decide (x1.Id = x2.Id)) then true else (!x5)) == false) (k_api_Op.V x7.Op))]) (bits := [0, 0, 3, 7, 15, 0, 0, 96, 224, 480, 1023, 2047, 4095, 4095, 16383, 32767, 65535, 4095, 4095, 397311, 921599, 1970175, 4194303, 8388607, 16777215, 33554431, 67108863, 67108863, 268435455, 536870911, 1073741823, 67108863, 67108863, 6509559807, 15099494399, 32279363583, 68719476735, 137438953471, 274877906943]) (m := 36) (todo := 0) mx s24 ?_; clear s24
      refine goes_last (by kernel_rfl) rfl (opsS_cons (.plain _ (Av.old (t := 0) rfl rfl Av.nil) rfl rfl (ob_move rfl (.tmp rfl))) (opsS_cons (.plain _ (Av.old (t := 5) rfl rfl Av.nil) rfl rfl (ob_move rfl (.tmp rfl))) (opsS_cons (.plain _ (Av.new (j := 0) rfl rfl rfl (Av.new (j := 1) rfl rfl rfl Av.nil)) rfl rfl (ob_indexAddrs rfl Try.underlying22 sz46 (.tmp rfl) (.tmp rfl) e_x1)) (opsS_cons (.plain _ (Av.new (j := 2) rfl rfl rfl Av.nil) rfl rfl (ob_fieldAddrr rfl Try.underlying46 rfl sz39 (by decide) (.tmp rfl) (lg_api_Node_Id x1))) (opsS_cons (.plain _ (Av.new (j := 3) rfl rfl rfl Av.nil) rfl rfl (ob_loadr rfl tk39 (.tmp rfl))) (opsS_cons (.plain _ (Av.old (t := 1) rfl rfl Av.nil) rfl rfl (ob_move rfl (.tmp rfl))) (opsS_cons (.plain _ (Av.old (t := 5) rfl rfl Av.nil) rfl rfl (ob_move rfl (.tmp rfl))) (opsS_cons (.plain _ (Av.new (j := 5) rfl rfl rfl (Av.new (j := 6) rfl rfl rfl Av.nil)) rfl rfl (ob_indexAddrs rfl Try.underlying22 sz46 (.tmp rfl) (.tmp rfl) e_x2)) (opsS_cons (.plain _ (Av.new (j := 7) rfl rfl rfl Av.nil) rfl rfl (ob_fieldAddrr rfl Try.underlying46 rfl sz39 (by decide) (.tmp rfl) (lg_api_Node_Id x2))) (opsS_cons (.plain _ (Av.new (j := 8) rfl rfl rfl Av.nil) rfl rfl (ob_loadr rfl tk39 (.tmp rfl))) (opsS_cons (.plain _ (Av.new (j := 4) rfl rfl rfl (Av.new (j := 9) rfl rfl rfl Av.nil)) rfl rfl (ob_neqAgg rfl rfl (by kernel_rfl) eq39 (by decide) (.tmp rfl) (.tmp rfl))) (opsS_cons (.plain _ (Av.new (j := 10) rfl rfl rfl Av.nil) rfl rfl (ob_move rfl (.tmp rfl))) (opsS_cons (.guarded _ (Av.old (t := 0) rfl rfl (Av.new (j := 11) rfl rfl rfl Av.nil)) rfl rfl rfl rfl (fun hb => ob_move rfl (.tmp rfl))) (opsS_cons (.guarded _ (Av.old (t := 5) rfl rfl (Av.new (j := 11) rfl rfl rfl Av.nil)) rfl rfl rfl rfl (fun hb => ob_move rfl (.tmp rfl))) (opsS_cons (.guarded _ (Av.new (j := 11) rfl rfl rfl (Av.new (j := 12) rfl rfl rfl (Av.new (j := 13) rfl rfl rfl Av.nil))) rfl rfl rfl rfl (fun hb => (Ob.uncond (t := 30) hb rfl ((Ob.uncond (t := 29) hb rfl (ob_indexAddrs rfl Try.underlying22 sz46 (.tmp rfl) (.tmp rfl) (ite_t hb e_x3))))))) (opsS_cons (.guarded _ (Av.new (j := 11) rfl rfl rfl (Av.new (j := 14) rfl rfl rfl Av.nil)) rfl rfl rfl rfl (fun hb => (Ob.uncond (t := 31) hb rfl (ob_fieldAddrr rfl Try.underlying46 rfl sz41 (by decide) (.tmp rfl) (lg_api_Node_Past x3))))) (opsS_cons (.guarded _ (Av.new (j := 11) rfl rfl rfl (Av.new (j := 15) rfl rfl rfl Av.nil)) rfl rfl rfl rfl (fun hb => (Ob.uncond (t := 32) hb rfl (ob_loadr rfl tk41 (.tmp rfl))))) (opsS_cons (.guarded _ (Av.old (t := 1) rfl rfl (Av.new (j := 11) rfl rfl rfl Av.nil)) rfl rfl rfl rfl (fun hb => ob_move rfl (.tmp rfl))) (opsS_cons (.guarded _ (Av.old (t := 5) rfl rfl (Av.new (j := 11) rfl rfl rfl Av.nil)) rfl rfl rfl rfl (fun hb => ob_move rfl (.tmp rfl))) (opsS_cons (.guarded _ (Av.new (j := 11) rfl rfl rfl (Av.new (j := 17) rfl rfl rfl (Av.new (j := 18) rfl rfl rfl Av.nil))) rfl rfl rfl rfl (fun hb => (Ob.uncond (t := 35) hb rfl ((Ob.uncond (t := 34) hb rfl (ob_indexAddrs rfl Try.underlying22 sz46 (.tmp rfl) (.tmp rfl) (ite_t hb e_x4))))))) (opsS_cons (.guarded _ (Av.new (j := 11) rfl rfl rfl (Av.new (j := 19) rfl rfl rfl Av.nil)) rfl rfl rfl rfl (fun hb => (Ob.uncond (t := 36) hb rfl (ob_fieldAddrr rfl Try.underlying46 rfl sz41 (by decide) (.tmp rfl) (lg_api_Node_Past x4))))) (opsS_cons (.guarded _ (Av.new (j := 11) rfl rfl rfl (Av.new (j := 20) rfl rfl rfl Av.nil)) rfl rfl rfl rfl (fun hb => (Ob.uncond (t := 37) hb rfl (ob_loadr rfl tk41 (.tmp rfl))))) (opsS_cons (.guarded _ (Av.new (j := 11) rfl rfl rfl (Av.new (j := 16) rfl rfl rfl (Av.new (j := 21) rfl rfl rfl Av.nil))) rfl rfl rfl rfl (fun hb => (Ob.uncond (t := 38) hb rfl ((Ob.uncond (t := 33) hb rfl (ob_callD (args := [_, _]) rfl .direct hb38 (fun a w s fs gs hf hg => by obtain rfl := hf.unnil; obtain rfl := hg.unnil; exact c_cabalref15_SameInts k _ _ _ (ite_t hb e_x5) _ _ _ _ (s.arg (.tmp rfl)) (s.arg (.tmp rfl))))))))) (opsS_cons (.guarded _ (Av.new (j := 11) rfl rfl rfl (Av.new (j := 22) rfl rfl rfl Av.nil)) rfl rfl rfl rfl (fun hb => (Ob.uncond (t := 39) hb rfl (ob_not rfl (.tmp rfl))))) (opsS_cons (.plain _ (Av.new (j := 11) rfl rfl rfl (Av.new (j := 23) rfl rfl rfl Av.nil)) rfl rfl (ob_or2 rfl (.tmp rfl) opd_bool (.tmp rfl))) (opsS_cons (.plain _ (Av.new (j := 24) rfl rfl rfl Av.nil) rfl rfl (ob_move rfl (.tmp rfl))) (opsS_cons (.guarded _ (Av.old (t := 0) rfl rfl (Av.new (j := 25) rfl rfl rfl Av.nil)) rfl rfl rfl rfl (fun hb => ob_move rfl (.tmp rfl))) (opsS_cons (.guarded _ (Av.old (t := 5) rfl rfl (Av.new (j := 25) rfl rfl rfl Av.nil)) rfl rfl rfl rfl (fun hb => ob_move rfl (.tmp rfl))) (opsS_cons (.guarded _ (Av.new (j := 25) rfl rfl rfl (Av.new (j := 26) rfl rfl rfl (Av.new (j := 27) rfl rfl rfl Av.nil))) rfl rfl rfl rfl (fun hb => (Ob.uncond (t := 44) hb rfl ((Ob.uncond (t := 43) hb rfl (ob_indexAddrs rfl Try.underlying22 sz46 (.tmp rfl) (.tmp rfl) (ite_t hb e_x6))))))) (opsS_cons (.guarded _ (Av.new (j := 25) rfl rfl rfl (Av.new (j := 28) rfl rfl rfl Av.nil)) rfl rfl rfl rfl (fun hb => (Ob.uncond (t := 45) hb rfl (ob_fieldAddrr rfl Try.underlying46 rfl sz44 (by decide) (.tmp rfl) (lg_api_Node_Op x6))))) (opsS_cons (.guarded _ (Av.new (j := 25) rfl rfl rfl (Av.new (j := 29) rfl rfl rfl Av.nil)) rfl rfl rfl rfl (fun hb => (Ob.uncond (t := 46) hb rfl (ob_loadr rfl tk44 (.tmp rfl))))) (opsS_cons (.guarded _ (Av.old (t := 1) rfl rfl (Av.new (j := 25) rfl rfl rfl Av.nil)) rfl rfl rfl rfl (fun hb => ob_move rfl (.tmp rfl))) (opsS_cons (.guarded _ (Av.old (t := 5) rfl rfl (Av.new (j := 25) rfl rfl rfl Av.nil)) rfl rfl rfl rfl (fun hb => ob_move rfl (.tmp rfl))) (opsS_cons (.guarded _ (Av.new (j := 25) rfl rfl rfl (Av.new (j := 31) rfl rfl rfl (Av.new (j := 32) rfl rfl rfl Av.nil))) rfl rfl rfl rfl (fun hb => (Ob.uncond (t := 49) hb rfl ((Ob.uncond (t := 48) hb rfl (ob_indexAddrs rfl Try.underlying22 sz46 (.tmp rfl) (.tmp rfl) (ite_t hb e_x7))))))) (opsS_cons (.guarded _ (Av.new (j := 25) rfl rfl rfl (Av.new (j := 33) rfl rfl rfl Av.nil)) rfl rfl rfl rfl (fun hb => (Ob.uncond (t := 50) hb rfl (ob_fieldAddrr rfl Try.underlying46 rfl sz44 (by decide) (.tmp rfl) (lg_api_Node_Op x7))))) (opsS_cons (.guarded _ (Av.new (j := 25) rfl rfl rfl (Av.new (j := 34) rfl rfl rfl Av.nil)) rfl rfl rfl rfl (fun hb => (Ob.uncond (t := 51) hb rfl (ob_loadr rfl tk44 (.tmp rfl))))) opsS_nil)))))))))))))))))))))))))))))))))))) (out_old (t := 0) rfl rfl (out_old (t := 1) rfl rfl (out_old (t := 5) rfl rfl (out_new (i := 25) (by decide) rfl rfl (out_new (i := 30) (by decide) rfl rfl (out_new (i := 35) (by decide) rfl rfl out_nil)))))) fun a25 w25 s25 => ?_
      obtain ⟨x8, e_x8, h14⟩ := bind_some h13; clear h13
      refine seq_opg s25 rfl rfl rfl rfl (of_decide_eq_true rfl) (fun hb => (Ob.uncond (t := 52) hb rfl ((Ob.uncond (t := 47) hb rfl (ob_callD (args := [_, _]) rfl .direct hb103 (fun a w s fs gs hf hg => by obtain rfl := hf.unnil; obtain rfl := hg.unnil; exact c_cabalref11_SameOp k _ _ _ (ite_t hb e_x8) _ _ _ _ (s.arg (.tmp rfl)) (s.arg (.tmp rfl)))))))) fun a26 w26 s26 => ?_; clear s25
      refine seq_opg s26 rfl rfl rfl rfl (of_decide_eq_true rfl) (fun hb => (Ob.uncond (t := 53) hb rfl (ob_not rfl (.tmp rfl)))) fun a27 w27 s27 => ?_; clear s26
      obtain ⟨x9, e_x9, h15⟩ := bind_some h14; clear h14; replace e_x9 := Option.some.inj e_x9
      refine seq_op s27 rfl rfl (of_decide_eq_true rfl) ((ob_or2 rfl (.tmp rfl) opd_bool (.tmp rfl)).nm e_x9) fun a28 w28 s28 => ?_; clear s27
      refine wpList_nil ?_
      refine then_normal ?_
      refine hK12 _ _ ?_
      have s29 := s28.sub (.cons (t := 0) rfl (.cons (t := 1) rfl (.cons (t := 5) rfl (.cons (t := 55) rfl .nil)))); clear s28
      refine cond_split s29 (.tmp rfl) (fun hc3 => ?_) (fun hc3 => ?_)
      · replace h15 := ite_t hc3 h15
        have h16 := h15; clear h15
        refine wp_seq_k fun K13 hK13 => ?_
        refine wp_region_lit ?_
        refine seq_op s29 rfl rfl (of_decide_eq_true rfl) (ob_assign rfl opd_bool) fun a30 w30 s30 => ?_; clear s29
        refine wpList_nil ?_
        refine then_normal ?_
        refine hK13 _ _ ?_
        have s31 := s30.sub (.cons (t := 4) rfl .nil); clear s30
        refine wp_ret ?_
        obtain rfl := Option.some.inj h16
        exact leave s31 (.inl rfl) rfl (.cons (.tmp rfl) .nil)
      · replace h15 := ite_f hc3 h15
        have h17 := h15; clear h15
        refine wp_skip ?_
        refine in_normal ?_
        refine then_normal ?_
        refine hK11 _ _ ?_
        have s32 := s29.sub (.cons (t := 0) rfl (.cons (t := 1) rfl (.cons (t := 5) rfl .nil))); clear s29
        refine wp_region_lit ?_
        refine seq_op s32 rfl rfl (of_decide_eq_true rfl) (ob_move rfl (.tmp rfl)) fun a33 w33 s33 => ?_; clear s32
        refine seq_op s33 rfl rfl (of_decide_eq_true rfl) (ob_add rfl (.tmp rfl) (opd_int rfl)) fun a34 w34 s34 => ?_; clear s33
        refine seq_op s34 rfl rfl (of_decide_eq_true rfl) (ob_assign rfl (.tmp rfl)) fun a35 w35 s35 => ?_; clear s34
        refine wpList_nil ?_
        refine then_normal ?_
        exact hK8 (iadd .i64 y1 (1 : Int)) _ _ h17 (s35.sub (.cons rfl (.cons rfl (.cons rfl .nil))))
    · replace h5 := ite_f hc2 h5
      have h18 := h5; clear h5
      refine wp_exit ?_
      refine (then_exit (then_exit (in_here ?_)))
      refine then_normal ?_
      exact hj1 _ _ h18 (s23.sub .nil)

/- 58 cabal/cabalref15.Heads -/
theorem c_cabalref15_Heads (k : Nat) (p1 : (List api_Node)) (r : (List (List Int))) (h0 : cabalref15_Heads k p1 = some r) (ok : Ok) (w0 : World) (z0 : Value) (u0 : ((ksl k_api_Node).V p1).holds ok w0 z0) :
    GivesX Try.prog 58 [z0] ok w0 [] (fun g : Value => resFact [is g]) (fun g : Value => [RowF (g) 39 (karr 32 (kint .u8)) r]) := by
  unfold cabalref15_Heads at h0
  refine enterX (N := 72) Try.func58 rfl rfl (of_decide_eq_true rfl) (.cons u0 .nil) List.nodup_nil (fun _ h => by cases h) (fun _ h => by cases h) fun a1 s1 => ?_
  refine wp_seq_k fun K1 hK1 => ?_
  refine wp_region_lit ?_
  refine seq_op s1 rfl rfl (of_decide_eq_true rfl) (ob_assign rfl opd_is) fun a2 w2 s2 => ?_; clear s1
  have s3 := St.adopt s2 (G := RowF (nilRow 23) 39 (karr 32 (kint .u8)) []) rfl (rowNilN _ _ _ _ _); clear s2
  refine wpList_nil ?_
  refine then_normal ?_
  refine hK1 _ _ ?_
  have s4 := s3.sub (.cons (t := 0) rfl .nil); clear s3
  have s5 := St.drop (A := []) s4; clear s4
  refine wp_seq_k fun K2 hK2 => ?_
  refine wp_region_lit ?_
  refine seq_op s5 rfl rfl (of_decide_eq_true rfl) (ob_assign rfl opd_is) fun a6 w6 s6 => ?_; clear s5
  have s7 := St.adopt s6 (G := RowF (nilRow 24) 39 (karr 32 (kint .u8)) []) rfl (rowNilN _ _ _ _ _); clear s6
  refine wpList_nil ?_
  refine then_normal ?_
  refine hK2 _ _ ?_
  have s8 := s7.sub (.cons (t := 0) rfl (.cons (t := 3) rfl .nil)); clear s7
  refine wp_seq_k fun K3 hK3 => ?_
  refine wp_seq_k fun K4 hK4 => ?_
  refine wp_region_lit ?_
  refine seq_op s8 rfl rfl (of_decide_eq_true rfl) (ob_assign rfl (opd_int rfl)) fun a9 w9 s9 => ?_; clear s8
  refine wpList_nil ?_
  refine then_normal ?_
  refine hK4 _ _ ?_
  have s10 := s9.sub (.cons (t := 0) rfl (.cons (t := 3) rfl (.cons (t := 4) rfl .nil))); clear s9
  have hj1 : ∀ (y1 : (List (List Int))) (v1 : Value) (a : Act) (w : World), (cabalref15_Heads.j1 k) y1 = some r → St ⟨72, w0, ok, (idsOf [])⟩ [RowF v1 39 (karr 32 (kint .u8)) y1] [(3, (is v1))] a w → K3 a w := by
    intro y1 v1 a11 w11 h1 s11
    unfold cabalref15_Heads.j1 at h1
    refine hK3 _ _ ?_
    refine wp_seq_k fun K5 hK5 => ?_
    refine wp_region_lit ?_
    refine seq_op s11 rfl rfl (of_decide_eq_true rfl) (ob_move rfl (.tmp rfl)) fun a12 w12 s12 => ?_; clear s11
    refine seq_op s12 rfl rfl (of_decide_eq_true rfl) (ob_assign rfl (.tmp rfl)) fun a13 w13 s13 => ?_; clear s12
    refine wpList_nil ?_
    refine then_normal ?_
    refine hK5 _ _ ?_
    have s14 := s13.sub (.cons (t := 2) rfl .nil); clear s13
    refine wp_ret ?_
    obtain rfl := Option.some.inj h1
    exact leaveXD (D := []) v1 s14 rfl (.inl rfl) rfl (.cons (.tmp rfl) .nil) rfl
  refine wp_block ?_
  refine wp_loop_fuel (fun m (q : Int × (List (List Int))) => cabalref15_Heads.l1 k p1 m q.1 q.2) r (fun _ => rfl) (fun q a w => ∃ (v2 : Value), St ⟨72, w0, ok, (idsOf [])⟩ [RowF v2 39 (karr 32 (kint .u8)) q.2] [(0, ((ksl k_api_Node).V p1)), (3, (is v2)), (4, ((kint .i64).V q.1))] a w) ?_ k ((0 : Int), ([] : (List (List Int)))) _ _ h0 ⟨(nilRow 24), (s10.sub (.cons rfl (.cons rfl (.cons rfl .nil))))⟩
  rintro n1 ⟨y2, y3⟩ a15 w15 h2 ⟨v2, s15⟩ K6 hK6
  replace h2 : cabalref15_Heads.l1 k p1 (n1 + 1) y2 y3 = some r := h2; rw [cabalref15_Heads.l1] at h2
  have h3 := h2; clear h2
  refine wp_seq_k fun K7 hK7 => ?_
  refine wp_seq_k fun K8 hK8 => ?_
  refine wp_region_lit ?_
  refine seq_op s15 rfl rfl (of_decide_eq_true rfl) (ob_move rfl (.tmp rfl)) fun a16 w16 s16 => ?_; clear s15
  refine seq_op s16 rfl rfl (of_decide_eq_true rfl) (ob_move rfl (.tmp rfl)) fun a17 w17 s17 => ?_; clear s16
  refine seq_op s17 rfl rfl (of_decide_eq_true rfl) (ob_lens rfl Try.underlying22 (.tmp rfl)) fun a18 w18 s18 => ?_; clear s17
  refine seq_op s18 rfl rfl (of_decide_eq_true rfl) (ob_lss rfl (.tmp rfl) (.tmp rfl)) fun a19 w19 s19 => ?_; clear s18
  refine wpList_nil ?_
  refine then_normal ?_
  refine hK8 _ _ ?_
  have s20 := s19.sub (.cons (t := 0) rfl (.cons (t := 3) rfl (.cons (t := 4) rfl (.cons (t := 12) rfl .nil)))); clear s19
  refine cond_split s20 (.tmp rfl) (fun hc1 => ?_) (fun hc1 => ?_)
  · replace h3 := ite_t hc1 h3
    have h4 := h3; clear h3
    refine wp_skip ?_
    refine then_normal ?_
    refine hK7 _ _ ?_
    have s21 := s20.sub (.cons (t := 0) rfl (.cons (t := 3) rfl (.cons (t := 4) rfl .nil))); clear s20
    refine wp_seq_k fun K9 hK9 => ?_
    have hj2 : ∀ (y4 : (List (List Int))) (v3 : Value) (a : Act) (w : World), (cabalref15_Heads.j2 k y2 (cabalref15_Heads.l1 k p1 n1)) y4 = some r → St ⟨72, w0, ok, (idsOf [])⟩ [RowF v3 39 (karr 32 (kint .u8)) y4] [(0, ((ksl k_api_Node).V p1)), (3, (is v3)), (4, ((kint .i64).V y2))] a w → K9 a w := by
      intro y4 v3 a22 w22 h5 s22
      unfold cabalref15_Heads.j2 at h5
      refine hK9 _ _ ?_
      refine wp_region_lit ?_
      refine seq_op s22 rfl rfl (of_decide_eq_true rfl) (ob_move rfl (.tmp rfl)) fun a23 w23 s23 => ?_; clear s22
      refine seq_op s23 rfl rfl (of_decide_eq_true rfl) (ob_add rfl (.tmp rfl) (opd_int rfl)) fun a24 w24 s24 => ?_; clear s23
      refine seq_op s24 rfl rfl (of_decide_eq_true rfl) (ob_assign rfl (.tmp rfl)) fun a25 w25 s25 => ?_; clear s24
      refine wpList_nil ?_
      refine then_normal ?_
      exact hK6 ((iadd .i64 y2 (1 : Int)), y4) _ _ h5 ⟨v3, (s25.sub (.cons rfl (.cons rfl (.cons rfl .nil))))⟩
    refine wp_block ?_
    refine wp_seq_k fun K10 hK10 => ?_
    refine wp_region_lit ?_
    refine seq_op s21 rfl rfl (of_decide_eq_true rfl) (ob_assign rfl opd_bool) fun a26 w26 s26 => ?_; clear s21
    refine wpList_nil ?_
    refine then_normal ?_
    refine hK10 _ _ ?_
    have s27 := s26.sub (.cons (t := 0) rfl (.cons (t := 3) rfl (.cons (t := 4) rfl (.cons (t := 5) rfl .nil)))); clear s26
    refine wp_seq_k fun K11 hK11 => ?_
    refine wp_seq_k fun K12 hK12 => ?_
    refine wp_region_lit ?_
    refine seq_op s27 rfl rfl (of_decide_eq_true rfl) (ob_assign rfl (opd_int rfl)) fun a28 w28 s28 => ?_; clear s27
    refine wpList_nil ?_
    refine then_normal ?_
    refine hK12 _ _ ?_
    have s29 := s28.sub (.cons (t := 0) rfl (.cons (t := 3) rfl (.cons (t := 4) rfl (.cons (t := 5) rfl (.cons (t := 6) rfl .nil))))); clear s28
    have hj3 : ∀ (y5 : Bool) (a : Act) (w : World), (cabalref15_Heads.j3 k y2 y3 p1 (cabalref15_Heads.l1 k p1 n1)) y5 = some r → St ⟨72, w0, ok, (idsOf [])⟩ [RowF v2 39 (karr 32 (kint .u8)) y3] [(0, ((ksl k_api_Node).V p1)), (3, (is v2)), (4, ((kint .i64).V y2)), (5, (kbool.V y5))] a w → K11 a w := by
      intro y5 a30 w30 h6 s30
      unfold cabalref15_Heads.j3 at h6
      refine hK11 _ _ ?_
      refine wp_seq_k fun K13 hK13 => ?_
      refine wp_seq_k fun K14 hK14 => ?_
      refine wp_region_lit ?_
      refine seq_op s30 rfl rfl (of_decide_eq_true rfl) (ob_move rfl (.tmp rfl)) fun a31 w31 s31 => ?_; clear s30
      refine seq_op s31 rfl rfl (of_decide_eq_true rfl) (ob_not rfl (.tmp rfl)) fun a32 w32 s32 => ?_; clear s31
      refine wpList_nil ?_
      refine then_normal ?_
      refine hK14 _ _ ?_
      have s33 := s32.sub (.cons (t := 0) rfl (.cons (t := 3) rfl (.cons (t := 4) rfl (.cons (t := 33) rfl .nil)))); clear s32
      refine cond_split s33 (.tmp rfl) (fun hc2 => ?_) (fun hc2 => ?_)
      · replace h6 := ite_t hc2 h6
        have h7 := h6; clear h6
        refine wp_exit ?_
        refine (then_exit (in_here ?_))
        refine then_normal ?_
        exact hj2 y3 v2 _ _ h7 (s33.sub (.cons rfl (.cons rfl (.cons rfl .nil))))
      · replace h6 := ite_f hc2 h6
        have h8 := h6; clear h6
        refine wp_skip ?_
        refine then_normal ?_
        refine hK13 _ _ ?_
        have s34 := s33.sub (.cons (t := 0) rfl (.cons (t := 3) rfl (.cons (t := 4) rfl .nil))); clear s33
        refine wp_seq_k fun K15 hK15 => ?_
        refine wp_region_lit ?_
        refine seq_op s34 rfl rfl (of_decide_eq_true rfl) (ob_assign rfl (opd_int rfl)) fun a35 w35 s35 => ?_; clear s34
        refine wpList_nil ?_
        refine then_normal ?_
        refine hK15 _ _ ?_
        have s36 := s35.sub (.cons (t := 0) rfl (.cons (t := 3) rfl (.cons (t := 4) rfl (.cons (t := 7) rfl .nil)))); clear s35
        refine wp_seq_k fun K16 hK16 => ?_
        have hj4 : ∀ (y6 : Int) (a : Act) (w : World), (cabalref15_Heads.j4 k y3 p1 y2 (cabalref15_Heads.l1 k p1 n1)) y6 = some r → St ⟨72, w0, ok, (idsOf [])⟩ [RowF v2 39 (karr 32 (kint .u8)) y3] [(0, ((ksl k_api_Node).V p1)), (3, (is v2)), (4, ((kint .i64).V y2)), (7, ((kint .i64).V y6))] a w → K16 a w := by
          intro y6 a37 w37 h9 s37
          unfold cabalref15_Heads.j4 at h9
          refine hK16 _ _ ?_
          refine wp_seq_k fun K17 hK17 => ?_
          refine wp_region_lit ?_
          refine seq_op s37 rfl rfl (of_decide_eq_true rfl) (ob_assign rfl opd_is) fun a38 w38 s38 => ?_; clear s37
          have s39 := St.adopt s38 (G := RowF (nilRow 25) 39 (karr 32 (kint .u8)) []) rfl (rowNilN _ _ _ _ _); clear s38
          refine wpList_nil ?_
          refine then_normal ?_
          refine hK17 _ _ ?_
          have s40 := s39.sub (.cons (t := 0) rfl (.cons (t := 3) rfl (.cons (t := 4) rfl (.cons (t := 7) rfl (.cons (t := 8) rfl .nil))))); clear s39
          refine wp_seq_k fun K18 hK18 => ?_
          refine wp_region_lit ?_
          refine seq_op s40 rfl rfl (of_decide_eq_true rfl) (ob_move rfl (.tmp rfl)) fun a41 w41 s41 => ?_; clear s40
          refine seq_op s41 rfl rfl (of_decide_eq_true rfl) (ob_move rfl (.tmp rfl)) fun a42 w42 s42 => ?_; clear s41
          refine seq_op s42 rfl rfl (of_decide_eq_true rfl) (ob_move rfl (.tmp rfl)) fun a43 w43 s43 => ?_; clear s42
          have s44 := St.freezeAllM (A := [_]) s43 (ts := [3, 53]) (.cons rfl (.cons rfl .nil)); clear s43
          obtain ⟨x1, e_x1, h10⟩ := bind_some h9; clear h9
          refine seq_op s44 rfl rfl (of_decide_eq_true rfl) (ob_cuts rfl Try.underlying40 sz39 (.tmp rfl) .none (.some (.tmp rfl)) e_x1) fun a45 w45 s45 => ?_; clear s44
          obtain ⟨g1, h11⟩ := guard_some h10; clear h10
          refine seq_opx (B' := (fun v4 : Value => [RowF v4 39 (karr 32 (kint .u8)) (([] : (List (List Int))) ++ x1)])) s45 rfl rfl (of_decide_eq_true rfl) (ob_appendL2 (A := []) rfl Try.underlying40 ap39 (Zr.arr 32 (Zr.int .u8)) (by decide) (.tmp rfl) (.tmp rfl) rfl g1) fun v4 a46 w46 s46 => ?_; clear s45
          refine seq_op s46 rfl rfl (of_decide_eq_true rfl) (ob_assign rfl (.tmp rfl)) fun a47 w47 s47 => ?_; clear s46
          refine wpList_nil ?_
          refine then_normal ?_
          refine hK18 _ _ ?_
          have s48 := s47.sub (.cons (t := 0) rfl (.cons (t := 3) rfl (.cons (t := 4) rfl (.cons (t := 7) rfl (.cons (t := 8) rfl .nil))))); clear s47
          refine wp_seq_k fun K19 hK19 => ?_
          refine wp_region_lit ?_
          refine seq_op s48 rfl rfl (of_decide_eq_true rfl) (ob_move rfl (.tmp rfl)) fun a49 w49 s49 => ?_; clear s48
          refine seq_op s49 rfl rfl (of_decide_eq_true rfl) (ob_move rfl (.tmp rfl)) fun a50 w50 s50 => ?_; clear s49
          refine seq_op s50 rfl rfl (of_decide_eq_true rfl) (ob_move rfl (.tmp rfl)) fun a51 w51 s51 => ?_; clear s50
          obtain ⟨x2, e_x2, h12⟩ := bind_some h11; clear h11
          refine seq_op s51 rfl rfl (of_decide_eq_true rfl) (ob_indexAddrs rfl Try.underlying22 sz46 (.tmp rfl) (.tmp rfl) e_x2) fun a52 w52 s52 => ?_; clear s51
          refine seq_op s52 rfl rfl (of_decide_eq_true rfl) (ob_fieldAddrr rfl Try.underlying46 rfl sz39 (by decide) (.tmp rfl) (lg_api_Node_Id x2)) fun a53 w53 s53 => ?_; clear s52
          refine seq_op s53 rfl rfl (of_decide_eq_true rfl) (ob_loadr rfl tk39 (.tmp rfl)) fun a54 w54 s54 => ?_; clear s53
          refine seq_op s54 rfl rfl (of_decide_eq_true rfl) (ob_mkSlice (k := (karr 32 (kint .u8))) (xs := ([x2.Id] : (List (List Int)))) rfl Try.underlying40 zz39 sz39 (Zr.arr 32 (Zr.int .u8)) (by decide) (by decide) (.cons (.tmp rfl) rfl (LS.arr' (i := 0) (ys := ([x2.Id] : (List (List Int)))) (by simp) (by rfl)) (.nil _))) fun a55 w55 s55 => ?_; clear s54
          obtain ⟨g2, h13⟩ := guard_some h12; clear h12
          refine seq_opx (B' := (fun v5 : Value => [RowF v5 39 (karr 32 (kint .u8)) ((([] : (List (List Int))) ++ x1) ++ ([x2.Id] : (List (List Int))))])) s55 rfl rfl (of_decide_eq_true rfl) (ob_appendL2 (A := []) rfl Try.underlying40 ap39 (Zr.arr 32 (Zr.int .u8)) (by decide) (.tmp rfl) (.tmp rfl) rfl g2) fun v5 a56 w56 s56 => ?_; clear s55
          refine seq_op s56 rfl rfl (of_decide_eq_true rfl) (ob_assign rfl (.tmp rfl)) fun a57 w57 s57 => ?_; clear s56
          refine wpList_nil ?_
          refine then_normal ?_
          refine hK19 _ _ ?_
          have s58 := s57.sub (.cons (t := 0) rfl (.cons (t := 3) rfl (.cons (t := 4) rfl (.cons (t := 7) rfl (.cons (t := 8) rfl .nil))))); clear s57
          refine wp_seq_k fun K20 hK20 => ?_
          refine wp_region_lit ?_
          refine seq_op s58 rfl rfl (of_decide_eq_true rfl) (ob_move rfl (.tmp rfl)) fun a59 w59 s59 => ?_; clear s58
          refine seq_op s59 rfl rfl (of_decide_eq_true rfl) (ob_move rfl (.tmp rfl)) fun a60 w60 s60 => ?_; clear s59
          refine seq_op s60 rfl rfl (of_decide_eq_true rfl) (ob_move rfl (.tmp rfl)) fun a61 w61 s61 => ?_; clear s60
          obtain ⟨x3, e_x3, h14⟩ := bind_some h13; clear h13
          refine seq_op s61 rfl rfl (of_decide_eq_true rfl) (ob_cuts rfl Try.underlying40 sz39 (.tmp rfl) (.some (.tmp rfl)) .none e_x3) fun a62 w62 s62 => ?_; clear s61
          obtain ⟨g3, h15⟩ := guard_some h14; clear h14
          refine seq_opx (B' := (fun v6 : Value => [RowF v6 39 (karr 32 (kint .u8)) (((([] : (List (List Int))) ++ x1) ++ ([x2.Id] : (List (List Int)))) ++ x3)])) s62 rfl rfl (of_decide_eq_true rfl) (ob_appendL2 (A := []) rfl Try.underlying40 ap39 (Zr.arr 32 (Zr.int .u8)) (by decide) (.tmp rfl) (.tmp rfl) rfl g3) fun v6 a63 w63 s63 => ?_; clear s62
          refine seq_op s63 rfl rfl (of_decide_eq_true rfl) (ob_assign rfl (.tmp rfl)) fun a64 w64 s64 => ?_; clear s63
          refine wpList_nil ?_
          refine then_normal ?_
          refine hK20 _ _ ?_
          have s65 := s64.sub (.cons (t := 0) rfl (.cons (t := 4) rfl (.cons (t := 8) rfl .nil))); clear s64
          refine wp_region_lit ?_
          refine seq_op s65 rfl rfl (of_decide_eq_true rfl) (ob_move rfl (.tmp rfl)) fun a66 w66 s66 => ?_; clear s65
          refine seq_op s66 rfl rfl (of_decide_eq_true rfl) (ob_assign rfl (.tmp rfl)) fun a67 w67 s67 => ?_; clear s66
          refine wpList_nil ?_
          refine in_normal ?_
          refine then_normal ?_
          exact hj2 (((([] : (List (List Int))) ++ x1) ++ ([x2.Id] : (List (List Int)))) ++ x3) v6 _ _ h15 (s67.sub (.cons rfl (.cons rfl (.cons rfl .nil))))
        refine wp_block ?_
        refine wp_loop_fuel (fun m (q : Int) => cabalref15_Heads.l2 k y3 p1 y2 (cabalref15_Heads.l1 k p1 n1) m q) r (fun _ => rfl) (fun q a w => St ⟨72, w0, ok, (idsOf [])⟩ [RowF v2 39 (karr 32 (kint .u8)) y3] [(0, ((ksl k_api_Node).V p1)), (3, (is v2)), (4, ((kint .i64).V y2)), (7, ((kint .i64).V q))] a w) ?_ k (0 : Int) _ _ h8 (s36.sub (.cons rfl (.cons rfl (.cons rfl (.cons rfl .nil)))))
        rintro n2 y7 a68 w68 h16 s68 K21 hK21
        replace h16 : cabalref15_Heads.l2 k y3 p1 y2 (cabalref15_Heads.l1 k p1 n1) (n2 + 1) y7 = some r := h16; rw [cabalref15_Heads.l2] at h16
        have h17 := h16; clear h16
        refine wp_seq_k fun K22 hK22 => ?_
        refine wp_seq_k fun K23 hK23 => ?_
        obtain ⟨g4, h18⟩ := guard_some h17; clear h17
        obtain ⟨x4, e_x4, h19⟩ := bind_some h18; clear h18
        obtain ⟨x5, e_x5, h20⟩ := bind_some h19; clear h19
        refine wp_goes (Fs := [((kint .i64).V y7), (is v2), ((kint .i64).V (y3.length : Int)), (kbool.V (decide (y7 < (y3.length : Int)))), (kbool.V (decide (y7 < (y3.length : Int)))), (Fact.when ((decide (y7 < (y3.length : Int))) == true) (is v2)), (Fact.when ((decide (y7 < (y3.length : Int))) == true) ((kint .i64).V y7)), (Fact.when ((decide (y7 < (y3.length : Int))) == true) (ptrR v2 (y7.toNat * 32))), (Fact.when ((decide (y7 < (y3.length : Int))) == true) ((karr 32 (kint .u8)).V x4)), (Fact.when ((decide (y7 < (y3.length : Int))) == true) ((ksl k_api_Node).V p1)), (Fact.when ((decide (y7 < (y3.length : Int))) == true) ((kint .i64).V y2)), (Fact.when ((decide (y7 < (y3.length : Int))) == true) (ptrTo k_api_Node x5)), (Fact.when ((decide (y7 < (y3.length : Int))) == true) (ptrTo (karr 32 (kint .u8)) x5.Id)), (Fact.when ((decide (y7 < (y3.length : Int))) == true) ((karr 32 (kint .u8)).V x5.Id))]) (bits := [0, 0, 2, 7, 15, 31, 31, 127, 255, 31, 31, 1567, 3615, 7711, 16383, 32767]) (m := 14) (todo := 0) mx s68 ?_; clear s68
        refine goes_last (by kernel_rfl) rfl (opsS_cons (.plain _ (Av.old (t := 7) rfl rfl Av.nil) rfl rfl (ob_move rfl (.tmp rfl))) (opsS_cons (.plain _ (Av.old (t := 3) rfl rfl Av.nil) rfl rfl (ob_move rfl (.tmp rfl))) (opsS_cons (.plain _ (Av.new (j := 1) rfl rfl rfl Av.nil) rfl rfl (ob_lenRow rfl Try.underlying40 (.tmp rfl) (.head _))) (opsS_cons (.plain _ (Av.new (j := 0) rfl rfl rfl (Av.new (j := 2) rfl rfl rfl Av.nil)) rfl rfl (ob_lss rfl (.tmp rfl) (.tmp rfl))) (opsS_cons (.plain _ (Av.new (j := 3) rfl rfl rfl Av.nil) rfl rfl (ob_move rfl (.tmp rfl))) (opsS_cons (.guarded _ (Av.old (t := 3) rfl rfl (Av.new (j := 4) rfl rfl rfl Av.nil)) rfl rfl rfl rfl (fun hb => ob_move rfl (.tmp rfl))) (opsS_cons (.guarded _ (Av.old (t := 7) rfl rfl (Av.new (j := 4) rfl rfl rfl Av.nil)) rfl rfl rfl rfl (fun hb => ob_move rfl (.tmp rfl))) (opsS_cons (.guarded _ (Av.new (j := 4) rfl rfl rfl (Av.new (j := 5) rfl rfl rfl (Av.new (j := 6) rfl rfl rfl Av.nil))) rfl rfl rfl rfl (fun hb => (Ob.uncond (t := 40) hb rfl ((Ob.uncond (t := 39) hb rfl (ob_rowAt rfl Try.underlying40 sz39 (.tmp rfl) (.head _) (.tmp rfl) (g4 hb))))))) (opsS_cons (.guarded _ (Av.new (j := 4) rfl rfl rfl (Av.new (j := 7) rfl rfl rfl Av.nil)) rfl rfl rfl rfl (fun hb => (Ob.uncond (t := 41) hb rfl (ob_rowLoad rfl tk39 (.tmp rfl) (.head _) (LG.arrA (ite_t hb e_x4)))))) (opsS_cons (.guarded _ (Av.old (t := 0) rfl rfl (Av.new (j := 4) rfl rfl rfl Av.nil)) rfl rfl rfl rfl (fun hb => ob_move rfl (.tmp rfl))) (opsS_cons (.guarded _ (Av.old (t := 4) rfl rfl (Av.new (j := 4) rfl rfl rfl Av.nil)) rfl rfl rfl rfl (fun hb => ob_move rfl (.tmp rfl))) (opsS_cons (.guarded _ (Av.new (j := 4) rfl rfl rfl (Av.new (j := 9) rfl rfl rfl (Av.new (j := 10) rfl rfl rfl Av.nil))) rfl rfl rfl rfl (fun hb => (Ob.uncond (t := 44) hb rfl ((Ob.uncond (t := 43) hb rfl (ob_indexAddrs rfl Try.underlying22 sz46 (.tmp rfl) (.tmp rfl) (ite_t hb e_x5))))))) (opsS_cons (.guarded _ (Av.new (j := 4) rfl rfl rfl (Av.new (j := 11) rfl rfl rfl Av.nil)) rfl rfl rfl rfl (fun hb => (Ob.uncond (t := 45) hb rfl (ob_fieldAddrr rfl Try.underlying46 rfl sz39 (by decide) (.tmp rfl) (lg_api_Node_Id x5))))) (opsS_cons (.guarded _ (Av.new (j := 4) rfl rfl rfl (Av.new (j := 12) rfl rfl rfl Av.nil)) rfl rfl rfl rfl (fun hb => (Ob.uncond (t := 46) hb rfl (ob_loadr rfl tk39 (.tmp rfl))))) opsS_nil)))))))))))))) (out_old (t := 0) rfl rfl (out_old (t := 3) rfl rfl (out_old (t := 4) rfl rfl (out_old (t := 7) rfl rfl (out_new (i := 4) (by decide) rfl rfl (out_new (i := 8) (by decide) rfl rfl (out_new (i := 13) (by decide) rfl rfl out_nil))))))) fun a69 w69 s69 => ?_
        obtain ⟨x6, e_x6, h21⟩ := bind_some h20; clear h20
        refine seq_opg s69 rfl rfl rfl rfl (of_decide_eq_true rfl) (fun hb => (Ob.uncond (t := 47) hb rfl ((Ob.uncond (t := 42) hb rfl (ob_callD (args := [_, _]) rfl .direct hb108 (fun a w s fs gs hf hg => by obtain rfl := hf.unnil; obtain rfl := hg.unnil; exact c_cabalref11_Less k _ _ _ (ite_t hb e_x6) _ _ _ _ (s.arg (.tmp rfl)) (s.arg (.tmp rfl)))))))) fun a70 w70 s70 => ?_; clear s69
        refine seq_op s70 rfl rfl (of_decide_eq_true rfl) (ob_and2 rfl (.tmp rfl) (.tmp rfl) opd_bool) fun a71 w71 s71 => ?_; clear s70
        refine wpList_nil ?_
        refine then_normal ?_
        refine hK23 _ _ ?_
        have s72 := s71.sub (.cons (t := 0) rfl (.cons (t := 3) rfl (.cons (t := 4) rfl (.cons (t := 7) rfl (.cons (t := 49) rfl .nil))))); clear s71
        refine cond_split s72 (.tmp rfl) (fun hc3 => ?_) (fun hc3 => ?_)
        · replace h21 := ite_t hc3 h21
          have h22 := h21; clear h21
          refine wp_skip ?_
          refine then_normal ?_
          refine hK22 _ _ ?_
          have s73 := s72.sub (.cons (t := 0) rfl (.cons (t := 3) rfl (.cons (t := 4) rfl (.cons (t := 7) rfl .nil)))); clear s72
          refine wp_block ?_
          refine wp_region_lit ?_
          refine seq_op s73 rfl rfl (of_decide_eq_true rfl) (ob_move rfl (.tmp rfl)) fun a74 w74 s74 => ?_; clear s73
          refine seq_op s74 rfl rfl (of_decide_eq_true rfl) (ob_add rfl (.tmp rfl) (opd_int rfl)) fun a75 w75 s75 => ?_; clear s74
          refine seq_op s75 rfl rfl (of_decide_eq_true rfl) (ob_assign rfl (.tmp rfl)) fun a76 w76 s76 => ?_; clear s75
          refine wpList_nil ?_
          refine in_normal ?_
          refine then_normal ?_
          exact hK21 (iadd .i64 y7 (1 : Int)) _ _ h22 (s76.sub (.cons rfl (.cons rfl (.cons rfl (.cons rfl .nil)))))
        · replace h21 := ite_f hc3 h21
          have h23 := h21; clear h21
          refine wp_exit ?_
          refine (then_exit (then_exit (in_here ?_)))
          refine then_normal ?_
          exact hj4 y7 _ _ h23 (s72.sub (.cons rfl (.cons rfl (.cons rfl (.cons rfl .nil)))))
    refine wp_block ?_
    refine wp_loop_fuel (fun m (q : Bool × Int) => cabalref15_Heads.l3 k p1 y2 y3 (cabalref15_Heads.l1 k p1 n1) m q.1 q.2) r (fun _ => rfl) (fun q a w => St ⟨72, w0, ok, (idsOf [])⟩ [RowF v2 39 (karr 32 (kint .u8)) y3] [(0, ((ksl k_api_Node).V p1)), (3, (is v2)), (4, ((kint .i64).V y2)), (5, (kbool.V q.1)), (6, ((kint .i64).V q.2))] a w) ?_ k (true, (0 : Int)) _ _ h4 (s29.sub (.cons rfl (.cons rfl (.cons rfl (.cons rfl (.cons rfl .nil))))))
    rintro n3 ⟨y8, y9⟩ a77 w77 h24 s77 K24 hK24
    replace h24 : cabalref15_Heads.l3 k p1 y2 y3 (cabalref15_Heads.l1 k p1 n1) (n3 + 1) y8 y9 = some r := h24; rw [cabalref15_Heads.l3] at h24
    have h25 := h24; clear h24
    refine wp_seq_k fun K25 hK25 => ?_
    refine wp_seq_k fun K26 hK26 => ?_
    refine wp_region_lit ?_
    refine seq_op s77 rfl rfl (of_decide_eq_true rfl) (ob_move rfl (.tmp rfl)) fun a78 w78 s78 => ?_; clear s77
    refine seq_op s78 rfl rfl (of_decide_eq_true rfl) (ob_move rfl (.tmp rfl)) fun a79 w79 s79 => ?_; clear s78
    refine seq_op s79 rfl rfl (of_decide_eq_true rfl) (ob_lens rfl Try.underlying22 (.tmp rfl)) fun a80 w80 s80 => ?_; clear s79
    refine seq_op s80 rfl rfl (of_decide_eq_true rfl) (ob_lss rfl (.tmp rfl) (.tmp rfl)) fun a81 w81 s81 => ?_; clear s80
    refine wpList_nil ?_
    refine then_normal ?_
    refine hK26 _ _ ?_
    have s82 := s81.sub (.cons (t := 0) rfl (.cons (t := 3) rfl (.cons (t := 4) rfl (.cons (t := 5) rfl (.cons (t := 6) rfl (.cons (t := 18) rfl .nil)))))); clear s81
    refine cond_split s82 (.tmp rfl) (fun hc4 => ?_) (fun hc4 => ?_)
    · replace h25 := ite_t hc4 h25
      have h26 := h25; clear h25
      refine wp_skip ?_
      refine then_normal ?_
      refine hK25 _ _ ?_
      have s83 := s82.sub (.cons (t := 0) rfl (.cons (t := 3) rfl (.cons (t := 4) rfl (.cons (t := 5) rfl (.cons (t := 6) rfl .nil))))); clear s82
      refine wp_seq_k fun K27 hK27 => ?_
      refine wp_block ?_
      refine wp_region_lit ?_
      refine seq_op s83 rfl rfl (of_decide_eq_true rfl) (ob_move rfl (.tmp rfl)) fun a84 w84 s84 => ?_; clear s83
      refine seq_op s84 rfl rfl (of_decide_eq_true rfl) (ob_move rfl (.tmp rfl)) fun a85 w85 s85 => ?_; clear s84
      refine seq_opg s85 rfl rfl rfl rfl (of_decide_eq_true rfl) (fun hb => ob_move rfl (.tmp rfl)) fun a86 w86 s86 => ?_; clear s85
      refine seq_opg s86 rfl rfl rfl rfl (of_decide_eq_true rfl) (fun hb => ob_move rfl (.tmp rfl)) fun a87 w87 s87 => ?_; clear s86
      obtain ⟨x7, e_x7, h27⟩ := bind_some h26; clear h26
      refine seq_opg s87 rfl rfl rfl rfl (of_decide_eq_true rfl) (fun hb => (Ob.uncond (t := 24) hb rfl ((Ob.uncond (t := 23) hb rfl (ob_indexAddrs rfl Try.underlying22 sz46 (.tmp rfl) (.tmp rfl) (ite_t hb e_x7)))))) fun a88 w88 s88 => ?_; clear s87
      refine seq_opg s88 rfl rfl rfl rfl (of_decide_eq_true rfl) (fun hb => (Ob.uncond (t := 25) hb rfl (ob_fieldAddrr rfl Try.underlying46 rfl sz41 (by decide) (.tmp rfl) (lg_api_Node_Past x7)))) fun a89 w89 s89 => ?_; clear s88
      refine seq_opg s89 rfl rfl rfl rfl (of_decide_eq_true rfl) (fun hb => (Ob.uncond (t := 26) hb rfl (ob_loadr rfl tk41 (.tmp rfl)))) fun a90 w90 s90 => ?_; clear s89
      refine seq_opg s90 rfl rfl rfl rfl (of_decide_eq_true rfl) (fun hb => ob_move rfl (.tmp rfl)) fun a91 w91 s91 => ?_; clear s90
      obtain ⟨x8, e_x8, h28⟩ := bind_some h27; clear h27
      refine seq_opg s91 rfl rfl rfl rfl (of_decide_eq_true rfl) (fun hb => (Ob.uncond (t := 28) hb rfl ((Ob.uncond (t := 27) hb rfl (ob_callD (args := [_, _]) rfl .direct hb44 (fun a w s fs gs hf hg => by obtain rfl := hf.unnil; obtain rfl := hg.unnil; exact c_cabalref15_In k _ _ _ (ite_t hb e_x8) _ _ _ _ (s.arg (.tmp rfl)) (s.arg (.tmp rfl)))))))) fun a92 w92 s92 => ?_; clear s91
      refine seq_opg s92 rfl rfl rfl rfl (of_decide_eq_true rfl) (fun hb => (Ob.uncond (t := 29) hb rfl (ob_not rfl (.tmp rfl)))) fun a93 w93 s93 => ?_; clear s92
      refine seq_op s93 rfl rfl (of_decide_eq_true rfl) (ob_and2 rfl (.tmp rfl) (.tmp rfl) opd_bool) fun a94 w94 s94 => ?_; clear s93
      refine seq_op s94 rfl rfl (of_decide_eq_true rfl) (ob_assign rfl (.tmp rfl)) fun a95 w95 s95 => ?_; clear s94
      refine wpList_nil ?_
      refine in_normal ?_
      refine then_normal ?_
      refine hK27 _ _ ?_
      have s96 := s95.sub (.cons (t := 0) rfl (.cons (t := 3) rfl (.cons (t := 4) rfl (.cons (t := 5) rfl (.cons (t := 6) rfl .nil))))); clear s95
      refine wp_region_lit ?_
      refine seq_op s96 rfl rfl (of_decide_eq_true rfl) (ob_move rfl (.tmp rfl)) fun a97 w97 s97 => ?_; clear s96
      refine seq_op s97 rfl rfl (of_decide_eq_true rfl) (ob_add rfl (.tmp rfl) (opd_int rfl)) fun a98 w98 s98 => ?_; clear s97
      refine seq_op s98 rfl rfl (of_decide_eq_true rfl) (ob_assign rfl (.tmp rfl)) fun a99 w99 s99 => ?_; clear s98
      refine wpList_nil ?_
      refine then_normal ?_
      exact hK24 ((if y8 then (!x8) else false), (iadd .i64 y9 (1 : Int))) _ _ h28 (s99.sub (.cons rfl (.cons rfl (.cons rfl (.cons rfl (.cons rfl .nil))))))
    · replace h25 := ite_f hc4 h25
      have h29 := h25; clear h25
      refine wp_exit ?_
      refine (then_exit (then_exit (in_here ?_)))
      refine then_normal ?_
      exact hj3 y8 _ _ h29 (s82.sub (.cons rfl (.cons rfl (.cons rfl (.cons rfl .nil)))))
  · replace h3 := ite_f hc1 h3
    have h30 := h3; clear h3
    refine wp_exit ?_
    refine (then_exit (then_exit (in_here ?_)))
    refine then_normal ?_
    exact hj1 y3 v2 _ _ h30 (s20.sub (.cons rfl .nil))

/- 49 cabal/cabalref08.SameKeys -/
theorem c_cabalref08_SameKeys (k : Nat) (p1 : (List (List Int))) (p2 : (List (List Int))) (r : Bool) (h0 : cabalref08_SameKeys k p1 p2 = some r) (ok : Ok) (w0 : World) (z0 : Value) (z1 : Value) (u0 : ((ksl (karr 32 (kint .u8))).V p1).holds ok w0 z0) (u1 : ((ksl (karr 32 (kint .u8))).V p2).holds ok w0 z1) :
    Gives Try.prog 49 [z0, z1] ok w0 (resFact [kbool.V r]) := by
  unfold cabalref08_SameKeys at h0
  refine enter (N := 26) Try.func49 rfl rfl (of_decide_eq_true rfl) (.cons u0 (.cons u1 .nil)) fun a1 s1 => ?_
  refine wp_seq_k fun K1 hK1 => ?_
  refine wp_region_lit ?_
  refine seq_op s1 rfl rfl (of_decide_eq_true rfl) (ob_assign rfl opd_bool) fun a2 w2 s2 => ?_; clear s1
  refine wpList_nil ?_
  refine then_normal ?_
  refine hK1 _ _ ?_
  have s3 := s2.sub (.cons (t := 0) rfl (.cons (t := 1) rfl .nil)); clear s2
  refine wp_seq_k fun K2 hK2 => ?_
  refine wp_seq_k fun K3 hK3 => ?_
  refine wp_region_lit ?_
  refine seq_op s3 rfl rfl (of_decide_eq_true rfl) (ob_move rfl (.tmp rfl)) fun a4 w4 s4 => ?_; clear s3
  refine seq_op s4 rfl rfl (of_decide_eq_true rfl) (ob_lens rfl Try.underlying40 (.tmp rfl)) fun a5 w5 s5 => ?_; clear s4
  refine seq_op s5 rfl rfl (of_decide_eq_true rfl) (ob_move rfl (.tmp rfl)) fun a6 w6 s6 => ?_; clear s5
  refine seq_op s6 rfl rfl (of_decide_eq_true rfl) (ob_lens rfl Try.underlying40 (.tmp rfl)) fun a7 w7 s7 => ?_; clear s6
  refine seq_op s7 rfl rfl (of_decide_eq_true rfl) (ob_neq rfl (.tmp rfl) (.tmp rfl)) fun a8 w8 s8 => ?_; clear s7
  refine wpList_nil ?_
  refine then_normal ?_
  refine hK3 _ _ ?_
  have s9 := s8.sub (.cons (t := 0) rfl (.cons (t := 1) rfl (.cons (t := 10) rfl .nil))); clear s8
  refine cond_split s9 (.tmp rfl) (fun hc1 => ?_) (fun hc1 => ?_)
  · replace h0 := ite_t hc1 h0
    have h1 := h0; clear h0
    refine wp_seq_k fun K4 hK4 => ?_
    refine wp_region_lit ?_
    refine seq_op s9 rfl rfl (of_decide_eq_true rfl) (ob_assign rfl opd_bool) fun a10 w10 s10 => ?_; clear s9
    refine wpList_nil ?_
    refine then_normal ?_
    refine hK4 _ _ ?_
    have s11 := s10.sub (.cons (t := 4) rfl .nil); clear s10
    refine wp_ret ?_
    obtain rfl := Option.some.inj h1
    exact leave s11 (.inl rfl) rfl (.cons (.tmp rfl) .nil)
  · replace h0 := ite_f hc1 h0
    have h2 := h0; clear h0
    refine wp_skip ?_
    refine then_normal ?_
    refine hK2 _ _ ?_
    have s12 := s9.sub (.cons (t := 0) rfl (.cons (t := 1) rfl .nil)); clear s9
    refine wp_seq_k fun K5 hK5 => ?_
    refine wp_seq_k fun K6 hK6 => ?_
    refine wp_region_lit ?_
    refine seq_op s12 rfl rfl (of_decide_eq_true rfl) (ob_assign rfl (opd_int rfl)) fun a13 w13 s13 => ?_; clear s12
    refine wpList_nil ?_
    refine then_normal ?_
    refine hK6 _ _ ?_
    have s14 := s13.sub (.cons (t := 0) rfl (.cons (t := 1) rfl (.cons (t := 5) rfl .nil))); clear s13
    have hj1 : ∀ (a : Act) (w : World), (cabalref08_SameKeys.j1 k) = some r → St ⟨26, w0, ok, []⟩ [] [] a w → K5 a w := by
      intro a15 w15 h3 s15
      unfold cabalref08_SameKeys.j1 at h3
      refine hK5 _ _ ?_
      refine wp_seq_k fun K7 hK7 => ?_
      refine wp_region_lit ?_
      refine seq_op s15 rfl rfl (of_decide_eq_true rfl) (ob_assign rfl opd_bool) fun a16 w16 s16 => ?_; clear s15
      refine wpList_nil ?_
      refine then_normal ?_
      refine hK7 _ _ ?_
      have s17 := s16.sub (.cons (t := 4) rfl .nil); clear s16
      refine wp_ret ?_
      obtain rfl := Option.some.inj h3
      exact leave s17 (.inl rfl) rfl (.cons (.tmp rfl) .nil)
    refine wp_block ?_
    refine wp_loop_fuel (fun m (q : Int) => cabalref08_SameKeys.l1 k p1 p2 m q) r (fun _ => rfl) (fun q a w => St ⟨26, w0, ok, []⟩ [] [(0, ((ksl (karr 32 (kint .u8))).V p1)), (1, ((ksl (karr 32 (kint .u8))).V p2)), (5, ((kint .i64).V q))] a w) ?_ k (0 : Int) _ _ h2 (s14.sub (.cons rfl (.cons rfl (.cons rfl .nil))))
    rintro n1 y1 a18 w18 h4 s18 K8 hK8
    replace h4 : cabalref08_SameKeys.l1 k p1 p2 (n1 + 1) y1 = some r := h4; rw [cabalref08_SameKeys.l1] at h4
    have h5 := h4; clear h4
    refine wp_seq_k fun K9 hK9 => ?_
    refine wp_seq_k fun K10 hK10 => ?_
    refine wp_region_lit ?_
    refine seq_op s18 rfl rfl (of_decide_eq_true rfl) (ob_move rfl (.tmp rfl)) fun a19 w19 s19 => ?_; clear s18
    refine seq_op s19 rfl rfl (of_decide_eq_true rfl) (ob_move rfl (.tmp rfl)) fun a20 w20 s20 => ?_; clear s19
    refine seq_op s20 rfl rfl (of_decide_eq_true rfl) (ob_lens rfl Try.underlying40 (.tmp rfl)) fun a21 w21 s21 => ?_; clear s20
    refine seq_op s21 rfl rfl (of_decide_eq_true rfl) (ob_lss rfl (.tmp rfl) (.tmp rfl)) fun a22 w22 s22 => ?_; clear s21
    refine wpList_nil ?_
    refine then_normal ?_
    refine hK10 _ _ ?_
    have s23 := s22.sub (.cons (t := 0) rfl (.cons (t := 1) rfl (.cons (t := 5) rfl (.cons (t := 14) rfl .nil)))); clear s22
    refine cond_split s23 (.tmp rfl) (fun hc2 => ?_) (fun hc2 => ?_)
    · replace h5 := ite_t hc2 h5
      have h6 := h5; clear h5
      refine wp_skip ?_
      refine then_normal ?_
      refine hK9 _ _ ?_
      have s24 := s23.sub (.cons (t := 0) rfl (.cons (t := 1) rfl (.cons (t := 5) rfl .nil))); clear s23
      refine wp_seq_k fun K11 hK11 => ?_
      refine wp_block ?_
      refine wp_seq_k fun K12 hK12 => ?_
      obtain ⟨x1, e_x1, h7⟩ := bind_some h6; clear h6
      obtain ⟨x2, e_x2, h8⟩ := bind_some h7; clear h7
      refine wp_goes (Fs := [((ksl (karr 32 (kint .u8))).V p1), ((kint .i64).V y1), (ptrTo (karr 32 (kint .u8)) x1), ((karr 32 (kint .u8)).V x1), ((ksl (karr 32 (kint .u8))).V p2), ((kint .i64).V y1), (ptrTo (karr 32 (kint .u8)) x2), ((karr 32 (kint .u8)).V x2)]) (bits := [0, 0, 3, 7, 0, 0, 48, 112, 255]) (m := 8) (todo := 0) mx s24 ?_; clear s24
      refine goes_last (by kernel_rfl) rfl (opsS_cons (.plain _ (Av.old (t := 0) rfl rfl Av.nil) rfl rfl (ob_move rfl (.tmp rfl))) (opsS_cons (.plain _ (Av.old (t := 5) rfl rfl Av.nil) rfl rfl (ob_move rfl (.tmp rfl))) (opsS_cons (.plain _ (Av.new (j := 0) rfl rfl rfl (Av.new (j := 1) rfl rfl rfl Av.nil)) rfl rfl (ob_indexAddrs rfl Try.underlying40 sz39 (.tmp rfl) (.tmp rfl) e_x1)) (opsS_cons (.plain _ (Av.new (j := 2) rfl rfl rfl Av.nil) rfl rfl (ob_loadr rfl tk39 (.tmp rfl))) (opsS_cons (.plain _ (Av.old (t := 1) rfl rfl Av.nil) rfl rfl (ob_move rfl (.tmp rfl))) (opsS_cons (.plain _ (Av.old (t := 5) rfl rfl Av.nil) rfl rfl (ob_move rfl (.tmp rfl))) (opsS_cons (.plain _ (Av.new (j := 4) rfl rfl rfl (Av.new (j := 5) rfl rfl rfl Av.nil)) rfl rfl (ob_indexAddrs rfl Try.underlying40 sz39 (.tmp rfl) (.tmp rfl) e_x2)) (opsS_cons (.plain _ (Av.new (j := 6) rfl rfl rfl Av.nil) rfl rfl (ob_loadr rfl tk39 (.tmp rfl))) opsS_nil)))))))) (out_old (t := 0) rfl rfl (out_old (t := 1) rfl rfl (out_old (t := 5) rfl rfl (out_new (i := 3) (by decide) rfl rfl (out_new (i := 7) (by decide) rfl rfl out_nil))))) fun a25 w25 s25 => ?_
      refine seq_op s25 rfl rfl (of_decide_eq_true rfl) (ob_neqAgg rfl rfl (by kernel_rfl) eq39 (by decide) (.tmp rfl) (.tmp rfl)) fun a26 w26 s26 => ?_; clear s25
      refine wpList_nil ?_
      refine then_normal ?_
      refine hK12 _ _ ?_
      have s27 := s26.sub (.cons (t := 0) rfl (.cons (t := 1) rfl (.cons (t := 5) rfl (.cons (t := 25) rfl .nil)))); clear s26
      refine cond_split s27 (.tmp rfl) (fun hc3 => ?_) (fun hc3 => ?_)
      · replace h8 := ite_t hc3 h8
        have h9 := h8; clear h8
        refine wp_seq_k fun K13 hK13 => ?_
        refine wp_region_lit ?_
        refine seq_op s27 rfl rfl (of_decide_eq_true rfl) (ob_assign rfl opd_bool) fun a28 w28 s28 => ?_; clear s27
        refine wpList_nil ?_
        refine then_normal ?_
        refine hK13 _ _ ?_
        have s29 := s28.sub (.cons (t := 4) rfl .nil); clear s28
        refine wp_ret ?_
        obtain rfl := Option.some.inj h9
        exact leave s29 (.inl rfl) rfl (.cons (.tmp rfl) .nil)
      · replace h8 := ite_f hc3 h8
        have h10 := h8; clear h8
        refine wp_skip ?_
        refine in_normal ?_
        refine then_normal ?_
        refine hK11 _ _ ?_
        have s30 := s27.sub (.cons (t := 0) rfl (.cons (t := 1) rfl (.cons (t := 5) rfl .nil))); clear s27
        refine wp_region_lit ?_
        refine seq_op s30 rfl rfl (of_decide_eq_true rfl) (ob_move rfl (.tmp rfl)) fun a31 w31 s31 => ?_; clear s30
        refine seq_op s31 rfl rfl (of_decide_eq_true rfl) (ob_add rfl (.tmp rfl) (opd_int rfl)) fun a32 w32 s32 => ?_; clear s31
        refine seq_op s32 rfl rfl (of_decide_eq_true rfl) (ob_assign rfl (.tmp rfl)) fun a33 w33 s33 => ?_; clear s32
        refine wpList_nil ?_
        refine then_normal ?_
        exact hK8 (iadd .i64 y1 (1 : Int)) _ _ h10 (s33.sub (.cons rfl (.cons rfl (.cons rfl .nil))))
    · replace h5 := ite_f hc2 h5
      have h11 := h5; clear h5
      refine wp_exit ?_
      refine (then_exit (then_exit (in_here ?_)))
      refine then_normal ?_
      exact hj1 _ _ h11 (s23.sub .nil)

/- 16 cabal/caballaw15.GraphRights -/
theorem c_caballaw15_GraphRights (k : Nat) (p1 : (List api_Node)) (p2 : (List api_Node)) (p3 : (List Int)) (p4 : Int) (p5 : Int) (r : Bool) (h0 : caballaw15_GraphRights k p1 p2 p3 p4 p5 = some r) (ok : Ok) (w0 : World) (z0 : Value) (z1 : Value) (z2 : Value) (z3 : Value) (z4 : Value) (u0 : ((ksl k_api_Node).V p1).holds ok w0 z0) (u1 : ((ksl k_api_Node).V p2).holds ok w0 z1) (u2 : ((karr 32 (kint .u8)).V p3).holds ok w0 z2) (u3 : ((kint .i64).V p4).holds ok w0 z3) (u4 : ((kint .i64).V p5).holds ok w0 z4) :
    Gives Try.prog 16 [z0, z1, z2, z3, z4] ok w0 (resFact [kbool.V r]) := by
  unfold caballaw15_GraphRights at h0
  refine enter (N := 145) Try.func16 rfl rfl (of_decide_eq_true rfl) (.cons u0 (.cons u1 (.cons u2 (.cons u3 (.cons u4 .nil))))) fun a1 s1 => ?_
  refine wp_seq_k fun K1 hK1 => ?_
  refine wp_region_lit ?_
  refine seq_opx (B' := (fun b1 : Nat => [BF b1 39 (karr 32 (kint .u8)) p3])) s1 rfl rfl (of_decide_eq_true rfl) (ob_box rfl (.tmp rfl)) fun b1 a2 w2 s2 => ?_; clear s1
  refine seq_op s2 rfl rfl (of_decide_eq_true rfl) (ob_assign rfl opd_bool) fun a3 w3 s3 => ?_; clear s2
  refine wpList_nil ?_
  refine then_normal ?_
  refine hK1 _ _ ?_
  have s4 := s3.sub (.cons (t := 0) rfl (.cons (t := 1) rfl (.cons (t := 3) rfl (.cons (t := 4) rfl (.cons (t := 7) rfl .nil))))); clear s3
  refine wp_seq_k fun K2 hK2 => ?_
  refine wp_seq_k fun K3 hK3 => ?_
  refine wp_region_lit ?_
  obtain ⟨x1, e_x1, h1⟩ := bind_some h0; clear h0
  refine seq_op s4 rfl rfl (of_decide_eq_true rfl) (ob_callD (args := []) rfl .direct hb47 (fun a w s fs gs hf hg => by obtain rfl := hf.unnil; obtain rfl := hg.unnil; exact c_caballaw15_alive k _ e_x1 _ _)) fun a5 w5 s5 => ?_; clear s4
  refine seq_op s5 rfl rfl (of_decide_eq_true rfl) (ob_not rfl (.tmp rfl)) fun a6 w6 s6 => ?_; clear s5
  refine wpList_nil ?_
  refine then_normal ?_
  refine hK3 _ _ ?_
  have s7 := s6.sub (.cons (t := 0) rfl (.cons (t := 1) rfl (.cons (t := 3) rfl (.cons (t := 4) rfl (.cons (t := 7) rfl (.cons (t := 15) rfl .nil)))))); clear s6
  refine cond_split s7 (.tmp rfl) (fun hc1 => ?_) (fun hc1 => ?_)
  · replace h1 := ite_t hc1 h1
    have h2 := h1; clear h1
    refine wp_seq_k fun K4 hK4 => ?_
    refine wp_region_lit ?_
    refine seq_op s7 rfl rfl (of_decide_eq_true rfl) (ob_assign rfl opd_bool) fun a8 w8 s8 => ?_; clear s7
    refine wpList_nil ?_
    refine then_normal ?_
    refine hK4 _ _ ?_
    have s9 := s8.sub (.cons (t := 10) rfl .nil); clear s8
    have s10 := St.drop (A := []) s9; clear s9
    refine wp_ret ?_
    obtain rfl := Option.some.inj h2
    exact leave s10 (.inl rfl) rfl (.cons (.tmp rfl) .nil)
  · replace h1 := ite_f hc1 h1
    have h3 := h1; clear h1
    refine wp_skip ?_
    refine then_normal ?_
    refine hK2 _ _ ?_
    have s11 := s7.sub (.cons (t := 0) rfl (.cons (t := 1) rfl (.cons (t := 3) rfl (.cons (t := 4) rfl (.cons (t := 7) rfl .nil))))); clear s7
    refine wp_seq_k fun K5 hK5 => ?_
    refine wp_seq_k fun K6 hK6 => ?_
    refine wp_region_lit ?_
    refine seq_op s11 rfl rfl (of_decide_eq_true rfl) (ob_move rfl (.tmp rfl)) fun a12 w12 s12 => ?_; clear s11
    obtain ⟨x2, e_x2, h4⟩ := bind_some h3; clear h3
    refine seq_op s12 rfl rfl (of_decide_eq_true rfl) (ob_callD (args := [_]) rfl .direct hb23 (fun a w s fs gs hf hg => by obtain rfl := hf.unnil; obtain rfl := hg.unnil; exact c_cabalref15_Great k _ _ e_x2 _ _ _ (s.arg (.tmp rfl)))) fun a13 w13 s13 => ?_; clear s12
    refine seq_op s13 rfl rfl (of_decide_eq_true rfl) (ob_move rfl (.tmp rfl)) fun a14 w14 s14 => ?_; clear s13
    refine seq_opg s14 rfl rfl rfl rfl (of_decide_eq_true rfl) (fun hb => ob_move rfl (.tmp rfl)) fun a15 w15 s15 => ?_; clear s14
    obtain ⟨x3, e_x3, h5⟩ := bind_some h4; clear h4
    refine seq_opg s15 rfl rfl rfl rfl (of_decide_eq_true rfl) (fun hb => (Ob.uncond (t := 19) hb rfl (ob_callD (args := [_]) rfl .direct hb23 (fun a w s fs gs hf hg => by obtain rfl := hf.unnil; obtain rfl := hg.unnil; exact c_cabalref15_Great k _ _ (ite_t hb e_x3) _ _ _ (s.arg (.tmp rfl)))))) fun a16 w16 s16 => ?_; clear s15
    refine seq_op s16 rfl rfl (of_decide_eq_true rfl) (ob_or2 rfl (.tmp rfl) opd_bool (.tmp rfl)) fun a17 w17 s17 => ?_; clear s16
    refine wpList_nil ?_
    refine then_normal ?_
    refine hK6 _ _ ?_
    have s18 := s17.sub (.cons (t := 0) rfl (.cons (t := 1) rfl (.cons (t := 3) rfl (.cons (t := 4) rfl (.cons (t := 7) rfl (.cons (t := 21) rfl .nil)))))); clear s17
    refine cond_split s18 (.tmp rfl) (fun hc2 => ?_) (fun hc2 => ?_)
    · replace h5 := ite_t hc2 h5
      have h6 := h5; clear h5
      refine wp_seq_k fun K7 hK7 => ?_
      refine wp_region_lit ?_
      obtain ⟨x4, e_x4, h7⟩ := bind_some h6; clear h6
      refine seq_op s18 rfl rfl (of_decide_eq_true rfl) (ob_callD (args := []) rfl .direct hb47 (fun a w s fs gs hf hg => by obtain rfl := hf.unnil; obtain rfl := hg.unnil; exact c_caballaw15_alive k _ e_x4 _ _)) fun a19 w19 s19 => ?_; clear s18
      refine seq_op s19 rfl rfl (of_decide_eq_true rfl) (ob_assign rfl (.tmp rfl)) fun a20 w20 s20 => ?_; clear s19
      refine wpList_nil ?_
      refine then_normal ?_
      refine hK7 _ _ ?_
      have s21 := s20.sub (.cons (t := 10) rfl .nil); clear s20
      have s22 := St.drop (A := []) s21; clear s21
      refine wp_ret ?_
      obtain rfl := Option.some.inj h7
      exact leave s22 (.inl rfl) rfl (.cons (.tmp rfl) .nil)
    · replace h5 := ite_f hc2 h5
      have h8 := h5; clear h5
      refine wp_skip ?_
      refine then_normal ?_
      refine hK5 _ _ ?_
      have s23 := s18.sub (.cons (t := 0) rfl (.cons (t := 1) rfl (.cons (t := 3) rfl (.cons (t := 4) rfl (.cons (t := 7) rfl .nil))))); clear s18
      refine wp_seq_k fun K8 hK8 => ?_
      refine wp_region_lit ?_
      refine seq_op s23 rfl rfl (of_decide_eq_true rfl) (ob_move rfl (.tmp rfl)) fun a24 w24 s24 => ?_; clear s23
      obtain ⟨x5, e_x5, h9⟩ := bind_some h8; clear h8
      refine seq_op s24 rfl rfl (of_decide_eq_true rfl) (ob_callD (args := [_]) rfl .direct hb30 (fun a w s fs gs hf hg => by obtain rfl := hf.unnil; obtain rfl := hg.unnil; exact c_cabalref15_Right k _ _ e_x5 _ _ _ (s.arg (.tmp rfl)))) fun a25 w25 s25 => ?_; clear s24
      refine seq_op s25 rfl rfl (of_decide_eq_true rfl) (ob_assign rfl (.tmp rfl)) fun a26 w26 s26 => ?_; clear s25
      refine wpList_nil ?_
      refine then_normal ?_
      refine hK8 _ _ ?_
      have s27 := s26.sub (.cons (t := 0) rfl (.cons (t := 1) rfl (.cons (t := 3) rfl (.cons (t := 4) rfl (.cons (t := 7) rfl (.cons (t := 11) rfl .nil)))))); clear s26
      refine wp_seq_k fun K9 hK9 => ?_
      refine wp_seq_k fun K10 hK10 => ?_
      obtain ⟨x6, e_x6, h10⟩ := bind_some h9; clear h9
      obtain ⟨x7, e_x7, h11⟩ := bind_some h10; clear h10
      obtain ⟨x8, e_x8, h12⟩ := bind_some h11; clear h11
      obtain ⟨x9, e_x9, h13⟩ := bind_some h12; clear h12
      obtain ⟨x10, e_x10, h14⟩ := bind_some h13; clear h13; replace e_x10 := Option.some.inj e_x10
      obtain ⟨x11, e_x11, h15⟩ := bind_some h14; clear h14
      obtain ⟨x12, e_x12, h16⟩ := bind_some h15; clear h15
      refine wp_goes (Fs := [(kbool.V x6), (kbool.V (!x6)), (kbool.V (!x6)), (Fact.when ((!x6) == false) ((ksl k_api_Node).V p1)), (Fact.when ((!x6) == false) (kbool.V x7)), (Fact.when ((!x6) == false) (kbool.V x5)), (Fact.when ((!x6) == false) (kbool.V (!decide (x7 = x5)))), (kbool.V (if (!x6) then true else (!decide (x7 = x5)))), (kbool.V (if (!x6) then true else (!decide (x7 = x5)))), (Fact.when ((if (!x6) then true else (!decide (x7 = x5))) == false) ((ksl k_api_Node).V p1)), (Fact.when ((if (!x6) then true else (!decide (x7 = x5))) == false) ((karr 32 (kint .u8)).V p3)), (Fact.when ((if (!x6) then true else (!decide (x7 = x5))) == false) ((kint .i64).V x8)), (Fact.when ((if (!x6) then true else (!decide (x7 = x5))) == false) ((ksl k_api_Node).V p1)), (Fact.when ((if (!x6) then true else (!decide (x7 = x5))) == false) ((karr 32 (kint .u8)).V p3)), (Fact.when ((if (!x6) then true else (!decide (x7 = x5))) == false) ((kint .i64).V x9)), (Fact.when ((if (!x6) then true else (!decide (x7 = x5))) == false) (kbool.V (x8 != x9))), (kbool.V x10), (kbool.V x10), (Fact.when (x10 == false) ((ksl k_api_Node).V p1)), (Fact.when (x10 == false) ((ksl k_api_Node).V p2)), (Fact.when (x10 == false) (kbool.V x11)), (Fact.when (x10 == false) ((ksl k_api_Node).V p1)), (Fact.when (x10 == false) ((ksl k_api_Node).V p2)), (Fact.when (x10 == false) (kbool.V x12)), (Fact.when (x10 == false) (kbool.V (!decide (x11 = x12)))), (kbool.V (if x10 then true else (!decide (x11 = x12)))), (kbool.V (if x10 then true else (!decide (x11 = x12)))), (Fact.when ((if x10 then true else (!decide (x11 = x12))) == false) ((ksl k_api_Node).V p1)), (Fact.when ((if x10 then true else (!decide (x11 = x12))) == false) ((ksl k_api_Node).V p1))]) (bits := [0, 1, 3, 7, 15, 7, 63, 127, 255, 511, 511, 2047, 511, 511, 16383, 32767, 65535, 131071, 262143, 262143, 1048575, 262143, 262143, 8388607, 16777215, 33554431, 67108863, 134217727, 134217727, 536870911, 1073741823, 2147483647]) (m := 29) (todo := 0) mx s27 ?_; clear s27
      refine goes_last (by kernel_rfl) rfl (opsS_cons (.plain _ Av.nil rfl rfl (ob_callD (args := []) rfl .direct hb47 (fun a w s fs gs hf hg => by obtain rfl := hf.unnil; obtain rfl := hg.unnil; exact c_caballaw15_alive k _ e_x6 _ _))) (opsS_cons (.plain _ (Av.new (j := 0) rfl rfl rfl Av.nil) rfl rfl (ob_not rfl (.tmp rfl))) (opsS_cons (.plain _ (Av.new (j := 1) rfl rfl rfl Av.nil) rfl rfl (ob_move rfl (.tmp rfl))) (opsS_cons (.guarded _ (Av.old (t := 0) rfl rfl (Av.new (j := 2) rfl rfl rfl Av.nil)) rfl rfl rfl rfl (fun hb => ob_move rfl (.tmp rfl))) (opsS_cons (.guarded _ (Av.new (j := 2) rfl rfl rfl (Av.new (j := 3) rfl rfl rfl Av.nil)) rfl rfl rfl rfl (fun hb => (Ob.uncond (t := 28) hb rfl (ob_callD (args := [_]) rfl .direct hb24 (fun a w s fs gs hf hg => by obtain rfl := hf.unnil; obtain rfl := hg.unnil; exact c_graph_Right k _ _ (ite_t hb e_x7) _ _ _ (s.arg (.tmp rfl))))))) (opsS_cons (.guarded _ (Av.old (t := 11) rfl rfl (Av.new (j := 2) rfl rfl rfl Av.nil)) rfl rfl rfl rfl (fun hb => ob_move rfl (.tmp rfl))) (opsS_cons (.guarded _ (Av.new (j := 2) rfl rfl rfl (Av.new (j := 4) rfl rfl rfl (Av.new (j := 5) rfl rfl rfl Av.nil))) rfl rfl rfl rfl (fun hb => (Ob.uncond (t := 30) hb rfl ((Ob.uncond (t := 29) hb rfl (ob_bneq rfl Try.underlying4 (.tmp rfl) (.tmp rfl))))))) (opsS_cons (.plain _ (Av.new (j := 2) rfl rfl rfl (Av.new (j := 6) rfl rfl rfl Av.nil)) rfl rfl (ob_or2 rfl (.tmp rfl) opd_bool (.tmp rfl))) (opsS_cons (.plain _ (Av.new (j := 7) rfl rfl rfl Av.nil) rfl rfl (ob_move rfl (.tmp rfl))) (opsS_cons (.guarded _ (Av.old (t := 0) rfl rfl (Av.new (j := 8) rfl rfl rfl Av.nil)) rfl rfl rfl rfl (fun hb => ob_move rfl (.tmp rfl))) (opsS_cons (.guarded _ (Av.old (t := 7) rfl rfl (Av.new (j := 8) rfl rfl rfl Av.nil)) rfl rfl rfl rfl (fun hb => ob_load rfl tk39 (.tmp rfl) (.head _) (LG.refl _ _))) (opsS_cons (.guarded _ (Av.new (j := 8) rfl rfl rfl (Av.new (j := 9) rfl rfl rfl (Av.new (j := 10) rfl rfl rfl Av.nil))) rfl rfl rfl rfl (fun hb => (Ob.uncond (t := 35) hb rfl ((Ob.uncond (t := 34) hb rfl (ob_callD (args := [_, _]) rfl .direct hb48 (fun a w s fs gs hf hg => by obtain rfl := hf.unnil; obtain rfl := hg.unnil; exact c_graph_Find k _ _ _ (ite_t hb e_x8) _ _ _ _ (s.arg (.tmp rfl)) (s.arg (.tmp rfl))))))))) (opsS_cons (.guarded _ (Av.old (t := 0) rfl rfl (Av.new (j := 8) rfl rfl rfl Av.nil)) rfl rfl rfl rfl (fun hb => ob_move rfl (.tmp rfl))) (opsS_cons (.guarded _ (Av.old (t := 7) rfl rfl (Av.new (j := 8) rfl rfl rfl Av.nil)) rfl rfl rfl rfl (fun hb => ob_load rfl tk39 (.tmp rfl) (.head _) (LG.refl _ _))) (opsS_cons (.guarded _ (Av.new (j := 8) rfl rfl rfl (Av.new (j := 12) rfl rfl rfl (Av.new (j := 13) rfl rfl rfl Av.nil))) rfl rfl rfl rfl (fun hb => (Ob.uncond (t := 38) hb rfl ((Ob.uncond (t := 37) hb rfl (ob_callD (args := [_, _]) rfl .direct hb56 (fun a w s fs gs hf hg => by obtain rfl := hf.unnil; obtain rfl := hg.unnil; exact c_cabalref15_Find k _ _ _ (ite_t hb e_x9) _ _ _ _ (s.arg (.tmp rfl)) (s.arg (.tmp rfl))))))))) (opsS_cons (.guarded _ (Av.new (j := 8) rfl rfl rfl (Av.new (j := 11) rfl rfl rfl (Av.new (j := 14) rfl rfl rfl Av.nil))) rfl rfl rfl rfl (fun hb => (Ob.uncond (t := 39) hb rfl ((Ob.uncond (t := 36) hb rfl (ob_neq rfl (.tmp rfl) (.tmp rfl))))))) (opsS_cons (.plain _ (Av.new (j := 8) rfl rfl rfl (Av.new (j := 15) rfl rfl rfl Av.nil)) rfl rfl ((ob_or2 rfl (.tmp rfl) opd_bool (.tmp rfl)).nm e_x10)) (opsS_cons (.plain _ (Av.new (j := 16) rfl rfl rfl Av.nil) rfl rfl (ob_move rfl (.tmp rfl))) (opsS_cons (.guarded _ (Av.old (t := 0) rfl rfl (Av.new (j := 17) rfl rfl rfl Av.nil)) rfl rfl rfl rfl (fun hb => ob_move rfl (.tmp rfl))) (opsS_cons (.guarded _ (Av.old (t := 1) rfl rfl (Av.new (j := 17) rfl rfl rfl Av.nil)) rfl rfl rfl rfl (fun hb => ob_move rfl (.tmp rfl))) (opsS_cons (.guarded _ (Av.new (j := 17) rfl rfl rfl (Av.new (j := 18) rfl rfl rfl (Av.new (j := 19) rfl rfl rfl Av.nil))) rfl rfl rfl rfl (fun hb => (Ob.uncond (t := 44) hb rfl ((Ob.uncond (t := 43) hb rfl (ob_callD (args := [_, _]) rfl .direct hb57 (fun a w s fs gs hf hg => by obtain rfl := hf.unnil; obtain rfl := hg.unnil; exact c_graph_Same k _ _ _ (ite_t hb e_x11) _ _ _ _ (s.arg (.tmp rfl)) (s.arg (.tmp rfl))))))))) (opsS_cons (.guarded _ (Av.old (t := 0) rfl rfl (Av.new (j := 17) rfl rfl rfl Av.nil)) rfl rfl rfl rfl (fun hb => ob_move rfl (.tmp rfl))) (opsS_cons (.guarded _ (Av.old (t := 1) rfl rfl (Av.new (j := 17) rfl rfl rfl Av.nil)) rfl rfl rfl rfl (fun hb => ob_move rfl (.tmp rfl))) (opsS_cons (.guarded _ (Av.new (j := 17) rfl rfl rfl (Av.new (j := 21) rfl rfl rfl (Av.new (j := 22) rfl rfl rfl Av.nil))) rfl rfl rfl rfl (fun hb => (Ob.uncond (t := 47) hb rfl ((Ob.uncond (t := 46) hb rfl (ob_callD (args := [_, _]) rfl .direct hb53 (fun a w s fs gs hf hg => by obtain rfl := hf.unnil; obtain rfl := hg.unnil; exact c_cabalref15_Same k _ _ _ (ite_t hb e_x12) _ _ _ _ (s.arg (.tmp rfl)) (s.arg (.tmp rfl))))))))) (opsS_cons (.guarded _ (Av.new (j := 17) rfl rfl rfl (Av.new (j := 20) rfl rfl rfl (Av.new (j := 23) rfl rfl rfl Av.nil))) rfl rfl rfl rfl (fun hb => (Ob.uncond (t := 48) hb rfl ((Ob.uncond (t := 45) hb rfl (ob_bneq rfl Try.underlying4 (.tmp rfl) (.tmp rfl))))))) (opsS_cons (.plain _ (Av.new (j := 17) rfl rfl rfl (Av.new (j := 24) rfl rfl rfl Av.nil)) rfl rfl (ob_or2 rfl (.tmp rfl) opd_bool (.tmp rfl))) (opsS_cons (.plain _ (Av.new (j := 25) rfl rfl rfl Av.nil) rfl rfl (ob_move rfl (.tmp rfl))) (opsS_cons (.guarded _ (Av.old (t := 0) rfl rfl (Av.new (j := 26) rfl rfl rfl Av.nil)) rfl rfl rfl rfl (fun hb => ob_move rfl (.tmp rfl))) (opsS_cons (.guarded _ (Av.old (t := 0) rfl rfl (Av.new (j := 26) rfl rfl rfl Av.nil)) rfl rfl rfl rfl (fun hb => ob_move rfl (.tmp rfl))) opsS_nil))))))))))))))))))))))))))))) (out_old (t := 0) rfl rfl (out_old (t := 3) rfl rfl (out_old (t := 4) rfl rfl (out_old (t := 11) rfl rfl (out_new (i := 26) (by decide) rfl rfl (out_new (i := 27) (by decide) rfl rfl (out_new (i := 28) (by decide) rfl rfl out_nil))))))) fun a28 w28 s28 => ?_
      obtain ⟨x13, e_x13, h17⟩ := bind_some h16; clear h16
      refine seq_opg s28 rfl rfl rfl rfl (of_decide_eq_true rfl) (fun hb => (Ob.uncond (t := 53) hb rfl ((Ob.uncond (t := 52) hb rfl (ob_callD (args := [_, _]) rfl .direct hb57 (fun a w s fs gs hf hg => by obtain rfl := hf.unnil; obtain rfl := hg.unnil; exact c_graph_Same k _ _ _ (ite_t hb e_x13) _ _ _ _ (s.arg (.tmp rfl)) (s.arg (.tmp rfl)))))))) fun a29 w29 s29 => ?_; clear s28
      refine seq_opg s29 rfl rfl rfl rfl (of_decide_eq_true rfl) (fun hb => (Ob.uncond (t := 54) hb rfl (ob_not rfl (.tmp rfl)))) fun a30 w30 s30 => ?_; clear s29
      obtain ⟨x14, e_x14, h18⟩ := bind_some h17; clear h17; replace e_x14 := Option.some.inj e_x14
      refine seq_op s30 rfl rfl (of_decide_eq_true rfl) ((ob_or2 rfl (.tmp rfl) opd_bool (.tmp rfl)).nm e_x14) fun a31 w31 s31 => ?_; clear s30
      refine wpList_nil ?_
      refine then_normal ?_
      refine hK10 _ _ ?_
      have s32 := s31.sub (.cons (t := 0) rfl (.cons (t := 3) rfl (.cons (t := 4) rfl (.cons (t := 11) rfl (.cons (t := 56) rfl .nil))))); clear s31
      have s33 := St.drop (A := []) s32; clear s32
      refine cond_split s33 (.tmp rfl) (fun hc3 => ?_) (fun hc3 => ?_)
      · replace h18 := ite_t hc3 h18
        have h19 := h18; clear h18
        refine wp_seq_k fun K11 hK11 => ?_
        refine wp_region_lit ?_
        refine seq_op s33 rfl rfl (of_decide_eq_true rfl) (ob_assign rfl opd_bool) fun a34 w34 s34 => ?_; clear s33
        refine wpList_nil ?_
        refine then_normal ?_
        refine hK11 _ _ ?_
        have s35 := s34.sub (.cons (t := 10) rfl .nil); clear s34
        refine wp_ret ?_
        obtain rfl := Option.some.inj h19
        exact leave s35 (.inl rfl) rfl (.cons (.tmp rfl) .nil)
      · replace h18 := ite_f hc3 h18
        have h20 := h18; clear h18
        refine wp_skip ?_
        refine then_normal ?_
        refine hK9 _ _ ?_
        have s36 := s33.sub (.cons (t := 0) rfl (.cons (t := 3) rfl (.cons (t := 4) rfl (.cons (t := 11) rfl .nil)))); clear s33
        refine wp_seq_k fun K12 hK12 => ?_
        refine wp_seq_k fun K13 hK13 => ?_
        refine wp_region_lit ?_
        refine seq_op s36 rfl rfl (of_decide_eq_true rfl) (ob_move rfl (.tmp rfl)) fun a37 w37 s37 => ?_; clear s36
        refine seq_op s37 rfl rfl (of_decide_eq_true rfl) (ob_not rfl (.tmp rfl)) fun a38 w38 s38 => ?_; clear s37
        refine seq_op s38 rfl rfl (of_decide_eq_true rfl) (ob_move rfl (.tmp rfl)) fun a39 w39 s39 => ?_; clear s38
        refine seq_opg s39 rfl rfl rfl rfl (of_decide_eq_true rfl) (fun hb => ob_move rfl (.tmp rfl)) fun a40 w40 s40 => ?_; clear s39
        refine seq_opg s40 rfl rfl rfl rfl (of_decide_eq_true rfl) (fun hb => (Ob.uncond (t := 60) hb rfl (ob_lss rfl (.tmp rfl) (opd_int rfl)))) fun a41 w41 s41 => ?_; clear s40
        refine seq_op s41 rfl rfl (of_decide_eq_true rfl) (ob_or2 rfl (.tmp rfl) opd_bool (.tmp rfl)) fun a42 w42 s42 => ?_; clear s41
        refine seq_op s42 rfl rfl (of_decide_eq_true rfl) (ob_move rfl (.tmp rfl)) fun a43 w43 s43 => ?_; clear s42
        refine seq_opg s43 rfl rfl rfl rfl (of_decide_eq_true rfl) (fun hb => ob_move rfl (.tmp rfl)) fun a44 w44 s44 => ?_; clear s43
        refine seq_opg s44 rfl rfl rfl rfl (of_decide_eq_true rfl) (fun hb => (Ob.uncond (t := 64) hb rfl (ob_lss rfl (.tmp rfl) (opd_int rfl)))) fun a45 w45 s45 => ?_; clear s44
        obtain ⟨x15, e_x15, h21⟩ := bind_some h20; clear h20; replace e_x15 := Option.some.inj e_x15
        refine seq_op s45 rfl rfl (of_decide_eq_true rfl) ((ob_or2 rfl (.tmp rfl) opd_bool (.tmp rfl)).nm e_x15) fun a46 w46 s46 => ?_; clear s45
        refine seq_op s46 rfl rfl (of_decide_eq_true rfl) (ob_move rfl (.tmp rfl)) fun a47 w47 s47 => ?_; clear s46
        refine seq_opg s47 rfl rfl rfl rfl (of_decide_eq_true rfl) (fun hb => ob_move rfl (.tmp rfl)) fun a48 w48 s48 => ?_; clear s47
        refine seq_opg s48 rfl rfl rfl rfl (of_decide_eq_true rfl) (fun hb => ob_move rfl (.tmp rfl)) fun a49 w49 s49 => ?_; clear s48
        refine seq_opg s49 rfl rfl rfl rfl (of_decide_eq_true rfl) (fun hb => (Ob.uncond (t := 69) hb rfl (ob_lens rfl Try.underlying22 (.tmp rfl)))) fun a50 w50 s50 => ?_; clear s49
        refine seq_opg s50 rfl rfl rfl rfl (of_decide_eq_true rfl) (fun hb => (Ob.uncond (t := 70) hb rfl ((Ob.uncond (t := 68) hb rfl (ob_geq rfl (.tmp rfl) (.tmp rfl)))))) fun a51 w51 s51 => ?_; clear s50
        refine seq_op s51 rfl rfl (of_decide_eq_true rfl) (ob_or2 rfl (.tmp rfl) opd_bool (.tmp rfl)) fun a52 w52 s52 => ?_; clear s51
        refine seq_op s52 rfl rfl (of_decide_eq_true rfl) (ob_move rfl (.tmp rfl)) fun a53 w53 s53 => ?_; clear s52
        refine seq_opg s53 rfl rfl rfl rfl (of_decide_eq_true rfl) (fun hb => ob_move rfl (.tmp rfl)) fun a54 w54 s54 => ?_; clear s53
        refine seq_opg s54 rfl rfl rfl rfl (of_decide_eq_true rfl) (fun hb => ob_move rfl (.tmp rfl)) fun a55 w55 s55 => ?_; clear s54
        refine seq_opg s55 rfl rfl rfl rfl (of_decide_eq_true rfl) (fun hb => (Ob.uncond (t := 75) hb rfl (ob_lens rfl Try.underlying22 (.tmp rfl)))) fun a56 w56 s56 => ?_; clear s55
        refine seq_opg s56 rfl rfl rfl rfl (of_decide_eq_true rfl) (fun hb => (Ob.uncond (t := 76) hb rfl ((Ob.uncond (t := 74) hb rfl (ob_geq rfl (.tmp rfl) (.tmp rfl)))))) fun a57 w57 s57 => ?_; clear s56
        obtain ⟨x16, e_x16, h22⟩ := bind_some h21; clear h21; replace e_x16 := Option.some.inj e_x16
        refine seq_op s57 rfl rfl (of_decide_eq_true rfl) ((ob_or2 rfl (.tmp rfl) opd_bool (.tmp rfl)).nm e_x16) fun a58 w58 s58 => ?_; clear s57
        refine wpList_nil ?_
        refine then_normal ?_
        refine hK13 _ _ ?_
        have s59 := s58.sub (.cons (t := 0) rfl (.cons (t := 3) rfl (.cons (t := 4) rfl (.cons (t := 11) rfl (.cons (t := 78) rfl .nil))))); clear s58
        refine cond_split s59 (.tmp rfl) (fun hc4 => ?_) (fun hc4 => ?_)
        · replace h22 := ite_t hc4 h22
          have h23 := h22; clear h22
          refine wp_seq_k fun K14 hK14 => ?_
          refine wp_region_lit ?_
          refine seq_op s59 rfl rfl (of_decide_eq_true rfl) (ob_move rfl (.tmp rfl)) fun a60 w60 s60 => ?_; clear s59
          refine seq_op s60 rfl rfl (of_decide_eq_true rfl) (ob_move rfl (.tmp rfl)) fun a61 w61 s61 => ?_; clear s60
          refine seq_op s61 rfl rfl (of_decide_eq_true rfl) (ob_move rfl (.tmp rfl)) fun a62 w62 s62 => ?_; clear s61
          obtain ⟨x17, e_x17, h24⟩ := bind_some h23; clear h23
          refine seq_op s62 rfl rfl (of_decide_eq_true rfl) (ob_callD (args := [_, _, _]) rfl .direct hb27 (fun a w s fs gs hf hg => by obtain rfl := hf.unnil; obtain rfl := hg.unnil; exact c_graph_Ahead k _ _ _ _ e_x17 _ _ _ _ _ (s.arg (.tmp rfl)) (s.arg (.tmp rfl)) (s.arg (.tmp rfl)))) fun a63 w63 s63 => ?_; clear s62
          refine seq_op s63 rfl rfl (of_decide_eq_true rfl) (ob_not rfl (.tmp rfl)) fun a64 w64 s64 => ?_; clear s63
          refine seq_op s64 rfl rfl (of_decide_eq_true rfl) (ob_move rfl (.tmp rfl)) fun a65 w65 s65 => ?_; clear s64
          refine seq_opg s65 rfl rfl rfl rfl (of_decide_eq_true rfl) (fun hb => ob_move rfl (.tmp rfl)) fun a66 w66 s66 => ?_; clear s65
          refine seq_opg s66 rfl rfl rfl rfl (of_decide_eq_true rfl) (fun hb => ob_move rfl (.tmp rfl)) fun a67 w67 s67 => ?_; clear s66
          refine seq_opg s67 rfl rfl rfl rfl (of_decide_eq_true rfl) (fun hb => ob_move rfl (.tmp rfl)) fun a68 w68 s68 => ?_; clear s67
          obtain ⟨x18, e_x18, h25⟩ := bind_some h24; clear h24
          refine seq_opg s68 rfl rfl rfl rfl (of_decide_eq_true rfl) (fun hb => (Ob.uncond (t := 87) hb rfl ((Ob.uncond (t := 86) hb rfl ((Ob.uncond (t := 85) hb rfl (ob_callD (args := [_, _, _]) rfl .direct hb28 (fun a w s fs gs hf hg => by obtain rfl := hf.unnil; obtain rfl := hg.unnil; exact c_graph_Apart k _ _ _ _ (ite_t hb e_x18) _ _ _ _ _ (s.arg (.tmp rfl)) (s.arg (.tmp rfl)) (s.arg (.tmp rfl)))))))))) fun a69 w69 s69 => ?_; clear s68
          refine seq_opg s69 rfl rfl rfl rfl (of_decide_eq_true rfl) (fun hb => (Ob.uncond (t := 88) hb rfl (ob_not rfl (.tmp rfl)))) fun a70 w70 s70 => ?_; clear s69
          refine seq_op s70 rfl rfl (of_decide_eq_true rfl) (ob_and2 rfl (.tmp rfl) (.tmp rfl) opd_bool) fun a71 w71 s71 => ?_; clear s70
          refine seq_op s71 rfl rfl (of_decide_eq_true rfl) (ob_move rfl (.tmp rfl)) fun a72 w72 s72 => ?_; clear s71
          refine seq_opg s72 rfl rfl rfl rfl (of_decide_eq_true rfl) (fun hb => ob_move rfl (.tmp rfl)) fun a73 w73 s73 => ?_; clear s72
          refine seq_opg s73 rfl rfl rfl rfl (of_decide_eq_true rfl) (fun hb => (Ob.uncond (t := 92) hb rfl (ob_move rfl (.tmp rfl)))) fun a74 w74 s74 => ?_; clear s73
          refine seq_opg2 s74 rfl rfl rfl rfl (of_decide_eq_true rfl) (fun hb => ob_move rfl (.tmp rfl)) fun a75 w75 s75 => ?_; clear s74
          obtain ⟨x19, e_x19, h26⟩ := bind_some h25; clear h25
          refine seq_opg2 s75 rfl rfl rfl rfl (of_decide_eq_true rfl) (fun hb => (ObF.ob ((ObF.uncond (t := 94) hb rfl (ob_callF (F := resFact [((ksl (karr 32 (kint .u8))).V x19)]) (args := [_]) rfl .direct hb50 (fun a w s fs gs hf hg => by obtain rfl := hf.unnil; obtain rfl := hg.unnil; exact c_graph_Heads k _ _ (ite_t hb e_x19) _ _ _ (s.arg (.tmp rfl))) (by exact fun g => ResF.all (.row (.head _) (KFlat.arr (KFlat.int _)) .nil))))))) fun a76 w76 s76 => ?_; clear s75
          refine seq_opg2 s76 rfl rfl rfl rfl (of_decide_eq_true rfl) (fun hb => (Ob.uncond (t := 95) hb rfl (ob_lens rfl Try.underlying40 (.tmp rfl)))) fun a77 w77 s77 => ?_; clear s76
          refine seq_opg2 s77 rfl rfl rfl rfl (of_decide_eq_true rfl) (fun hb => (Ob.uncond (t := 96) hb rfl (ob_eql rfl (.tmp rfl) (opd_int rfl)))) fun a78 w78 s78 => ?_; clear s77
          refine seq_opg s78 rfl rfl rfl rfl (of_decide_eq_true rfl) (fun hb => (Ob.uncond (t := 93) hb rfl (ob_or3 hb rfl (.tmp rfl) opd_bool (.tmp rfl)))) fun a79 w79 s79 => ?_; clear s78
          obtain ⟨x20, e_x20, h27⟩ := bind_some h26; clear h26; replace e_x20 := Option.some.inj e_x20
          refine seq_op s79 rfl rfl (of_decide_eq_true rfl) ((ob_and2 rfl (.tmp rfl) (.tmp rfl) opd_bool).nm e_x20) fun a80 w80 s80 => ?_; clear s79
          refine seq_op s80 rfl rfl (of_decide_eq_true rfl) (ob_assign rfl (.tmp rfl)) fun a81 w81 s81 => ?_; clear s80
          refine wpList_nil ?_
          refine then_normal ?_
          refine hK14 _ _ ?_
          have s82 := s81.sub (.cons (t := 10) rfl .nil); clear s81
          refine wp_ret ?_
          obtain rfl := Option.some.inj h27
          exact leave s82 (.inl rfl) rfl (.cons (.tmp rfl) .nil)
        · replace h22 := ite_f hc4 h22
          have h28 := h22; clear h22
          refine wp_skip ?_
          refine then_normal ?_
          refine hK12 _ _ ?_
          have s83 := s59.sub (.cons (t := 0) rfl (.cons (t := 3) rfl (.cons (t := 4) rfl .nil))); clear s59
          refine wp_seq_k fun K15 hK15 => ?_
          refine wp_region_lit ?_
          refine seq_op s83 rfl rfl (of_decide_eq_true rfl) (ob_move rfl (.tmp rfl)) fun a84 w84 s84 => ?_; clear s83
          refine seq_op s84 rfl rfl (of_decide_eq_true rfl) (ob_move rfl (.tmp rfl)) fun a85 w85 s85 => ?_; clear s84
          obtain ⟨x21, e_x21, h29⟩ := bind_some h28; clear h28
          refine seq_op s85 rfl rfl (of_decide_eq_true rfl) (ob_indexAddrs rfl Try.underlying22 sz46 (.tmp rfl) (.tmp rfl) e_x21) fun a86 w86 s86 => ?_; clear s85
          refine seq_op s86 rfl rfl (of_decide_eq_true rfl) (ob_fieldAddrr rfl Try.underlying46 rfl sz41 (by decide) (.tmp rfl) (lg_api_Node_Past x21)) fun a87 w87 s87 => ?_; clear s86
          refine seq_op s87 rfl rfl (of_decide_eq_true rfl) (ob_loadr rfl tk41 (.tmp rfl)) fun a88 w88 s88 => ?_; clear s87
          refine seq_op s88 rfl rfl (of_decide_eq_true rfl) (ob_move rfl (.tmp rfl)) fun a89 w89 s89 => ?_; clear s88
          obtain ⟨x22, e_x22, h30⟩ := bind_some h29; clear h29
          refine seq_op s89 rfl rfl (of_decide_eq_true rfl) (ob_callD (args := [_, _]) rfl .direct hb44 (fun a w s fs gs hf hg => by obtain rfl := hf.unnil; obtain rfl := hg.unnil; exact c_cabalref15_In k _ _ _ e_x22 _ _ _ _ (s.arg (.tmp rfl)) (s.arg (.tmp rfl)))) fun a90 w90 s90 => ?_; clear s89
          refine seq_op s90 rfl rfl (of_decide_eq_true rfl) (ob_assign rfl (.tmp rfl)) fun a91 w91 s91 => ?_; clear s90
          refine wpList_nil ?_
          refine then_normal ?_
          refine hK15 _ _ ?_
          have s92 := s91.sub (.cons (t := 0) rfl (.cons (t := 3) rfl (.cons (t := 4) rfl (.cons (t := 12) rfl .nil)))); clear s91
          refine wp_seq_k fun K16 hK16 => ?_
          refine wp_region_lit ?_
          refine seq_op s92 rfl rfl (of_decide_eq_true rfl) (ob_move rfl (.tmp rfl)) fun a93 w93 s93 => ?_; clear s92
          refine seq_op s93 rfl rfl (of_decide_eq_true rfl) (ob_move rfl (.tmp rfl)) fun a94 w94 s94 => ?_; clear s93
          obtain ⟨x23, e_x23, h31⟩ := bind_some h30; clear h30
          refine seq_op s94 rfl rfl (of_decide_eq_true rfl) (ob_indexAddrs rfl Try.underlying22 sz46 (.tmp rfl) (.tmp rfl) e_x23) fun a95 w95 s95 => ?_; clear s94
          refine seq_op s95 rfl rfl (of_decide_eq_true rfl) (ob_fieldAddrr rfl Try.underlying46 rfl sz41 (by decide) (.tmp rfl) (lg_api_Node_Past x23)) fun a96 w96 s96 => ?_; clear s95
          refine seq_op s96 rfl rfl (of_decide_eq_true rfl) (ob_loadr rfl tk41 (.tmp rfl)) fun a97 w97 s97 => ?_; clear s96
          refine seq_op s97 rfl rfl (of_decide_eq_true rfl) (ob_move rfl (.tmp rfl)) fun a98 w98 s98 => ?_; clear s97
          obtain ⟨x24, e_x24, h32⟩ := bind_some h31; clear h31
          refine seq_op s98 rfl rfl (of_decide_eq_true rfl) (ob_callD (args := [_, _]) rfl .direct hb44 (fun a w s fs gs hf hg => by obtain rfl := hf.unnil; obtain rfl := hg.unnil; exact c_cabalref15_In k _ _ _ e_x24 _ _ _ _ (s.arg (.tmp rfl)) (s.arg (.tmp rfl)))) fun a99 w99 s99 => ?_; clear s98
          refine seq_op s99 rfl rfl (of_decide_eq_true rfl) (ob_assign rfl (.tmp rfl)) fun a100 w100 s100 => ?_; clear s99
          refine wpList_nil ?_
          refine then_normal ?_
          refine hK16 _ _ ?_
          have s101 := s100.sub (.cons (t := 0) rfl (.cons (t := 3) rfl (.cons (t := 4) rfl (.cons (t := 12) rfl (.cons (t := 13) rfl .nil))))); clear s100
          refine wp_seq_k fun K17 hK17 => ?_
          refine wp_region_lit ?_
          refine seq_op s101 rfl rfl (of_decide_eq_true rfl) (ob_move rfl (.tmp rfl)) fun a102 w102 s102 => ?_; clear s101
          refine seq_op s102 rfl rfl (of_decide_eq_true rfl) (ob_move rfl (.tmp rfl)) fun a103 w103 s103 => ?_; clear s102
          refine seq_op s103 rfl rfl (of_decide_eq_true rfl) (ob_move rfl (.tmp rfl)) fun a104 w104 s104 => ?_; clear s103
          obtain ⟨x25, e_x25, h33⟩ := bind_some h32; clear h32
          refine seq_op s104 rfl rfl (of_decide_eq_true rfl) (ob_callD (args := [_, _, _]) rfl .direct hb27 (fun a w s fs gs hf hg => by obtain rfl := hf.unnil; obtain rfl := hg.unnil; exact c_graph_Ahead k _ _ _ _ e_x25 _ _ _ _ _ (s.arg (.tmp rfl)) (s.arg (.tmp rfl)) (s.arg (.tmp rfl)))) fun a105 w105 s105 => ?_; clear s104
          refine seq_op s105 rfl rfl (of_decide_eq_true rfl) (ob_move rfl (.tmp rfl)) fun a106 w106 s106 => ?_; clear s105
          refine seq_op s106 rfl rfl (of_decide_eq_true rfl) (ob_beql rfl Try.underlying4 (.tmp rfl) (.tmp rfl)) fun a107 w107 s107 => ?_; clear s106
          refine seq_op s107 rfl rfl (of_decide_eq_true rfl) (ob_move rfl (.tmp rfl)) fun a108 w108 s108 => ?_; clear s107
          refine seq_opg s108 rfl rfl rfl rfl (of_decide_eq_true rfl) (fun hb => ob_move rfl (.tmp rfl)) fun a109 w109 s109 => ?_; clear s108
          refine seq_opg s109 rfl rfl rfl rfl (of_decide_eq_true rfl) (fun hb => ob_move rfl (.tmp rfl)) fun a110 w110 s110 => ?_; clear s109
          refine seq_opg s110 rfl rfl rfl rfl (of_decide_eq_true rfl) (fun hb => ob_move rfl (.tmp rfl)) fun a111 w111 s111 => ?_; clear s110
          obtain ⟨x26, e_x26, h34⟩ := bind_some h33; clear h33
          refine seq_opg s111 rfl rfl rfl rfl (of_decide_eq_true rfl) (fun hb => (Ob.uncond (t := 123) hb rfl ((Ob.uncond (t := 122) hb rfl ((Ob.uncond (t := 121) hb rfl (ob_callD (args := [_, _, _]) rfl .direct hb28 (fun a w s fs gs hf hg => by obtain rfl := hf.unnil; obtain rfl := hg.unnil; exact c_graph_Apart k _ _ _ _ (ite_t hb e_x26) _ _ _ _ _ (s.arg (.tmp rfl)) (s.arg (.tmp rfl)) (s.arg (.tmp rfl)))))))))) fun a112 w112 s112 => ?_; clear s111
          refine seq_opg s112 rfl rfl rfl rfl (of_decide_eq_true rfl) (fun hb => ob_move rfl (.tmp rfl)) fun a113 w113 s113 => ?_; clear s112
          refine seq_opg s113 rfl rfl rfl rfl (of_decide_eq_true rfl) (fun hb => (Ob.uncond (t := 125) hb rfl (ob_not rfl (.tmp rfl)))) fun a114 w114 s114 => ?_; clear s113
          refine seq_opg s114 rfl rfl rfl rfl (of_decide_eq_true rfl) (fun hb => (Ob.uncond (t := 126) hb rfl (ob_move rfl (.tmp rfl)))) fun a115 w115 s115 => ?_; clear s114
          refine seq_opg2 s115 rfl rfl rfl rfl (of_decide_eq_true rfl) (fun hb => ob_move rfl (.tmp rfl)) fun a116 w116 s116 => ?_; clear s115
          refine seq_opg2 s116 rfl rfl rfl rfl (of_decide_eq_true rfl) (fun hb => (Ob.uncond (t := 128) hb rfl (ob_not rfl (.tmp rfl)))) fun a117 w117 s117 => ?_; clear s116
          refine seq_opg s117 rfl rfl rfl rfl (of_decide_eq_true rfl) (fun hb => (Ob.uncond (t := 127) hb rfl (ob_and3 hb rfl (.tmp rfl) (.tmp rfl) opd_bool))) fun a118 w118 s118 => ?_; clear s117
          refine seq_opg s118 rfl rfl rfl rfl (of_decide_eq_true rfl) (fun hb => (Ob.uncond (t := 130) hb rfl (ob_move rfl (.tmp rfl)))) fun a119 w119 s119 => ?_; clear s118
          refine seq_opg2 s119 rfl rfl rfl rfl (of_decide_eq_true rfl) (fun hb => ob_move rfl (.tmp rfl)) fun a120 w120 s120 => ?_; clear s119
          refine seq_opg2 s120 rfl rfl rfl rfl (of_decide_eq_true rfl) (fun hb => ob_move rfl (.tmp rfl)) fun a121 w121 s121 => ?_; clear s120
          refine seq_opg2 s121 rfl rfl rfl rfl (of_decide_eq_true rfl) (fun hb => (Ob.uncond (t := 133) hb rfl ((Ob.uncond (t := 132) hb rfl (ob_neq rfl (.tmp rfl) (.tmp rfl)))))) fun a122 w122 s122 => ?_; clear s121
          refine seq_opg s122 rfl rfl rfl rfl (of_decide_eq_true rfl) (fun hb => (Ob.uncond (t := 131) hb rfl (ob_and3 hb rfl (.tmp rfl) (.tmp rfl) opd_bool))) fun a123 w123 s123 => ?_; clear s122
          obtain ⟨x27, e_x27, h35⟩ := bind_some h34; clear h34; replace e_x27 := Option.some.inj e_x27
          refine seq_opg s123 rfl rfl rfl rfl (of_decide_eq_true rfl) (fun hb => (Ob.uncond (t := 135) hb rfl ((Ob.uncond (t := 124) hb rfl ((ob_beql rfl Try.underlying4 (.tmp rfl) (.tmp rfl)).nm e_x27))))) fun a124 w124 s124 => ?_; clear s123
          refine seq_op s124 rfl rfl (of_decide_eq_true rfl) (ob_and2 rfl (.tmp rfl) (.tmp rfl) opd_bool) fun a125 w125 s125 => ?_; clear s124
          refine seq_op s125 rfl rfl (of_decide_eq_true rfl) (ob_move rfl (.tmp rfl)) fun a126 w126 s126 => ?_; clear s125
          refine seq_opg s126 rfl rfl rfl rfl (of_decide_eq_true rfl) (fun hb => ob_move rfl (.tmp rfl)) fun a127 w127 s127 => ?_; clear s126
          obtain ⟨x28, e_x28, h36⟩ := bind_some h35; clear h35
          refine seq_opg s127 rfl rfl rfl rfl (of_decide_eq_true rfl) (fun hb => (ObF.ob ((ObF.uncond (t := 139) hb rfl (ob_callF (F := resFact [((ksl (karr 32 (kint .u8))).V x28)]) (args := [_]) rfl .direct hb50 (fun a w s fs gs hf hg => by obtain rfl := hf.unnil; obtain rfl := hg.unnil; exact c_graph_Heads k _ _ (ite_t hb e_x28) _ _ _ (s.arg (.tmp rfl))) (by exact fun g => ResF.all (.row (.head _) (KFlat.arr (KFlat.int _)) .nil))))))) fun a128 w128 s128 => ?_; clear s127
          refine seq_opg s128 rfl rfl rfl rfl (of_decide_eq_true rfl) (fun hb => ob_move rfl (.tmp rfl)) fun a129 w129 s129 => ?_; clear s128
          obtain ⟨x29, e_x29, h37⟩ := bind_some h36; clear h36
          refine seq_opg s129 rfl rfl rfl rfl (of_decide_eq_true rfl) (fun hb => (ObF.ob ((ObF.uncond (t := 141) hb rfl (ob_callF (F := resFact [((ksl (karr 32 (kint .u8))).V x29)]) (args := [_]) rfl .direct hb58 (fun a w s fs gs hf hg => by obtain rfl := hf.unnil; obtain rfl := hg.unnil; exact c_cabalref15_Heads k _ _ (ite_t hb e_x29) _ _ _ (s.arg (.tmp rfl))) (by exact fun g => ResF.all (.row (.head _) (KFlat.arr (KFlat.int _)) .nil))))))) fun a130 w130 s130 => ?_; clear s129
          obtain ⟨x30, e_x30, h38⟩ := bind_some h37; clear h37
          refine seq_opg s130 rfl rfl rfl rfl (of_decide_eq_true rfl) (fun hb => (Ob.uncond (t := 142) hb rfl ((Ob.uncond (t := 140) hb rfl (ob_callD (args := [_, _]) rfl .direct hb49 (fun a w s fs gs hf hg => by obtain rfl := hf.unnil; obtain rfl := hg.unnil; exact c_cabalref08_SameKeys k _ _ _ (ite_t hb e_x30) _ _ _ _ (s.arg (.tmp rfl)) (s.arg (.tmp rfl)))))))) fun a131 w131 s131 => ?_; clear s130
          refine seq_op s131 rfl rfl (of_decide_eq_true rfl) (ob_and2 rfl (.tmp rfl) (.tmp rfl) opd_bool) fun a132 w132 s132 => ?_; clear s131
          refine seq_op s132 rfl rfl (of_decide_eq_true rfl) (ob_assign rfl (.tmp rfl)) fun a133 w133 s133 => ?_; clear s132
          refine wpList_nil ?_
          refine then_normal ?_
          refine hK17 _ _ ?_
          have s134 := s133.sub (.cons (t := 10) rfl .nil); clear s133
          refine wp_ret ?_
          obtain rfl := Option.some.inj h38
          exact leave s134 (.inl rfl) rfl (.cons (.tmp rfl) .nil)

end Go.Proofs.Ytdlnfgpcnfbjiaa
