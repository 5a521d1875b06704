/- Each function's code comes to what its plain function answers. No condition. -/
import Derived.Test.YtdlnfgpcnfbjiaaYWalk2
namespace Go.Proofs.Ytdlnfgpcnfbjiaa
open Go Go.RowKit Go.Proofs.Kit Go.Proofs.Pure
set_option linter.unusedVariables false
set_option linter.unusedSimpArgs false
set_option maxRecDepth 100000
set_option maxHeartbeats 2000000

/- 164 cabal/roster.named$1 -/
theorem c_roster_named_1 (k : Nat) (p1 : Int) (p2 : (List api_Node)) (p3 : Int) (r : Bool) (h0 : roster_named_1 k p1 p2 p3 = some r) (ok : Ok) (w0 : World) (z0 : Value) (z1 : Value) (z2 : Value) (u0 : ((kint .i64).V p1).holds ok w0 z0) (u1 : (ptrTo (ksl k_api_Node) p2).holds ok w0 z1) (u2 : (ptrTo (kint .i64) p3).holds ok w0 z2) :
    Gives Try.prog 164 [z0, z1, z2] ok w0 (resFact [kbool.V r]) := by
  unfold roster_named_1 at h0
  refine enter (N := 25) Try.func164 rfl rfl (of_decide_eq_true rfl) (.cons u0 (.cons u1 (.cons u2 .nil))) fun a1 s1 => ?_
  refine wp_seq_k fun K1 hK1 => ?_
  refine wp_region_lit ?_
  refine seq_op s1 rfl rfl (of_decide_eq_true rfl) (ob_assign rfl opd_bool) fun a2 w2 s2 => ?_; clear s1
  refine wpList_nil ?_
  refine then_normal ?_
  refine hK1 _ _ ?_
  have s3 := s2.sub (.cons (t := 0) rfl (.cons (t := 1) rfl (.cons (t := 2) rfl .nil))); clear s2
  refine wp_seq_k fun K2 hK2 => ?_
  refine wp_region_lit ?_
  refine seq_op s3 rfl rfl (of_decide_eq_true rfl) (ob_loadr rfl tk22 (.tmp rfl)) fun a4 w4 s4 => ?_; clear s3
  refine seq_op s4 rfl rfl (of_decide_eq_true rfl) (ob_move rfl (.tmp rfl)) fun a5 w5 s5 => ?_; clear s4
  obtain ⟨x1, e_x1, h1⟩ := bind_some h0; clear h0
  refine seq_op s5 rfl rfl (of_decide_eq_true rfl) (ob_indexAddrs rfl Try.underlying22 sz46 (.tmp rfl) (.tmp rfl) e_x1) fun a6 w6 s6 => ?_; clear s5
  refine seq_op s6 rfl rfl (of_decide_eq_true rfl) (ob_fieldAddrr rfl Try.underlying46 rfl sz44 (by decide) (.tmp rfl) (lg_api_Node_Op x1)) fun a7 w7 s7 => ?_; clear s6
  refine seq_op s7 rfl rfl (of_decide_eq_true rfl) (ob_loadr rfl tk44 (.tmp rfl)) fun a8 w8 s8 => ?_; clear s7
  refine seq_opx (B' := (fun b1 : Nat => [BF b1 44 k_api_Op (⟨(0 : Int), (0 : Int), [], (0 : Int), [], (List.replicate 32 (0 : Int)), (List.replicate 32 (0 : Int)), [], []⟩ : api_Op)])) s8 rfl rfl (of_decide_eq_true rfl) (ob_new (k := k_api_Op) rfl zz44 (Zr.iso (f := t_api_Op) (x := (⟨(0 : Int), (0 : Int), [], (0 : Int), [], (List.replicate 32 (0 : Int)), (List.replicate 32 (0 : Int)), [], []⟩ : api_Op)) (Zr.pair (Zr.int .i64) (Zr.pair (Zr.int .u32) (Zr.pair (Zr.sl _) (Zr.pair (Zr.int .i64) (Zr.pair (Zr.sl _) (Zr.pair (Zr.arr 32 (Zr.int .u8)) (Zr.pair (Zr.arr 32 (Zr.int .u8)) (Zr.pair Zr.str (Zr.pair (Zr.sl _) Zr.nil))))))))))) fun b1 a9 w9 s9 => ?_; clear s8
  refine seq_opx0 (B' := (fun _ : Unit => [BF b1 44 k_api_Op x1.Op])) s9 rfl rfl (ob_store (A := []) rfl tk44 (.tmp rfl) (.tmp rfl) rfl (LS.refl _ _ _) rfl) fun _ a10 w10 s10 => ?_; clear s9
  refine wpList_nil ?_
  refine then_normal ?_
  refine hK2 _ _ ?_
  have s11 := s10.sub (.cons (t := 2) rfl (.cons (t := 5) rfl .nil)); clear s10
  refine wp_seq_k fun K3 hK3 => ?_
  refine wp_region_lit ?_
  refine seq_op s11 rfl rfl (of_decide_eq_true rfl) (ob_fieldAddr (off' := 3) rfl Try.underlying44 rfl sz3 (by decide) (.tmp rfl) rfl) fun a12 w12 s12 => ?_; clear s11
  refine seq_op s12 rfl rfl (of_decide_eq_true rfl) (ob_load rfl tk3 (.tmp rfl) (.head _) (lg_api_Op_Kind x1.Op)) fun a13 w13 s13 => ?_; clear s12
  refine seq_op s13 rfl rfl (of_decide_eq_true rfl) (ob_eql rfl (.tmp rfl) (opd_int rfl)) fun a14 w14 s14 => ?_; clear s13
  refine seq_op s14 rfl rfl (of_decide_eq_true rfl) (ob_move rfl (.tmp rfl)) fun a15 w15 s15 => ?_; clear s14
  refine seq_opg s15 rfl rfl rfl rfl (of_decide_eq_true rfl) (fun hb => ob_fieldAddr (off' := 3) rfl Try.underlying44 rfl sz3 (by decide) (.tmp rfl) rfl) fun a16 w16 s16 => ?_; clear s15
  refine seq_opg s16 rfl rfl rfl rfl (of_decide_eq_true rfl) (fun hb => (Ob.uncond (t := 15) hb rfl (ob_load rfl tk3 (.tmp rfl) (.head _) (lg_api_Op_Kind x1.Op)))) fun a17 w17 s17 => ?_; clear s16
  refine seq_opg s17 rfl rfl rfl rfl (of_decide_eq_true rfl) (fun hb => (Ob.uncond (t := 16) hb rfl (ob_eql rfl (.tmp rfl) (opd_int rfl)))) fun a18 w18 s18 => ?_; clear s17
  obtain ⟨x2, e_x2, h2⟩ := bind_some h1; clear h1; replace e_x2 := Option.some.inj e_x2
  refine seq_op s18 rfl rfl (of_decide_eq_true rfl) ((ob_or2 rfl (.tmp rfl) opd_bool (.tmp rfl)).nm e_x2) fun a19 w19 s19 => ?_; clear s18
  refine seq_op s19 rfl rfl (of_decide_eq_true rfl) (ob_move rfl (.tmp rfl)) fun a20 w20 s20 => ?_; clear s19
  refine seq_opg s20 rfl rfl rfl rfl (of_decide_eq_true rfl) (fun hb => ob_fieldAddr (off' := 4) rfl Try.underlying44 rfl sz41 (by decide) (.tmp rfl) rfl) fun a21 w21 s21 => ?_; clear s20
  refine seq_opg s21 rfl rfl rfl rfl (of_decide_eq_true rfl) (fun hb => (Ob.uncond (t := 20) hb rfl (ob_load rfl tk41 (.tmp rfl) (.head _) (lg_api_Op_Who x1.Op)))) fun a22 w22 s22 => ?_; clear s21
  refine seq_opg s22 rfl rfl rfl rfl (of_decide_eq_true rfl) (fun hb => ob_loadr rfl tk3 (.tmp rfl)) fun a23 w23 s23 => ?_; clear s22
  obtain ⟨x3, e_x3, h3⟩ := bind_some h2; clear h2
  refine seq_opg s23 rfl rfl rfl rfl (of_decide_eq_true rfl) (fun hb => (Ob.uncond (t := 22) hb rfl ((Ob.uncond (t := 21) hb rfl (ob_callD (args := [_, _]) rfl .direct hb83 (fun a w s fs gs hf hg => by obtain rfl := hf.unnil; obtain rfl := hg.unnil; exact c_slices_Contains_int_int k _ _ _ (ite_t hb e_x3) _ _ _ _ (s.arg (.tmp rfl)) (s.arg (.tmp rfl)))))))) fun a24 w24 s24 => ?_; clear s23
  refine seq_op s24 rfl rfl (of_decide_eq_true rfl) (ob_and2 rfl (.tmp rfl) (.tmp rfl) opd_bool) fun a25 w25 s25 => ?_; clear s24
  refine seq_op s25 rfl rfl (of_decide_eq_true rfl) (ob_assign rfl (.tmp rfl)) fun a26 w26 s26 => ?_; clear s25
  refine wpList_nil ?_
  refine then_normal ?_
  refine hK3 _ _ ?_
  have s27 := s26.sub (.cons (t := 4) rfl .nil); clear s26
  have s28 := St.drop (A := []) s27; clear s27
  refine wp_ret ?_
  obtain rfl := Option.some.inj h3
  exact leave s28 (.inl rfl) rfl (.cons (.tmp rfl) .nil)

/- 152 slices.IndexFunc[[]int,int] -/
theorem c_slices_IndexFunc_int_int_roster_named_1 (k : Nat) (p1 : (List Int)) (p2 : (List api_Node)) (p3 : Int) (r : Int) (h0 : slices_IndexFunc_int_int_roster_named_1 k p1 p2 p3 = some r) (ok : Ok) (w0 : World) (z0 : Value) (z1 : Value) (u0 : ((ksl (kint .i64)).V p1).holds ok w0 z0) (u1 : (cloF 164 [] [(ptrTo (ksl k_api_Node) p2), (ptrTo (kint .i64) p3)]).holds ok w0 z1) :
    Gives Try.prog 152 [z0, z1] ok w0 (resFact [(kint .i64).V r]) := by
  unfold slices_IndexFunc_int_int_roster_named_1 at h0
  refine enter (N := 19) Try.func152 rfl rfl (of_decide_eq_true rfl) (.cons u0 (.cons u1 .nil)) fun a1 s1 => ?_
  refine wp_seq_k fun K1 hK1 => ?_
  refine wp_region_lit ?_
  refine seq_op s1 rfl rfl (of_decide_eq_true rfl) (ob_assign rfl (opd_int rfl)) fun a2 w2 s2 => ?_; clear s1
  refine wpList_nil ?_
  refine then_normal ?_
  refine hK1 _ _ ?_
  have s3 := s2.sub (.cons (t := 0) rfl (.cons (t := 1) rfl .nil)); clear s2
  refine wp_seq_k fun K2 hK2 => ?_
  refine wp_seq_k fun K3 hK3 => ?_
  refine wp_region_lit ?_
  refine seq_op s3 rfl rfl (of_decide_eq_true rfl) (ob_move rfl (.tmp rfl)) fun a4 w4 s4 => ?_; clear s3
  refine seq_op s4 rfl rfl (of_decide_eq_true rfl) (ob_lens rfl Try.underlying41 (.tmp rfl)) fun a5 w5 s5 => ?_; clear s4
  refine seq_op s5 rfl rfl (of_decide_eq_true rfl) (ob_move rfl (opd_int rfl)) fun a6 w6 s6 => ?_; clear s5
  refine wpList_nil ?_
  refine then_normal ?_
  refine hK3 _ _ ?_
  have s7 := s6.sub (.cons (t := 0) rfl (.cons (t := 1) rfl (.cons (t := 7) rfl (.cons (t := 8) rfl .nil)))); clear s6
  have hj1 : ∀ (a : Act) (w : World), (slices_IndexFunc_int_int_roster_named_1.j1 k) = some r → St ⟨19, w0, ok, []⟩ [] [] a w → K2 a w := by
    intro a8 w8 h1 s8
    unfold slices_IndexFunc_int_int_roster_named_1.j1 at h1
    refine hK2 _ _ ?_
    refine wp_seq_k fun K4 hK4 => ?_
    refine wp_region_lit ?_
    refine seq_op s8 rfl rfl (of_decide_eq_true rfl) (ob_assign rfl (opd_int rfl)) fun a9 w9 s9 => ?_; clear s8
    refine wpList_nil ?_
    refine then_normal ?_
    refine hK4 _ _ ?_
    have s10 := s9.sub (.cons (t := 4) rfl .nil); clear s9
    refine wp_ret ?_
    obtain rfl := Option.some.inj h1
    exact leave s10 (.inl rfl) rfl (.cons (.tmp rfl) .nil)
  refine wp_block ?_
  refine wp_loop_fuel (fun m (q : Int) => slices_IndexFunc_int_int_roster_named_1.l1 k p1 p2 p3 m q) r (fun _ => rfl) (fun q a w => St ⟨19, w0, ok, []⟩ [] [(0, ((ksl (kint .i64)).V p1)), (1, (cloF 164 [] [(ptrTo (ksl k_api_Node) p2), (ptrTo (kint .i64) p3)])), (7, ((kint .i64).V (p1.length : Int))), (8, ((kint .i64).V q))] a w) ?_ k (0 : Int) _ _ h0 (s7.sub (.cons rfl (.cons rfl (.cons rfl (.cons rfl .nil)))))
  rintro n1 y1 a11 w11 h2 s11 K5 hK5
  replace h2 : slices_IndexFunc_int_int_roster_named_1.l1 k p1 p2 p3 (n1 + 1) y1 = some r := h2; rw [slices_IndexFunc_int_int_roster_named_1.l1] at h2
  have h3 := h2; clear h2
  refine wp_seq_k fun K6 hK6 => ?_
  refine wp_region_lit ?_
  refine seq_op s11 rfl rfl (of_decide_eq_true rfl) (ob_lss rfl (.tmp rfl) (.tmp rfl)) fun a12 w12 s12 => ?_; clear s11
  refine wpList_nil ?_
  refine then_normal ?_
  refine hK6 _ _ ?_
  have s13 := s12.sub (.cons (t := 0) rfl (.cons (t := 1) rfl (.cons (t := 7) rfl (.cons (t := 8) rfl (.cons (t := 9) rfl .nil))))); clear s12
  refine wp_seq_k fun K7 hK7 => ?_
  refine cond_split s13 (.tmp rfl) (fun hc1 => ?_) (fun hc1 => ?_)
  · replace h3 := ite_t hc1 h3
    have h4 := h3; clear h3
    refine wp_skip ?_
    refine then_normal ?_
    refine hK7 _ _ ?_
    have s14 := s13.sub (.cons (t := 0) rfl (.cons (t := 1) rfl (.cons (t := 7) rfl (.cons (t := 8) rfl .nil)))); clear s13
    refine wp_seq_k fun K8 hK8 => ?_
    refine wp_block ?_
    refine wp_seq_k fun K9 hK9 => ?_
    refine wp_region_lit ?_
    refine seq_op s14 rfl rfl (of_decide_eq_true rfl) (ob_move rfl (.tmp rfl)) fun a15 w15 s15 => ?_; clear s14
    refine seq_op s15 rfl rfl (of_decide_eq_true rfl) (ob_assign rfl (.tmp rfl)) fun a16 w16 s16 => ?_; clear s15
    refine wpList_nil ?_
    refine then_normal ?_
    refine hK9 _ _ ?_
    have s17 := s16.sub (.cons (t := 0) rfl (.cons (t := 1) rfl (.cons (t := 5) rfl (.cons (t := 7) rfl (.cons (t := 8) rfl .nil))))); clear s16
    refine wp_seq_k fun K10 hK10 => ?_
    refine wp_region_lit ?_
    refine seq_op s17 rfl rfl (of_decide_eq_true rfl) (ob_move rfl (.tmp rfl)) fun a18 w18 s18 => ?_; clear s17
    refine seq_op s18 rfl rfl (of_decide_eq_true rfl) (ob_move rfl (.tmp rfl)) fun a19 w19 s19 => ?_; clear s18
    refine seq_op s19 rfl rfl (of_decide_eq_true rfl) (ob_move rfl (.tmp rfl)) fun a20 w20 s20 => ?_; clear s19
    obtain ⟨x1, e_x1, h5⟩ := bind_some h4; clear h4
    refine seq_op s20 rfl rfl (of_decide_eq_true rfl) (ob_indexAddrs rfl Try.underlying41 sz3 (.tmp rfl) (.tmp rfl) e_x1) fun a21 w21 s21 => ?_; clear s20
    refine seq_op s21 rfl rfl (of_decide_eq_true rfl) (ob_loadr rfl tk3 (.tmp rfl)) fun a22 w22 s22 => ?_; clear s21
    obtain ⟨x2, e_x2, h6⟩ := bind_some h5; clear h5
    refine seq_op s22 rfl rfl (of_decide_eq_true rfl) (ob_callD (args := [_]) rfl (.clo (.tmp rfl)) hb164 (fun a w s fs gs hf hg => by obtain rfl := hf.unnil; obtain ⟨u0, _, rfl, fu0, hg⟩ := hg.uncons; obtain ⟨u1, _, rfl, fu1, hg⟩ := hg.uncons; obtain rfl := hg.unnil; exact c_roster_named_1 k _ _ _ _ e_x2 _ _ _ _ _ (s.arg (.tmp rfl)) fu0 fu1)) fun a23 w23 s23 => ?_; clear s22
    refine wpList_nil ?_
    refine then_normal ?_
    refine hK10 _ _ ?_
    have s24 := s23.sub (.cons (t := 0) rfl (.cons (t := 1) rfl (.cons (t := 5) rfl (.cons (t := 7) rfl (.cons (t := 8) rfl (.cons (t := 16) rfl .nil)))))); clear s23
    refine cond_split s24 (.tmp rfl) (fun hc2 => ?_) (fun hc2 => ?_)
    · replace h6 := ite_t hc2 h6
      have h7 := h6; clear h6
      refine wp_seq_k fun K11 hK11 => ?_
      refine wp_region_lit ?_
      refine seq_op s24 rfl rfl (of_decide_eq_true rfl) (ob_move rfl (.tmp rfl)) fun a25 w25 s25 => ?_; clear s24
      refine seq_op s25 rfl rfl (of_decide_eq_true rfl) (ob_assign rfl (.tmp rfl)) fun a26 w26 s26 => ?_; clear s25
      refine wpList_nil ?_
      refine then_normal ?_
      refine hK11 _ _ ?_
      have s27 := s26.sub (.cons (t := 4) rfl .nil); clear s26
      refine wp_ret ?_
      obtain rfl := Option.some.inj h7
      exact leave s27 (.inl rfl) rfl (.cons (.tmp rfl) .nil)
    · replace h6 := ite_f hc2 h6
      have h8 := h6; clear h6
      refine wp_skip ?_
      refine in_normal ?_
      refine then_normal ?_
      refine hK8 _ _ ?_
      have s28 := s24.sub (.cons (t := 0) rfl (.cons (t := 1) rfl (.cons (t := 7) rfl (.cons (t := 8) rfl .nil)))); clear s24
      refine wp_region_lit ?_
      refine seq_op s28 rfl rfl (of_decide_eq_true rfl) (ob_add rfl (.tmp rfl) (opd_int rfl)) fun a29 w29 s29 => ?_; clear s28
      refine seq_op s29 rfl rfl (of_decide_eq_true rfl) (ob_move rfl (.tmp rfl)) fun a30 w30 s30 => ?_; clear s29
      refine wpList_nil ?_
      refine then_normal ?_
      exact hK5 (iadd .i64 y1 (1 : Int)) _ _ h8 (s30.sub (.cons rfl (.cons rfl (.cons rfl (.cons rfl .nil)))))
  · replace h3 := ite_f hc1 h3
    have h9 := h3; clear h3
    refine wp_exit ?_
    refine (then_exit (then_exit (in_here ?_)))
    refine then_normal ?_
    exact hj1 _ _ h9 (s13.sub .nil)

/- 132 slices.ContainsFunc[[]int,int] -/
theorem c_slices_ContainsFunc_int_int_roster_named_1 (k : Nat) (p1 : (List Int)) (p2 : (List api_Node)) (p3 : Int) (r : Bool) (h0 : slices_ContainsFunc_int_int_roster_named_1 k p1 p2 p3 = some r) (ok : Ok) (w0 : World) (z0 : Value) (z1 : Value) (u0 : ((ksl (kint .i64)).V p1).holds ok w0 z0) (u1 : (cloF 164 [] [(ptrTo (ksl k_api_Node) p2), (ptrTo (kint .i64) p3)]).holds ok w0 z1) :
    Gives Try.prog 132 [z0, z1] ok w0 (resFact [kbool.V r]) := by
  unfold slices_ContainsFunc_int_int_roster_named_1 at h0
  refine enter (N := 9) Try.func132 rfl rfl (of_decide_eq_true rfl) (.cons u0 (.cons u1 .nil)) fun a1 s1 => ?_
  refine wp_seq_k fun K1 hK1 => ?_
  refine wp_region_lit ?_
  refine seq_op s1 rfl rfl (of_decide_eq_true rfl) (ob_assign rfl opd_bool) fun a2 w2 s2 => ?_; clear s1
  refine wpList_nil ?_
  refine then_normal ?_
  refine hK1 _ _ ?_
  have s3 := s2.sub (.cons (t := 0) rfl (.cons (t := 1) rfl .nil)); clear s2
  refine wp_seq_k fun K2 hK2 => ?_
  refine wp_region_lit ?_
  refine seq_op s3 rfl rfl (of_decide_eq_true rfl) (ob_move rfl (.tmp rfl)) fun a4 w4 s4 => ?_; clear s3
  refine seq_op s4 rfl rfl (of_decide_eq_true rfl) (ob_move rfl (.tmp rfl)) fun a5 w5 s5 => ?_; clear s4
  obtain ⟨x1, e_x1, h1⟩ := bind_some h0; clear h0
  refine seq_op s5 rfl rfl (of_decide_eq_true rfl) (ob_callD (args := [_, _]) rfl .direct hb152 (fun a w s fs gs hf hg => by obtain rfl := hf.unnil; obtain rfl := hg.unnil; exact c_slices_IndexFunc_int_int_roster_named_1 k _ _ _ _ e_x1 _ _ _ _ (s.arg (.tmp rfl)) (s.arg (.tmp rfl)))) fun a6 w6 s6 => ?_; clear s5
  refine seq_op s6 rfl rfl (of_decide_eq_true rfl) (ob_geq rfl (.tmp rfl) (opd_int rfl)) fun a7 w7 s7 => ?_; clear s6
  refine seq_op s7 rfl rfl (of_decide_eq_true rfl) (ob_assign rfl (.tmp rfl)) fun a8 w8 s8 => ?_; clear s7
  refine wpList_nil ?_
  refine then_normal ?_
  refine hK2 _ _ ?_
  have s9 := s8.sub (.cons (t := 4) rfl .nil); clear s8
  refine wp_ret ?_
  obtain rfl := Option.some.inj h1
  exact leave s9 (.inl rfl) rfl (.cons (.tmp rfl) .nil)

/- 144 cabal/roster.named -/
theorem c_roster_named (k : Nat) (p1 : (List api_Node)) (p2 : (List Int)) (p3 : Int) (r : Bool) (h0 : roster_named k p1 p2 p3 = some r) (ok : Ok) (w0 : World) (z0 : Value) (z1 : Value) (z2 : Value) (u0 : ((ksl k_api_Node).V p1).holds ok w0 z0) (u1 : ((ksl (kint .i64)).V p2).holds ok w0 z1) (u2 : ((kint .i64).V p3).holds ok w0 z2) :
    Gives Try.prog 144 [z0, z1, z2] ok w0 (resFact [kbool.V r]) := by
  unfold roster_named at h0
  refine enter (N := 10) Try.func144 rfl rfl (of_decide_eq_true rfl) (.cons u0 (.cons u1 (.cons u2 .nil))) fun a1 s1 => ?_
  refine wp_seq_k fun K1 hK1 => ?_
  refine wp_region_lit ?_
  refine seq_opx (B' := (fun b1 : Nat => [BF b1 22 (ksl k_api_Node) p1])) s1 rfl rfl (of_decide_eq_true rfl) (ob_box rfl (.tmp rfl)) fun b1 a2 w2 s2 => ?_; clear s1
  refine seq_opx (B' := (fun b2 : Nat => [BF b2 3 (kint .i64) p3, BF b1 22 (ksl k_api_Node) p1])) s2 rfl rfl (of_decide_eq_true rfl) (ob_box rfl (.tmp rfl)) fun b2 a3 w3 s3 => ?_; clear s2
  refine seq_op s3 rfl rfl (of_decide_eq_true rfl) (ob_assign rfl opd_bool) fun a4 w4 s4 => ?_; clear s3
  refine wpList_nil ?_
  refine then_normal ?_
  refine hK1 _ _ ?_
  have s5 := s4.sub (.cons (t := 1) rfl (.cons (t := 3) rfl (.cons (t := 5) rfl .nil))); clear s4
  refine wp_seq_k fun K2 hK2 => ?_
  refine wp_region_lit ?_
  refine seq_op s5 rfl rfl (of_decide_eq_true rfl) (ob_move rfl (.tmp rfl)) fun a6 w6 s6 => ?_; clear s5
  refine seq_op s6 rfl rfl (of_decide_eq_true rfl) (ob_makeFn (xs := []) (ys := [_, _]) rfl .nil (.cons (.tmp rfl) (.cons (.tmp rfl) .nil))) fun a7 w7 s7 => ?_; clear s6
  obtain ⟨x1, e_x1, h1⟩ := bind_some h0; clear h0
  refine seq_op s7 rfl rfl (of_decide_eq_true rfl) ((ob_lendG (L := [_, _]) (toFront [_] (toFront [] (List.Perm.refl _))) (.cons (t := 8) rfl (lendClo .nil (.cons (lendPtrB (.head _) (LG.refl _ _)) (.cons (lendPtrB (.tail _ (.head _)) (LG.refl _ _)) .nil))) .nil) (Flat.res1 (Flat.V KFlat.bool)) (fun _ => ob_callD (args := [_, _]) rfl .direct hb132 (fun a w s fs gs hf hg => by obtain rfl := hf.unnil; obtain rfl := hg.unnil; exact c_slices_ContainsFunc_int_int_roster_named_1 k _ _ _ _ e_x1 _ _ _ _ (s.arg (.tmp rfl)) (s.arg (.tmp rfl)))))) fun a8 w8 s8 => ?_; clear s7
  refine seq_op s8 rfl rfl (of_decide_eq_true rfl) (ob_assign rfl (.tmp rfl)) fun a9 w9 s9 => ?_; clear s8
  refine wpList_nil ?_
  refine then_normal ?_
  refine hK2 _ _ ?_
  have s10 := s9.sub (.cons (t := 6) rfl .nil); clear s9
  have s11 := St.drop (A := []) s10; clear s10
  have s12 := St.drop (A := []) s11; clear s11
  refine wp_ret ?_
  obtain rfl := Option.some.inj h1
  exact leave s12 (.inl rfl) rfl (.cons (.tmp rfl) .nil)

/- 95 cabal/roster.behind -/
theorem c_roster_behind (k : Nat) (p1 : (List api_Node)) (p2 : api_Op) (r : ((List Int) × Int)) (h0 : roster_behind k p1 p2 = some r) (ok : Ok) (w0 : World) (z0 : Value) (z1 : Value) (u0 : ((ksl k_api_Node).V p1).holds ok w0 z0) (u1 : (k_api_Op.V p2).holds ok w0 z1) :
    Gives Try.prog 95 [z0, z1] ok w0 (resFact [(ksl (kint .i64)).V r.1, (kint .i64).V r.2]) := by
  unfold roster_behind at h0
  refine enter (N := 78) Try.func95 rfl rfl (of_decide_eq_true rfl) (.cons u0 (.cons u1 .nil)) fun a1 s1 => ?_
  refine wp_seq_k fun K1 hK1 => ?_
  refine wp_region_lit ?_
  refine seq_opx (B' := (fun b1 : Nat => [BF b1 44 k_api_Op p2])) s1 rfl rfl (of_decide_eq_true rfl) (ob_box rfl (.tmp rfl)) fun b1 a2 w2 s2 => ?_; clear s1
  refine seq_op s2 rfl rfl (of_decide_eq_true rfl) (ob_assign rfl opd_is) fun a3 w3 s3 => ?_; clear s2
  have s4 := St.adopt s3 (G := RowF (nilRow 25) 3 (kint .i64) []) rfl (rowNilN _ _ _ _ _); clear s3
  refine seq_op s4 rfl rfl (of_decide_eq_true rfl) (ob_assign rfl (opd_int rfl)) fun a5 w5 s5 => ?_; clear s4
  refine wpList_nil ?_
  refine then_normal ?_
  refine hK1 _ _ ?_
  have s6 := s5.sub (.cons (t := 0) rfl (.cons (t := 3) rfl .nil)); clear s5
  have s7 := St.drop (A := []) s6; clear s6
  refine wp_seq_k fun K2 hK2 => ?_
  refine wp_region_lit ?_
  obtain ⟨x1, e_x1, h1⟩ := bind_some h0; clear h0; replace e_x1 := Option.some.inj e_x1
  refine seq_op s7 rfl rfl (of_decide_eq_true rfl) (((ob_mkArr (k := (kint .u8)) rfl Try.underlying39 zz39 sz5 (Zr.arr 32 (Zr.int .u8)) (.nil _) : Ob _ _ _ _ _ ((karr 32 (kint .u8)).V ([(0 : Int), (0 : Int), (0 : Int), (0 : Int), (0 : Int), (0 : Int), (0 : Int), (0 : Int), (0 : Int), (0 : Int), (0 : Int), (0 : Int), (0 : Int), (0 : Int), (0 : Int), (0 : Int), (0 : Int), (0 : Int), (0 : Int), (0 : Int), (0 : Int), (0 : Int), (0 : Int), (0 : Int), (0 : Int), (0 : Int), (0 : Int), (0 : Int), (0 : Int), (0 : Int), (0 : Int), (0 : Int)] : (List Int))))).nm e_x1) fun a8 w8 s8 => ?_; clear s7
  refine seq_op s8 rfl rfl (of_decide_eq_true rfl) (ob_load rfl tk44 (.tmp rfl) (.head _) (LG.refl _ _)) fun a9 w9 s9 => ?_; clear s8
  obtain ⟨x2, e_x2, h2⟩ := bind_some h1; clear h1
  refine seq_opx (B' := (fun v1 : Value => [RowF v1 46 k_api_Node x2.1, BF b1 44 k_api_Op p2])) s9 rfl rfl (of_decide_eq_true rfl) (ob_callL (args := [_, _, _]) (L := []) rfl .direct hb43 (List.Perm.refl _) (fun a w s fs gs hf hg => by obtain rfl := hf.unnil; obtain rfl := hg.unnil; exact c_graph_Add k _ _ _ _ e_x2 _ _ _ _ _ (s.arg opd_nil) (s.arg (.tmp rfl)) (s.arg (.tmp rfl))) (by exact fun _ => rfl)) fun v1 a10 w10 s10 => ?_; clear s9
  refine seq_op s10 rfl rfl (of_decide_eq_true rfl) (ob_move rfl (.tmp rfl)) fun a11 w11 s11 => ?_; clear s10
  refine seq_op s11 rfl rfl (of_decide_eq_true rfl) (ob_extract rfl (.tmp rfl) rfl) fun a12 w12 s12 => ?_; clear s11
  refine seq_op s12 rfl rfl (of_decide_eq_true rfl) (ob_extract rfl (.tmp rfl) rfl) fun a13 w13 s13 => ?_; clear s12
  refine seq_op s13 rfl rfl (of_decide_eq_true rfl) (ob_assign rfl (.tmp rfl)) fun a14 w14 s14 => ?_; clear s13
  refine seq_op s14 rfl rfl (of_decide_eq_true rfl) (ob_assign rfl (.tmp rfl)) fun a15 w15 s15 => ?_; clear s14
  refine wpList_nil ?_
  refine then_normal ?_
  refine hK2 _ _ ?_
  have s16 := s15.sub (.cons (t := 0) rfl (.cons (t := 3) rfl (.cons (t := 6) rfl (.cons (t := 7) rfl .nil)))); clear s15
  refine wp_seq_k fun K3 hK3 => ?_
  refine wp_seq_k fun K4 hK4 => ?_
  refine wp_region_lit ?_
  refine seq_op s16 rfl rfl (of_decide_eq_true rfl) (ob_move rfl (.tmp rfl)) fun a17 w17 s17 => ?_; clear s16
  refine seq_op s17 rfl rfl (of_decide_eq_true rfl) (ob_eql rfl (.tmp rfl) (opd_int rfl)) fun a18 w18 s18 => ?_; clear s17
  refine seq_op s18 rfl rfl (of_decide_eq_true rfl) (ob_move rfl (.tmp rfl)) fun a19 w19 s19 => ?_; clear s18
  refine seq_opg s19 rfl rfl rfl rfl (of_decide_eq_true rfl) (fun hb => ob_move rfl (.tmp rfl)) fun a20 w20 s20 => ?_; clear s19
  refine seq_opg s20 rfl rfl rfl rfl (of_decide_eq_true rfl) (fun hb => (Ob.uncond (t := 19) hb rfl (ob_lenRow rfl Try.underlying22 (.tmp rfl) (.head _)))) fun a21 w21 s21 => ?_; clear s20
  refine seq_opg s21 rfl rfl rfl rfl (of_decide_eq_true rfl) (fun hb => (Ob.uncond (t := 20) hb rfl (ob_eql rfl (.tmp rfl) (opd_int rfl)))) fun a22 w22 s22 => ?_; clear s21
  obtain ⟨x3, e_x3, h3⟩ := bind_some h2; clear h2; replace e_x3 := Option.some.inj e_x3
  refine seq_op s22 rfl rfl (of_decide_eq_true rfl) ((ob_and2 rfl (.tmp rfl) (.tmp rfl) opd_bool).nm e_x3) fun a23 w23 s23 => ?_; clear s22
  refine wpList_nil ?_
  refine then_normal ?_
  refine hK4 _ _ ?_
  have s24 := s23.sub (.cons (t := 0) rfl (.cons (t := 3) rfl (.cons (t := 7) rfl (.cons (t := 22) rfl .nil)))); clear s23
  have s25 := St.drop (A := []) s24; clear s24
  refine cond_split s25 (.tmp rfl) (fun hc1 => ?_) (fun hc1 => ?_)
  · replace h3 := ite_t hc1 h3
    have h4 := h3; clear h3
    refine wp_seq_k fun K5 hK5 => ?_
    refine wp_region_lit ?_
    refine seq_op s25 rfl rfl (of_decide_eq_true rfl) (ob_move rfl (.tmp rfl)) fun a26 w26 s26 => ?_; clear s25
    refine seq_op s26 rfl rfl (of_decide_eq_true rfl) (ob_assign rfl opd_is) fun a27 w27 s27 => ?_; clear s26
    have s28 := St.adopt s27 (G := RowF (nilRow 26) 3 (kint .i64) []) rfl (rowNilN _ _ _ _ _); clear s27
    refine seq_op s28 rfl rfl (of_decide_eq_true rfl) (ob_assign rfl (.tmp rfl)) fun a29 w29 s29 => ?_; clear s28
    refine wpList_nil ?_
    refine then_normal ?_
    refine hK5 _ _ ?_
    have s30 := s29.sub (.cons (t := 4) rfl (.cons (t := 5) rfl .nil)); clear s29
    have s31 := St.drop (A := [_]) s30; clear s30
    refine wp_ret ?_
    have s32 := St.freezeAllM (A := []) s31 (ts := [4]) (.cons rfl .nil); clear s31
    obtain rfl := Option.some.inj h4
    exact leave s32 (.inl rfl) rfl (.cons (.tmp rfl) (.cons (.tmp rfl) .nil))
  · replace h3 := ite_f hc1 h3
    have h5 := h3; clear h3
    refine wp_skip ?_
    refine then_normal ?_
    refine hK3 _ _ ?_
    have s33 := s25.sub (.cons (t := 0) rfl (.cons (t := 3) rfl .nil)); clear s25
    refine wp_seq_k fun K6 hK6 => ?_
    refine wp_region_lit ?_
    refine seq_op s33 rfl rfl (of_decide_eq_true rfl) (ob_move rfl (.tmp rfl)) fun a34 w34 s34 => ?_; clear s33
    refine seq_op s34 rfl rfl (of_decide_eq_true rfl) (ob_fieldAddr (off' := 2) rfl Try.underlying44 rfl sz40 (by decide) (.tmp rfl) rfl) fun a35 w35 s35 => ?_; clear s34
    refine seq_op s35 rfl rfl (of_decide_eq_true rfl) (ob_load rfl tk40 (.tmp rfl) (.head _) (lg_api_Op_Parents p2)) fun a36 w36 s36 => ?_; clear s35
    obtain ⟨x4, e_x4, h6⟩ := bind_some h5; clear h5
    refine seq_opx (B' := (fun v2 : Value => [RowF v2 3 (kint .i64) x4.1, BF b1 44 k_api_Op p2])) s36 rfl rfl (of_decide_eq_true rfl) (ob_callL (args := [_, _]) (L := []) rfl .direct hb54 (List.Perm.refl _) (fun a w s fs gs hf hg => by obtain rfl := hf.unnil; obtain rfl := hg.unnil; exact c_graph_Past k _ _ _ e_x4 _ _ _ _ (s.arg (.tmp rfl)) (s.arg (.tmp rfl))) (by exact fun _ => rfl)) fun v2 a37 w37 s37 => ?_; clear s36
    refine seq_op s37 rfl rfl (of_decide_eq_true rfl) (ob_move rfl (.tmp rfl)) fun a38 w38 s38 => ?_; clear s37
    refine seq_op s38 rfl rfl (of_decide_eq_true rfl) (ob_extract rfl (.tmp rfl) rfl) fun a39 w39 s39 => ?_; clear s38
    refine seq_op s39 rfl rfl (of_decide_eq_true rfl) (ob_extract rfl (.tmp rfl) rfl) fun a40 w40 s40 => ?_; clear s39
    refine seq_op s40 rfl rfl (of_decide_eq_true rfl) (ob_assign rfl (.tmp rfl)) fun a41 w41 s41 => ?_; clear s40
    refine seq_op s41 rfl rfl (of_decide_eq_true rfl) (ob_assign rfl (.tmp rfl)) fun a42 w42 s42 => ?_; clear s41
    refine wpList_nil ?_
    refine then_normal ?_
    refine hK6 _ _ ?_
    have s43 := s42.sub (.cons (t := 0) rfl (.cons (t := 3) rfl (.cons (t := 7) rfl (.cons (t := 8) rfl .nil)))); clear s42
    refine wp_seq_k fun K7 hK7 => ?_
    refine wp_block ?_
    refine wp_seq_k fun K8 hK8 => ?_
    refine wp_region_lit ?_
    refine seq_op s43 rfl rfl (of_decide_eq_true rfl) (ob_move rfl (.tmp rfl)) fun a44 w44 s44 => ?_; clear s43
    refine seq_op s44 rfl rfl (of_decide_eq_true rfl) (ob_neq rfl (.tmp rfl) (opd_int rfl)) fun a45 w45 s45 => ?_; clear s44
    refine seq_op s45 rfl rfl (of_decide_eq_true rfl) (ob_assign rfl (.tmp rfl)) fun a46 w46 s46 => ?_; clear s45
    refine wpList_nil ?_
    refine then_normal ?_
    refine hK8 _ _ ?_
    have s47 := s46.sub (.cons (t := 0) rfl (.cons (t := 3) rfl (.cons (t := 7) rfl (.cons (t := 8) rfl (.cons (t := 31) rfl .nil))))); clear s46
    refine cond_split s47 (.tmp rfl) (fun hc2 => ?_) (fun hc2 => ?_)
    · replace h6 := ite_t hc2 h6
      have h7 := h6; clear h6
      refine wp_seq_k fun K9 hK9 => ?_
      refine wp_region_lit ?_
      refine seq_op s47 rfl rfl (of_decide_eq_true rfl) (ob_move rfl (.tmp rfl)) fun a48 w48 s48 => ?_; clear s47
      refine seq_op s48 rfl rfl (of_decide_eq_true rfl) (ob_assign rfl opd_is) fun a49 w49 s49 => ?_; clear s48
      have s50 := St.adopt s49 (G := RowF (nilRow 29) 3 (kint .i64) []) rfl (rowNilN _ _ _ _ _); clear s49
      refine seq_op s50 rfl rfl (of_decide_eq_true rfl) (ob_assign rfl (.tmp rfl)) fun a51 w51 s51 => ?_; clear s50
      refine wpList_nil ?_
      refine then_normal ?_
      refine hK9 _ _ ?_
      have s52 := s51.sub (.cons (t := 4) rfl (.cons (t := 5) rfl .nil)); clear s51
      have s53 := St.drop (A := [_]) s52; clear s52
      have s54 := St.drop (A := [_]) s53; clear s53
      refine wp_ret ?_
      have s55 := St.freezeAllM (A := []) s54 (ts := [4]) (.cons rfl .nil); clear s54
      obtain rfl := Option.some.inj h7
      exact leave s55 (.inl rfl) rfl (.cons (.tmp rfl) (.cons (.tmp rfl) .nil))
    · replace h6 := ite_f hc2 h6
      have h8 := h6; clear h6
      refine wp_seq_k fun K10 hK10 => ?_
      refine wp_region_lit ?_
      refine seq_op s47 rfl rfl (of_decide_eq_true rfl) (ob_fieldAddr (off' := 3) rfl Try.underlying44 rfl sz3 (by decide) (.tmp rfl) rfl) fun a56 w56 s56 => ?_; clear s47
      refine seq_op s56 rfl rfl (of_decide_eq_true rfl) (ob_load rfl tk3 (.tmp rfl) (.tail _ (.head _)) (lg_api_Op_Kind p2)) fun a57 w57 s57 => ?_; clear s56
      refine seq_op s57 rfl rfl (of_decide_eq_true rfl) (ob_eql rfl (.tmp rfl) (opd_int rfl)) fun a58 w58 s58 => ?_; clear s57
      refine seq_op s58 rfl rfl (of_decide_eq_true rfl) (ob_assign rfl (.tmp rfl)) fun a59 w59 s59 => ?_; clear s58
      refine wpList_nil ?_
      refine then_normal ?_
      refine hK10 _ _ ?_
      have s60 := s59.sub (.cons (t := 0) rfl (.cons (t := 3) rfl (.cons (t := 8) rfl (.cons (t := 35) rfl .nil)))); clear s59
      refine cond_split s60 (.tmp rfl) (fun hc3 => ?_) (fun hc3 => ?_)
      · replace h8 := ite_t hc3 h8
        have h9 := h8; clear h8
        refine wp_seq_k fun K11 hK11 => ?_
        refine wp_region_lit ?_
        refine seq_op s60 rfl rfl (of_decide_eq_true rfl) (ob_fieldAddr (off' := 4) rfl Try.underlying44 rfl sz41 (by decide) (.tmp rfl) rfl) fun a61 w61 s61 => ?_; clear s60
        refine seq_op s61 rfl rfl (of_decide_eq_true rfl) (ob_load rfl tk41 (.tmp rfl) (.tail _ (.head _)) (lg_api_Op_Who p2)) fun a62 w62 s62 => ?_; clear s61
        refine seq_op s62 rfl rfl (of_decide_eq_true rfl) (ob_assign rfl (.tmp rfl)) fun a63 w63 s63 => ?_; clear s62
        refine seq_op s63 rfl rfl (of_decide_eq_true rfl) (ob_assign rfl (opd_int rfl)) fun a64 w64 s64 => ?_; clear s63
        refine wpList_nil ?_
        refine then_normal ?_
        refine hK11 _ _ ?_
        have s65 := s64.sub (.cons (t := 4) rfl (.cons (t := 5) rfl .nil)); clear s64
        have s66 := St.drop (A := []) s65; clear s65
        have s67 := St.drop (A := []) s66; clear s66
        refine wp_ret ?_
        obtain rfl := Option.some.inj h9
        exact leave s67 (.inl rfl) rfl (.cons (.tmp rfl) (.cons (.tmp rfl) .nil))
      · replace h8 := ite_f hc3 h8
        have h10 := h8; clear h8
        refine wp_skip ?_
        refine in_normal ?_
        refine then_normal ?_
        refine hK7 _ _ ?_
        have s68 := s60.sub (.cons (t := 0) rfl (.cons (t := 3) rfl (.cons (t := 8) rfl .nil))); clear s60
        refine wp_seq_k fun K12 hK12 => ?_
        refine wp_region_lit ?_
        refine seq_op s68 rfl rfl (of_decide_eq_true rfl) (ob_move rfl (.tmp rfl)) fun a69 w69 s69 => ?_; clear s68
        obtain ⟨x5, e_x5, h11⟩ := bind_some h10; clear h10
        refine seq_opx (B' := (fun gg : Nat × Value => [BF gg.1 151 (ko_roster_book_1 gg.2) (⟨x5.l, [], x5.in_⟩ : roster_book), RowF gg.2 4 kbool x5.counts, RowF v2 3 (kint .i64) x4.1, BF b1 44 k_api_Op p2])) s69 rfl rfl (of_decide_eq_true rfl) (ob_callL (args := [_]) (L := []) rfl .direct hb88 (List.Perm.refl _) (fun a w s fs gs hf hg => by obtain rfl := hf.unnil; obtain rfl := hg.unnil; exact c_roster_read k _ _ e_x5 _ _ _ (s.arg (.tmp rfl))) (by exact fun _ => rfl)) fun gg70 a70 w70 s70 => ?_; clear s69
        obtain ⟨b2, v3⟩ := gg70
        refine seq_op s70 rfl rfl (of_decide_eq_true rfl) (ob_move rfl (.tmp rfl)) fun a71 w71 s71 => ?_; clear s70
        obtain ⟨x6, e_x6, h12⟩ := bind_some h11; clear h11
        refine seq_opx (B' := (fun v4 : Value => [BF b2 151 (ko_roster_book_1 v3) (⟨x5.l, [], x5.in_⟩ : roster_book), RowF v3 4 kbool x5.counts, RowF v2 3 (kint .i64) x4.1, BF b1 44 k_api_Op p2, RowF v4 3 (kint .i64) x6])) s71 rfl rfl (of_decide_eq_true rfl) ((ob_lendX (L := [_, _, _, _]) (List.Perm.refl _) (.cons (t := 42) rfl (lendObj (K' := k_roster_book) (X' := x5) (.head _) rfl (upo_roster_book_1 rfl (.row (LetAll.row (.tail _ (.head _)))))) (.cons (t := 43) rfl (lendRow (.tail _ (.tail _ (.head _)))) .nil)) (fun _ => (Flat.res1 Flat.is)) (fun _ => (.cons (FlatO.row (KFlat.int _)) FlatL.nil)) (fun _ _ => ob_callL (args := [_, _]) (L := []) (D := []) rfl .direct hb89 (List.Perm.refl _) (fun a w s fs gs hf hg => by obtain rfl := hf.unnil; obtain rfl := hg.unnil; exact c_roster_book_roster k _ _ _ e_x6 _ _ _ _ (s.arg (.tmp rfl)) (s.arg (.tmp rfl))) (by exact fun _ => rfl)))) fun v4 a72 w72 s72 => ?_; clear s71
        refine seq_op s72 rfl rfl (of_decide_eq_true rfl) (ob_assign rfl (.tmp rfl)) fun a73 w73 s73 => ?_; clear s72
        refine wpList_nil ?_
        refine then_normal ?_
        refine hK12 _ _ ?_
        have s74 := s73.sub (.cons (t := 0) rfl (.cons (t := 3) rfl (.cons (t := 8) rfl (.cons (t := 9) rfl .nil)))); clear s73
        have s75 := St.drop (A := []) s74; clear s74
        have s76 := St.drop (A := []) s75; clear s75
        refine wp_seq_k fun K13 hK13 => ?_
        refine wp_block ?_
        refine wp_seq_k fun K14 hK14 => ?_
        refine wp_region_lit ?_
        refine seq_op s76 rfl rfl (of_decide_eq_true rfl) (ob_move rfl (.tmp rfl)) fun a77 w77 s77 => ?_; clear s76
        refine seq_op s77 rfl rfl (of_decide_eq_true rfl) (ob_fieldAddr (off' := 0) rfl Try.underlying44 rfl sz3 (by decide) (.tmp rfl) rfl) fun a78 w78 s78 => ?_; clear s77
        refine seq_op s78 rfl rfl (of_decide_eq_true rfl) (ob_load rfl tk3 (.tmp rfl) (.tail _ (.head _)) (lg_api_Op_Author p2)) fun a79 w79 s79 => ?_; clear s78
        obtain ⟨x7, e_x7, h13⟩ := bind_some h12; clear h12
        refine seq_op s79 rfl rfl (of_decide_eq_true rfl) ((ob_lendG (L := [_]) (toFront [_, _] (List.Perm.refl _)) (.cons (t := 46) rfl (lendRow (.head _)) .nil) (Flat.res1 (Flat.V KFlat.bool)) (fun _ => ob_callD (args := [_, _]) rfl .direct hb83 (fun a w s fs gs hf hg => by obtain rfl := hf.unnil; obtain rfl := hg.unnil; exact c_slices_Contains_int_int k _ _ _ e_x7 _ _ _ _ (s.arg (.tmp rfl)) (s.arg (.tmp rfl)))))) fun a80 w80 s80 => ?_; clear s79
        refine seq_op s80 rfl rfl (of_decide_eq_true rfl) (ob_not rfl (.tmp rfl)) fun a81 w81 s81 => ?_; clear s80
        refine seq_op s81 rfl rfl (of_decide_eq_true rfl) (ob_assign rfl (.tmp rfl)) fun a82 w82 s82 => ?_; clear s81
        refine wpList_nil ?_
        refine then_normal ?_
        refine hK14 _ _ ?_
        have s83 := s82.sub (.cons (t := 0) rfl (.cons (t := 3) rfl (.cons (t := 8) rfl (.cons (t := 9) rfl (.cons (t := 45) rfl .nil))))); clear s82
        refine cond_split s83 (.tmp rfl) (fun hc4 => ?_) (fun hc4 => ?_)
        · replace h13 := ite_t hc4 h13
          have h14 := h13; clear h13
          refine wp_seq_k fun K15 hK15 => ?_
          refine wp_region_lit ?_
          refine seq_op s83 rfl rfl (of_decide_eq_true rfl) (ob_assign rfl opd_is) fun a84 w84 s84 => ?_; clear s83
          have s85 := St.adopt s84 (G := RowF (nilRow 30) 3 (kint .i64) []) rfl (rowNilN _ _ _ _ _); clear s84
          refine seq_op s85 rfl rfl (of_decide_eq_true rfl) (ob_assign rfl (opd_int rfl)) fun a86 w86 s86 => ?_; clear s85
          refine wpList_nil ?_
          refine then_normal ?_
          refine hK15 _ _ ?_
          have s87 := s86.sub (.cons (t := 4) rfl (.cons (t := 5) rfl .nil)); clear s86
          have s88 := St.drop (A := [_]) s87; clear s87
          have s89 := St.drop (A := [_]) s88; clear s88
          have s90 := St.drop (A := [_]) s89; clear s89
          refine wp_ret ?_
          have s91 := St.freezeAllM (A := []) s90 (ts := [4]) (.cons rfl .nil); clear s90
          obtain rfl := Option.some.inj h14
          exact leave s91 (.inl rfl) rfl (.cons (.tmp rfl) (.cons (.tmp rfl) .nil))
        · replace h13 := ite_f hc4 h13
          have h15 := h13; clear h13
          refine wp_seq_k fun K16 hK16 => ?_
          refine wp_region_lit ?_
          refine seq_op s83 rfl rfl (of_decide_eq_true rfl) (ob_fieldAddr (off' := 3) rfl Try.underlying44 rfl sz3 (by decide) (.tmp rfl) rfl) fun a92 w92 s92 => ?_; clear s83
          refine seq_op s92 rfl rfl (of_decide_eq_true rfl) (ob_load rfl tk3 (.tmp rfl) (.tail _ (.head _)) (lg_api_Op_Kind p2)) fun a93 w93 s93 => ?_; clear s92
          refine seq_op s93 rfl rfl (of_decide_eq_true rfl) (ob_eql rfl (.tmp rfl) (opd_int rfl)) fun a94 w94 s94 => ?_; clear s93
          refine seq_op s94 rfl rfl (of_decide_eq_true rfl) (ob_move rfl (.tmp rfl)) fun a95 w95 s95 => ?_; clear s94
          refine seq_opg s95 rfl rfl rfl rfl (of_decide_eq_true rfl) (fun hb => ob_move rfl (.tmp rfl)) fun a96 w96 s96 => ?_; clear s95
          refine seq_opg s96 rfl rfl rfl rfl (of_decide_eq_true rfl) (fun hb => ob_move rfl (.tmp rfl)) fun a97 w97 s97 => ?_; clear s96
          refine seq_opg s97 rfl rfl rfl rfl (of_decide_eq_true rfl) (fun hb => ob_fieldAddr (off' := 4) rfl Try.underlying44 rfl sz41 (by decide) (.tmp rfl) rfl) fun a98 w98 s98 => ?_; clear s97
          refine seq_opg s98 rfl rfl rfl rfl (of_decide_eq_true rfl) (fun hb => (Ob.uncond (t := 58) hb rfl (ob_load rfl tk41 (.tmp rfl) (.tail _ (.head _)) (lg_api_Op_Who p2)))) fun a99 w99 s99 => ?_; clear s98
          obtain ⟨x8, e_x8, h16⟩ := bind_some h15; clear h15
          refine seq_opg s99 rfl rfl rfl rfl (of_decide_eq_true rfl) (fun hb => (Ob.uncond (t := 59) hb rfl (ob_indexAddrs rfl Try.underlying41 sz3 (.tmp rfl) (opd_int rfl) (ite_t hb e_x8)))) fun a100 w100 s100 => ?_; clear s99
          refine seq_opg s100 rfl rfl rfl rfl (of_decide_eq_true rfl) (fun hb => (Ob.uncond (t := 60) hb rfl (ob_loadr rfl tk3 (.tmp rfl)))) fun a101 w101 s101 => ?_; clear s100
          obtain ⟨x9, e_x9, h17⟩ := bind_some h16; clear h16
          refine seq_opg s101 rfl rfl rfl rfl (of_decide_eq_true rfl) (fun hb => (Ob.uncond (t := 61) hb rfl ((Ob.uncond (t := 57) hb rfl ((Ob.uncond (t := 56) hb rfl ((ob_lendG (L := [_]) (List.Perm.refl _) (.cons (t := 57) rfl (lendRow (.head _)) .nil) (Flat.res1 (Flat.V KFlat.bool)) (fun _ => ob_callD (args := [_, _, _]) rfl .direct hb144 (fun a w s fs gs hf hg => by obtain rfl := hf.unnil; obtain rfl := hg.unnil; exact c_roster_named k _ _ _ _ (ite_t hb e_x9) _ _ _ _ _ (s.arg (.tmp rfl)) (s.arg (.tmp rfl)) (s.arg (.tmp rfl)))))))))))) fun a102 w102 s102 => ?_; clear s101
          refine seq_op s102 rfl rfl (of_decide_eq_true rfl) (ob_and2 rfl (.tmp rfl) (.tmp rfl) opd_bool) fun a103 w103 s103 => ?_; clear s102
          refine seq_op s103 rfl rfl (of_decide_eq_true rfl) (ob_assign rfl (.tmp rfl)) fun a104 w104 s104 => ?_; clear s103
          refine wpList_nil ?_
          refine then_normal ?_
          refine hK16 _ _ ?_
          have s105 := s104.sub (.cons (t := 3) rfl (.cons (t := 9) rfl (.cons (t := 51) rfl .nil))); clear s104
          have s106 := St.drop (A := []) s105; clear s105
          refine cond_split s106 (.tmp rfl) (fun hc5 => ?_) (fun hc5 => ?_)
          · replace h17 := ite_t hc5 h17
            have h18 := h17; clear h17
            refine wp_seq_k fun K17 hK17 => ?_
            refine wp_region_lit ?_
            refine seq_op s106 rfl rfl (of_decide_eq_true rfl) (ob_assign rfl opd_is) fun a107 w107 s107 => ?_; clear s106
            have s108 := St.adopt s107 (G := RowF (nilRow 31) 3 (kint .i64) []) rfl (rowNilN _ _ _ _ _); clear s107
            refine seq_op s108 rfl rfl (of_decide_eq_true rfl) (ob_assign rfl (opd_int rfl)) fun a109 w109 s109 => ?_; clear s108
            refine wpList_nil ?_
            refine then_normal ?_
            refine hK17 _ _ ?_
            have s110 := s109.sub (.cons (t := 4) rfl (.cons (t := 5) rfl .nil)); clear s109
            have s111 := St.drop (A := [_]) s110; clear s110
            have s112 := St.drop (A := [_]) s111; clear s111
            refine wp_ret ?_
            have s113 := St.freezeAllM (A := []) s112 (ts := [4]) (.cons rfl .nil); clear s112
            obtain rfl := Option.some.inj h18
            exact leave s113 (.inl rfl) rfl (.cons (.tmp rfl) (.cons (.tmp rfl) .nil))
          · replace h17 := ite_f hc5 h17
            have h19 := h17; clear h17
            refine wp_seq_k fun K18 hK18 => ?_
            refine wp_region_lit ?_
            refine seq_op s106 rfl rfl (of_decide_eq_true rfl) (ob_fieldAddr (off' := 3) rfl Try.underlying44 rfl sz3 (by decide) (.tmp rfl) rfl) fun a114 w114 s114 => ?_; clear s106
            refine seq_op s114 rfl rfl (of_decide_eq_true rfl) (ob_load rfl tk3 (.tmp rfl) (.head _) (lg_api_Op_Kind p2)) fun a115 w115 s115 => ?_; clear s114
            refine seq_op s115 rfl rfl (of_decide_eq_true rfl) (ob_eql rfl (.tmp rfl) (opd_int rfl)) fun a116 w116 s116 => ?_; clear s115
            refine seq_op s116 rfl rfl (of_decide_eq_true rfl) (ob_move rfl (.tmp rfl)) fun a117 w117 s117 => ?_; clear s116
            refine seq_opg s117 rfl rfl rfl rfl (of_decide_eq_true rfl) (fun hb => ob_move rfl (.tmp rfl)) fun a118 w118 s118 => ?_; clear s117
            refine seq_opg s118 rfl rfl rfl rfl (of_decide_eq_true rfl) (fun hb => ob_fieldAddr (off' := 4) rfl Try.underlying44 rfl sz41 (by decide) (.tmp rfl) rfl) fun a119 w119 s119 => ?_; clear s118
            refine seq_opg s119 rfl rfl rfl rfl (of_decide_eq_true rfl) (fun hb => (Ob.uncond (t := 70) hb rfl (ob_load rfl tk41 (.tmp rfl) (.head _) (lg_api_Op_Who p2)))) fun a120 w120 s120 => ?_; clear s119
            obtain ⟨x10, e_x10, h20⟩ := bind_some h19; clear h19
            refine seq_opg s120 rfl rfl rfl rfl (of_decide_eq_true rfl) (fun hb => (Ob.uncond (t := 71) hb rfl (ob_indexAddrs rfl Try.underlying41 sz3 (.tmp rfl) (opd_int rfl) (ite_t hb e_x10)))) fun a121 w121 s121 => ?_; clear s120
            refine seq_opg s121 rfl rfl rfl rfl (of_decide_eq_true rfl) (fun hb => (Ob.uncond (t := 72) hb rfl (ob_loadr rfl tk3 (.tmp rfl)))) fun a122 w122 s122 => ?_; clear s121
            obtain ⟨x11, e_x11, h21⟩ := bind_some h20; clear h20
            refine seq_opg s122 rfl rfl rfl rfl (of_decide_eq_true rfl) (fun hb => (Ob.uncond (t := 73) hb rfl ((Ob.uncond (t := 69) hb rfl ((ob_lendG (L := [_]) (toFront [_] (List.Perm.refl _)) (.cons (t := 69) rfl (lendRow (.head _)) .nil) (Flat.res1 (Flat.V KFlat.bool)) (fun _ => ob_callD (args := [_, _]) rfl .direct hb83 (fun a w s fs gs hf hg => by obtain rfl := hf.unnil; obtain rfl := hg.unnil; exact c_slices_Contains_int_int k _ _ _ (ite_t hb e_x11) _ _ _ _ (s.arg (.tmp rfl)) (s.arg (.tmp rfl)))))))))) fun a123 w123 s123 => ?_; clear s122
            refine seq_opg s123 rfl rfl rfl rfl (of_decide_eq_true rfl) (fun hb => (Ob.uncond (t := 74) hb rfl (ob_not rfl (.tmp rfl)))) fun a124 w124 s124 => ?_; clear s123
            refine seq_op s124 rfl rfl (of_decide_eq_true rfl) (ob_and2 rfl (.tmp rfl) (.tmp rfl) opd_bool) fun a125 w125 s125 => ?_; clear s124
            refine seq_op s125 rfl rfl (of_decide_eq_true rfl) (ob_assign rfl (.tmp rfl)) fun a126 w126 s126 => ?_; clear s125
            refine wpList_nil ?_
            refine then_normal ?_
            refine hK18 _ _ ?_
            have s127 := s126.sub (.cons (t := 9) rfl (.cons (t := 64) rfl .nil)); clear s126
            have s128 := St.drop (A := []) s127; clear s127
            refine cond_split s128 (.tmp rfl) (fun hc6 => ?_) (fun hc6 => ?_)
            · replace h21 := ite_t hc6 h21
              have h22 := h21; clear h21
              refine wp_seq_k fun K19 hK19 => ?_
              refine wp_region_lit ?_
              refine seq_op s128 rfl rfl (of_decide_eq_true rfl) (ob_assign rfl opd_is) fun a129 w129 s129 => ?_; clear s128
              have s130 := St.adopt s129 (G := RowF (nilRow 32) 3 (kint .i64) []) rfl (rowNilN _ _ _ _ _); clear s129
              refine seq_op s130 rfl rfl (of_decide_eq_true rfl) (ob_assign rfl (opd_int rfl)) fun a131 w131 s131 => ?_; clear s130
              refine wpList_nil ?_
              refine then_normal ?_
              refine hK19 _ _ ?_
              have s132 := s131.sub (.cons (t := 4) rfl (.cons (t := 5) rfl .nil)); clear s131
              have s133 := St.drop (A := [_]) s132; clear s132
              refine wp_ret ?_
              have s134 := St.freezeAllM (A := []) s133 (ts := [4]) (.cons rfl .nil); clear s133
              obtain rfl := Option.some.inj h22
              exact leave s134 (.inl rfl) rfl (.cons (.tmp rfl) (.cons (.tmp rfl) .nil))
            · replace h21 := ite_f hc6 h21
              have h23 := h21; clear h21
              refine wp_skip ?_
              refine in_normal ?_
              refine then_normal ?_
              refine hK13 _ _ ?_
              have s135 := s128.sub (.cons (t := 9) rfl .nil); clear s128
              refine wp_seq_k fun K20 hK20 => ?_
              refine wp_region_lit ?_
              refine seq_op s135 rfl rfl (of_decide_eq_true rfl) (ob_move rfl (.tmp rfl)) fun a136 w136 s136 => ?_; clear s135
              refine seq_op s136 rfl rfl (of_decide_eq_true rfl) (ob_assign rfl (.tmp rfl)) fun a137 w137 s137 => ?_; clear s136
              refine seq_op s137 rfl rfl (of_decide_eq_true rfl) (ob_assign rfl (opd_int rfl)) fun a138 w138 s138 => ?_; clear s137
              refine wpList_nil ?_
              refine then_normal ?_
              refine hK20 _ _ ?_
              have s139 := s138.sub (.cons (t := 4) rfl (.cons (t := 5) rfl .nil)); clear s138
              refine wp_ret ?_
              have s140 := St.freezeAllM (A := []) s139 (ts := [4]) (.cons rfl .nil); clear s139
              obtain rfl := Option.some.inj h23
              exact leave s140 (.inl rfl) rfl (.cons (.tmp rfl) (.cons (.tmp rfl) .nil))

/- 46 cabal/roster.Allowed -/
theorem c_roster_Allowed (k : Nat) (p1 : (List api_Node)) (p2 : api_Op) (r : Int) (h0 : roster_Allowed k p1 p2 = some r) (ok : Ok) (w0 : World) (z0 : Value) (z1 : Value) (u0 : ((ksl k_api_Node).V p1).holds ok w0 z0) (u1 : (k_api_Op.V p2).holds ok w0 z1) :
    Gives Try.prog 46 [z0, z1] ok w0 (resFact [(kint .i64).V r]) := by
  unfold roster_Allowed at h0
  refine enter (N := 14) Try.func46 rfl rfl (of_decide_eq_true rfl) (.cons u0 (.cons u1 .nil)) fun a1 s1 => ?_
  refine wp_seq_k fun K1 hK1 => ?_
  refine wp_region_lit ?_
  refine seq_opx (B' := (fun b1 : Nat => [BF b1 44 k_api_Op p2])) s1 rfl rfl (of_decide_eq_true rfl) (ob_box rfl (.tmp rfl)) fun b1 a2 w2 s2 => ?_; clear s1
  refine seq_op s2 rfl rfl (of_decide_eq_true rfl) (ob_assign rfl (opd_int rfl)) fun a3 w3 s3 => ?_; clear s2
  refine wpList_nil ?_
  refine then_normal ?_
  refine hK1 _ _ ?_
  have s4 := s3.sub (.cons (t := 0) rfl (.cons (t := 3) rfl .nil)); clear s3
  refine wp_seq_k fun K2 hK2 => ?_
  refine wp_region_lit ?_
  refine seq_op s4 rfl rfl (of_decide_eq_true rfl) (ob_move rfl (.tmp rfl)) fun a5 w5 s5 => ?_; clear s4
  refine seq_op s5 rfl rfl (of_decide_eq_true rfl) (ob_load rfl tk44 (.tmp rfl) (.head _) (LG.refl _ _)) fun a6 w6 s6 => ?_; clear s5
  obtain ⟨x1, e_x1, h1⟩ := bind_some h0; clear h0
  refine seq_op s6 rfl rfl (of_decide_eq_true rfl) (ob_callD (args := [_, _]) rfl .direct hb95 (fun a w s fs gs hf hg => by obtain rfl := hf.unnil; obtain rfl := hg.unnil; exact c_roster_behind k _ _ _ e_x1 _ _ _ _ (s.arg (.tmp rfl)) (s.arg (.tmp rfl)))) fun a7 w7 s7 => ?_; clear s6
  refine seq_op s7 rfl rfl (of_decide_eq_true rfl) (ob_move rfl (.tmp rfl)) fun a8 w8 s8 => ?_; clear s7
  refine seq_op s8 rfl rfl (of_decide_eq_true rfl) (ob_extract rfl (.tmp rfl) rfl) fun a9 w9 s9 => ?_; clear s8
  refine seq_op s9 rfl rfl (of_decide_eq_true rfl) (ob_extract rfl (.tmp rfl) rfl) fun a10 w10 s10 => ?_; clear s9
  refine seq_op s10 rfl rfl (of_decide_eq_true rfl) (ob_assign rfl (.tmp rfl)) fun a11 w11 s11 => ?_; clear s10
  refine seq_op s11 rfl rfl (of_decide_eq_true rfl) (ob_assign rfl (.tmp rfl)) fun a12 w12 s12 => ?_; clear s11
  refine wpList_nil ?_
  refine then_normal ?_
  refine hK2 _ _ ?_
  have s13 := s12.sub (.cons (t := 6) rfl .nil); clear s12
  have s14 := St.drop (A := []) s13; clear s13
  refine wp_seq_k fun K3 hK3 => ?_
  refine wp_region_lit ?_
  refine seq_op s14 rfl rfl (of_decide_eq_true rfl) (ob_move rfl (.tmp rfl)) fun a15 w15 s15 => ?_; clear s14
  refine seq_op s15 rfl rfl (of_decide_eq_true rfl) (ob_assign rfl (.tmp rfl)) fun a16 w16 s16 => ?_; clear s15
  refine wpList_nil ?_
  refine then_normal ?_
  refine hK3 _ _ ?_
  have s17 := s16.sub (.cons (t := 4) rfl .nil); clear s16
  refine wp_ret ?_
  obtain rfl := Option.some.inj h1
  exact leave s17 (.inl rfl) rfl (.cons (.tmp rfl) .nil)

/- 174 math/bits.Len64 -/
theorem c_math_bits_Len64 (k : Nat) (p1 : Int) (r : Int) (h0 : math_bits_Len64 k p1 = some r) (ok : Ok) (w0 : World) (z0 : Value) (u0 : ((kint .u64).V p1).holds ok w0 z0) :
    Gives Try.prog 174 [z0] ok w0 (resFact [(kint .i64).V r]) := by
  unfold math_bits_Len64 at h0
  refine enter (N := 25) Try.func174 rfl rfl (of_decide_eq_true rfl) (.cons u0 .nil) fun a1 s1 => ?_
  refine wp_seq_k fun K1 hK1 => ?_
  refine wp_region_lit ?_
  refine seq_op s1 rfl rfl (of_decide_eq_true rfl) (ob_assign rfl (opd_int rfl)) fun a2 w2 s2 => ?_; clear s1
  refine wpList_nil ?_
  refine then_normal ?_
  refine hK1 _ _ ?_
  have s3 := s2.sub (.cons (t := 0) rfl (.cons (t := 2) rfl .nil)); clear s2
  refine wp_seq_k fun K2 hK2 => ?_
  refine wp_seq_k fun K3 hK3 => ?_
  refine wp_region_lit ?_
  refine seq_op s3 rfl rfl (of_decide_eq_true rfl) (ob_move rfl (.tmp rfl)) fun a4 w4 s4 => ?_; clear s3
  refine seq_op s4 rfl rfl (of_decide_eq_true rfl) (ob_geq rfl (.tmp rfl) (opd_int rfl)) fun a5 w5 s5 => ?_; clear s4
  refine wpList_nil ?_
  refine then_normal ?_
  refine hK3 _ _ ?_
  have s6 := s5.sub (.cons (t := 0) rfl (.cons (t := 2) rfl (.cons (t := 4) rfl .nil))); clear s5
  have hj1 : ∀ (y1 : Int) (y2 : Int) (a : Act) (w : World), (math_bits_Len64.j1 k) y1 y2 = some r → St ⟨25, w0, ok, []⟩ [] [(0, ((kint .u64).V y1)), (2, ((kint .i64).V y2))] a w → K2 a w := by
    intro y1 y2 a7 w7 h1 s7
    unfold math_bits_Len64.j1 at h1
    refine hK2 _ _ ?_
    refine wp_seq_k fun K4 hK4 => ?_
    refine wp_seq_k fun K5 hK5 => ?_
    refine wp_region_lit ?_
    refine seq_op s7 rfl rfl (of_decide_eq_true rfl) (ob_move rfl (.tmp rfl)) fun a8 w8 s8 => ?_; clear s7
    refine seq_op s8 rfl rfl (of_decide_eq_true rfl) (ob_geq rfl (.tmp rfl) (opd_int rfl)) fun a9 w9 s9 => ?_; clear s8
    refine wpList_nil ?_
    refine then_normal ?_
    refine hK5 _ _ ?_
    have s10 := s9.sub (.cons (t := 0) rfl (.cons (t := 2) rfl (.cons (t := 8) rfl .nil))); clear s9
    have hj2 : ∀ (y3 : Int) (y4 : Int) (a : Act) (w : World), (math_bits_Len64.j2 k) y3 y4 = some r → St ⟨25, w0, ok, []⟩ [] [(0, ((kint .u64).V y3)), (2, ((kint .i64).V y4))] a w → K4 a w := by
      intro y3 y4 a11 w11 h2 s11
      unfold math_bits_Len64.j2 at h2
      refine hK4 _ _ ?_
      refine wp_seq_k fun K6 hK6 => ?_
      refine wp_seq_k fun K7 hK7 => ?_
      refine wp_region_lit ?_
      refine seq_op s11 rfl rfl (of_decide_eq_true rfl) (ob_move rfl (.tmp rfl)) fun a12 w12 s12 => ?_; clear s11
      refine seq_op s12 rfl rfl (of_decide_eq_true rfl) (ob_geq rfl (.tmp rfl) (opd_int rfl)) fun a13 w13 s13 => ?_; clear s12
      refine wpList_nil ?_
      refine then_normal ?_
      refine hK7 _ _ ?_
      have s14 := s13.sub (.cons (t := 0) rfl (.cons (t := 2) rfl (.cons (t := 14) rfl .nil))); clear s13
      have hj3 : ∀ (y5 : Int) (y6 : Int) (a : Act) (w : World), (math_bits_Len64.j3 k) y5 y6 = some r → St ⟨25, w0, ok, []⟩ [] [(0, ((kint .u64).V y5)), (2, ((kint .i64).V y6))] a w → K6 a w := by
        intro y5 y6 a15 w15 h3 s15
        unfold math_bits_Len64.j3 at h3
        refine hK6 _ _ ?_
        refine wp_seq_k fun K8 hK8 => ?_
        refine wp_region_lit ?_
        refine seq_op s15 rfl rfl (of_decide_eq_true rfl) (ob_move rfl (.tmp rfl)) fun a16 w16 s16 => ?_; clear s15
        refine seq_op s16 rfl rfl (of_decide_eq_true rfl) (ob_move rfl (.tmp rfl)) fun a17 w17 s17 => ?_; clear s16
        refine seq_op s17 rfl rfl (of_decide_eq_true rfl) (ob_conv rfl _ Try.underlying185 Try.underlying5 (.tmp rfl)) fun a18 w18 s18 => ?_; clear s17
        obtain ⟨x1, e_x1, h4⟩ := bind_some h3; clear h3
        refine seq_op s18 rfl rfl (of_decide_eq_true rfl) (ob_indexStr rfl Try.underlying9 (opd_str (by rfl) (by decide)) (.tmp rfl) e_x1) fun a19 w19 s19 => ?_; clear s18
        refine seq_op s19 rfl rfl (of_decide_eq_true rfl) (ob_conv rfl _ Try.underlying5 Try.underlying3 (.tmp rfl)) fun a20 w20 s20 => ?_; clear s19
        refine seq_op s20 rfl rfl (of_decide_eq_true rfl) (ob_add rfl (.tmp rfl) (.tmp rfl)) fun a21 w21 s21 => ?_; clear s20
        refine seq_op s21 rfl rfl (of_decide_eq_true rfl) (ob_assign rfl (.tmp rfl)) fun a22 w22 s22 => ?_; clear s21
        refine wpList_nil ?_
        refine then_normal ?_
        refine hK8 _ _ ?_
        have s23 := s22.sub (.cons (t := 2) rfl .nil); clear s22
        refine wp_ret ?_
        obtain rfl := Option.some.inj h4
        exact leave s23 (.inl rfl) rfl (.cons (.tmp rfl) .nil)
      refine cond_split s14 (.tmp rfl) (fun hc1 => ?_) (fun hc1 => ?_)
      · replace h2 := ite_t hc1 h2
        have h5 := h2; clear h2
        refine wp_seq_k fun K9 hK9 => ?_
        refine wp_region_lit ?_
        refine seq_op s14 rfl rfl (of_decide_eq_true rfl) (ob_move rfl (.tmp rfl)) fun a24 w24 s24 => ?_; clear s14
        refine seq_op s24 rfl rfl (of_decide_eq_true rfl) (ob_shr rfl (.tmp rfl) (opd_int rfl) (by decide)) fun a25 w25 s25 => ?_; clear s24
        refine seq_op s25 rfl rfl (of_decide_eq_true rfl) (ob_assign rfl (.tmp rfl)) fun a26 w26 s26 => ?_; clear s25
        refine wpList_nil ?_
        refine then_normal ?_
        refine hK9 _ _ ?_
        have s27 := s26.sub (.cons (t := 0) rfl (.cons (t := 2) rfl .nil)); clear s26
        refine wp_region_lit ?_
        refine seq_op s27 rfl rfl (of_decide_eq_true rfl) (ob_move rfl (.tmp rfl)) fun a28 w28 s28 => ?_; clear s27
        refine seq_op s28 rfl rfl (of_decide_eq_true rfl) (ob_add rfl (.tmp rfl) (opd_int rfl)) fun a29 w29 s29 => ?_; clear s28
        refine seq_op s29 rfl rfl (of_decide_eq_true rfl) (ob_assign rfl (.tmp rfl)) fun a30 w30 s30 => ?_; clear s29
        refine wpList_nil ?_
        refine then_normal ?_
        exact hj3 (ishr .u64 y3 (8 : Int)) (iadd .i64 y4 (8 : Int)) _ _ h5 (s30.sub (.cons rfl (.cons rfl .nil)))
      · replace h2 := ite_f hc1 h2
        have h6 := h2; clear h2
        refine wp_skip ?_
        refine then_normal ?_
        exact hj3 y3 y4 _ _ h6 (s14.sub (.cons rfl (.cons rfl .nil)))
    refine cond_split s10 (.tmp rfl) (fun hc2 => ?_) (fun hc2 => ?_)
    · replace h1 := ite_t hc2 h1
      have h7 := h1; clear h1
      refine wp_seq_k fun K10 hK10 => ?_
      refine wp_region_lit ?_
      refine seq_op s10 rfl rfl (of_decide_eq_true rfl) (ob_move rfl (.tmp rfl)) fun a31 w31 s31 => ?_; clear s10
      refine seq_op s31 rfl rfl (of_decide_eq_true rfl) (ob_shr rfl (.tmp rfl) (opd_int rfl) (by decide)) fun a32 w32 s32 => ?_; clear s31
      refine seq_op s32 rfl rfl (of_decide_eq_true rfl) (ob_assign rfl (.tmp rfl)) fun a33 w33 s33 => ?_; clear s32
      refine wpList_nil ?_
      refine then_normal ?_
      refine hK10 _ _ ?_
      have s34 := s33.sub (.cons (t := 0) rfl (.cons (t := 2) rfl .nil)); clear s33
      refine wp_region_lit ?_
      refine seq_op s34 rfl rfl (of_decide_eq_true rfl) (ob_move rfl (.tmp rfl)) fun a35 w35 s35 => ?_; clear s34
      refine seq_op s35 rfl rfl (of_decide_eq_true rfl) (ob_add rfl (.tmp rfl) (opd_int rfl)) fun a36 w36 s36 => ?_; clear s35
      refine seq_op s36 rfl rfl (of_decide_eq_true rfl) (ob_assign rfl (.tmp rfl)) fun a37 w37 s37 => ?_; clear s36
      refine wpList_nil ?_
      refine then_normal ?_
      exact hj2 (ishr .u64 y1 (16 : Int)) (iadd .i64 y2 (16 : Int)) _ _ h7 (s37.sub (.cons rfl (.cons rfl .nil)))
    · replace h1 := ite_f hc2 h1
      have h8 := h1; clear h1
      refine wp_skip ?_
      refine then_normal ?_
      exact hj2 y1 y2 _ _ h8 (s10.sub (.cons rfl (.cons rfl .nil)))
  refine cond_split s6 (.tmp rfl) (fun hc3 => ?_) (fun hc3 => ?_)
  · replace h0 := ite_t hc3 h0
    have h9 := h0; clear h0
    refine wp_seq_k fun K11 hK11 => ?_
    refine wp_region_lit ?_
    refine seq_op s6 rfl rfl (of_decide_eq_true rfl) (ob_move rfl (.tmp rfl)) fun a38 w38 s38 => ?_; clear s6
    refine seq_op s38 rfl rfl (of_decide_eq_true rfl) (ob_shr rfl (.tmp rfl) (opd_int rfl) (by decide)) fun a39 w39 s39 => ?_; clear s38
    refine seq_op s39 rfl rfl (of_decide_eq_true rfl) (ob_assign rfl (.tmp rfl)) fun a40 w40 s40 => ?_; clear s39
    refine wpList_nil ?_
    refine then_normal ?_
    refine hK11 _ _ ?_
    have s41 := s40.sub (.cons (t := 0) rfl .nil); clear s40
    refine wp_region_lit ?_
    refine seq_op s41 rfl rfl (of_decide_eq_true rfl) (ob_assign rfl (opd_int rfl)) fun a42 w42 s42 => ?_; clear s41
    refine wpList_nil ?_
    refine then_normal ?_
    exact hj1 (ishr .u64 p1 (32 : Int)) (32 : Int) _ _ h9 (s42.sub (.cons rfl (.cons rfl .nil)))
  · replace h0 := ite_f hc3 h0
    have h10 := h0; clear h0
    refine wp_skip ?_
    refine then_normal ?_
    exact hj1 p1 (0 : Int) _ _ h10 (s6.sub (.cons rfl (.cons rfl .nil)))

/- 146 math/bits.Len -/
theorem c_math_bits_Len (k : Nat) (p1 : Int) (r : Int) (h0 : math_bits_Len k p1 = some r) (ok : Ok) (w0 : World) (z0 : Value) (u0 : ((kint .u64).V p1).holds ok w0 z0) :
    Gives Try.prog 146 [z0] ok w0 (resFact [(kint .i64).V r]) := by
  unfold math_bits_Len at h0
  refine enter (N := 8) Try.func146 rfl rfl (of_decide_eq_true rfl) (.cons u0 .nil) fun a1 s1 => ?_
  refine wp_seq_k fun K1 hK1 => ?_
  refine wp_region_lit ?_
  refine seq_op s1 rfl rfl (of_decide_eq_true rfl) (ob_assign rfl (opd_int rfl)) fun a2 w2 s2 => ?_; clear s1
  refine wpList_nil ?_
  refine then_normal ?_
  refine hK1 _ _ ?_
  have s3 := s2.sub (.cons (t := 0) rfl .nil); clear s2
  refine wp_seq_k fun K2 hK2 => ?_
  refine cond_f s3 opd_bool ?_
  refine wp_skip ?_
  refine then_normal ?_
  refine hK2 _ _ ?_
  have s4 := s3.sub (.cons (t := 0) rfl .nil); clear s3
  refine wp_seq_k fun K3 hK3 => ?_
  refine wp_region_lit ?_
  refine seq_op s4 rfl rfl (of_decide_eq_true rfl) (ob_move rfl (.tmp rfl)) fun a5 w5 s5 => ?_; clear s4
  obtain ⟨x1, e_x1, h1⟩ := bind_some h0; clear h0
  refine seq_op s5 rfl rfl (of_decide_eq_true rfl) (ob_callD (args := [_]) rfl .direct hb174 (fun a w s fs gs hf hg => by obtain rfl := hf.unnil; obtain rfl := hg.unnil; exact c_math_bits_Len64 k _ _ e_x1 _ _ _ (s.arg (.tmp rfl)))) fun a6 w6 s6 => ?_; clear s5
  refine seq_op s6 rfl rfl (of_decide_eq_true rfl) (ob_assign rfl (.tmp rfl)) fun a7 w7 s7 => ?_; clear s6
  refine wpList_nil ?_
  refine then_normal ?_
  refine hK3 _ _ ?_
  have s8 := s7.sub (.cons (t := 2) rfl .nil); clear s7
  refine wp_ret ?_
  obtain rfl := Option.some.inj h1
  exact leave s8 (.inl rfl) rfl (.cons (.tmp rfl) .nil)

/- 176 slices.insertionSortOrdered[int] -/
theorem c_slices_insertionSortOrdered_int (k : Nat) (p1 : (List Int)) (p2 : Int) (p3 : Int) (r : (List Int)) (h0 : slices_insertionSortOrdered_int k p1 p2 p3 = some r) (ok : Ok) (w0 : World) (z0 : Value) (z1 : Value) (z2 : Value) (wr0 : Value) (l0 : ∀ q, q ∈ [RowF wr0 3 (kint .i64) p1] → q.holds ok w0) (d0 : ∀ c, c ∈ idsOf [RowF wr0 3 (kint .i64) p1] → ¬ ok c) (nd : (idsOf [RowF wr0 3 (kint .i64) p1]).Nodup) (u0 : (is wr0).holds ok w0 z0) (u1 : ((kint .i64).V p2).holds ok w0 z1) (u2 : ((kint .i64).V p3).holds ok w0 z2) :
    GivesX Try.prog 176 [z0, z1, z2] ok w0 [RowF wr0 3 (kint .i64) p1] (fun g : Unit => resFact []) (fun g : Unit => [RowF wr0 3 (kint .i64) r]) := by
  unfold slices_insertionSortOrdered_int at h0
  refine enterX (N := 49) Try.func176 rfl rfl (of_decide_eq_true rfl) (.cons u0 (.cons u1 (.cons u2 .nil))) nd l0 d0 fun a1 s1 => ?_
  refine wp_seq_k fun K1 hK1 => ?_
  refine wp_region_lit ?_
  refine seq_op s1 rfl rfl (of_decide_eq_true rfl) (ob_move rfl (.tmp rfl)) fun a2 w2 s2 => ?_; clear s1
  refine seq_op s2 rfl rfl (of_decide_eq_true rfl) (ob_add rfl (.tmp rfl) (opd_int rfl)) fun a3 w3 s3 => ?_; clear s2
  refine seq_op s3 rfl rfl (of_decide_eq_true rfl) (ob_assign rfl (.tmp rfl)) fun a4 w4 s4 => ?_; clear s3
  refine wpList_nil ?_
  refine then_normal ?_
  refine hK1 _ _ ?_
  have s5 := s4.sub (.cons (t := 0) rfl (.cons (t := 1) rfl (.cons (t := 2) rfl (.cons (t := 6) rfl .nil)))); clear s4
  refine wp_block ?_
  refine wp_loop_fuel (fun m (q : Int × (List Int)) => slices_insertionSortOrdered_int.l1 k p3 p2 m q.1 q.2) r (fun _ => rfl) (fun q a w => St ⟨49, w0, ok, (idsOf [RowF wr0 3 (kint .i64) p1])⟩ [RowF wr0 3 (kint .i64) q.2] [(0, (is wr0)), (1, ((kint .i64).V p2)), (2, ((kint .i64).V p3)), (6, ((kint .i64).V q.1))] a w) ?_ k ((iadd .i64 p2 (1 : Int)), p1) _ _ h0 (s5.sub (.cons rfl (.cons rfl (.cons rfl (.cons rfl .nil)))))
  rintro n1 ⟨y1, y2⟩ a6 w6 h1 s6 K2 hK2
  replace h1 : slices_insertionSortOrdered_int.l1 k p3 p2 (n1 + 1) y1 y2 = some r := h1; rw [slices_insertionSortOrdered_int.l1] at h1
  have h2 := h1; clear h1
  refine wp_seq_k fun K3 hK3 => ?_
  refine wp_seq_k fun K4 hK4 => ?_
  refine wp_region_lit ?_
  refine seq_op s6 rfl rfl (of_decide_eq_true rfl) (ob_move rfl (.tmp rfl)) fun a7 w7 s7 => ?_; clear s6
  refine seq_op s7 rfl rfl (of_decide_eq_true rfl) (ob_move rfl (.tmp rfl)) fun a8 w8 s8 => ?_; clear s7
  refine seq_op s8 rfl rfl (of_decide_eq_true rfl) (ob_lss rfl (.tmp rfl) (.tmp rfl)) fun a9 w9 s9 => ?_; clear s8
  refine wpList_nil ?_
  refine then_normal ?_
  refine hK4 _ _ ?_
  have s10 := s9.sub (.cons (t := 0) rfl (.cons (t := 1) rfl (.cons (t := 2) rfl (.cons (t := 6) rfl (.cons (t := 12) rfl .nil))))); clear s9
  refine cond_split s10 (.tmp rfl) (fun hc1 => ?_) (fun hc1 => ?_)
  · replace h2 := ite_t hc1 h2
    have h3 := h2; clear h2
    refine wp_skip ?_
    refine then_normal ?_
    refine hK3 _ _ ?_
    have s11 := s10.sub (.cons (t := 0) rfl (.cons (t := 1) rfl (.cons (t := 2) rfl (.cons (t := 6) rfl .nil)))); clear s10
    refine wp_seq_k fun K5 hK5 => ?_
    have hj1 : ∀ (y3 : (List Int)) (a : Act) (w : World), (slices_insertionSortOrdered_int.j1 k y1 (slices_insertionSortOrdered_int.l1 k p3 p2 n1)) y3 = some r → St ⟨49, w0, ok, (idsOf [RowF wr0 3 (kint .i64) p1])⟩ [RowF wr0 3 (kint .i64) y3] [(0, (is wr0)), (1, ((kint .i64).V p2)), (2, ((kint .i64).V p3)), (6, ((kint .i64).V y1))] a w → K5 a w := by
      intro y3 a12 w12 h4 s12
      unfold slices_insertionSortOrdered_int.j1 at h4
      refine hK5 _ _ ?_
      refine wp_region_lit ?_
      refine seq_op s12 rfl rfl (of_decide_eq_true rfl) (ob_move rfl (.tmp rfl)) fun a13 w13 s13 => ?_; clear s12
      refine seq_op s13 rfl rfl (of_decide_eq_true rfl) (ob_add rfl (.tmp rfl) (opd_int rfl)) fun a14 w14 s14 => ?_; clear s13
      refine seq_op s14 rfl rfl (of_decide_eq_true rfl) (ob_assign rfl (.tmp rfl)) fun a15 w15 s15 => ?_; clear s14
      refine wpList_nil ?_
      refine then_normal ?_
      exact hK2 ((iadd .i64 y1 (1 : Int)), y3) _ _ h4 (s15.sub (.cons rfl (.cons rfl (.cons rfl (.cons rfl .nil)))))
    refine wp_block ?_
    refine wp_seq_k fun K6 hK6 => ?_
    refine wp_region_lit ?_
    refine seq_op s11 rfl rfl (of_decide_eq_true rfl) (ob_move rfl (.tmp rfl)) fun a16 w16 s16 => ?_; clear s11
    refine seq_op s16 rfl rfl (of_decide_eq_true rfl) (ob_assign rfl (.tmp rfl)) fun a17 w17 s17 => ?_; clear s16
    refine wpList_nil ?_
    refine then_normal ?_
    refine hK6 _ _ ?_
    have s18 := s17.sub (.cons (t := 0) rfl (.cons (t := 1) rfl (.cons (t := 2) rfl (.cons (t := 6) rfl (.cons (t := 7) rfl .nil))))); clear s17
    refine wp_block ?_
    refine wp_loop_fuel (fun m (q : Int × (List Int)) => slices_insertionSortOrdered_int.l2 k p2 y1 (slices_insertionSortOrdered_int.l1 k p3 p2 n1) m q.1 q.2) r (fun _ => rfl) (fun q a w => St ⟨49, w0, ok, (idsOf [RowF wr0 3 (kint .i64) p1])⟩ [RowF wr0 3 (kint .i64) q.2] [(0, (is wr0)), (1, ((kint .i64).V p2)), (2, ((kint .i64).V p3)), (6, ((kint .i64).V y1)), (7, ((kint .i64).V q.1))] a w) ?_ k (y1, y2) _ _ h3 (s18.sub (.cons rfl (.cons rfl (.cons rfl (.cons rfl (.cons rfl .nil))))))
    rintro n2 ⟨y4, y5⟩ a19 w19 h5 s19 K7 hK7
    replace h5 : slices_insertionSortOrdered_int.l2 k p2 y1 (slices_insertionSortOrdered_int.l1 k p3 p2 n1) (n2 + 1) y4 y5 = some r := h5; rw [slices_insertionSortOrdered_int.l2] at h5
    have h6 := h5; clear h5
    refine wp_seq_k fun K8 hK8 => ?_
    refine wp_seq_k fun K9 hK9 => ?_
    obtain ⟨g1, h7⟩ := guard_some h6; clear h6
    obtain ⟨x1, e_x1, h8⟩ := bind_some h7; clear h7
    obtain ⟨g2, h9⟩ := guard_some h8; clear h8
    obtain ⟨x2, e_x2, h10⟩ := bind_some h9; clear h9
    refine wp_goes (Fs := [((kint .i64).V y4), ((kint .i64).V p2), (kbool.V (decide (y4 > p2))), (kbool.V (decide (y4 > p2))), (Fact.when ((decide (y4 > p2)) == true) (is wr0)), (Fact.when ((decide (y4 > p2)) == true) ((kint .i64).V y4)), (Fact.when ((decide (y4 > p2)) == true) (ptrR wr0 (y4.toNat * 1))), (Fact.when ((decide (y4 > p2)) == true) ((kint .i64).V x1)), (Fact.when ((decide (y4 > p2)) == true) (is wr0)), (Fact.when ((decide (y4 > p2)) == true) ((kint .i64).V y4)), (Fact.when ((decide (y4 > p2)) == true) ((kint .i64).V (isub .i64 y4 (1 : Int)))), (Fact.when ((decide (y4 > p2)) == true) (ptrR wr0 ((isub .i64 y4 (1 : Int)).toNat * 1))), (Fact.when ((decide (y4 > p2)) == true) ((kint .i64).V x2))]) (bits := [0, 0, 3, 7, 15, 15, 63, 127, 15, 15, 527, 1807, 3855, 8191, 16383]) (m := 13) (todo := 0) mx s19 ?_; clear s19
    refine goes_last (by kernel_rfl) rfl (opsS_cons (.plain _ (Av.old (t := 7) rfl rfl Av.nil) rfl rfl (ob_move rfl (.tmp rfl))) (opsS_cons (.plain _ (Av.old (t := 1) rfl rfl Av.nil) rfl rfl (ob_move rfl (.tmp rfl))) (opsS_cons (.plain _ (Av.new (j := 0) rfl rfl rfl (Av.new (j := 1) rfl rfl rfl Av.nil)) rfl rfl (ob_gtr rfl (.tmp rfl) (.tmp rfl))) (opsS_cons (.plain _ (Av.new (j := 2) rfl rfl rfl Av.nil) rfl rfl (ob_move rfl (.tmp rfl))) (opsS_cons (.guarded _ (Av.old (t := 0) rfl rfl (Av.new (j := 3) rfl rfl rfl Av.nil)) rfl rfl rfl rfl (fun hb => ob_move rfl (.tmp rfl))) (opsS_cons (.guarded _ (Av.old (t := 7) rfl rfl (Av.new (j := 3) rfl rfl rfl Av.nil)) rfl rfl rfl rfl (fun hb => ob_move rfl (.tmp rfl))) (opsS_cons (.guarded _ (Av.new (j := 3) rfl rfl rfl (Av.new (j := 4) rfl rfl rfl (Av.new (j := 5) rfl rfl rfl Av.nil))) rfl rfl rfl rfl (fun hb => (Ob.uncond (t := 21) hb rfl ((Ob.uncond (t := 20) hb rfl (ob_rowAt rfl Try.underlying41 sz3 (.tmp rfl) (.head _) (.tmp rfl) (g1 hb))))))) (opsS_cons (.guarded _ (Av.new (j := 3) rfl rfl rfl (Av.new (j := 6) rfl rfl rfl Av.nil)) rfl rfl rfl rfl (fun hb => (Ob.uncond (t := 22) hb rfl (ob_rowLoad rfl tk3 (.tmp rfl) (.head _) (LG.arrA (ite_t hb e_x1)))))) (opsS_cons (.guarded _ (Av.old (t := 0) rfl rfl (Av.new (j := 3) rfl rfl rfl Av.nil)) rfl rfl rfl rfl (fun hb => ob_move rfl (.tmp rfl))) (opsS_cons (.guarded _ (Av.old (t := 7) rfl rfl (Av.new (j := 3) rfl rfl rfl Av.nil)) rfl rfl rfl rfl (fun hb => ob_move rfl (.tmp rfl))) (opsS_cons (.guarded _ (Av.new (j := 3) rfl rfl rfl (Av.new (j := 9) rfl rfl rfl Av.nil)) rfl rfl rfl rfl (fun hb => (Ob.uncond (t := 25) hb rfl (ob_sub rfl (.tmp rfl) (opd_int rfl))))) (opsS_cons (.guarded _ (Av.new (j := 3) rfl rfl rfl (Av.new (j := 8) rfl rfl rfl (Av.new (j := 10) rfl rfl rfl Av.nil))) rfl rfl rfl rfl (fun hb => (Ob.uncond (t := 26) hb rfl ((Ob.uncond (t := 24) hb rfl (ob_rowAt rfl Try.underlying41 sz3 (.tmp rfl) (.head _) (.tmp rfl) (g2 hb))))))) (opsS_cons (.guarded _ (Av.new (j := 3) rfl rfl rfl (Av.new (j := 11) rfl rfl rfl Av.nil)) rfl rfl rfl rfl (fun hb => (Ob.uncond (t := 27) hb rfl (ob_rowLoad rfl tk3 (.tmp rfl) (.head _) (LG.arrA (ite_t hb e_x2)))))) opsS_nil))))))))))))) (out_old (t := 0) rfl rfl (out_old (t := 1) rfl rfl (out_old (t := 2) rfl rfl (out_old (t := 6) rfl rfl (out_old (t := 7) rfl rfl (out_new (i := 3) (by decide) rfl rfl (out_new (i := 7) (by decide) rfl rfl (out_new (i := 12) (by decide) rfl rfl out_nil)))))))) fun a20 w20 s20 => ?_
    obtain ⟨x3, e_x3, h11⟩ := bind_some h10; clear h10
    refine seq_opg s20 rfl rfl rfl rfl (of_decide_eq_true rfl) (fun hb => (Ob.uncond (t := 28) hb rfl ((Ob.uncond (t := 23) hb rfl (ob_callD (args := [_, _]) rfl .direct hb162 (fun a w s fs gs hf hg => by obtain rfl := hf.unnil; obtain rfl := hg.unnil; exact c_cmp_Less_int k _ _ _ (ite_t hb e_x3) _ _ _ _ (s.arg (.tmp rfl)) (s.arg (.tmp rfl)))))))) fun a21 w21 s21 => ?_; clear s20
    refine seq_op s21 rfl rfl (of_decide_eq_true rfl) (ob_and2 rfl (.tmp rfl) (.tmp rfl) opd_bool) fun a22 w22 s22 => ?_; clear s21
    refine wpList_nil ?_
    refine then_normal ?_
    refine hK9 _ _ ?_
    have s23 := s22.sub (.cons (t := 0) rfl (.cons (t := 1) rfl (.cons (t := 2) rfl (.cons (t := 6) rfl (.cons (t := 7) rfl (.cons (t := 30) rfl .nil)))))); clear s22
    refine cond_split s23 (.tmp rfl) (fun hc2 => ?_) (fun hc2 => ?_)
    · replace h11 := ite_t hc2 h11
      have h12 := h11; clear h11
      refine wp_skip ?_
      refine then_normal ?_
      refine hK8 _ _ ?_
      have s24 := s23.sub (.cons (t := 0) rfl (.cons (t := 1) rfl (.cons (t := 2) rfl (.cons (t := 6) rfl (.cons (t := 7) rfl .nil))))); clear s23
      refine wp_seq_k fun K10 hK10 => ?_
      refine wp_block ?_
      obtain ⟨g3, h13⟩ := guard_some h12; clear h12
      obtain ⟨x4, e_x4, h14⟩ := bind_some h13; clear h13
      obtain ⟨g4, h15⟩ := guard_some h14; clear h14
      obtain ⟨x5, e_x5, h16⟩ := bind_some h15; clear h15
      obtain ⟨g5, h17⟩ := guard_some h16; clear h16
      obtain ⟨x6, e_x6, h18⟩ := bind_some h17; clear h17
      refine wp_goes (Fs := [(is wr0), ((kint .i64).V y4), (is wr0), ((kint .i64).V y4), ((kint .i64).V (isub .i64 y4 (1 : Int))), (is wr0), ((kint .i64).V y4), ((kint .i64).V (isub .i64 y4 (1 : Int))), (ptrR wr0 ((isub .i64 y4 (1 : Int)).toNat * 1)), ((kint .i64).V x4), (is wr0), ((kint .i64).V y4), (ptrR wr0 (y4.toNat * 1)), ((kint .i64).V x5), (ptrR wr0 (y4.toNat * 1)), nofact]) (bits := [0, 0, 0, 0, 8, 0, 0, 64, 224, 480, 0, 0, 3072, 7168, 16355, 32739, 65535, 131071]) (m := 16) (todo := 32768) mx s24 ?_; clear s24
      refine goes_turn (B' := (fun _ : Unit => [RowF wr0 3 (kint .i64) x6])) (Fs' := (fun _ : Unit => setAll ([(is wr0), ((kint .i64).V y4), (is wr0), ((kint .i64).V y4), ((kint .i64).V (isub .i64 y4 (1 : Int))), (is wr0), ((kint .i64).V y4), ((kint .i64).V (isub .i64 y4 (1 : Int))), (ptrR wr0 ((isub .i64 y4 (1 : Int)).toNat * 1)), ((kint .i64).V x4), (is wr0), ((kint .i64).V y4), (ptrR wr0 (y4.toNat * 1)), ((kint .i64).V x5), (ptrR wr0 (y4.toNat * 1)), nofact]) [(15, nofact)])) 15 32768 65507 0 (by kernel_rfl) rfl rfl rfl (opsS_cons (.plain _ (Av.old (t := 0) rfl rfl Av.nil) rfl rfl (ob_move rfl (.tmp rfl))) (opsS_cons (.plain _ (Av.old (t := 7) rfl rfl Av.nil) rfl rfl (ob_move rfl (.tmp rfl))) (opsS_cons (.plain _ (Av.old (t := 0) rfl rfl Av.nil) rfl rfl (ob_move rfl (.tmp rfl))) (opsS_cons (.plain _ (Av.old (t := 7) rfl rfl Av.nil) rfl rfl (ob_move rfl (.tmp rfl))) (opsS_cons (.plain _ (Av.new (j := 3) rfl rfl rfl Av.nil) rfl rfl (ob_sub rfl (.tmp rfl) (opd_int rfl))) (opsS_cons (.plain _ (Av.old (t := 0) rfl rfl Av.nil) rfl rfl (ob_move rfl (.tmp rfl))) (opsS_cons (.plain _ (Av.old (t := 7) rfl rfl Av.nil) rfl rfl (ob_move rfl (.tmp rfl))) (opsS_cons (.plain _ (Av.new (j := 6) rfl rfl rfl Av.nil) rfl rfl (ob_sub rfl (.tmp rfl) (opd_int rfl))) (opsS_cons (.plain _ (Av.new (j := 5) rfl rfl rfl (Av.new (j := 7) rfl rfl rfl Av.nil)) rfl rfl (ob_rowAt rfl Try.underlying41 sz3 (.tmp rfl) (.head _) (.tmp rfl) g3)) (opsS_cons (.plain _ (Av.new (j := 8) rfl rfl rfl Av.nil) rfl rfl (ob_rowLoad rfl tk3 (.tmp rfl) (.head _) (LG.arrA e_x4))) (opsS_cons (.plain _ (Av.old (t := 0) rfl rfl Av.nil) rfl rfl (ob_move rfl (.tmp rfl))) (opsS_cons (.plain _ (Av.old (t := 7) rfl rfl Av.nil) rfl rfl (ob_move rfl (.tmp rfl))) (opsS_cons (.plain _ (Av.new (j := 10) rfl rfl rfl (Av.new (j := 11) rfl rfl rfl Av.nil)) rfl rfl (ob_rowAt rfl Try.underlying41 sz3 (.tmp rfl) (.head _) (.tmp rfl) g4)) (opsS_cons (.plain _ (Av.new (j := 12) rfl rfl rfl Av.nil) rfl rfl (ob_rowLoad rfl tk3 (.tmp rfl) (.head _) (LG.arrA e_x5))) (opsS_cons (.plain _ (Av.new (j := 0) rfl rfl rfl (Av.new (j := 1) rfl rfl rfl Av.nil)) rfl rfl (ob_rowAt rfl Try.underlying41 sz3 (.tmp rfl) (.head _) (.tmp rfl) g5)) (opsS_skip (by rfl) opsS_nil)))))))))))))))) (.plain _ (Av.new (j := 9) rfl rfl rfl (Av.new (j := 14) rfl rfl rfl Av.nil)) rfl (fun _ => rfl) (fun R => ob_rowStore (A := []) rfl tk3 (.tmp rfl) (.tmp rfl) rfl (LS.arrS e_x6) rfl)) (setAll_same (us := (fun _ : Unit => [(15, nofact)])) fun _ => by kernel_rfl) fun _ => ?_
      refine goes_last (by kernel_rfl) rfl (opsS_skip (by rfl) (opsS_skip (by rfl) (opsS_cons (.plain _ (Av.old (t := 0) rfl rfl Av.nil) rfl rfl (ob_move rfl (.tmp rfl))) (opsS_cons (.plain _ (Av.old (t := 7) rfl rfl Av.nil) rfl rfl (ob_move rfl (.tmp rfl))) (opsS_cons (.plain _ (Av.new (j := 3) rfl rfl rfl Av.nil) rfl rfl (ob_sub rfl (.tmp rfl) (opd_int rfl))) (opsS_skip (by rfl) (opsS_skip (by rfl) (opsS_skip (by rfl) (opsS_skip (by rfl) (opsS_skip (by rfl) (opsS_skip (by rfl) (opsS_skip (by rfl) (opsS_skip (by rfl) (opsS_skip (by rfl) (opsS_skip (by rfl) (opsS_skip (by rfl) opsS_nil)))))))))))))))) (out_old (t := 0) rfl rfl (out_old (t := 1) rfl rfl (out_old (t := 2) rfl rfl (out_old (t := 6) rfl rfl (out_old (t := 7) rfl rfl (out_new (i := 2) (by decide) rfl rfl (out_new (i := 4) (by decide) rfl rfl (out_new (i := 13) (by decide) rfl rfl out_nil)))))))) fun a25 w25 s25 => ?_
      obtain ⟨g6, h19⟩ := guard_some h18; clear h18
      refine seq_op s25 rfl rfl (of_decide_eq_true rfl) (ob_rowAt rfl Try.underlying41 sz3 (.tmp rfl) (.head _) (.tmp rfl) g6) fun a26 w26 s26 => ?_; clear s25
      obtain ⟨x7, e_x7, h20⟩ := bind_some h19; clear h19
      refine seq_opx0 (B' := (fun _ : Unit => [RowF wr0 3 (kint .i64) x7])) s26 rfl rfl (ob_rowStore (A := []) rfl tk3 (.tmp rfl) (.tmp rfl) rfl (LS.arrS e_x7) rfl) fun _ a27 w27 s27 => ?_; clear s26
      refine wpList_nil ?_
      refine in_normal ?_
      refine then_normal ?_
      refine hK10 _ _ ?_
      have s28 := s27.sub (.cons (t := 0) rfl (.cons (t := 1) rfl (.cons (t := 2) rfl (.cons (t := 6) rfl (.cons (t := 7) rfl .nil))))); clear s27
      refine wp_region_lit ?_
      refine seq_op s28 rfl rfl (of_decide_eq_true rfl) (ob_move rfl (.tmp rfl)) fun a29 w29 s29 => ?_; clear s28
      refine seq_op s29 rfl rfl (of_decide_eq_true rfl) (ob_sub rfl (.tmp rfl) (opd_int rfl)) fun a30 w30 s30 => ?_; clear s29
      refine seq_op s30 rfl rfl (of_decide_eq_true rfl) (ob_assign rfl (.tmp rfl)) fun a31 w31 s31 => ?_; clear s30
      refine wpList_nil ?_
      refine then_normal ?_
      exact hK7 ((isub .i64 y4 (1 : Int)), x7) _ _ h20 (s31.sub (.cons rfl (.cons rfl (.cons rfl (.cons rfl (.cons rfl .nil))))))
    · replace h11 := ite_f hc2 h11
      have h21 := h11; clear h11
      refine wp_exit ?_
      refine (then_exit (then_exit (in_here ?_)))
      refine in_normal ?_
      refine then_normal ?_
      exact hj1 y5 _ _ h21 (s23.sub (.cons rfl (.cons rfl (.cons rfl (.cons rfl .nil)))))
  · replace h2 := ite_f hc1 h2
    have h22 := h2; clear h2
    refine wp_exit ?_
    refine (then_exit (then_exit (in_here ?_)))
    obtain rfl := Option.some.inj h22
    exact leaveXD (D := []) () s10 rfl (.inr rfl) rfl .nil rfl

/- 151 slices.pdqsortOrdered[int] -/
theorem c_slices_pdqsortOrdered_int (k : Nat) (p1 : (List Int)) (p2 : Int) (p3 : Int) (p4 : Int) (r : (List Int)) (h0 : slices_pdqsortOrdered_int k p1 p2 p3 p4 = some r) (ok : Ok) (w0 : World) (z0 : Value) (z1 : Value) (z2 : Value) (z3 : Value) (wr0 : Value) (l0 : ∀ q, q ∈ [RowF wr0 3 (kint .i64) p1] → q.holds ok w0) (d0 : ∀ c, c ∈ idsOf [RowF wr0 3 (kint .i64) p1] → ¬ ok c) (nd : (idsOf [RowF wr0 3 (kint .i64) p1]).Nodup) (u0 : (is wr0).holds ok w0 z0) (u1 : ((kint .i64).V p2).holds ok w0 z1) (u2 : ((kint .i64).V p3).holds ok w0 z2) (u3 : ((kint .i64).V p4).holds ok w0 z3) :
    GivesX Try.prog 151 [z0, z1, z2, z3] ok w0 [RowF wr0 3 (kint .i64) p1] (fun g : Unit => resFact []) (fun g : Unit => [RowF wr0 3 (kint .i64) r]) := by
  unfold slices_pdqsortOrdered_int at h0
  refine enterX (N := 134) Try.func151 rfl rfl (of_decide_eq_true rfl) (.cons u0 (.cons u1 (.cons u2 (.cons u3 .nil)))) nd l0 d0 fun a1 s1 => ?_
  refine wp_seq_k fun K1 hK1 => ?_
  refine wp_region_lit ?_
  refine seq_op s1 rfl rfl (of_decide_eq_true rfl) (ob_assign rfl opd_bool) fun a2 w2 s2 => ?_; clear s1
  refine wpList_nil ?_
  refine then_normal ?_
  refine hK1 _ _ ?_
  have s3 := s2.sub (.cons (t := 0) rfl (.cons (t := 1) rfl (.cons (t := 2) rfl (.cons (t := 3) rfl (.cons (t := 8) rfl .nil))))); clear s2
  refine wp_seq_k fun K2 hK2 => ?_
  refine wp_region_lit ?_
  refine seq_op s3 rfl rfl (of_decide_eq_true rfl) (ob_assign rfl opd_bool) fun a4 w4 s4 => ?_; clear s3
  refine wpList_nil ?_
  refine then_normal ?_
  refine hK2 _ _ ?_
  have s5 := s4.sub (.cons (t := 0) rfl (.cons (t := 1) rfl (.cons (t := 2) rfl (.cons (t := 3) rfl (.cons (t := 8) rfl (.cons (t := 9) rfl .nil)))))); clear s4
  refine wp_block ?_
  refine wp_loop_fuel (fun m (q : Unit) => slices_pdqsortOrdered_int.l1 k p3 p2 p1 p4 m) r (fun _ => rfl) (fun q a w => St ⟨134, w0, ok, (idsOf [RowF wr0 3 (kint .i64) p1])⟩ [RowF wr0 3 (kint .i64) p1] [(0, (is wr0)), (1, ((kint .i64).V p2)), (2, ((kint .i64).V p3)), (3, ((kint .i64).V p4)), (8, (kbool.V true)), (9, (kbool.V true))] a w) ?_ k () _ _ h0 (s5.sub (.cons rfl (.cons rfl (.cons rfl (.cons rfl (.cons rfl (.cons rfl .nil)))))))
  rintro n1 _ a6 w6 h1 s6 K3 hK3
  replace h1 : slices_pdqsortOrdered_int.l1 k p3 p2 p1 p4 (n1 + 1) = some r := h1; rw [slices_pdqsortOrdered_int.l1] at h1
  have h2 := h1; clear h1
  refine wp_block ?_
  refine wp_seq_k fun K4 hK4 => ?_
  refine wp_region_lit ?_
  refine seq_op s6 rfl rfl (of_decide_eq_true rfl) (ob_move rfl (.tmp rfl)) fun a7 w7 s7 => ?_; clear s6
  refine seq_op s7 rfl rfl (of_decide_eq_true rfl) (ob_move rfl (.tmp rfl)) fun a8 w8 s8 => ?_; clear s7
  refine seq_op s8 rfl rfl (of_decide_eq_true rfl) (ob_sub rfl (.tmp rfl) (.tmp rfl)) fun a9 w9 s9 => ?_; clear s8
  refine seq_op s9 rfl rfl (of_decide_eq_true rfl) (ob_assign rfl (.tmp rfl)) fun a10 w10 s10 => ?_; clear s9
  refine wpList_nil ?_
  refine then_normal ?_
  refine hK4 _ _ ?_
  have s11 := s10.sub (.cons (t := 0) rfl (.cons (t := 1) rfl (.cons (t := 2) rfl (.cons (t := 3) rfl (.cons (t := 8) rfl (.cons (t := 9) rfl (.cons (t := 10) rfl .nil))))))); clear s10
  refine wp_seq_k fun K5 hK5 => ?_
  refine wp_seq_k fun K6 hK6 => ?_
  refine wp_region_lit ?_
  refine seq_op s11 rfl rfl (of_decide_eq_true rfl) (ob_move rfl (.tmp rfl)) fun a12 w12 s12 => ?_; clear s11
  refine seq_op s12 rfl rfl (of_decide_eq_true rfl) (ob_leq rfl (.tmp rfl) (opd_int rfl)) fun a13 w13 s13 => ?_; clear s12
  refine wpList_nil ?_
  refine then_normal ?_
  refine hK6 _ _ ?_
  have s14 := s13.sub (.cons (t := 0) rfl (.cons (t := 1) rfl (.cons (t := 2) rfl (.cons (t := 3) rfl (.cons (t := 8) rfl (.cons (t := 9) rfl (.cons (t := 10) rfl (.cons (t := 23) rfl .nil)))))))); clear s13
  refine cond_split s14 (.tmp rfl) (fun hc1 => ?_) (fun hc1 => ?_)
  · replace h2 := ite_t hc1 h2
    have h3 := h2; clear h2
    refine wp_seq_k fun K7 hK7 => ?_
    refine wp_region_lit ?_
    refine seq_op s14 rfl rfl (of_decide_eq_true rfl) (ob_move rfl (.tmp rfl)) fun a15 w15 s15 => ?_; clear s14
    refine seq_op s15 rfl rfl (of_decide_eq_true rfl) (ob_move rfl (.tmp rfl)) fun a16 w16 s16 => ?_; clear s15
    refine seq_op s16 rfl rfl (of_decide_eq_true rfl) (ob_move rfl (.tmp rfl)) fun a17 w17 s17 => ?_; clear s16
    obtain ⟨x1, e_x1, h4⟩ := bind_some h3; clear h3
    refine seq_opx (B' := (fun _ : Unit => [RowF wr0 3 (kint .i64) x1])) s17 rfl rfl (of_decide_eq_true rfl) (ob_callL (args := [_, _, _]) (L := [_]) rfl .direct hb176 (List.Perm.refl _) (fun a w s fs gs hf hg => by obtain rfl := hf.unnil; obtain rfl := hg.unnil; exact c_slices_insertionSortOrdered_int k _ _ _ _ e_x1 _ _ _ _ _ _ (ownL s) (disL s) (nodL s) (s.arg (.tmp rfl)) (s.arg (.tmp rfl)) (s.arg (.tmp rfl))) (by exact fun _ => rfl)) fun _ a18 w18 s18 => ?_; clear s17
    refine wpList_nil ?_
    refine then_normal ?_
    refine hK7 _ _ ?_
    have s19 := s18.sub .nil; clear s18
    refine wp_ret ?_
    obtain rfl := Option.some.inj h4
    exact leaveXD (D := []) () s19 rfl (.inl rfl) rfl .nil rfl
  · replace h2 := ite_f hc1 h2
    have h5 := h2; clear h2
    refine wp_skip ?_
    refine then_normal ?_
    refine hK5 _ _ ?_
    have s20 := s14.sub (.cons (t := 0) rfl (.cons (t := 1) rfl (.cons (t := 2) rfl (.cons (t := 3) rfl (.cons (t := 8) rfl (.cons (t := 9) rfl (.cons (t := 10) rfl .nil))))))); clear s14
    refine wp_seq_k fun K8 hK8 => ?_
    refine wp_seq_k fun K9 hK9 => ?_
    refine wp_region_lit ?_
    refine seq_op s20 rfl rfl (of_decide_eq_true rfl) (ob_move rfl (.tmp rfl)) fun a21 w21 s21 => ?_; clear s20
    refine seq_op s21 rfl rfl (of_decide_eq_true rfl) (ob_eql rfl (.tmp rfl) (opd_int rfl)) fun a22 w22 s22 => ?_; clear s21
    refine wpList_nil ?_
    refine then_normal ?_
    refine hK9 _ _ ?_
    have s23 := s22.sub (.cons (t := 0) rfl (.cons (t := 1) rfl (.cons (t := 2) rfl (.cons (t := 3) rfl (.cons (t := 8) rfl (.cons (t := 9) rfl (.cons (t := 10) rfl (.cons (t := 29) rfl .nil)))))))); clear s22
    refine cond_split s23 (.tmp rfl) (fun hc2 => ?_) (fun hc2 => ?_)
    · replace h5 := ite_t hc2 h5
      have h6 := h5; clear h5
      refine wp_seq_k fun K10 hK10 => ?_
      refine wp_region_lit ?_
      refine seq_op s23 rfl rfl (of_decide_eq_true rfl) (ob_move rfl (.tmp rfl)) fun a24 w24 s24 => ?_; clear s23
      refine seq_op s24 rfl rfl (of_decide_eq_true rfl) (ob_move rfl (.tmp rfl)) fun a25 w25 s25 => ?_; clear s24
      refine seq_op s25 rfl rfl (of_decide_eq_true rfl) (ob_move rfl (.tmp rfl)) fun a26 w26 s26 => ?_; clear s25
      cases h6
    · replace h5 := ite_f hc2 h5
      have h7 := h5; clear h5
      refine wp_skip ?_
      refine then_normal ?_
      refine hK8 _ _ ?_
      have s27 := s23.sub (.cons (t := 0) rfl (.cons (t := 1) rfl (.cons (t := 2) rfl (.cons (t := 3) rfl (.cons (t := 8) rfl (.cons (t := 9) rfl (.cons (t := 10) rfl .nil))))))); clear s23
      refine wp_seq_k fun K11 hK11 => ?_
      refine wp_seq_k fun K12 hK12 => ?_
      refine wp_region_lit ?_
      refine seq_op s27 rfl rfl (of_decide_eq_true rfl) (ob_move rfl (.tmp rfl)) fun a28 w28 s28 => ?_; clear s27
      refine seq_op s28 rfl rfl (of_decide_eq_true rfl) (ob_not rfl (.tmp rfl)) fun a29 w29 s29 => ?_; clear s28
      refine wpList_nil ?_
      refine then_normal ?_
      refine hK12 _ _ ?_
      have s30 := s29.sub (.cons (t := 0) rfl (.cons (t := 1) rfl (.cons (t := 2) rfl (.cons (t := 3) rfl (.cons (t := 8) rfl (.cons (t := 9) rfl (.cons (t := 10) rfl (.cons (t := 35) rfl .nil)))))))); clear s29
      refine cond_split s30 (.tmp rfl) (fun hc3 => ?_) (fun hc3 => ?_)
      · replace h7 := ite_t hc3 h7
        have h8 := h7; clear h7
        refine wp_seq_k fun K13 hK13 => ?_
        refine wp_region_lit ?_
        refine seq_op s30 rfl rfl (of_decide_eq_true rfl) (ob_move rfl (.tmp rfl)) fun a31 w31 s31 => ?_; clear s30
        refine seq_op s31 rfl rfl (of_decide_eq_true rfl) (ob_move rfl (.tmp rfl)) fun a32 w32 s32 => ?_; clear s31
        refine seq_op s32 rfl rfl (of_decide_eq_true rfl) (ob_move rfl (.tmp rfl)) fun a33 w33 s33 => ?_; clear s32
        cases h8
      · replace h7 := ite_f hc3 h7
        have h9 := h7; clear h7
        refine wp_skip ?_
        refine then_normal ?_
        refine hK11 _ _ ?_
        have s34 := s30.sub (.cons (t := 0) rfl (.cons (t := 1) rfl (.cons (t := 2) rfl (.cons (t := 3) rfl (.cons (t := 8) rfl (.cons (t := 9) rfl (.cons (t := 10) rfl .nil))))))); clear s30
        refine wp_seq_k fun K14 hK14 => ?_
        refine wp_region_lit ?_
        refine seq_op s34 rfl rfl (of_decide_eq_true rfl) (ob_move rfl (.tmp rfl)) fun a35 w35 s35 => ?_; clear s34
        refine seq_op s35 rfl rfl (of_decide_eq_true rfl) (ob_move rfl (.tmp rfl)) fun a36 w36 s36 => ?_; clear s35
        refine seq_op s36 rfl rfl (of_decide_eq_true rfl) (ob_move rfl (.tmp rfl)) fun a37 w37 s37 => ?_; clear s36
        cases h9

/- 123 slices.Sort[[]int,int] -/
theorem c_slices_Sort_int_int (k : Nat) (p1 : (List Int)) (r : (List Int)) (h0 : slices_Sort_int_int k p1 = some r) (ok : Ok) (w0 : World) (z0 : Value) (wr0 : Value) (l0 : ∀ q, q ∈ [RowF wr0 3 (kint .i64) p1] → q.holds ok w0) (d0 : ∀ c, c ∈ idsOf [RowF wr0 3 (kint .i64) p1] → ¬ ok c) (nd : (idsOf [RowF wr0 3 (kint .i64) p1]).Nodup) (u0 : (is wr0).holds ok w0 z0) :
    GivesX Try.prog 123 [z0] ok w0 [RowF wr0 3 (kint .i64) p1] (fun g : Unit => resFact []) (fun g : Unit => [RowF wr0 3 (kint .i64) r]) := by
  unfold slices_Sort_int_int at h0
  refine enterX (N := 11) Try.func123 rfl rfl (of_decide_eq_true rfl) (.cons u0 .nil) nd l0 d0 fun a1 s1 => ?_
  refine wp_seq_k fun K1 hK1 => ?_
  refine wp_region_lit ?_
  refine seq_op s1 rfl rfl (of_decide_eq_true rfl) (ob_move rfl (.tmp rfl)) fun a2 w2 s2 => ?_; clear s1
  refine seq_op s2 rfl rfl (of_decide_eq_true rfl) (ob_lenRow rfl Try.underlying41 (.tmp rfl) (.head _)) fun a3 w3 s3 => ?_; clear s2
  refine seq_op s3 rfl rfl (of_decide_eq_true rfl) (ob_assign rfl (.tmp rfl)) fun a4 w4 s4 => ?_; clear s3
  refine wpList_nil ?_
  refine then_normal ?_
  refine hK1 _ _ ?_
  have s5 := s4.sub (.cons (t := 0) rfl (.cons (t := 2) rfl .nil)); clear s4
  refine wp_region_lit ?_
  refine seq_op s5 rfl rfl (of_decide_eq_true rfl) (ob_move rfl (.tmp rfl)) fun a6 w6 s6 => ?_; clear s5
  refine seq_op s6 rfl rfl (of_decide_eq_true rfl) (ob_move rfl (.tmp rfl)) fun a7 w7 s7 => ?_; clear s6
  refine seq_op s7 rfl rfl (of_decide_eq_true rfl) (ob_move rfl (.tmp rfl)) fun a8 w8 s8 => ?_; clear s7
  refine seq_op s8 rfl rfl (of_decide_eq_true rfl) (ob_conv rfl _ Try.underlying3 Try.underlying37 (.tmp rfl)) fun a9 w9 s9 => ?_; clear s8
  obtain ⟨x1, e_x1, h1⟩ := bind_some h0; clear h0
  refine seq_op s9 rfl rfl (of_decide_eq_true rfl) (ob_callD (args := [_]) rfl .direct hb146 (fun a w s fs gs hf hg => by obtain rfl := hf.unnil; obtain rfl := hg.unnil; exact c_math_bits_Len k _ _ e_x1 _ _ _ (s.arg (.tmp rfl)))) fun a10 w10 s10 => ?_; clear s9
  obtain ⟨x2, e_x2, h2⟩ := bind_some h1; clear h1
  refine seq_opx (B' := (fun _ : Unit => [RowF wr0 3 (kint .i64) x2])) s10 rfl rfl (of_decide_eq_true rfl) (ob_callL (args := [_, _, _, _]) (L := [_]) rfl .direct hb151 (List.Perm.refl _) (fun a w s fs gs hf hg => by obtain rfl := hf.unnil; obtain rfl := hg.unnil; exact c_slices_pdqsortOrdered_int k _ _ _ _ _ e_x2 _ _ _ _ _ _ _ (ownL s) (disL s) (nodL s) (s.arg (.tmp rfl)) (s.arg (opd_int rfl)) (s.arg (.tmp rfl)) (s.arg (.tmp rfl))) (by exact fun _ => rfl)) fun _ a11 w11 s11 => ?_; clear s10
  refine wpList_nil ?_
  obtain rfl := Option.some.inj h2
  exact leaveXD (D := []) () s11 rfl (.inr rfl) rfl .nil rfl

/- 125 slices.Compact[[]int,int] -/
theorem c_slices_Compact_int_int (k : Nat) (p1 : (List Int)) (r : (List Int)) (h0 : slices_Compact_int_int k p1 = some r) (ok : Ok) (w0 : World) (z0 : Value) (wr0 : Value) (l0 : ∀ q, q ∈ [RowF wr0 3 (kint .i64) p1] → q.holds ok w0) (d0 : ∀ c, c ∈ idsOf [RowF wr0 3 (kint .i64) p1] → ¬ ok c) (nd : (idsOf [RowF wr0 3 (kint .i64) p1]).Nodup) (u0 : (is wr0).holds ok w0 z0) :
    GivesX Try.prog 125 [z0] ok w0 [RowF wr0 3 (kint .i64) p1] (fun g : Value => resFact [is g]) (fun g : Value => [RowF (g) 3 (kint .i64) r]) := by
  unfold slices_Compact_int_int at h0
  refine enterX (N := 61) Try.func125 rfl rfl (of_decide_eq_true rfl) (.cons u0 .nil) nd l0 d0 fun a1 s1 => ?_
  refine wp_seq_k fun K1 hK1 => ?_
  refine wp_region_lit ?_
  refine seq_op s1 rfl rfl (of_decide_eq_true rfl) (ob_assign rfl opd_is) fun a2 w2 s2 => ?_; clear s1
  have s3 := St.adopt s2 (G := RowF (nilRow 35) 3 (kint .i64) []) rfl (rowNilN _ _ _ _ _); clear s2
  refine wpList_nil ?_
  refine then_normal ?_
  refine hK1 _ _ ?_
  have s4 := s3.sub (.cons (t := 0) rfl .nil); clear s3
  have s5 := St.drop (A := []) s4; clear s4
  refine wp_seq_k fun K2 hK2 => ?_
  refine wp_seq_k fun K3 hK3 => ?_
  refine wp_region_lit ?_
  refine seq_op s5 rfl rfl (of_decide_eq_true rfl) (ob_move rfl (.tmp rfl)) fun a6 w6 s6 => ?_; clear s5
  refine seq_op s6 rfl rfl (of_decide_eq_true rfl) (ob_lenRow rfl Try.underlying41 (.tmp rfl) (.head _)) fun a7 w7 s7 => ?_; clear s6
  refine seq_op s7 rfl rfl (of_decide_eq_true rfl) (ob_lss rfl (.tmp rfl) (opd_int rfl)) fun a8 w8 s8 => ?_; clear s7
  refine wpList_nil ?_
  refine then_normal ?_
  refine hK3 _ _ ?_
  have s9 := s8.sub (.cons (t := 0) rfl (.cons (t := 8) rfl .nil)); clear s8
  refine cond_split s9 (.tmp rfl) (fun hc1 => ?_) (fun hc1 => ?_)
  · replace h0 := ite_t hc1 h0
    have h1 := h0; clear h0
    refine wp_seq_k fun K4 hK4 => ?_
    refine wp_region_lit ?_
    refine seq_op s9 rfl rfl (of_decide_eq_true rfl) (ob_move rfl (.tmp rfl)) fun a10 w10 s10 => ?_; clear s9
    refine seq_op s10 rfl rfl (of_decide_eq_true rfl) (ob_assign rfl (.tmp rfl)) fun a11 w11 s11 => ?_; clear s10
    refine wpList_nil ?_
    refine then_normal ?_
    refine hK4 _ _ ?_
    have s12 := s11.sub (.cons (t := 2) rfl .nil); clear s11
    refine wp_ret ?_
    obtain rfl := Option.some.inj h1
    exact leaveXD (D := []) wr0 s12 rfl (.inl rfl) rfl (.cons (.tmp rfl) .nil) rfl
  · replace h0 := ite_f hc1 h0
    have h2 := h0; clear h0
    refine wp_skip ?_
    refine then_normal ?_
    refine hK2 _ _ ?_
    have s13 := s9.sub (.cons (t := 0) rfl .nil); clear s9
    refine wp_seq_k fun K5 hK5 => ?_
    refine wp_seq_k fun K6 hK6 => ?_
    refine wp_region_lit ?_
    refine seq_op s13 rfl rfl (of_decide_eq_true rfl) (ob_assign rfl (opd_int rfl)) fun a14 w14 s14 => ?_; clear s13
    refine wpList_nil ?_
    refine then_normal ?_
    refine hK6 _ _ ?_
    have s15 := s14.sub (.cons (t := 0) rfl (.cons (t := 3) rfl .nil)); clear s14
    have hj1 : ∀ (a : Act) (w : World), (slices_Compact_int_int.j1 k p1) = some r → St ⟨61, w0, ok, (idsOf [RowF wr0 3 (kint .i64) p1])⟩ [RowF wr0 3 (kint .i64) p1] [(0, (is wr0))] a w → K5 a w := by
      intro a16 w16 h3 s16
      unfold slices_Compact_int_int.j1 at h3
      refine hK5 _ _ ?_
      refine wp_seq_k fun K7 hK7 => ?_
      refine wp_region_lit ?_
      refine seq_op s16 rfl rfl (of_decide_eq_true rfl) (ob_move rfl (.tmp rfl)) fun a17 w17 s17 => ?_; clear s16
      refine seq_op s17 rfl rfl (of_decide_eq_true rfl) (ob_assign rfl (.tmp rfl)) fun a18 w18 s18 => ?_; clear s17
      refine wpList_nil ?_
      refine then_normal ?_
      refine hK7 _ _ ?_
      have s19 := s18.sub (.cons (t := 2) rfl .nil); clear s18
      refine wp_ret ?_
      obtain rfl := Option.some.inj h3
      exact leaveXD (D := []) wr0 s19 rfl (.inl rfl) rfl (.cons (.tmp rfl) .nil) rfl
    refine wp_block ?_
    refine wp_loop_fuel (fun m (q : Int) => slices_Compact_int_int.l1 k p1 m q) r (fun _ => rfl) (fun q a w => St ⟨61, w0, ok, (idsOf [RowF wr0 3 (kint .i64) p1])⟩ [RowF wr0 3 (kint .i64) p1] [(0, (is wr0)), (3, ((kint .i64).V q))] a w) ?_ k (1 : Int) _ _ h2 (s15.sub (.cons rfl (.cons rfl .nil)))
    rintro n1 y1 a20 w20 h4 s20 K8 hK8
    replace h4 : slices_Compact_int_int.l1 k p1 (n1 + 1) y1 = some r := h4; rw [slices_Compact_int_int.l1] at h4
    have h5 := h4; clear h4
    refine wp_seq_k fun K9 hK9 => ?_
    refine wp_seq_k fun K10 hK10 => ?_
    refine wp_region_lit ?_
    refine seq_op s20 rfl rfl (of_decide_eq_true rfl) (ob_move rfl (.tmp rfl)) fun a21 w21 s21 => ?_; clear s20
    refine seq_op s21 rfl rfl (of_decide_eq_true rfl) (ob_move rfl (.tmp rfl)) fun a22 w22 s22 => ?_; clear s21
    refine seq_op s22 rfl rfl (of_decide_eq_true rfl) (ob_lenRow rfl Try.underlying41 (.tmp rfl) (.head _)) fun a23 w23 s23 => ?_; clear s22
    refine seq_op s23 rfl rfl (of_decide_eq_true rfl) (ob_lss rfl (.tmp rfl) (.tmp rfl)) fun a24 w24 s24 => ?_; clear s23
    refine wpList_nil ?_
    refine then_normal ?_
    refine hK10 _ _ ?_
    have s25 := s24.sub (.cons (t := 0) rfl (.cons (t := 3) rfl (.cons (t := 13) rfl .nil))); clear s24
    refine cond_split s25 (.tmp rfl) (fun hc2 => ?_) (fun hc2 => ?_)
    · replace h5 := ite_t hc2 h5
      have h6 := h5; clear h5
      refine wp_skip ?_
      refine then_normal ?_
      refine hK9 _ _ ?_
      have s26 := s25.sub (.cons (t := 0) rfl (.cons (t := 3) rfl .nil)); clear s25
      refine wp_seq_k fun K11 hK11 => ?_
      have hj2 : ∀ (a : Act) (w : World), (slices_Compact_int_int.j2 k y1 (slices_Compact_int_int.l1 k p1 n1)) = some r → St ⟨61, w0, ok, (idsOf [RowF wr0 3 (kint .i64) p1])⟩ [RowF wr0 3 (kint .i64) p1] [(0, (is wr0)), (3, ((kint .i64).V y1))] a w → K11 a w := by
        intro a27 w27 h7 s27
        unfold slices_Compact_int_int.j2 at h7
        refine hK11 _ _ ?_
        refine wp_region_lit ?_
        refine seq_op s27 rfl rfl (of_decide_eq_true rfl) (ob_move rfl (.tmp rfl)) fun a28 w28 s28 => ?_; clear s27
        refine seq_op s28 rfl rfl (of_decide_eq_true rfl) (ob_add rfl (.tmp rfl) (opd_int rfl)) fun a29 w29 s29 => ?_; clear s28
        refine seq_op s29 rfl rfl (of_decide_eq_true rfl) (ob_assign rfl (.tmp rfl)) fun a30 w30 s30 => ?_; clear s29
        refine wpList_nil ?_
        refine then_normal ?_
        exact hK8 (iadd .i64 y1 (1 : Int)) _ _ h7 (s30.sub (.cons rfl (.cons rfl .nil)))
      refine wp_block ?_
      refine wp_seq_k fun K12 hK12 => ?_
      obtain ⟨g1, h8⟩ := guard_some h6; clear h6
      obtain ⟨x1, e_x1, h9⟩ := bind_some h8; clear h8
      obtain ⟨g2, h10⟩ := guard_some h9; clear h9
      obtain ⟨x2, e_x2, h11⟩ := bind_some h10; clear h10
      refine wp_goes (Fs := [(is wr0), ((kint .i64).V y1), (ptrR wr0 (y1.toNat * 1)), ((kint .i64).V x1), (is wr0), ((kint .i64).V y1), ((kint .i64).V (isub .i64 y1 (1 : Int))), (ptrR wr0 ((isub .i64 y1 (1 : Int)).toNat * 1)), ((kint .i64).V x2)]) (bits := [0, 0, 3, 7, 0, 0, 32, 112, 240, 511]) (m := 9) (todo := 0) mx s26 ?_; clear s26
      refine goes_last (by kernel_rfl) rfl (opsS_cons (.plain _ (Av.old (t := 0) rfl rfl Av.nil) rfl rfl (ob_move rfl (.tmp rfl))) (opsS_cons (.plain _ (Av.old (t := 3) rfl rfl Av.nil) rfl rfl (ob_move rfl (.tmp rfl))) (opsS_cons (.plain _ (Av.new (j := 0) rfl rfl rfl (Av.new (j := 1) rfl rfl rfl Av.nil)) rfl rfl (ob_rowAt rfl Try.underlying41 sz3 (.tmp rfl) (.head _) (.tmp rfl) g1)) (opsS_cons (.plain _ (Av.new (j := 2) rfl rfl rfl Av.nil) rfl rfl (ob_rowLoad rfl tk3 (.tmp rfl) (.head _) (LG.arrA e_x1))) (opsS_cons (.plain _ (Av.old (t := 0) rfl rfl Av.nil) rfl rfl (ob_move rfl (.tmp rfl))) (opsS_cons (.plain _ (Av.old (t := 3) rfl rfl Av.nil) rfl rfl (ob_move rfl (.tmp rfl))) (opsS_cons (.plain _ (Av.new (j := 5) rfl rfl rfl Av.nil) rfl rfl (ob_sub rfl (.tmp rfl) (opd_int rfl))) (opsS_cons (.plain _ (Av.new (j := 4) rfl rfl rfl (Av.new (j := 6) rfl rfl rfl Av.nil)) rfl rfl (ob_rowAt rfl Try.underlying41 sz3 (.tmp rfl) (.head _) (.tmp rfl) g2)) (opsS_cons (.plain _ (Av.new (j := 7) rfl rfl rfl Av.nil) rfl rfl (ob_rowLoad rfl tk3 (.tmp rfl) (.head _) (LG.arrA e_x2))) opsS_nil))))))))) (out_old (t := 0) rfl rfl (out_old (t := 3) rfl rfl (out_new (i := 3) (by decide) rfl rfl (out_new (i := 8) (by decide) rfl rfl out_nil)))) fun a31 w31 s31 => ?_
      refine seq_op s31 rfl rfl (of_decide_eq_true rfl) (ob_eql rfl (.tmp rfl) (.tmp rfl)) fun a32 w32 s32 => ?_; clear s31
      refine wpList_nil ?_
      refine then_normal ?_
      refine hK12 _ _ ?_
      have s33 := s32.sub (.cons (t := 0) rfl (.cons (t := 3) rfl (.cons (t := 25) rfl .nil))); clear s32
      refine cond_split s33 (.tmp rfl) (fun hc3 => ?_) (fun hc3 => ?_)
      · replace h11 := ite_t hc3 h11
        have h12 := h11; clear h11
        refine wp_seq_k fun K13 hK13 => ?_
        refine wp_region_lit ?_
        refine seq_op s33 rfl rfl (of_decide_eq_true rfl) (ob_move rfl (.tmp rfl)) fun a34 w34 s34 => ?_; clear s33
        refine seq_op s34 rfl rfl (of_decide_eq_true rfl) (ob_move rfl (.tmp rfl)) fun a35 w35 s35 => ?_; clear s34
        obtain ⟨g3, h13⟩ := guard_some h12; clear h12
        refine seq_op s35 rfl rfl (of_decide_eq_true rfl) (ob_cutT rfl Try.underlying41 sz3 (.tmp rfl) (.head _) (.some (.tmp rfl)) g3) fun a36 w36 s36 => ?_; clear s35
        refine seq_op s36 rfl rfl (of_decide_eq_true rfl) (ob_assign rfl (.tmp rfl)) fun a37 w37 s37 => ?_; clear s36
        refine wpList_nil ?_
        refine then_normal ?_
        refine hK13 _ _ ?_
        have s38 := s37.sub (.cons (t := 0) rfl (.cons (t := 3) rfl (.cons (t := 4) rfl .nil))); clear s37
        refine wp_seq_k fun K14 hK14 => ?_
        refine wp_seq_k fun K15 hK15 => ?_
        refine wp_region_lit ?_
        refine seq_op s38 rfl rfl (of_decide_eq_true rfl) (ob_assign rfl (opd_int rfl)) fun a39 w39 s39 => ?_; clear s38
        refine wpList_nil ?_
        refine then_normal ?_
        refine hK15 _ _ ?_
        have s40 := s39.sub (.cons (t := 0) rfl (.cons (t := 3) rfl (.cons (t := 4) rfl (.cons (t := 5) rfl .nil)))); clear s39
        have hj3 : ∀ (y2 : Int) (y3 : (List Int)) (a : Act) (w : World), (slices_Compact_int_int.j3 k) y2 y3 = some r → St ⟨61, w0, ok, (idsOf [RowF wr0 3 (kint .i64) p1])⟩ [RowF wr0 3 (kint .i64) y3] [(0, (is wr0)), (3, ((kint .i64).V y2))] a w → K14 a w := by
          intro y2 y3 a41 w41 h14 s41
          unfold slices_Compact_int_int.j3 at h14
          refine hK14 _ _ ?_
          refine wp_seq_k fun K16 hK16 => ?_
          refine wp_region_lit ?_
          refine seq_op s41 rfl rfl (of_decide_eq_true rfl) (ob_move rfl (.tmp rfl)) fun a42 w42 s42 => ?_; clear s41
          refine seq_op s42 rfl rfl (of_decide_eq_true rfl) (ob_move rfl (.tmp rfl)) fun a43 w43 s43 => ?_; clear s42
          obtain ⟨g4, h15⟩ := guard_some h14; clear h14
          refine seq_op s43 rfl rfl (of_decide_eq_true rfl) (ob_cutT rfl Try.underlying41 sz3 (.tmp rfl) (.head _) (.some (.tmp rfl)) g4) fun a44 w44 s44 => ?_; clear s43
          obtain ⟨g5, h16⟩ := guard_some h15; clear h15
          refine seq_opx0 (B' := (fun _ : Unit => [RowF wr0 3 (kint .i64) (y3.take y2.toNat ++ List.replicate (y3.length - y2.toNat) (0 : Int) ++ y3.drop (y2.toNat + (y3.length - y2.toNat)))])) s44 rfl rfl (ob_clearT (A := []) rfl Try.underlying41 ap3 (Zr.int .i64) (by decide) (.tmp rfl) rfl g5 rfl) fun _ a45 w45 s45 => ?_; clear s44
          refine wpList_nil ?_
          refine then_normal ?_
          refine hK16 _ _ ?_
          have s46 := s45.sub (.cons (t := 0) rfl (.cons (t := 3) rfl .nil)); clear s45
          refine wp_seq_k fun K17 hK17 => ?_
          refine wp_region_lit ?_
          refine seq_op s46 rfl rfl (of_decide_eq_true rfl) (ob_move rfl (.tmp rfl)) fun a47 w47 s47 => ?_; clear s46
          refine seq_op s47 rfl rfl (of_decide_eq_true rfl) (ob_move rfl (.tmp rfl)) fun a48 w48 s48 => ?_; clear s47
          obtain ⟨g6, h17⟩ := guard_some h16; clear h16
          refine seq_opx (B' := (fun v1 : Value => [RowF v1 3 (kint .i64) ((y3.take y2.toNat ++ List.replicate (y3.length - y2.toNat) (0 : Int) ++ y3.drop (y2.toNat + (y3.length - y2.toNat))).take y2.toNat)])) s48 rfl rfl (of_decide_eq_true rfl) (ob_cutRow (A := []) rfl Try.underlying41 sz3 (.tmp rfl) rfl .none (.some (.tmp rfl)) g6) fun v1 a49 w49 s49 => ?_; clear s48
          refine seq_op s49 rfl rfl (of_decide_eq_true rfl) (ob_assign rfl (.tmp rfl)) fun a50 w50 s50 => ?_; clear s49
          refine wpList_nil ?_
          refine then_normal ?_
          refine hK17 _ _ ?_
          have s51 := s50.sub (.cons (t := 2) rfl .nil); clear s50
          refine wp_ret ?_
          obtain rfl := Option.some.inj h17
          exact leaveXD (D := []) v1 s51 rfl (.inl rfl) rfl (.cons (.tmp rfl) .nil) rfl
        refine wp_block ?_
        refine wp_loop_fuel (fun m (q : Int × Int × (List Int)) => slices_Compact_int_int.l2 k p1 y1 m q.1 q.2.1 q.2.2) r (fun _ => rfl) (fun q a w => St ⟨61, w0, ok, (idsOf [RowF wr0 3 (kint .i64) p1])⟩ [RowF wr0 3 (kint .i64) q.2.2] [(0, (is wr0)), (3, ((kint .i64).V q.1)), (4, (slT wr0 1 y1.toNat (p1.length - y1.toNat))), (5, ((kint .i64).V q.2.1))] a w) ?_ k (y1, (1 : Int), p1) _ _ h13 (s40.sub (.cons rfl (.cons rfl (.cons rfl (.cons rfl .nil)))))
        rintro n2 ⟨y4, y5, y6⟩ a52 w52 h18 s52 K18 hK18
        replace h18 : slices_Compact_int_int.l2 k p1 y1 (n2 + 1) y4 y5 y6 = some r := h18; rw [slices_Compact_int_int.l2] at h18
        have h19 := h18; clear h18
        refine wp_seq_k fun K19 hK19 => ?_
        refine wp_seq_k fun K20 hK20 => ?_
        refine wp_region_lit ?_
        refine seq_op s52 rfl rfl (of_decide_eq_true rfl) (ob_move rfl (.tmp rfl)) fun a53 w53 s53 => ?_; clear s52
        refine seq_op s53 rfl rfl (of_decide_eq_true rfl) (ob_move rfl (.tmp rfl)) fun a54 w54 s54 => ?_; clear s53
        refine seq_op s54 rfl rfl (of_decide_eq_true rfl) (ob_lenT rfl Try.underlying41 (.tmp rfl)) fun a55 w55 s55 => ?_; clear s54
        refine seq_op s55 rfl rfl (of_decide_eq_true rfl) (ob_lss rfl (.tmp rfl) (.tmp rfl)) fun a56 w56 s56 => ?_; clear s55
        refine wpList_nil ?_
        refine then_normal ?_
        refine hK20 _ _ ?_
        have s57 := s56.sub (.cons (t := 0) rfl (.cons (t := 3) rfl (.cons (t := 4) rfl (.cons (t := 5) rfl (.cons (t := 32) rfl .nil))))); clear s56
        refine cond_split s57 (.tmp rfl) (fun hc4 => ?_) (fun hc4 => ?_)
        · replace h19 := ite_t hc4 h19
          have h20 := h19; clear h19
          refine wp_skip ?_
          refine then_normal ?_
          refine hK19 _ _ ?_
          have s58 := s57.sub (.cons (t := 0) rfl (.cons (t := 3) rfl (.cons (t := 4) rfl (.cons (t := 5) rfl .nil)))); clear s57
          refine wp_seq_k fun K21 hK21 => ?_
          have hj4 : ∀ (y7 : Int) (y8 : (List Int)) (a : Act) (w : World), (slices_Compact_int_int.j4 k y5 (slices_Compact_int_int.l2 k p1 y1 n2)) y7 y8 = some r → St ⟨61, w0, ok, (idsOf [RowF wr0 3 (kint .i64) p1])⟩ [RowF wr0 3 (kint .i64) y8] [(0, (is wr0)), (3, ((kint .i64).V y7)), (4, (slT wr0 1 y1.toNat (p1.length - y1.toNat))), (5, ((kint .i64).V y5))] a w → K21 a w := by
            intro y7 y8 a59 w59 h21 s59
            unfold slices_Compact_int_int.j4 at h21
            refine hK21 _ _ ?_
            refine wp_region_lit ?_
            refine seq_op s59 rfl rfl (of_decide_eq_true rfl) (ob_move rfl (.tmp rfl)) fun a60 w60 s60 => ?_; clear s59
            refine seq_op s60 rfl rfl (of_decide_eq_true rfl) (ob_add rfl (.tmp rfl) (opd_int rfl)) fun a61 w61 s61 => ?_; clear s60
            refine seq_op s61 rfl rfl (of_decide_eq_true rfl) (ob_assign rfl (.tmp rfl)) fun a62 w62 s62 => ?_; clear s61
            refine wpList_nil ?_
            refine then_normal ?_
            exact hK18 (y7, (iadd .i64 y5 (1 : Int)), y8) _ _ h21 (s62.sub (.cons rfl (.cons rfl (.cons rfl (.cons rfl .nil)))))
          refine wp_block ?_
          refine wp_seq_k fun K22 hK22 => ?_
          obtain ⟨g7, h22⟩ := guard_some h20; clear h20
          obtain ⟨g8, h23⟩ := guard_some h22; clear h22
          obtain ⟨x3, e_x3, h24⟩ := bind_some h23; clear h23
          obtain ⟨g9, h25⟩ := guard_some h24; clear h24
          obtain ⟨g10, h26⟩ := guard_some h25; clear h25
          obtain ⟨x4, e_x4, h27⟩ := bind_some h26; clear h26
          refine wp_goes (Fs := [(slT wr0 1 y1.toNat (p1.length - y1.toNat)), ((kint .i64).V y5), (ptrR wr0 ((y1 + y5).toNat * 1)), ((kint .i64).V x3), (slT wr0 1 y1.toNat (p1.length - y1.toNat)), ((kint .i64).V y5), ((kint .i64).V (isub .i64 y5 (1 : Int))), (ptrR wr0 ((y1 + (isub .i64 y5 (1 : Int))).toNat * 1)), ((kint .i64).V x4)]) (bits := [0, 0, 3, 7, 0, 0, 32, 112, 240, 511]) (m := 9) (todo := 0) mx s58 ?_; clear s58
          refine goes_last (by kernel_rfl) rfl (opsS_cons (.plain _ (Av.old (t := 4) rfl rfl Av.nil) rfl rfl (ob_move rfl (.tmp rfl))) (opsS_cons (.plain _ (Av.old (t := 5) rfl rfl Av.nil) rfl rfl (ob_move rfl (.tmp rfl))) (opsS_cons (.plain _ (Av.new (j := 0) rfl rfl rfl (Av.new (j := 1) rfl rfl rfl Av.nil)) rfl rfl (ob_restAt (k := (kint .i64)) rfl Try.underlying41 sz3 (.tmp rfl) g8 (.tmp rfl) g7)) (opsS_cons (.plain _ (Av.new (j := 2) rfl rfl rfl Av.nil) rfl rfl (ob_rowLoad rfl tk3 (.tmp rfl) (.head _) (LG.arrA e_x3))) (opsS_cons (.plain _ (Av.old (t := 4) rfl rfl Av.nil) rfl rfl (ob_move rfl (.tmp rfl))) (opsS_cons (.plain _ (Av.old (t := 5) rfl rfl Av.nil) rfl rfl (ob_move rfl (.tmp rfl))) (opsS_cons (.plain _ (Av.new (j := 5) rfl rfl rfl Av.nil) rfl rfl (ob_sub rfl (.tmp rfl) (opd_int rfl))) (opsS_cons (.plain _ (Av.new (j := 4) rfl rfl rfl (Av.new (j := 6) rfl rfl rfl Av.nil)) rfl rfl (ob_restAt (k := (kint .i64)) rfl Try.underlying41 sz3 (.tmp rfl) g10 (.tmp rfl) g9)) (opsS_cons (.plain _ (Av.new (j := 7) rfl rfl rfl Av.nil) rfl rfl (ob_rowLoad rfl tk3 (.tmp rfl) (.head _) (LG.arrA e_x4))) opsS_nil))))))))) (out_old (t := 0) rfl rfl (out_old (t := 3) rfl rfl (out_old (t := 4) rfl rfl (out_old (t := 5) rfl rfl (out_new (i := 3) (by decide) rfl rfl (out_new (i := 8) (by decide) rfl rfl out_nil)))))) fun a63 w63 s63 => ?_
          refine seq_op s63 rfl rfl (of_decide_eq_true rfl) (ob_neq rfl (.tmp rfl) (.tmp rfl)) fun a64 w64 s64 => ?_; clear s63
          refine wpList_nil ?_
          refine then_normal ?_
          refine hK22 _ _ ?_
          have s65 := s64.sub (.cons (t := 0) rfl (.cons (t := 3) rfl (.cons (t := 4) rfl (.cons (t := 5) rfl (.cons (t := 44) rfl .nil))))); clear s64
          refine cond_split s65 (.tmp rfl) (fun hc5 => ?_) (fun hc5 => ?_)
          · replace h27 := ite_t hc5 h27
            have h28 := h27; clear h27
            refine wp_seq_k fun K23 hK23 => ?_
            refine wp_region_lit ?_
            refine seq_op s65 rfl rfl (of_decide_eq_true rfl) (ob_move rfl (.tmp rfl)) fun a66 w66 s66 => ?_; clear s65
            refine seq_op s66 rfl rfl (of_decide_eq_true rfl) (ob_move rfl (.tmp rfl)) fun a67 w67 s67 => ?_; clear s66
            refine seq_op s67 rfl rfl (of_decide_eq_true rfl) (ob_move rfl (.tmp rfl)) fun a68 w68 s68 => ?_; clear s67
            refine seq_op s68 rfl rfl (of_decide_eq_true rfl) (ob_move rfl (.tmp rfl)) fun a69 w69 s69 => ?_; clear s68
            obtain ⟨g11, h29⟩ := guard_some h28; clear h28
            obtain ⟨g12, h30⟩ := guard_some h29; clear h29
            refine seq_op s69 rfl rfl (of_decide_eq_true rfl) (ob_restAt (k := (kint .i64)) rfl Try.underlying41 sz3 (.tmp rfl) g12 (.tmp rfl) g11) fun a70 w70 s70 => ?_; clear s69
            obtain ⟨x5, e_x5, h31⟩ := bind_some h30; clear h30
            refine seq_op s70 rfl rfl (of_decide_eq_true rfl) (ob_rowLoad rfl tk3 (.tmp rfl) (.head _) (LG.arrA e_x5)) fun a71 w71 s71 => ?_; clear s70
            obtain ⟨g13, h32⟩ := guard_some h31; clear h31
            refine seq_op s71 rfl rfl (of_decide_eq_true rfl) (ob_rowAt rfl Try.underlying41 sz3 (.tmp rfl) (.head _) (.tmp rfl) g13) fun a72 w72 s72 => ?_; clear s71
            obtain ⟨x6, e_x6, h33⟩ := bind_some h32; clear h32
            refine seq_opx0 (B' := (fun _ : Unit => [RowF wr0 3 (kint .i64) x6])) s72 rfl rfl (ob_rowStore (A := []) rfl tk3 (.tmp rfl) (.tmp rfl) rfl (LS.arrS e_x6) rfl) fun _ a73 w73 s73 => ?_; clear s72
            refine wpList_nil ?_
            refine then_normal ?_
            refine hK23 _ _ ?_
            have s74 := s73.sub (.cons (t := 0) rfl (.cons (t := 3) rfl (.cons (t := 4) rfl (.cons (t := 5) rfl .nil)))); clear s73
            refine wp_region_lit ?_
            refine seq_op s74 rfl rfl (of_decide_eq_true rfl) (ob_move rfl (.tmp rfl)) fun a75 w75 s75 => ?_; clear s74
            refine seq_op s75 rfl rfl (of_decide_eq_true rfl) (ob_add rfl (.tmp rfl) (opd_int rfl)) fun a76 w76 s76 => ?_; clear s75
            refine seq_op s76 rfl rfl (of_decide_eq_true rfl) (ob_assign rfl (.tmp rfl)) fun a77 w77 s77 => ?_; clear s76
            refine wpList_nil ?_
            refine in_normal ?_
            refine then_normal ?_
            exact hj4 (iadd .i64 y4 (1 : Int)) x6 _ _ h33 (s77.sub (.cons rfl (.cons rfl (.cons rfl (.cons rfl .nil)))))
          · replace h27 := ite_f hc5 h27
            have h34 := h27; clear h27
            refine wp_skip ?_
            refine in_normal ?_
            refine then_normal ?_
            exact hj4 y4 y6 _ _ h34 (s65.sub (.cons rfl (.cons rfl (.cons rfl (.cons rfl .nil)))))
        · replace h19 := ite_f hc4 h19
          have h35 := h19; clear h19
          refine wp_exit ?_
          refine (then_exit (then_exit (in_here ?_)))
          refine then_normal ?_
          exact hj3 y4 y6 _ _ h35 (s57.sub (.cons rfl (.cons rfl .nil)))
      · replace h11 := ite_f hc3 h11
        have h36 := h11; clear h11
        refine wp_skip ?_
        refine in_normal ?_
        refine then_normal ?_
        exact hj2 _ _ h36 (s33.sub (.cons rfl (.cons rfl .nil)))
    · replace h5 := ite_f hc2 h5
      have h37 := h5; clear h5
      refine wp_exit ?_
      refine (then_exit (then_exit (in_here ?_)))
      refine then_normal ?_
      exact hj1 _ _ h37 (s25.sub (.cons rfl .nil))

/- 126 cabal/roster.To$1 -/
theorem c_roster_To_1 (k : Nat) (p1 : Int) (p2 : api_Op) (r : Bool) (h0 : roster_To_1 k p1 p2 = some r) (ok : Ok) (w0 : World) (z0 : Value) (z1 : Value) (u0 : ((kint .i64).V p1).holds ok w0 z0) (u1 : (ptrTo k_api_Op p2).holds ok w0 z1) :
    Gives Try.prog 126 [z0, z1] ok w0 (resFact [kbool.V r]) := by
  unfold roster_To_1 at h0
  refine enter (N := 21) Try.func126 rfl rfl (of_decide_eq_true rfl) (.cons u0 (.cons u1 .nil)) fun a1 s1 => ?_
  refine wp_seq_k fun K1 hK1 => ?_
  refine wp_region_lit ?_
  refine seq_op s1 rfl rfl (of_decide_eq_true rfl) (ob_assign rfl opd_bool) fun a2 w2 s2 => ?_; clear s1
  refine wpList_nil ?_
  refine then_normal ?_
  refine hK1 _ _ ?_
  have s3 := s2.sub (.cons (t := 0) rfl (.cons (t := 1) rfl .nil)); clear s2
  refine wp_seq_k fun K2 hK2 => ?_
  refine wp_region_lit ?_
  refine seq_op s3 rfl rfl (of_decide_eq_true rfl) (ob_move rfl (.tmp rfl)) fun a4 w4 s4 => ?_; clear s3
  refine seq_op s4 rfl rfl (of_decide_eq_true rfl) (ob_fieldAddrr rfl Try.underlying44 rfl sz3 (by decide) (.tmp rfl) (lg_api_Op_Author p2)) fun a5 w5 s5 => ?_; clear s4
  refine seq_op s5 rfl rfl (of_decide_eq_true rfl) (ob_loadr rfl tk3 (.tmp rfl)) fun a6 w6 s6 => ?_; clear s5
  refine seq_op s6 rfl rfl (of_decide_eq_true rfl) (ob_eql rfl (.tmp rfl) (.tmp rfl)) fun a7 w7 s7 => ?_; clear s6
  refine seq_op s7 rfl rfl (of_decide_eq_true rfl) (ob_move rfl (.tmp rfl)) fun a8 w8 s8 => ?_; clear s7
  refine seq_opg s8 rfl rfl rfl rfl (of_decide_eq_true rfl) (fun hb => ob_fieldAddrr rfl Try.underlying44 rfl sz3 (by decide) (.tmp rfl) (lg_api_Op_Kind p2)) fun a9 w9 s9 => ?_; clear s8
  refine seq_opg s9 rfl rfl rfl rfl (of_decide_eq_true rfl) (fun hb => (Ob.uncond (t := 9) hb rfl (ob_loadr rfl tk3 (.tmp rfl)))) fun a10 w10 s10 => ?_; clear s9
  refine seq_opg s10 rfl rfl rfl rfl (of_decide_eq_true rfl) (fun hb => (Ob.uncond (t := 10) hb rfl (ob_eql rfl (.tmp rfl) (opd_int rfl)))) fun a11 w11 s11 => ?_; clear s10
  refine seq_opg s11 rfl rfl rfl rfl (of_decide_eq_true rfl) (fun hb => (Ob.uncond (t := 11) hb rfl (ob_move rfl (.tmp rfl)))) fun a12 w12 s12 => ?_; clear s11
  refine seq_opg2 s12 rfl rfl rfl rfl (of_decide_eq_true rfl) (fun hb => ob_move rfl (.tmp rfl)) fun a13 w13 s13 => ?_; clear s12
  refine seq_opg2 s13 rfl rfl rfl rfl (of_decide_eq_true rfl) (fun hb => ob_fieldAddrr rfl Try.underlying44 rfl sz41 (by decide) (.tmp rfl) (lg_api_Op_Who p2)) fun a14 w14 s14 => ?_; clear s13
  refine seq_opg2 s14 rfl rfl rfl rfl (of_decide_eq_true rfl) (fun hb => (Ob.uncond (t := 14) hb rfl (ob_loadr rfl tk41 (.tmp rfl)))) fun a15 w15 s15 => ?_; clear s14
  obtain ⟨x1, e_x1, h1⟩ := bind_some h0; clear h0
  refine seq_opg2 s15 rfl rfl rfl rfl (of_decide_eq_true rfl) (fun hb => (Ob.uncond (t := 15) hb rfl (ob_indexAddrs rfl Try.underlying41 sz3 (.tmp rfl) (opd_int rfl) (ite_t hb e_x1)))) fun a16 w16 s16 => ?_; clear s15
  refine seq_opg2 s16 rfl rfl rfl rfl (of_decide_eq_true rfl) (fun hb => (Ob.uncond (t := 16) hb rfl (ob_loadr rfl tk3 (.tmp rfl)))) fun a17 w17 s17 => ?_; clear s16
  refine seq_opg2 s17 rfl rfl rfl rfl (of_decide_eq_true rfl) (fun hb => (Ob.uncond (t := 17) hb rfl ((Ob.uncond (t := 13) hb rfl (ob_eql rfl (.tmp rfl) (.tmp rfl)))))) fun a18 w18 s18 => ?_; clear s17
  refine seq_opg s18 rfl rfl rfl rfl (of_decide_eq_true rfl) (fun hb => (Ob.uncond (t := 12) hb rfl (ob_and3 hb rfl (.tmp rfl) (.tmp rfl) opd_bool))) fun a19 w19 s19 => ?_; clear s18
  obtain ⟨x2, e_x2, h2⟩ := bind_some h1; clear h1; replace e_x2 := Option.some.inj e_x2
  refine seq_op s19 rfl rfl (of_decide_eq_true rfl) ((ob_or2 rfl (.tmp rfl) opd_bool (.tmp rfl)).nm e_x2) fun a20 w20 s20 => ?_; clear s19
  refine seq_op s20 rfl rfl (of_decide_eq_true rfl) (ob_assign rfl (.tmp rfl)) fun a21 w21 s21 => ?_; clear s20
  refine wpList_nil ?_
  refine then_normal ?_
  refine hK2 _ _ ?_
  have s22 := s21.sub (.cons (t := 3) rfl .nil); clear s21
  refine wp_ret ?_
  obtain rfl := Option.some.inj h2
  exact leave s22 (.inl rfl) rfl (.cons (.tmp rfl) .nil)

/- 152 slices.IndexFunc[[]int,int] -/
theorem c_slices_IndexFunc_int_int_roster_To_1 (k : Nat) (p1 : (List Int)) (p2 : api_Op) (r : Int) (h0 : slices_IndexFunc_int_int_roster_To_1 k p1 p2 = some r) (ok : Ok) (w0 : World) (z0 : Value) (z1 : Value) (u0 : ((ksl (kint .i64)).V p1).holds ok w0 z0) (u1 : (cloF 126 [] [(ptrTo k_api_Op p2)]).holds ok w0 z1) :
    Gives Try.prog 152 [z0, z1] ok w0 (resFact [(kint .i64).V r]) := by
  unfold slices_IndexFunc_int_int_roster_To_1 at h0
  refine enter (N := 19) Try.func152 rfl rfl (of_decide_eq_true rfl) (.cons u0 (.cons u1 .nil)) fun a1 s1 => ?_
  refine wp_seq_k fun K1 hK1 => ?_
  refine wp_region_lit ?_
  refine seq_op s1 rfl rfl (of_decide_eq_true rfl) (ob_assign rfl (opd_int rfl)) fun a2 w2 s2 => ?_; clear s1
  refine wpList_nil ?_
  refine then_normal ?_
  refine hK1 _ _ ?_
  have s3 := s2.sub (.cons (t := 0) rfl (.cons (t := 1) rfl .nil)); clear s2
  refine wp_seq_k fun K2 hK2 => ?_
  refine wp_seq_k fun K3 hK3 => ?_
  refine wp_region_lit ?_
  refine seq_op s3 rfl rfl (of_decide_eq_true rfl) (ob_move rfl (.tmp rfl)) fun a4 w4 s4 => ?_; clear s3
  refine seq_op s4 rfl rfl (of_decide_eq_true rfl) (ob_lens rfl Try.underlying41 (.tmp rfl)) fun a5 w5 s5 => ?_; clear s4
  refine seq_op s5 rfl rfl (of_decide_eq_true rfl) (ob_move rfl (opd_int rfl)) fun a6 w6 s6 => ?_; clear s5
  refine wpList_nil ?_
  refine then_normal ?_
  refine hK3 _ _ ?_
  have s7 := s6.sub (.cons (t := 0) rfl (.cons (t := 1) rfl (.cons (t := 7) rfl (.cons (t := 8) rfl .nil)))); clear s6
  have hj1 : ∀ (a : Act) (w : World), (slices_IndexFunc_int_int_roster_To_1.j1 k) = some r → St ⟨19, w0, ok, []⟩ [] [] a w → K2 a w := by
    intro a8 w8 h1 s8
    unfold slices_IndexFunc_int_int_roster_To_1.j1 at h1
    refine hK2 _ _ ?_
    refine wp_seq_k fun K4 hK4 => ?_
    refine wp_region_lit ?_
    refine seq_op s8 rfl rfl (of_decide_eq_true rfl) (ob_assign rfl (opd_int rfl)) fun a9 w9 s9 => ?_; clear s8
    refine wpList_nil ?_
    refine then_normal ?_
    refine hK4 _ _ ?_
    have s10 := s9.sub (.cons (t := 4) rfl .nil); clear s9
    refine wp_ret ?_
    obtain rfl := Option.some.inj h1
    exact leave s10 (.inl rfl) rfl (.cons (.tmp rfl) .nil)
  refine wp_block ?_
  refine wp_loop_fuel (fun m (q : Int) => slices_IndexFunc_int_int_roster_To_1.l1 k p1 p2 m q) r (fun _ => rfl) (fun q a w => St ⟨19, w0, ok, []⟩ [] [(0, ((ksl (kint .i64)).V p1)), (1, (cloF 126 [] [(ptrTo k_api_Op p2)])), (7, ((kint .i64).V (p1.length : Int))), (8, ((kint .i64).V q))] a w) ?_ k (0 : Int) _ _ h0 (s7.sub (.cons rfl (.cons rfl (.cons rfl (.cons rfl .nil)))))
  rintro n1 y1 a11 w11 h2 s11 K5 hK5
  replace h2 : slices_IndexFunc_int_int_roster_To_1.l1 k p1 p2 (n1 + 1) y1 = some r := h2; rw [slices_IndexFunc_int_int_roster_To_1.l1] at h2
  have h3 := h2; clear h2
  refine wp_seq_k fun K6 hK6 => ?_
  refine wp_region_lit ?_
  refine seq_op s11 rfl rfl (of_decide_eq_true rfl) (ob_lss rfl (.tmp rfl) (.tmp rfl)) fun a12 w12 s12 => ?_; clear s11
  refine wpList_nil ?_
  refine then_normal ?_
  refine hK6 _ _ ?_
  have s13 := s12.sub (.cons (t := 0) rfl (.cons (t := 1) rfl (.cons (t := 7) rfl (.cons (t := 8) rfl (.cons (t := 9) rfl .nil))))); clear s12
  refine wp_seq_k fun K7 hK7 => ?_
  refine cond_split s13 (.tmp rfl) (fun hc1 => ?_) (fun hc1 => ?_)
  · replace h3 := ite_t hc1 h3
    have h4 := h3; clear h3
    refine wp_skip ?_
    refine then_normal ?_
    refine hK7 _ _ ?_
    have s14 := s13.sub (.cons (t := 0) rfl (.cons (t := 1) rfl (.cons (t := 7) rfl (.cons (t := 8) rfl .nil)))); clear s13
    refine wp_seq_k fun K8 hK8 => ?_
    refine wp_block ?_
    refine wp_seq_k fun K9 hK9 => ?_
    refine wp_region_lit ?_
    refine seq_op s14 rfl rfl (of_decide_eq_true rfl) (ob_move rfl (.tmp rfl)) fun a15 w15 s15 => ?_; clear s14
    refine seq_op s15 rfl rfl (of_decide_eq_true rfl) (ob_assign rfl (.tmp rfl)) fun a16 w16 s16 => ?_; clear s15
    refine wpList_nil ?_
    refine then_normal ?_
    refine hK9 _ _ ?_
    have s17 := s16.sub (.cons (t := 0) rfl (.cons (t := 1) rfl (.cons (t := 5) rfl (.cons (t := 7) rfl (.cons (t := 8) rfl .nil))))); clear s16
    refine wp_seq_k fun K10 hK10 => ?_
    refine wp_region_lit ?_
    refine seq_op s17 rfl rfl (of_decide_eq_true rfl) (ob_move rfl (.tmp rfl)) fun a18 w18 s18 => ?_; clear s17
    refine seq_op s18 rfl rfl (of_decide_eq_true rfl) (ob_move rfl (.tmp rfl)) fun a19 w19 s19 => ?_; clear s18
    refine seq_op s19 rfl rfl (of_decide_eq_true rfl) (ob_move rfl (.tmp rfl)) fun a20 w20 s20 => ?_; clear s19
    obtain ⟨x1, e_x1, h5⟩ := bind_some h4; clear h4
    refine seq_op s20 rfl rfl (of_decide_eq_true rfl) (ob_indexAddrs rfl Try.underlying41 sz3 (.tmp rfl) (.tmp rfl) e_x1) fun a21 w21 s21 => ?_; clear s20
    refine seq_op s21 rfl rfl (of_decide_eq_true rfl) (ob_loadr rfl tk3 (.tmp rfl)) fun a22 w22 s22 => ?_; clear s21
    obtain ⟨x2, e_x2, h6⟩ := bind_some h5; clear h5
    refine seq_op s22 rfl rfl (of_decide_eq_true rfl) (ob_callD (args := [_]) rfl (.clo (.tmp rfl)) hb126 (fun a w s fs gs hf hg => by obtain rfl := hf.unnil; obtain ⟨u0, _, rfl, fu0, hg⟩ := hg.uncons; obtain rfl := hg.unnil; exact c_roster_To_1 k _ _ _ e_x2 _ _ _ _ (s.arg (.tmp rfl)) fu0)) fun a23 w23 s23 => ?_; clear s22
    refine wpList_nil ?_
    refine then_normal ?_
    refine hK10 _ _ ?_
    have s24 := s23.sub (.cons (t := 0) rfl (.cons (t := 1) rfl (.cons (t := 5) rfl (.cons (t := 7) rfl (.cons (t := 8) rfl (.cons (t := 16) rfl .nil)))))); clear s23
    refine cond_split s24 (.tmp rfl) (fun hc2 => ?_) (fun hc2 => ?_)
    · replace h6 := ite_t hc2 h6
      have h7 := h6; clear h6
      refine wp_seq_k fun K11 hK11 => ?_
      refine wp_region_lit ?_
      refine seq_op s24 rfl rfl (of_decide_eq_true rfl) (ob_move rfl (.tmp rfl)) fun a25 w25 s25 => ?_; clear s24
      refine seq_op s25 rfl rfl (of_decide_eq_true rfl) (ob_assign rfl (.tmp rfl)) fun a26 w26 s26 => ?_; clear s25
      refine wpList_nil ?_
      refine then_normal ?_
      refine hK11 _ _ ?_
      have s27 := s26.sub (.cons (t := 4) rfl .nil); clear s26
      refine wp_ret ?_
      obtain rfl := Option.some.inj h7
      exact leave s27 (.inl rfl) rfl (.cons (.tmp rfl) .nil)
    · replace h6 := ite_f hc2 h6
      have h8 := h6; clear h6
      refine wp_skip ?_
      refine in_normal ?_
      refine then_normal ?_
      refine hK8 _ _ ?_
      have s28 := s24.sub (.cons (t := 0) rfl (.cons (t := 1) rfl (.cons (t := 7) rfl (.cons (t := 8) rfl .nil)))); clear s24
      refine wp_region_lit ?_
      refine seq_op s28 rfl rfl (of_decide_eq_true rfl) (ob_add rfl (.tmp rfl) (opd_int rfl)) fun a29 w29 s29 => ?_; clear s28
      refine seq_op s29 rfl rfl (of_decide_eq_true rfl) (ob_move rfl (.tmp rfl)) fun a30 w30 s30 => ?_; clear s29
      refine wpList_nil ?_
      refine then_normal ?_
      exact hK5 (iadd .i64 y1 (1 : Int)) _ _ h8 (s30.sub (.cons rfl (.cons rfl (.cons rfl (.cons rfl .nil)))))
  · replace h3 := ite_f hc1 h3
    have h9 := h3; clear h3
    refine wp_exit ?_
    refine (then_exit (then_exit (in_here ?_)))
    refine then_normal ?_
    exact hj1 _ _ h9 (s13.sub .nil)

/- 124 slices.DeleteFunc[[]int,int] -/
theorem c_slices_DeleteFunc_int_int_roster_To_1 (k : Nat) (p1 : (List Int)) (p2 : api_Op) (r : (List Int)) (h0 : slices_DeleteFunc_int_int_roster_To_1 k p1 p2 = some r) (ok : Ok) (w0 : World) (z0 : Value) (z1 : Value) (wr0 : Value) (l0 : ∀ q, q ∈ [RowF wr0 3 (kint .i64) p1] → q.holds ok w0) (d0 : ∀ c, c ∈ idsOf [RowF wr0 3 (kint .i64) p1] → ¬ ok c) (nd : (idsOf [RowF wr0 3 (kint .i64) p1]).Nodup) (u0 : (is wr0).holds ok w0 z0) (u1 : (cloF 126 [] [(ptrTo k_api_Op p2)]).holds ok w0 z1) :
    GivesX Try.prog 124 [z0, z1] ok w0 [RowF wr0 3 (kint .i64) p1] (fun g : Value => resFact [is g]) (fun g : Value => [RowF (g) 3 (kint .i64) r]) := by
  unfold slices_DeleteFunc_int_int_roster_To_1 at h0
  refine enterX (N := 42) Try.func124 rfl rfl (of_decide_eq_true rfl) (.cons u0 (.cons u1 .nil)) nd l0 d0 fun a1 s1 => ?_
  refine wp_seq_k fun K1 hK1 => ?_
  refine wp_region_lit ?_
  refine seq_op s1 rfl rfl (of_decide_eq_true rfl) (ob_assign rfl opd_is) fun a2 w2 s2 => ?_; clear s1
  have s3 := St.adopt s2 (G := RowF (nilRow 36) 3 (kint .i64) []) rfl (rowNilN _ _ _ _ _); clear s2
  refine wpList_nil ?_
  refine then_normal ?_
  refine hK1 _ _ ?_
  have s4 := s3.sub (.cons (t := 0) rfl (.cons (t := 1) rfl .nil)); clear s3
  have s5 := St.drop (A := []) s4; clear s4
  refine wp_seq_k fun K2 hK2 => ?_
  refine wp_region_lit ?_
  refine seq_op s5 rfl rfl (of_decide_eq_true rfl) (ob_move rfl (.tmp rfl)) fun a6 w6 s6 => ?_; clear s5
  refine seq_op s6 rfl rfl (of_decide_eq_true rfl) (ob_move rfl (.tmp rfl)) fun a7 w7 s7 => ?_; clear s6
  obtain ⟨x1, e_x1, h1⟩ := bind_some h0; clear h0
  refine seq_op s7 rfl rfl (of_decide_eq_true rfl) ((ob_lendG (L := [_]) (List.Perm.refl _) (.cons (t := 8) rfl (lendRow (.head _)) .nil) (Flat.res1 (Flat.V (KFlat.int _))) (fun _ => ob_callD (args := [_, _]) rfl .direct hb152 (fun a w s fs gs hf hg => by obtain rfl := hf.unnil; obtain rfl := hg.unnil; exact c_slices_IndexFunc_int_int_roster_To_1 k _ _ _ e_x1 _ _ _ _ (s.arg (.tmp rfl)) (s.arg (.tmp rfl)))))) fun a8 w8 s8 => ?_; clear s7
  refine seq_op s8 rfl rfl (of_decide_eq_true rfl) (ob_assign rfl (.tmp rfl)) fun a9 w9 s9 => ?_; clear s8
  refine wpList_nil ?_
  refine then_normal ?_
  refine hK2 _ _ ?_
  have s10 := s9.sub (.cons (t := 0) rfl (.cons (t := 1) rfl (.cons (t := 5) rfl .nil))); clear s9
  refine wp_seq_k fun K3 hK3 => ?_
  refine wp_seq_k fun K4 hK4 => ?_
  refine wp_region_lit ?_
  refine seq_op s10 rfl rfl (of_decide_eq_true rfl) (ob_move rfl (.tmp rfl)) fun a11 w11 s11 => ?_; clear s10
  refine seq_op s11 rfl rfl (of_decide_eq_true rfl) (ob_eql rfl (.tmp rfl) (opd_int rfl)) fun a12 w12 s12 => ?_; clear s11
  refine wpList_nil ?_
  refine then_normal ?_
  refine hK4 _ _ ?_
  have s13 := s12.sub (.cons (t := 0) rfl (.cons (t := 1) rfl (.cons (t := 5) rfl (.cons (t := 12) rfl .nil)))); clear s12
  refine cond_split s13 (.tmp rfl) (fun hc1 => ?_) (fun hc1 => ?_)
  · replace h1 := ite_t hc1 h1
    have h2 := h1; clear h1
    refine wp_seq_k fun K5 hK5 => ?_
    refine wp_region_lit ?_
    refine seq_op s13 rfl rfl (of_decide_eq_true rfl) (ob_move rfl (.tmp rfl)) fun a14 w14 s14 => ?_; clear s13
    refine seq_op s14 rfl rfl (of_decide_eq_true rfl) (ob_assign rfl (.tmp rfl)) fun a15 w15 s15 => ?_; clear s14
    refine wpList_nil ?_
    refine then_normal ?_
    refine hK5 _ _ ?_
    have s16 := s15.sub (.cons (t := 4) rfl .nil); clear s15
    refine wp_ret ?_
    obtain rfl := Option.some.inj h2
    exact leaveXD (D := []) wr0 s16 rfl (.inl rfl) rfl (.cons (.tmp rfl) .nil) rfl
  · replace h1 := ite_f hc1 h1
    have h3 := h1; clear h1
    refine wp_skip ?_
    refine then_normal ?_
    refine hK3 _ _ ?_
    have s17 := s13.sub (.cons (t := 0) rfl (.cons (t := 1) rfl (.cons (t := 5) rfl .nil))); clear s13
    refine wp_seq_k fun K6 hK6 => ?_
    refine wp_seq_k fun K7 hK7 => ?_
    refine wp_region_lit ?_
    refine seq_op s17 rfl rfl (of_decide_eq_true rfl) (ob_move rfl (.tmp rfl)) fun a18 w18 s18 => ?_; clear s17
    refine seq_op s18 rfl rfl (of_decide_eq_true rfl) (ob_add rfl (.tmp rfl) (opd_int rfl)) fun a19 w19 s19 => ?_; clear s18
    refine seq_op s19 rfl rfl (of_decide_eq_true rfl) (ob_assign rfl (.tmp rfl)) fun a20 w20 s20 => ?_; clear s19
    refine wpList_nil ?_
    refine then_normal ?_
    refine hK7 _ _ ?_
    have s21 := s20.sub (.cons (t := 0) rfl (.cons (t := 1) rfl (.cons (t := 5) rfl (.cons (t := 6) rfl .nil)))); clear s20
    have hj1 : ∀ (y1 : Int) (y2 : (List Int)) (a : Act) (w : World), (slices_DeleteFunc_int_int_roster_To_1.j1 k) y1 y2 = some r → St ⟨42, w0, ok, (idsOf [RowF wr0 3 (kint .i64) p1])⟩ [RowF wr0 3 (kint .i64) y2] [(0, (is wr0)), (5, ((kint .i64).V y1))] a w → K6 a w := by
      intro y1 y2 a22 w22 h4 s22
      unfold slices_DeleteFunc_int_int_roster_To_1.j1 at h4
      refine hK6 _ _ ?_
      refine wp_seq_k fun K8 hK8 => ?_
      refine wp_region_lit ?_
      refine seq_op s22 rfl rfl (of_decide_eq_true rfl) (ob_move rfl (.tmp rfl)) fun a23 w23 s23 => ?_; clear s22
      refine seq_op s23 rfl rfl (of_decide_eq_true rfl) (ob_move rfl (.tmp rfl)) fun a24 w24 s24 => ?_; clear s23
      obtain ⟨g1, h5⟩ := guard_some h4; clear h4
      refine seq_op s24 rfl rfl (of_decide_eq_true rfl) (ob_cutT rfl Try.underlying41 sz3 (.tmp rfl) (.head _) (.some (.tmp rfl)) g1) fun a25 w25 s25 => ?_; clear s24
      obtain ⟨g2, h6⟩ := guard_some h5; clear h5
      refine seq_opx0 (B' := (fun _ : Unit => [RowF wr0 3 (kint .i64) (y2.take y1.toNat ++ List.replicate (y2.length - y1.toNat) (0 : Int) ++ y2.drop (y1.toNat + (y2.length - y1.toNat)))])) s25 rfl rfl (ob_clearT (A := []) rfl Try.underlying41 ap3 (Zr.int .i64) (by decide) (.tmp rfl) rfl g2 rfl) fun _ a26 w26 s26 => ?_; clear s25
      refine wpList_nil ?_
      refine then_normal ?_
      refine hK8 _ _ ?_
      have s27 := s26.sub (.cons (t := 0) rfl (.cons (t := 5) rfl .nil)); clear s26
      refine wp_seq_k fun K9 hK9 => ?_
      refine wp_region_lit ?_
      refine seq_op s27 rfl rfl (of_decide_eq_true rfl) (ob_move rfl (.tmp rfl)) fun a28 w28 s28 => ?_; clear s27
      refine seq_op s28 rfl rfl (of_decide_eq_true rfl) (ob_move rfl (.tmp rfl)) fun a29 w29 s29 => ?_; clear s28
      obtain ⟨g3, h7⟩ := guard_some h6; clear h6
      refine seq_opx (B' := (fun v1 : Value => [RowF v1 3 (kint .i64) ((y2.take y1.toNat ++ List.replicate (y2.length - y1.toNat) (0 : Int) ++ y2.drop (y1.toNat + (y2.length - y1.toNat))).take y1.toNat)])) s29 rfl rfl (of_decide_eq_true rfl) (ob_cutRow (A := []) rfl Try.underlying41 sz3 (.tmp rfl) rfl .none (.some (.tmp rfl)) g3) fun v1 a30 w30 s30 => ?_; clear s29
      refine seq_op s30 rfl rfl (of_decide_eq_true rfl) (ob_assign rfl (.tmp rfl)) fun a31 w31 s31 => ?_; clear s30
      refine wpList_nil ?_
      refine then_normal ?_
      refine hK9 _ _ ?_
      have s32 := s31.sub (.cons (t := 4) rfl .nil); clear s31
      refine wp_ret ?_
      obtain rfl := Option.some.inj h7
      exact leaveXD (D := []) v1 s32 rfl (.inl rfl) rfl (.cons (.tmp rfl) .nil) rfl
    refine wp_block ?_
    refine wp_loop_fuel (fun m (q : Int × Int × (List Int)) => slices_DeleteFunc_int_int_roster_To_1.l1 k p2 m q.1 q.2.1 q.2.2) r (fun _ => rfl) (fun q a w => St ⟨42, w0, ok, (idsOf [RowF wr0 3 (kint .i64) p1])⟩ [RowF wr0 3 (kint .i64) q.2.2] [(0, (is wr0)), (1, (cloF 126 [] [(ptrTo k_api_Op p2)])), (5, ((kint .i64).V q.1)), (6, ((kint .i64).V q.2.1))] a w) ?_ k (x1, (iadd .i64 x1 (1 : Int)), p1) _ _ h3 (s21.sub (.cons rfl (.cons rfl (.cons rfl (.cons rfl .nil)))))
    rintro n1 ⟨y3, y4, y5⟩ a33 w33 h8 s33 K10 hK10
    replace h8 : slices_DeleteFunc_int_int_roster_To_1.l1 k p2 (n1 + 1) y3 y4 y5 = some r := h8; rw [slices_DeleteFunc_int_int_roster_To_1.l1] at h8
    have h9 := h8; clear h8
    refine wp_seq_k fun K11 hK11 => ?_
    refine wp_seq_k fun K12 hK12 => ?_
    refine wp_region_lit ?_
    refine seq_op s33 rfl rfl (of_decide_eq_true rfl) (ob_move rfl (.tmp rfl)) fun a34 w34 s34 => ?_; clear s33
    refine seq_op s34 rfl rfl (of_decide_eq_true rfl) (ob_move rfl (.tmp rfl)) fun a35 w35 s35 => ?_; clear s34
    refine seq_op s35 rfl rfl (of_decide_eq_true rfl) (ob_lenRow rfl Try.underlying41 (.tmp rfl) (.head _)) fun a36 w36 s36 => ?_; clear s35
    refine seq_op s36 rfl rfl (of_decide_eq_true rfl) (ob_lss rfl (.tmp rfl) (.tmp rfl)) fun a37 w37 s37 => ?_; clear s36
    refine wpList_nil ?_
    refine then_normal ?_
    refine hK12 _ _ ?_
    have s38 := s37.sub (.cons (t := 0) rfl (.cons (t := 1) rfl (.cons (t := 5) rfl (.cons (t := 6) rfl (.cons (t := 19) rfl .nil))))); clear s37
    refine cond_split s38 (.tmp rfl) (fun hc2 => ?_) (fun hc2 => ?_)
    · replace h9 := ite_t hc2 h9
      have h10 := h9; clear h9
      refine wp_skip ?_
      refine then_normal ?_
      refine hK11 _ _ ?_
      have s39 := s38.sub (.cons (t := 0) rfl (.cons (t := 1) rfl (.cons (t := 5) rfl (.cons (t := 6) rfl .nil)))); clear s38
      refine wp_seq_k fun K13 hK13 => ?_
      have hj2 : ∀ (y6 : Int) (y7 : (List Int)) (a : Act) (w : World), (slices_DeleteFunc_int_int_roster_To_1.j2 k y4 (slices_DeleteFunc_int_int_roster_To_1.l1 k p2 n1)) y6 y7 = some r → St ⟨42, w0, ok, (idsOf [RowF wr0 3 (kint .i64) p1])⟩ [RowF wr0 3 (kint .i64) y7] [(0, (is wr0)), (1, (cloF 126 [] [(ptrTo k_api_Op p2)])), (5, ((kint .i64).V y6)), (6, ((kint .i64).V y4))] a w → K13 a w := by
        intro y6 y7 a40 w40 h11 s40
        unfold slices_DeleteFunc_int_int_roster_To_1.j2 at h11
        refine hK13 _ _ ?_
        refine wp_region_lit ?_
        refine seq_op s40 rfl rfl (of_decide_eq_true rfl) (ob_move rfl (.tmp rfl)) fun a41 w41 s41 => ?_; clear s40
        refine seq_op s41 rfl rfl (of_decide_eq_true rfl) (ob_add rfl (.tmp rfl) (opd_int rfl)) fun a42 w42 s42 => ?_; clear s41
        refine seq_op s42 rfl rfl (of_decide_eq_true rfl) (ob_assign rfl (.tmp rfl)) fun a43 w43 s43 => ?_; clear s42
        refine wpList_nil ?_
        refine then_normal ?_
        exact hK10 (y6, (iadd .i64 y4 (1 : Int)), y7) _ _ h11 (s43.sub (.cons rfl (.cons rfl (.cons rfl (.cons rfl .nil)))))
      refine wp_block ?_
      refine wp_seq_k fun K14 hK14 => ?_
      refine wp_region_lit ?_
      refine seq_op s39 rfl rfl (of_decide_eq_true rfl) (ob_move rfl (.tmp rfl)) fun a44 w44 s44 => ?_; clear s39
      refine seq_op s44 rfl rfl (of_decide_eq_true rfl) (ob_move rfl (.tmp rfl)) fun a45 w45 s45 => ?_; clear s44
      obtain ⟨g4, h12⟩ := guard_some h10; clear h10
      refine seq_op s45 rfl rfl (of_decide_eq_true rfl) (ob_rowAt rfl Try.underlying41 sz3 (.tmp rfl) (.head _) (.tmp rfl) g4) fun a46 w46 s46 => ?_; clear s45
      obtain ⟨x2, e_x2, h13⟩ := bind_some h12; clear h12
      refine seq_op s46 rfl rfl (of_decide_eq_true rfl) (ob_rowLoad rfl tk3 (.tmp rfl) (.head _) (LG.arrA e_x2)) fun a47 w47 s47 => ?_; clear s46
      refine seq_op s47 rfl rfl (of_decide_eq_true rfl) (ob_assign rfl (.tmp rfl)) fun a48 w48 s48 => ?_; clear s47
      refine wpList_nil ?_
      refine then_normal ?_
      refine hK14 _ _ ?_
      have s49 := s48.sub (.cons (t := 0) rfl (.cons (t := 1) rfl (.cons (t := 5) rfl (.cons (t := 6) rfl (.cons (t := 7) rfl .nil))))); clear s48
      refine wp_seq_k fun K15 hK15 => ?_
      refine wp_region_lit ?_
      refine seq_op s49 rfl rfl (of_decide_eq_true rfl) (ob_move rfl (.tmp rfl)) fun a50 w50 s50 => ?_; clear s49
      refine seq_op s50 rfl rfl (of_decide_eq_true rfl) (ob_move rfl (.tmp rfl)) fun a51 w51 s51 => ?_; clear s50
      obtain ⟨x3, e_x3, h14⟩ := bind_some h13; clear h13
      refine seq_op s51 rfl rfl (of_decide_eq_true rfl) (ob_callD (args := [_]) rfl (.clo (.tmp rfl)) hb126 (fun a w s fs gs hf hg => by obtain rfl := hf.unnil; obtain ⟨u0, _, rfl, fu0, hg⟩ := hg.uncons; obtain rfl := hg.unnil; exact c_roster_To_1 k _ _ _ e_x3 _ _ _ _ (s.arg (.tmp rfl)) fu0)) fun a52 w52 s52 => ?_; clear s51
      refine seq_op s52 rfl rfl (of_decide_eq_true rfl) (ob_not rfl (.tmp rfl)) fun a53 w53 s53 => ?_; clear s52
      refine wpList_nil ?_
      refine then_normal ?_
      refine hK15 _ _ ?_
      have s54 := s53.sub (.cons (t := 0) rfl (.cons (t := 1) rfl (.cons (t := 5) rfl (.cons (t := 6) rfl (.cons (t := 7) rfl (.cons (t := 29) rfl .nil)))))); clear s53
      refine cond_split s54 (.tmp rfl) (fun hc3 => ?_) (fun hc3 => ?_)
      · replace h14 := ite_t hc3 h14
        have h15 := h14; clear h14
        refine wp_seq_k fun K16 hK16 => ?_
        refine wp_region_lit ?_
        refine seq_op s54 rfl rfl (of_decide_eq_true rfl) (ob_move rfl (.tmp rfl)) fun a55 w55 s55 => ?_; clear s54
        refine seq_op s55 rfl rfl (of_decide_eq_true rfl) (ob_move rfl (.tmp rfl)) fun a56 w56 s56 => ?_; clear s55
        refine seq_op s56 rfl rfl (of_decide_eq_true rfl) (ob_move rfl (.tmp rfl)) fun a57 w57 s57 => ?_; clear s56
        obtain ⟨g5, h16⟩ := guard_some h15; clear h15
        refine seq_op s57 rfl rfl (of_decide_eq_true rfl) (ob_rowAt rfl Try.underlying41 sz3 (.tmp rfl) (.head _) (.tmp rfl) g5) fun a58 w58 s58 => ?_; clear s57
        obtain ⟨x4, e_x4, h17⟩ := bind_some h16; clear h16
        refine seq_opx0 (B' := (fun _ : Unit => [RowF wr0 3 (kint .i64) x4])) s58 rfl rfl (ob_rowStore (A := []) rfl tk3 (.tmp rfl) (.tmp rfl) rfl (LS.arrS e_x4) rfl) fun _ a59 w59 s59 => ?_; clear s58
        refine wpList_nil ?_
        refine then_normal ?_
        refine hK16 _ _ ?_
        have s60 := s59.sub (.cons (t := 0) rfl (.cons (t := 1) rfl (.cons (t := 5) rfl (.cons (t := 6) rfl .nil)))); clear s59
        refine wp_region_lit ?_
        refine seq_op s60 rfl rfl (of_decide_eq_true rfl) (ob_move rfl (.tmp rfl)) fun a61 w61 s61 => ?_; clear s60
        refine seq_op s61 rfl rfl (of_decide_eq_true rfl) (ob_add rfl (.tmp rfl) (opd_int rfl)) fun a62 w62 s62 => ?_; clear s61
        refine seq_op s62 rfl rfl (of_decide_eq_true rfl) (ob_assign rfl (.tmp rfl)) fun a63 w63 s63 => ?_; clear s62
        refine wpList_nil ?_
        refine in_normal ?_
        refine then_normal ?_
        exact hj2 (iadd .i64 y3 (1 : Int)) x4 _ _ h17 (s63.sub (.cons rfl (.cons rfl (.cons rfl (.cons rfl .nil)))))
      · replace h14 := ite_f hc3 h14
        have h18 := h14; clear h14
        refine wp_skip ?_
        refine in_normal ?_
        refine then_normal ?_
        exact hj2 y3 y5 _ _ h18 (s54.sub (.cons rfl (.cons rfl (.cons rfl (.cons rfl .nil)))))
    · replace h9 := ite_f hc2 h9
      have h19 := h9; clear h9
      refine wp_exit ?_
      refine (then_exit (then_exit (in_here ?_)))
      refine then_normal ?_
      exact hj1 y3 y5 _ _ h19 (s38.sub (.cons rfl (.cons rfl .nil)))

/- 75 cabal/roster.To -/
theorem c_roster_To (k : Nat) (p1 : (List api_Node)) (p2 : api_Op) (r : ((List Int) × Int)) (h0 : roster_To k p1 p2 = some r) (ok : Ok) (w0 : World) (z0 : Value) (z1 : Value) (u0 : ((ksl k_api_Node).V p1).holds ok w0 z0) (u1 : (k_api_Op.V p2).holds ok w0 z1) :
    GivesX Try.prog 75 [z0, z1] ok w0 [] (fun g : Value => resFact [is g, (kint .i64).V r.2]) (fun g : Value => [RowF (g) 3 (kint .i64) r.1]) := by
  unfold roster_To at h0
  refine enterX (N := 36) Try.func75 rfl rfl (of_decide_eq_true rfl) (.cons u0 (.cons u1 .nil)) List.nodup_nil (fun _ h => by cases h) (fun _ h => by cases h) fun a1 s1 => ?_
  refine wp_seq_k fun K1 hK1 => ?_
  refine wp_region_lit ?_
  refine seq_opx (B' := (fun b1 : Nat => [BF b1 44 k_api_Op p2])) s1 rfl rfl (of_decide_eq_true rfl) (ob_box rfl (.tmp rfl)) fun b1 a2 w2 s2 => ?_; clear s1
  refine seq_op s2 rfl rfl (of_decide_eq_true rfl) (ob_assign rfl opd_is) fun a3 w3 s3 => ?_; clear s2
  have s4 := St.adopt s3 (G := RowF (nilRow 33) 3 (kint .i64) []) rfl (rowNilN _ _ _ _ _); clear s3
  refine seq_op s4 rfl rfl (of_decide_eq_true rfl) (ob_assign rfl (opd_int rfl)) fun a5 w5 s5 => ?_; clear s4
  refine wpList_nil ?_
  refine then_normal ?_
  refine hK1 _ _ ?_
  have s6 := s5.sub (.cons (t := 0) rfl (.cons (t := 3) rfl .nil)); clear s5
  have s7 := St.drop (A := []) s6; clear s6
  refine wp_seq_k fun K2 hK2 => ?_
  refine wp_region_lit ?_
  refine seq_op s7 rfl rfl (of_decide_eq_true rfl) (ob_move rfl (.tmp rfl)) fun a8 w8 s8 => ?_; clear s7
  refine seq_op s8 rfl rfl (of_decide_eq_true rfl) (ob_load rfl tk44 (.tmp rfl) (.head _) (LG.refl _ _)) fun a9 w9 s9 => ?_; clear s8
  obtain ⟨x1, e_x1, h1⟩ := bind_some h0; clear h0
  refine seq_op s9 rfl rfl (of_decide_eq_true rfl) (ob_callD (args := [_, _]) rfl .direct hb95 (fun a w s fs gs hf hg => by obtain rfl := hf.unnil; obtain rfl := hg.unnil; exact c_roster_behind k _ _ _ e_x1 _ _ _ _ (s.arg (.tmp rfl)) (s.arg (.tmp rfl)))) fun a10 w10 s10 => ?_; clear s9
  refine seq_op s10 rfl rfl (of_decide_eq_true rfl) (ob_move rfl (.tmp rfl)) fun a11 w11 s11 => ?_; clear s10
  refine seq_op s11 rfl rfl (of_decide_eq_true rfl) (ob_extract rfl (.tmp rfl) rfl) fun a12 w12 s12 => ?_; clear s11
  refine seq_op s12 rfl rfl (of_decide_eq_true rfl) (ob_extract rfl (.tmp rfl) rfl) fun a13 w13 s13 => ?_; clear s12
  refine seq_op s13 rfl rfl (of_decide_eq_true rfl) (ob_assign rfl (.tmp rfl)) fun a14 w14 s14 => ?_; clear s13
  refine seq_op s14 rfl rfl (of_decide_eq_true rfl) (ob_assign rfl (.tmp rfl)) fun a15 w15 s15 => ?_; clear s14
  refine wpList_nil ?_
  refine then_normal ?_
  refine hK2 _ _ ?_
  have s16 := s15.sub (.cons (t := 3) rfl (.cons (t := 6) rfl (.cons (t := 7) rfl .nil))); clear s15
  refine wp_seq_k fun K3 hK3 => ?_
  refine wp_seq_k fun K4 hK4 => ?_
  refine wp_region_lit ?_
  refine seq_op s16 rfl rfl (of_decide_eq_true rfl) (ob_move rfl (.tmp rfl)) fun a17 w17 s17 => ?_; clear s16
  refine seq_op s17 rfl rfl (of_decide_eq_true rfl) (ob_neq rfl (.tmp rfl) (opd_int rfl)) fun a18 w18 s18 => ?_; clear s17
  refine wpList_nil ?_
  refine then_normal ?_
  refine hK4 _ _ ?_
  have s19 := s18.sub (.cons (t := 3) rfl (.cons (t := 6) rfl (.cons (t := 7) rfl (.cons (t := 16) rfl .nil)))); clear s18
  refine cond_split s19 (.tmp rfl) (fun hc1 => ?_) (fun hc1 => ?_)
  · replace h1 := ite_t hc1 h1
    have h2 := h1; clear h1
    refine wp_seq_k fun K5 hK5 => ?_
    refine wp_region_lit ?_
    refine seq_op s19 rfl rfl (of_decide_eq_true rfl) (ob_move rfl (.tmp rfl)) fun a20 w20 s20 => ?_; clear s19
    refine seq_op s20 rfl rfl (of_decide_eq_true rfl) (ob_assign rfl opd_is) fun a21 w21 s21 => ?_; clear s20
    have s22 := St.adopt s21 (G := RowF (nilRow 34) 3 (kint .i64) []) rfl (rowNilN _ _ _ _ _); clear s21
    refine seq_op s22 rfl rfl (of_decide_eq_true rfl) (ob_assign rfl (.tmp rfl)) fun a23 w23 s23 => ?_; clear s22
    refine wpList_nil ?_
    refine then_normal ?_
    refine hK5 _ _ ?_
    have s24 := s23.sub (.cons (t := 4) rfl (.cons (t := 5) rfl .nil)); clear s23
    have s25 := St.drop (A := [_]) s24; clear s24
    refine wp_ret ?_
    obtain rfl := Option.some.inj h2
    exact leaveXD (D := []) (nilRow 34) s25 rfl (.inl rfl) rfl (.cons (.tmp rfl) (.cons (.tmp rfl) .nil)) rfl
  · replace h1 := ite_f hc1 h1
    have h3 := h1; clear h1
    refine wp_skip ?_
    refine then_normal ?_
    refine hK3 _ _ ?_
    have s26 := s19.sub (.cons (t := 3) rfl (.cons (t := 6) rfl .nil)); clear s19
    refine wp_seq_k fun K6 hK6 => ?_
    refine wp_region_lit ?_
    refine seq_op s26 rfl rfl (of_decide_eq_true rfl) (ob_move rfl (.tmp rfl)) fun a27 w27 s27 => ?_; clear s26
    obtain ⟨x2, e_x2, h4⟩ := bind_some h3; clear h3
    refine seq_opx (B' := (fun v1 : Value => [RowF v1 3 (kint .i64) x2, BF b1 44 k_api_Op p2])) s27 rfl rfl (of_decide_eq_true rfl) (ob_callL (args := [_]) (L := []) rfl .direct hb80 (List.Perm.refl _) (fun a w s fs gs hf hg => by obtain rfl := hf.unnil; obtain rfl := hg.unnil; exact c_slices_Clone_int_int k _ _ e_x2 _ _ _ (s.arg (.tmp rfl))) (by exact fun _ => rfl)) fun v1 a28 w28 s28 => ?_; clear s27
    refine seq_op s28 rfl rfl (of_decide_eq_true rfl) (ob_assign rfl (.tmp rfl)) fun a29 w29 s29 => ?_; clear s28
    refine wpList_nil ?_
    refine then_normal ?_
    refine hK6 _ _ ?_
    have s30 := s29.sub (.cons (t := 3) rfl (.cons (t := 8) rfl .nil)); clear s29
    refine wp_seq_k fun K7 hK7 => ?_
    refine wp_seq_k fun K8 hK8 => ?_
    refine wp_region_lit ?_
    refine seq_op s30 rfl rfl (of_decide_eq_true rfl) (ob_fieldAddr (off' := 3) rfl Try.underlying44 rfl sz3 (by decide) (.tmp rfl) rfl) fun a31 w31 s31 => ?_; clear s30
    refine seq_op s31 rfl rfl (of_decide_eq_true rfl) (ob_load rfl tk3 (.tmp rfl) (.tail _ (.head _)) (lg_api_Op_Kind p2)) fun a32 w32 s32 => ?_; clear s31
    refine seq_op s32 rfl rfl (of_decide_eq_true rfl) (ob_eql rfl (.tmp rfl) (opd_int rfl)) fun a33 w33 s33 => ?_; clear s32
    refine wpList_nil ?_
    refine then_normal ?_
    refine hK8 _ _ ?_
    have s34 := s33.sub (.cons (t := 3) rfl (.cons (t := 8) rfl (.cons (t := 22) rfl .nil))); clear s33
    have hj1 : ∀ (y1 : (List Int)) (v2 : Value) (a : Act) (w : World), (roster_To.j1 k p2) y1 = some r → St ⟨36, w0, ok, (idsOf [])⟩ [BF b1 44 k_api_Op p2, RowF v2 3 (kint .i64) y1] [(3, (ptrB b1 0)), (8, (is v2))] a w → K7 a w := by
      intro y1 v2 a35 w35 h5 s35
      unfold roster_To.j1 at h5
      refine hK7 _ _ ?_
      refine wp_seq_k fun K9 hK9 => ?_
      refine wp_region_lit ?_
      refine seq_op s35 rfl rfl (of_decide_eq_true rfl) (ob_move rfl (.tmp rfl)) fun a36 w36 s36 => ?_; clear s35
      obtain ⟨x3, e_x3, h6⟩ := bind_some h5; clear h5
      refine seq_opx (B' := (fun _ : Unit => [RowF v2 3 (kint .i64) x3, BF b1 44 k_api_Op p2])) s36 rfl rfl (of_decide_eq_true rfl) (ob_callL (args := [_]) (L := [_]) rfl .direct hb123 (toFront [_] (List.Perm.refl _)) (fun a w s fs gs hf hg => by obtain rfl := hf.unnil; obtain rfl := hg.unnil; exact c_slices_Sort_int_int k _ _ e_x3 _ _ _ _ (ownL s) (disL s) (nodL s) (s.arg (.tmp rfl))) (by exact fun _ => rfl)) fun _ a37 w37 s37 => ?_; clear s36
      refine wpList_nil ?_
      refine then_normal ?_
      refine hK9 _ _ ?_
      have s38 := s37.sub (.cons (t := 3) rfl (.cons (t := 8) rfl .nil)); clear s37
      refine wp_seq_k fun K10 hK10 => ?_
      refine wp_region_lit ?_
      refine seq_op s38 rfl rfl (of_decide_eq_true rfl) (ob_move rfl (.tmp rfl)) fun a39 w39 s39 => ?_; clear s38
      obtain ⟨x4, e_x4, h7⟩ := bind_some h6; clear h6
      refine seq_opx (B' := (fun v3 : Value => [RowF v3 3 (kint .i64) x4, BF b1 44 k_api_Op p2])) s39 rfl rfl (of_decide_eq_true rfl) (ob_callL (args := [_]) (L := [_]) rfl .direct hb125 (List.Perm.refl _) (fun a w s fs gs hf hg => by obtain rfl := hf.unnil; obtain rfl := hg.unnil; exact c_slices_Compact_int_int k _ _ e_x4 _ _ _ _ (ownL s) (disL s) (nodL s) (s.arg (.tmp rfl))) (by exact fun _ => rfl)) fun v3 a40 w40 s40 => ?_; clear s39
      refine seq_op s40 rfl rfl (of_decide_eq_true rfl) (ob_makeFn (xs := []) (ys := [_]) rfl .nil (.cons (.tmp rfl) .nil)) fun a41 w41 s41 => ?_; clear s40
      obtain ⟨x5, e_x5, h8⟩ := bind_some h7; clear h7
      refine seq_opx (B' := (fun v4 : Value => [BF b1 44 k_api_Op p2, RowF v4 3 (kint .i64) x5])) s41 rfl rfl (of_decide_eq_true rfl) ((ob_lendX (L := [_]) (toFront [_] (List.Perm.refl _)) (.cons (t := 34) rfl (lendClo .nil (.cons (lendPtrB (.head _) (LG.refl _ _)) .nil)) .nil) (fun _ => (Flat.res1 Flat.is)) (fun _ => (.cons (FlatO.row (KFlat.int _)) FlatL.nil)) (fun _ _ => ob_callL (args := [_, _]) (L := [_]) (D := []) rfl .direct hb124 (List.Perm.refl _) (fun a w s fs gs hf hg => by obtain rfl := hf.unnil; obtain rfl := hg.unnil; exact c_slices_DeleteFunc_int_int_roster_To_1 k _ _ _ e_x5 _ _ _ _ _ (ownL s) (disL s) (nodL s) (s.arg (.tmp rfl)) (s.arg (.tmp rfl))) (by exact fun _ => rfl)))) fun v4 a42 w42 s42 => ?_; clear s41
      refine seq_op s42 rfl rfl (of_decide_eq_true rfl) (ob_assign rfl (.tmp rfl)) fun a43 w43 s43 => ?_; clear s42
      refine seq_op s43 rfl rfl (of_decide_eq_true rfl) (ob_assign rfl (opd_int rfl)) fun a44 w44 s44 => ?_; clear s43
      refine wpList_nil ?_
      refine then_normal ?_
      refine hK10 _ _ ?_
      have s45 := s44.sub (.cons (t := 4) rfl (.cons (t := 5) rfl .nil)); clear s44
      have s46 := St.drop (A := []) s45; clear s45
      refine wp_ret ?_
      obtain rfl := Option.some.inj h8
      exact leaveXD (D := []) v4 s46 rfl (.inl rfl) rfl (.cons (.tmp rfl) (.cons (.tmp rfl) .nil)) rfl
    refine cond_split s34 (.tmp rfl) (fun hc2 => ?_) (fun hc2 => ?_)
    · replace h4 := ite_t hc2 h4
      have h9 := h4; clear h4
      refine wp_region_lit ?_
      refine seq_op s34 rfl rfl (of_decide_eq_true rfl) (ob_move rfl (.tmp rfl)) fun a47 w47 s47 => ?_; clear s34
      refine seq_op s47 rfl rfl (of_decide_eq_true rfl) (ob_fieldAddr (off' := 4) rfl Try.underlying44 rfl sz41 (by decide) (.tmp rfl) rfl) fun a48 w48 s48 => ?_; clear s47
      refine seq_op s48 rfl rfl (of_decide_eq_true rfl) (ob_load rfl tk41 (.tmp rfl) (.tail _ (.head _)) (lg_api_Op_Who p2)) fun a49 w49 s49 => ?_; clear s48
      obtain ⟨x6, e_x6, h10⟩ := bind_some h9; clear h9
      refine seq_op s49 rfl rfl (of_decide_eq_true rfl) (ob_indexAddrs rfl Try.underlying41 sz3 (.tmp rfl) (opd_int rfl) e_x6) fun a50 w50 s50 => ?_; clear s49
      refine seq_op s50 rfl rfl (of_decide_eq_true rfl) (ob_loadr rfl tk3 (.tmp rfl)) fun a51 w51 s51 => ?_; clear s50
      refine seq_op s51 rfl rfl (of_decide_eq_true rfl) (ob_mkSlice (k := (kint .i64)) (xs := ([x6] : (List Int))) rfl Try.underlying41 zz3 sz3 (Zr.int .i64) (by decide) (by decide) (.cons (.tmp rfl) rfl (LS.arr' (i := 0) (ys := ([x6] : (List Int))) (by simp) (by rfl)) (.nil _))) fun a52 w52 s52 => ?_; clear s51
      obtain ⟨g1, h11⟩ := guard_some h10; clear h10
      refine seq_opx (B' := (fun v5 : Value => [RowF v5 3 (kint .i64) (x2 ++ ([x6] : (List Int))), BF b1 44 k_api_Op p2])) s52 rfl rfl (of_decide_eq_true rfl) (ob_appendL2 (A := []) rfl Try.underlying41 ap3 (Zr.int .i64) (by decide) (.tmp rfl) (.tmp rfl) rfl g1) fun v5 a53 w53 s53 => ?_; clear s52
      refine seq_op s53 rfl rfl (of_decide_eq_true rfl) (ob_assign rfl (.tmp rfl)) fun a54 w54 s54 => ?_; clear s53
      refine wpList_nil ?_
      refine then_normal ?_
      have s55 := s54.perm (toFront [_] (toFront [] (List.Perm.refl _))); clear s54
      exact hj1 (x2 ++ ([x6] : (List Int))) v5 _ _ h11 (s55.sub (.cons rfl (.cons rfl .nil)))
    · replace h4 := ite_f hc2 h4
      have h12 := h4; clear h4
      refine wp_skip ?_
      refine then_normal ?_
      have s56 := s34.perm (toFront [_] (toFront [] (List.Perm.refl _))); clear s34
      exact hj1 x2 v1 _ _ h12 (s56.sub (.cons rfl (.cons rfl .nil)))

/- 56 cabal/cabalref15.Find -/
theorem c_cabalref15_Find (k : Nat) (p1 : (List api_Node)) (p2 : (List Int)) (r : Int) (h0 : cabalref15_Find k p1 p2 = some r) (ok : Ok) (w0 : World) (z0 : Value) (z1 : Value) (u0 : ((ksl k_api_Node).V p1).holds ok w0 z0) (u1 : ((karr 32 (kint .u8)).V p2).holds ok w0 z1) :
    Gives Try.prog 56 [z0, z1] ok w0 (resFact [(kint .i64).V r]) := by
  unfold cabalref15_Find at h0
  refine enter (N := 20) Try.func56 rfl rfl (of_decide_eq_true rfl) (.cons u0 (.cons u1 .nil)) fun a1 s1 => ?_
  refine wp_seq_k fun K1 hK1 => ?_
  refine wp_region_lit ?_
  refine seq_opx (B' := (fun b1 : Nat => [BF b1 39 (karr 32 (kint .u8)) p2])) s1 rfl rfl (of_decide_eq_true rfl) (ob_box rfl (.tmp rfl)) fun b1 a2 w2 s2 => ?_; clear s1
  refine seq_op s2 rfl rfl (of_decide_eq_true rfl) (ob_assign rfl (opd_int rfl)) fun a3 w3 s3 => ?_; clear s2
  refine wpList_nil ?_
  refine then_normal ?_
  refine hK1 _ _ ?_
  have s4 := s3.sub (.cons (t := 0) rfl (.cons (t := 3) rfl .nil)); clear s3
  refine wp_seq_k fun K2 hK2 => ?_
  refine wp_seq_k fun K3 hK3 => ?_
  refine wp_region_lit ?_
  refine seq_op s4 rfl rfl (of_decide_eq_true rfl) (ob_assign rfl (opd_int rfl)) fun a5 w5 s5 => ?_; clear s4
  refine wpList_nil ?_
  refine then_normal ?_
  refine hK3 _ _ ?_
  have s6 := s5.sub (.cons (t := 0) rfl (.cons (t := 3) rfl (.cons (t := 5) rfl .nil))); clear s5
  have hj1 : ∀ (a : Act) (w : World), (cabalref15_Find.j1 k) = some r → St ⟨20, w0, ok, []⟩ [] [] a w → K2 a w := by
    intro a7 w7 h1 s7
    unfold cabalref15_Find.j1 at h1
    refine hK2 _ _ ?_
    refine wp_seq_k fun K4 hK4 => ?_
    refine wp_region_lit ?_
    refine seq_op s7 rfl rfl (of_decide_eq_true rfl) (ob_assign rfl (opd_int rfl)) fun a8 w8 s8 => ?_; clear s7
    refine wpList_nil ?_
    refine then_normal ?_
    refine hK4 _ _ ?_
    have s9 := s8.sub (.cons (t := 4) rfl .nil); clear s8
    refine wp_ret ?_
    obtain rfl := Option.some.inj h1
    exact leave s9 (.inl rfl) rfl (.cons (.tmp rfl) .nil)
  refine wp_block ?_
  refine wp_loop_fuel (fun m (q : Int) => cabalref15_Find.l1 k p1 p2 m q) r (fun _ => rfl) (fun q a w => St ⟨20, w0, ok, []⟩ [BF b1 39 (karr 32 (kint .u8)) p2] [(0, ((ksl k_api_Node).V p1)), (3, (ptrB b1 0)), (5, ((kint .i64).V q))] a w) ?_ k (0 : Int) _ _ h0 (s6.sub (.cons rfl (.cons rfl (.cons rfl .nil))))
  rintro n1 y1 a10 w10 h2 s10 K5 hK5
  replace h2 : cabalref15_Find.l1 k p1 p2 (n1 + 1) y1 = some r := h2; rw [cabalref15_Find.l1] at h2
  have h3 := h2; clear h2
  refine wp_seq_k fun K6 hK6 => ?_
  refine wp_seq_k fun K7 hK7 => ?_
  refine wp_region_lit ?_
  refine seq_op s10 rfl rfl (of_decide_eq_true rfl) (ob_move rfl (.tmp rfl)) fun a11 w11 s11 => ?_; clear s10
  refine seq_op s11 rfl rfl (of_decide_eq_true rfl) (ob_move rfl (.tmp rfl)) fun a12 w12 s12 => ?_; clear s11
  refine seq_op s12 rfl rfl (of_decide_eq_true rfl) (ob_lens rfl Try.underlying22 (.tmp rfl)) fun a13 w13 s13 => ?_; clear s12
  refine seq_op s13 rfl rfl (of_decide_eq_true rfl) (ob_lss rfl (.tmp rfl) (.tmp rfl)) fun a14 w14 s14 => ?_; clear s13
  refine wpList_nil ?_
  refine then_normal ?_
  refine hK7 _ _ ?_
  have s15 := s14.sub (.cons (t := 0) rfl (.cons (t := 3) rfl (.cons (t := 5) rfl (.cons (t := 9) rfl .nil)))); clear s14
  refine cond_split s15 (.tmp rfl) (fun hc1 => ?_) (fun hc1 => ?_)
  · replace h3 := ite_t hc1 h3
    have h4 := h3; clear h3
    refine wp_skip ?_
    refine then_normal ?_
    refine hK6 _ _ ?_
    have s16 := s15.sub (.cons (t := 0) rfl (.cons (t := 3) rfl (.cons (t := 5) rfl .nil))); clear s15
    refine wp_seq_k fun K8 hK8 => ?_
    refine wp_block ?_
    refine wp_seq_k fun K9 hK9 => ?_
    obtain ⟨x1, e_x1, h5⟩ := bind_some h4; clear h4
    refine wp_goes (Fs := [((ksl k_api_Node).V p1), ((kint .i64).V y1), (ptrTo k_api_Node x1), (ptrTo (karr 32 (kint .u8)) x1.Id), ((karr 32 (kint .u8)).V x1.Id), ((karr 32 (kint .u8)).V p2)]) (bits := [0, 0, 3, 7, 15, 0, 63]) (m := 6) (todo := 0) mx s16 ?_; clear s16
    refine goes_last (by kernel_rfl) rfl (opsS_cons (.plain _ (Av.old (t := 0) rfl rfl Av.nil) rfl rfl (ob_move rfl (.tmp rfl))) (opsS_cons (.plain _ (Av.old (t := 5) rfl rfl Av.nil) rfl rfl (ob_move rfl (.tmp rfl))) (opsS_cons (.plain _ (Av.new (j := 0) rfl rfl rfl (Av.new (j := 1) rfl rfl rfl Av.nil)) rfl rfl (ob_indexAddrs rfl Try.underlying22 sz46 (.tmp rfl) (.tmp rfl) e_x1)) (opsS_cons (.plain _ (Av.new (j := 2) rfl rfl rfl Av.nil) rfl rfl (ob_fieldAddrr rfl Try.underlying46 rfl sz39 (by decide) (.tmp rfl) (lg_api_Node_Id x1))) (opsS_cons (.plain _ (Av.new (j := 3) rfl rfl rfl Av.nil) rfl rfl (ob_loadr rfl tk39 (.tmp rfl))) (opsS_cons (.plain _ (Av.old (t := 3) rfl rfl Av.nil) rfl rfl (ob_load rfl tk39 (.tmp rfl) (.head _) (LG.refl _ _))) opsS_nil)))))) (out_old (t := 0) rfl rfl (out_old (t := 3) rfl rfl (out_old (t := 5) rfl rfl (out_new (i := 4) (by decide) rfl rfl (out_new (i := 5) (by decide) rfl rfl out_nil))))) fun a17 w17 s17 => ?_
    refine seq_op s17 rfl rfl (of_decide_eq_true rfl) (ob_eqAgg rfl rfl (by kernel_rfl) eq39 (by decide) (.tmp rfl) (.tmp rfl)) fun a18 w18 s18 => ?_; clear s17
    refine wpList_nil ?_
    refine then_normal ?_
    refine hK9 _ _ ?_
    have s19 := s18.sub (.cons (t := 0) rfl (.cons (t := 3) rfl (.cons (t := 5) rfl (.cons (t := 18) rfl .nil)))); clear s18
    refine cond_split s19 (.tmp rfl) (fun hc2 => ?_) (fun hc2 => ?_)
    · replace h5 := ite_t hc2 h5
      have h6 := h5; clear h5
      refine wp_seq_k fun K10 hK10 => ?_
      refine wp_region_lit ?_
      refine seq_op s19 rfl rfl (of_decide_eq_true rfl) (ob_move rfl (.tmp rfl)) fun a20 w20 s20 => ?_; clear s19
      refine seq_op s20 rfl rfl (of_decide_eq_true rfl) (ob_assign rfl (.tmp rfl)) fun a21 w21 s21 => ?_; clear s20
      refine wpList_nil ?_
      refine then_normal ?_
      refine hK10 _ _ ?_
      have s22 := s21.sub (.cons (t := 4) rfl .nil); clear s21
      have s23 := St.drop (A := []) s22; clear s22
      refine wp_ret ?_
      obtain rfl := Option.some.inj h6
      exact leave s23 (.inl rfl) rfl (.cons (.tmp rfl) .nil)
    · replace h5 := ite_f hc2 h5
      have h7 := h5; clear h5
      refine wp_skip ?_
      refine in_normal ?_
      refine then_normal ?_
      refine hK8 _ _ ?_
      have s24 := s19.sub (.cons (t := 0) rfl (.cons (t := 3) rfl (.cons (t := 5) rfl .nil))); clear s19
      refine wp_region_lit ?_
      refine seq_op s24 rfl rfl (of_decide_eq_true rfl) (ob_move rfl (.tmp rfl)) fun a25 w25 s25 => ?_; clear s24
      refine seq_op s25 rfl rfl (of_decide_eq_true rfl) (ob_add rfl (.tmp rfl) (opd_int rfl)) fun a26 w26 s26 => ?_; clear s25
      refine seq_op s26 rfl rfl (of_decide_eq_true rfl) (ob_assign rfl (.tmp rfl)) fun a27 w27 s27 => ?_; clear s26
      refine wpList_nil ?_
      refine then_normal ?_
      exact hK5 (iadd .i64 y1 (1 : Int)) _ _ h7 (s27.sub (.cons rfl (.cons rfl (.cons rfl .nil))))
  · replace h3 := ite_f hc1 h3
    have h8 := h3; clear h3
    refine wp_exit ?_
    refine (then_exit (then_exit (in_here ?_)))
    refine then_normal ?_
    have s28 := St.drop (A := []) s15; clear s15
    exact hj1 _ _ h8 (s28.sub .nil)

/- 44 cabal/cabalref15.In -/
theorem c_cabalref15_In (k : Nat) (p1 : (List Int)) (p2 : Int) (r : Bool) (h0 : cabalref15_In k p1 p2 = some r) (ok : Ok) (w0 : World) (z0 : Value) (z1 : Value) (u0 : ((ksl (kint .i64)).V p1).holds ok w0 z0) (u1 : ((kint .i64).V p2).holds ok w0 z1) :
    Gives Try.prog 44 [z0, z1] ok w0 (resFact [kbool.V r]) := by
  unfold cabalref15_In at h0
  refine enter (N := 18) Try.func44 rfl rfl (of_decide_eq_true rfl) (.cons u0 (.cons u1 .nil)) fun a1 s1 => ?_
  refine wp_seq_k fun K1 hK1 => ?_
  refine wp_region_lit ?_
  refine seq_op s1 rfl rfl (of_decide_eq_true rfl) (ob_assign rfl opd_bool) fun a2 w2 s2 => ?_; clear s1
  refine wpList_nil ?_
  refine then_normal ?_
  refine hK1 _ _ ?_
  have s3 := s2.sub (.cons (t := 0) rfl (.cons (t := 1) rfl .nil)); clear s2
  refine wp_seq_k fun K2 hK2 => ?_
  refine wp_seq_k fun K3 hK3 => ?_
  refine wp_region_lit ?_
  refine seq_op s3 rfl rfl (of_decide_eq_true rfl) (ob_assign rfl (opd_int rfl)) fun a4 w4 s4 => ?_; clear s3
  refine wpList_nil ?_
  refine then_normal ?_
  refine hK3 _ _ ?_
  have s5 := s4.sub (.cons (t := 0) rfl (.cons (t := 1) rfl (.cons (t := 5) rfl .nil))); clear s4
  have hj1 : ∀ (a : Act) (w : World), (cabalref15_In.j1 k) = some r → St ⟨18, w0, ok, []⟩ [] [] a w → K2 a w := by
    intro a6 w6 h1 s6
    unfold cabalref15_In.j1 at h1
    refine hK2 _ _ ?_
    refine wp_seq_k fun K4 hK4 => ?_
    refine wp_region_lit ?_
    refine seq_op s6 rfl rfl (of_decide_eq_true rfl) (ob_assign rfl opd_bool) fun a7 w7 s7 => ?_; clear s6
    refine wpList_nil ?_
    refine then_normal ?_
    refine hK4 _ _ ?_
    have s8 := s7.sub (.cons (t := 4) rfl .nil); clear s7
    refine wp_ret ?_
    obtain rfl := Option.some.inj h1
    exact leave s8 (.inl rfl) rfl (.cons (.tmp rfl) .nil)
  refine wp_block ?_
  refine wp_loop_fuel (fun m (q : Int) => cabalref15_In.l1 k p1 p2 m q) r (fun _ => rfl) (fun q a w => St ⟨18, w0, ok, []⟩ [] [(0, ((ksl (kint .i64)).V p1)), (1, ((kint .i64).V p2)), (5, ((kint .i64).V q))] a w) ?_ k (0 : Int) _ _ h0 (s5.sub (.cons rfl (.cons rfl (.cons rfl .nil))))
  rintro n1 y1 a9 w9 h2 s9 K5 hK5
  replace h2 : cabalref15_In.l1 k p1 p2 (n1 + 1) y1 = some r := h2; rw [cabalref15_In.l1] at h2
  have h3 := h2; clear h2
  refine wp_seq_k fun K6 hK6 => ?_
  refine wp_seq_k fun K7 hK7 => ?_
  refine wp_region_lit ?_
  refine seq_op s9 rfl rfl (of_decide_eq_true rfl) (ob_move rfl (.tmp rfl)) fun a10 w10 s10 => ?_; clear s9
  refine seq_op s10 rfl rfl (of_decide_eq_true rfl) (ob_move rfl (.tmp rfl)) fun a11 w11 s11 => ?_; clear s10
  refine seq_op s11 rfl rfl (of_decide_eq_true rfl) (ob_lens rfl Try.underlying41 (.tmp rfl)) fun a12 w12 s12 => ?_; clear s11
  refine seq_op s12 rfl rfl (of_decide_eq_true rfl) (ob_lss rfl (.tmp rfl) (.tmp rfl)) fun a13 w13 s13 => ?_; clear s12
  refine wpList_nil ?_
  refine then_normal ?_
  refine hK7 _ _ ?_
  have s14 := s13.sub (.cons (t := 0) rfl (.cons (t := 1) rfl (.cons (t := 5) rfl (.cons (t := 9) rfl .nil)))); clear s13
  refine cond_split s14 (.tmp rfl) (fun hc1 => ?_) (fun hc1 => ?_)
  · replace h3 := ite_t hc1 h3
    have h4 := h3; clear h3
    refine wp_skip ?_
    refine then_normal ?_
    refine hK6 _ _ ?_
    have s15 := s14.sub (.cons (t := 0) rfl (.cons (t := 1) rfl (.cons (t := 5) rfl .nil))); clear s14
    refine wp_seq_k fun K8 hK8 => ?_
    refine wp_block ?_
    refine wp_seq_k fun K9 hK9 => ?_
    refine wp_region_lit ?_
    refine seq_op s15 rfl rfl (of_decide_eq_true rfl) (ob_move rfl (.tmp rfl)) fun a16 w16 s16 => ?_; clear s15
    refine seq_op s16 rfl rfl (of_decide_eq_true rfl) (ob_move rfl (.tmp rfl)) fun a17 w17 s17 => ?_; clear s16
    obtain ⟨x1, e_x1, h5⟩ := bind_some h4; clear h4
    refine seq_op s17 rfl rfl (of_decide_eq_true rfl) (ob_indexAddrs rfl Try.underlying41 sz3 (.tmp rfl) (.tmp rfl) e_x1) fun a18 w18 s18 => ?_; clear s17
    refine seq_op s18 rfl rfl (of_decide_eq_true rfl) (ob_loadr rfl tk3 (.tmp rfl)) fun a19 w19 s19 => ?_; clear s18
    refine seq_op s19 rfl rfl (of_decide_eq_true rfl) (ob_move rfl (.tmp rfl)) fun a20 w20 s20 => ?_; clear s19
    refine seq_op s20 rfl rfl (of_decide_eq_true rfl) (ob_eql rfl (.tmp rfl) (.tmp rfl)) fun a21 w21 s21 => ?_; clear s20
    refine wpList_nil ?_
    refine then_normal ?_
    refine hK9 _ _ ?_
    have s22 := s21.sub (.cons (t := 0) rfl (.cons (t := 1) rfl (.cons (t := 5) rfl (.cons (t := 17) rfl .nil)))); clear s21
    refine cond_split s22 (.tmp rfl) (fun hc2 => ?_) (fun hc2 => ?_)
    · replace h5 := ite_t hc2 h5
      have h6 := h5; clear h5
      refine wp_seq_k fun K10 hK10 => ?_
      refine wp_region_lit ?_
      refine seq_op s22 rfl rfl (of_decide_eq_true rfl) (ob_assign rfl opd_bool) fun a23 w23 s23 => ?_; clear s22
      refine wpList_nil ?_
      refine then_normal ?_
      refine hK10 _ _ ?_
      have s24 := s23.sub (.cons (t := 4) rfl .nil); clear s23
      refine wp_ret ?_
      obtain rfl := Option.some.inj h6
      exact leave s24 (.inl rfl) rfl (.cons (.tmp rfl) .nil)
    · replace h5 := ite_f hc2 h5
      have h7 := h5; clear h5
      refine wp_skip ?_
      refine in_normal ?_
      refine then_normal ?_
      refine hK8 _ _ ?_
      have s25 := s22.sub (.cons (t := 0) rfl (.cons (t := 1) rfl (.cons (t := 5) rfl .nil))); clear s22
      refine wp_region_lit ?_
      refine seq_op s25 rfl rfl (of_decide_eq_true rfl) (ob_move rfl (.tmp rfl)) fun a26 w26 s26 => ?_; clear s25
      refine seq_op s26 rfl rfl (of_decide_eq_true rfl) (ob_add rfl (.tmp rfl) (opd_int rfl)) fun a27 w27 s27 => ?_; clear s26
      refine seq_op s27 rfl rfl (of_decide_eq_true rfl) (ob_assign rfl (.tmp rfl)) fun a28 w28 s28 => ?_; clear s27
      refine wpList_nil ?_
      refine then_normal ?_
      exact hK5 (iadd .i64 y1 (1 : Int)) _ _ h7 (s28.sub (.cons rfl (.cons rfl (.cons rfl .nil))))
  · replace h3 := ite_f hc1 h3
    have h8 := h3; clear h3
    refine wp_exit ?_
    refine (then_exit (then_exit (in_here ?_)))
    refine then_normal ?_
    exact hj1 _ _ h8 (s14.sub .nil)

/- 55 cabal/cabalref15.Past -/
theorem c_cabalref15_Past (k : Nat) (p1 : (List api_Node)) (p2 : (List (List Int))) (r : ((List Int) × Bool)) (h0 : cabalref15_Past k p1 p2 = some r) (ok : Ok) (w0 : World) (z0 : Value) (z1 : Value) (u0 : ((ksl k_api_Node).V p1).holds ok w0 z0) (u1 : ((ksl (karr 32 (kint .u8))).V p2).holds ok w0 z1) :
    GivesX Try.prog 55 [z0, z1] ok w0 [] (fun g : Value => resFact [is g, kbool.V r.2]) (fun g : Value => [RowF (g) 3 (kint .i64) r.1]) := by
  unfold cabalref15_Past at h0
  refine enterX (N := 64) Try.func55 rfl rfl (of_decide_eq_true rfl) (.cons u0 (.cons u1 .nil)) List.nodup_nil (fun _ h => by cases h) (fun _ h => by cases h) fun a1 s1 => ?_
  refine wp_seq_k fun K1 hK1 => ?_
  refine wp_region_lit ?_
  refine seq_op s1 rfl rfl (of_decide_eq_true rfl) (ob_assign rfl opd_is) fun a2 w2 s2 => ?_; clear s1
  have s3 := St.adopt s2 (G := RowF (nilRow 37) 3 (kint .i64) []) rfl (rowNilN _ _ _ _ _); clear s2
  refine seq_op s3 rfl rfl (of_decide_eq_true rfl) (ob_assign rfl opd_bool) fun a4 w4 s4 => ?_; clear s3
  refine wpList_nil ?_
  refine then_normal ?_
  refine hK1 _ _ ?_
  have s5 := s4.sub (.cons (t := 0) rfl (.cons (t := 1) rfl .nil)); clear s4
  have s6 := St.drop (A := []) s5; clear s5
  refine wp_seq_k fun K2 hK2 => ?_
  refine wp_seq_k fun K3 hK3 => ?_
  refine wp_region_lit ?_
  refine seq_op s6 rfl rfl (of_decide_eq_true rfl) (ob_assign rfl (opd_int rfl)) fun a7 w7 s7 => ?_; clear s6
  refine wpList_nil ?_
  refine then_normal ?_
  refine hK3 _ _ ?_
  have s8 := s7.sub (.cons (t := 0) rfl (.cons (t := 1) rfl (.cons (t := 6) rfl .nil))); clear s7
  have hj1 : ∀ (a : Act) (w : World), (cabalref15_Past.j1 k p1 p2) = some r → St ⟨64, w0, ok, (idsOf [])⟩ [] [(0, ((ksl k_api_Node).V p1)), (1, ((ksl (karr 32 (kint .u8))).V p2))] a w → K2 a w := by
    intro a9 w9 h1 s9
    unfold cabalref15_Past.j1 at h1
    refine hK2 _ _ ?_
    refine wp_seq_k fun K4 hK4 => ?_
    refine wp_region_lit ?_
    refine seq_op s9 rfl rfl (of_decide_eq_true rfl) (ob_assign rfl opd_is) fun a10 w10 s10 => ?_; clear s9
    have s11 := St.adopt s10 (G := RowF (nilRow 39) 3 (kint .i64) []) rfl (rowNilN _ _ _ _ _); clear s10
    refine wpList_nil ?_
    refine then_normal ?_
    refine hK4 _ _ ?_
    have s12 := s11.sub (.cons (t := 0) rfl (.cons (t := 1) rfl (.cons (t := 7) rfl .nil))); clear s11
    refine wp_seq_k fun K5 hK5 => ?_
    refine wp_seq_k fun K6 hK6 => ?_
    refine wp_region_lit ?_
    refine seq_op s12 rfl rfl (of_decide_eq_true rfl) (ob_assign rfl (opd_int rfl)) fun a13 w13 s13 => ?_; clear s12
    refine wpList_nil ?_
    refine then_normal ?_
    refine hK6 _ _ ?_
    have s14 := s13.sub (.cons (t := 0) rfl (.cons (t := 1) rfl (.cons (t := 7) rfl (.cons (t := 8) rfl .nil)))); clear s13
    have hj2 : ∀ (y1 : (List Int)) (v1 : Value) (a : Act) (w : World), (cabalref15_Past.j2 k) y1 = some r → St ⟨64, w0, ok, (idsOf [])⟩ [RowF v1 3 (kint .i64) y1] [(7, (is v1))] a w → K5 a w := by
      intro y1 v1 a15 w15 h2 s15
      unfold cabalref15_Past.j2 at h2
      refine hK5 _ _ ?_
      refine wp_seq_k fun K7 hK7 => ?_
      refine wp_region_lit ?_
      refine seq_op s15 rfl rfl (of_decide_eq_true rfl) (ob_move rfl (.tmp rfl)) fun a16 w16 s16 => ?_; clear s15
      refine seq_op s16 rfl rfl (of_decide_eq_true rfl) (ob_assign rfl (.tmp rfl)) fun a17 w17 s17 => ?_; clear s16
      refine seq_op s17 rfl rfl (of_decide_eq_true rfl) (ob_assign rfl opd_bool) fun a18 w18 s18 => ?_; clear s17
      refine wpList_nil ?_
      refine then_normal ?_
      refine hK7 _ _ ?_
      have s19 := s18.sub (.cons (t := 4) rfl (.cons (t := 5) rfl .nil)); clear s18
      refine wp_ret ?_
      obtain rfl := Option.some.inj h2
      exact leaveXD (D := []) v1 s19 rfl (.inl rfl) rfl (.cons (.tmp rfl) (.cons (.tmp rfl) .nil)) rfl
    refine wp_block ?_
    refine wp_loop_fuel (fun m (q : Int × (List Int)) => cabalref15_Past.l1 k p1 p2 m q.1 q.2) r (fun _ => rfl) (fun q a w => ∃ (v2 : Value), St ⟨64, w0, ok, (idsOf [])⟩ [RowF v2 3 (kint .i64) q.2] [(0, ((ksl k_api_Node).V p1)), (1, ((ksl (karr 32 (kint .u8))).V p2)), (7, (is v2)), (8, ((kint .i64).V q.1))] a w) ?_ k ((0 : Int), ([] : (List Int))) _ _ h1 ⟨(nilRow 39), (s14.sub (.cons rfl (.cons rfl (.cons rfl (.cons rfl .nil)))))⟩
    rintro n1 ⟨y2, y3⟩ a20 w20 h3 ⟨v2, s20⟩ K8 hK8
    replace h3 : cabalref15_Past.l1 k p1 p2 (n1 + 1) y2 y3 = some r := h3; rw [cabalref15_Past.l1] at h3
    have h4 := h3; clear h3
    refine wp_seq_k fun K9 hK9 => ?_
    refine wp_seq_k fun K10 hK10 => ?_
    refine wp_region_lit ?_
    refine seq_op s20 rfl rfl (of_decide_eq_true rfl) (ob_move rfl (.tmp rfl)) fun a21 w21 s21 => ?_; clear s20
    refine seq_op s21 rfl rfl (of_decide_eq_true rfl) (ob_move rfl (.tmp rfl)) fun a22 w22 s22 => ?_; clear s21
    refine seq_op s22 rfl rfl (of_decide_eq_true rfl) (ob_lens rfl Try.underlying22 (.tmp rfl)) fun a23 w23 s23 => ?_; clear s22
    refine seq_op s23 rfl rfl (of_decide_eq_true rfl) (ob_lss rfl (.tmp rfl) (.tmp rfl)) fun a24 w24 s24 => ?_; clear s23
    refine wpList_nil ?_
    refine then_normal ?_
    refine hK10 _ _ ?_
    have s25 := s24.sub (.cons (t := 0) rfl (.cons (t := 1) rfl (.cons (t := 7) rfl (.cons (t := 8) rfl (.cons (t := 28) rfl .nil))))); clear s24
    refine cond_split s25 (.tmp rfl) (fun hc1 => ?_) (fun hc1 => ?_)
    · replace h4 := ite_t hc1 h4
      have h5 := h4; clear h4
      refine wp_skip ?_
      refine then_normal ?_
      refine hK9 _ _ ?_
      have s26 := s25.sub (.cons (t := 0) rfl (.cons (t := 1) rfl (.cons (t := 7) rfl (.cons (t := 8) rfl .nil)))); clear s25
      refine wp_seq_k fun K11 hK11 => ?_
      have hj3 : ∀ (y4 : (List Int)) (v3 : Value) (a : Act) (w : World), (cabalref15_Past.j3 k y2 (cabalref15_Past.l1 k p1 p2 n1)) y4 = some r → St ⟨64, w0, ok, (idsOf [])⟩ [RowF v3 3 (kint .i64) y4] [(0, ((ksl k_api_Node).V p1)), (1, ((ksl (karr 32 (kint .u8))).V p2)), (7, (is v3)), (8, ((kint .i64).V y2))] a w → K11 a w := by
        intro y4 v3 a27 w27 h6 s27
        unfold cabalref15_Past.j3 at h6
        refine hK11 _ _ ?_
        refine wp_region_lit ?_
        refine seq_op s27 rfl rfl (of_decide_eq_true rfl) (ob_move rfl (.tmp rfl)) fun a28 w28 s28 => ?_; clear s27
        refine seq_op s28 rfl rfl (of_decide_eq_true rfl) (ob_add rfl (.tmp rfl) (opd_int rfl)) fun a29 w29 s29 => ?_; clear s28
        refine seq_op s29 rfl rfl (of_decide_eq_true rfl) (ob_assign rfl (.tmp rfl)) fun a30 w30 s30 => ?_; clear s29
        refine wpList_nil ?_
        refine then_normal ?_
        exact hK8 ((iadd .i64 y2 (1 : Int)), y4) _ _ h6 ⟨v3, (s30.sub (.cons rfl (.cons rfl (.cons rfl (.cons rfl .nil)))))⟩
      refine wp_block ?_
      refine wp_seq_k fun K12 hK12 => ?_
      refine wp_region_lit ?_
      refine seq_op s26 rfl rfl (of_decide_eq_true rfl) (ob_assign rfl opd_bool) fun a31 w31 s31 => ?_; clear s26
      refine wpList_nil ?_
      refine then_normal ?_
      refine hK12 _ _ ?_
      have s32 := s31.sub (.cons (t := 0) rfl (.cons (t := 1) rfl (.cons (t := 7) rfl (.cons (t := 8) rfl (.cons (t := 9) rfl .nil))))); clear s31
      refine wp_seq_k fun K13 hK13 => ?_
      refine wp_seq_k fun K14 hK14 => ?_
      refine wp_region_lit ?_
      refine seq_op s32 rfl rfl (of_decide_eq_true rfl) (ob_assign rfl (opd_int rfl)) fun a33 w33 s33 => ?_; clear s32
      refine wpList_nil ?_
      refine then_normal ?_
      refine hK14 _ _ ?_
      have s34 := s33.sub (.cons (t := 0) rfl (.cons (t := 1) rfl (.cons (t := 7) rfl (.cons (t := 8) rfl (.cons (t := 9) rfl (.cons (t := 10) rfl .nil)))))); clear s33
      have hj4 : ∀ (y5 : Bool) (a : Act) (w : World), (cabalref15_Past.j4 k y3 y2 (cabalref15_Past.l1 k p1 p2 n1)) y5 = some r → St ⟨64, w0, ok, (idsOf [])⟩ [RowF v2 3 (kint .i64) y3] [(0, ((ksl k_api_Node).V p1)), (1, ((ksl (karr 32 (kint .u8))).V p2)), (7, (is v2)), (8, ((kint .i64).V y2)), (9, (kbool.V y5))] a w → K13 a w := by
        intro y5 a35 w35 h7 s35
        unfold cabalref15_Past.j4 at h7
        refine hK13 _ _ ?_
        refine wp_seq_k fun K15 hK15 => ?_
        refine wp_region_lit ?_
        refine seq_op s35 rfl rfl (of_decide_eq_true rfl) (ob_move rfl (.tmp rfl)) fun a36 w36 s36 => ?_; clear s35
        refine wpList_nil ?_
        refine then_normal ?_
        refine hK15 _ _ ?_
        have s37 := s36.sub (.cons (t := 0) rfl (.cons (t := 1) rfl (.cons (t := 7) rfl (.cons (t := 8) rfl (.cons (t := 58) rfl .nil))))); clear s36
        refine cond_split s37 (.tmp rfl) (fun hc2 => ?_) (fun hc2 => ?_)
        · replace h7 := ite_t hc2 h7
          have h8 := h7; clear h7
          refine wp_region_lit ?_
          refine seq_op s37 rfl rfl (of_decide_eq_true rfl) (ob_move rfl (.tmp rfl)) fun a38 w38 s38 => ?_; clear s37
          refine seq_op s38 rfl rfl (of_decide_eq_true rfl) (ob_move rfl (.tmp rfl)) fun a39 w39 s39 => ?_; clear s38
          refine seq_op s39 rfl rfl (of_decide_eq_true rfl) (ob_mkSlice (k := (kint .i64)) (xs := ([y2] : (List Int))) rfl Try.underlying41 zz3 sz3 (Zr.int .i64) (by decide) (by decide) (.cons (.tmp rfl) rfl (LS.arr' (i := 0) (ys := ([y2] : (List Int))) (by simp) (by rfl)) (.nil _))) fun a40 w40 s40 => ?_; clear s39
          obtain ⟨g1, h9⟩ := guard_some h8; clear h8
          refine seq_opx (B' := (fun v4 : Value => [RowF v4 3 (kint .i64) (y3 ++ ([y2] : (List Int)))])) s40 rfl rfl (of_decide_eq_true rfl) (ob_appendL2 (A := []) rfl Try.underlying41 ap3 (Zr.int .i64) (by decide) (.tmp rfl) (.tmp rfl) rfl g1) fun v4 a41 w41 s41 => ?_; clear s40
          refine seq_op s41 rfl rfl (of_decide_eq_true rfl) (ob_assign rfl (.tmp rfl)) fun a42 w42 s42 => ?_; clear s41
          refine wpList_nil ?_
          refine in_normal ?_
          refine then_normal ?_
          exact hj3 (y3 ++ ([y2] : (List Int))) v4 _ _ h9 (s42.sub (.cons rfl (.cons rfl (.cons rfl (.cons rfl .nil)))))
        · replace h7 := ite_f hc2 h7
          have h10 := h7; clear h7
          refine wp_skip ?_
          refine in_normal ?_
          refine then_normal ?_
          exact hj3 y3 v2 _ _ h10 (s37.sub (.cons rfl (.cons rfl (.cons rfl (.cons rfl .nil)))))
      refine wp_block ?_
      refine wp_loop_fuel (fun m (q : Bool × Int) => cabalref15_Past.l2 k p2 p1 y2 y3 (cabalref15_Past.l1 k p1 p2 n1) m q.1 q.2) r (fun _ => rfl) (fun q a w => St ⟨64, w0, ok, (idsOf [])⟩ [RowF v2 3 (kint .i64) y3] [(0, ((ksl k_api_Node).V p1)), (1, ((ksl (karr 32 (kint .u8))).V p2)), (7, (is v2)), (8, ((kint .i64).V y2)), (9, (kbool.V q.1)), (10, ((kint .i64).V q.2))] a w) ?_ k (false, (0 : Int)) _ _ h5 (s34.sub (.cons rfl (.cons rfl (.cons rfl (.cons rfl (.cons rfl (.cons rfl .nil)))))))
      rintro n2 ⟨y6, y7⟩ a43 w43 h11 s43 K16 hK16
      replace h11 : cabalref15_Past.l2 k p2 p1 y2 y3 (cabalref15_Past.l1 k p1 p2 n1) (n2 + 1) y6 y7 = some r := h11; rw [cabalref15_Past.l2] at h11
      have h12 := h11; clear h11
      refine wp_seq_k fun K17 hK17 => ?_
      refine wp_seq_k fun K18 hK18 => ?_
      refine wp_region_lit ?_
      refine seq_op s43 rfl rfl (of_decide_eq_true rfl) (ob_move rfl (.tmp rfl)) fun a44 w44 s44 => ?_; clear s43
      refine seq_op s44 rfl rfl (of_decide_eq_true rfl) (ob_move rfl (.tmp rfl)) fun a45 w45 s45 => ?_; clear s44
      refine seq_op s45 rfl rfl (of_decide_eq_true rfl) (ob_lens rfl Try.underlying40 (.tmp rfl)) fun a46 w46 s46 => ?_; clear s45
      refine seq_op s46 rfl rfl (of_decide_eq_true rfl) (ob_lss rfl (.tmp rfl) (.tmp rfl)) fun a47 w47 s47 => ?_; clear s46
      refine wpList_nil ?_
      refine then_normal ?_
      refine hK18 _ _ ?_
      have s48 := s47.sub (.cons (t := 0) rfl (.cons (t := 1) rfl (.cons (t := 7) rfl (.cons (t := 8) rfl (.cons (t := 9) rfl (.cons (t := 10) rfl (.cons (t := 34) rfl .nil))))))); clear s47
      refine cond_split s48 (.tmp rfl) (fun hc3 => ?_) (fun hc3 => ?_)
      · replace h12 := ite_t hc3 h12
        have h13 := h12; clear h12
        refine wp_skip ?_
        refine then_normal ?_
        refine hK17 _ _ ?_
        have s49 := s48.sub (.cons (t := 0) rfl (.cons (t := 1) rfl (.cons (t := 7) rfl (.cons (t := 8) rfl (.cons (t := 9) rfl (.cons (t := 10) rfl .nil)))))); clear s48
        refine wp_seq_k fun K19 hK19 => ?_
        refine wp_block ?_
        refine wp_seq_k fun K20 hK20 => ?_
        refine wp_region_lit ?_
        refine seq_op s49 rfl rfl (of_decide_eq_true rfl) (ob_move rfl (.tmp rfl)) fun a50 w50 s50 => ?_; clear s49
        refine seq_op s50 rfl rfl (of_decide_eq_true rfl) (ob_move rfl (.tmp rfl)) fun a51 w51 s51 => ?_; clear s50
        refine seq_op s51 rfl rfl (of_decide_eq_true rfl) (ob_move rfl (.tmp rfl)) fun a52 w52 s52 => ?_; clear s51
        obtain ⟨x1, e_x1, h14⟩ := bind_some h13; clear h13
        refine seq_op s52 rfl rfl (of_decide_eq_true rfl) (ob_indexAddrs rfl Try.underlying40 sz39 (.tmp rfl) (.tmp rfl) e_x1) fun a53 w53 s53 => ?_; clear s52
        refine seq_op s53 rfl rfl (of_decide_eq_true rfl) (ob_loadr rfl tk39 (.tmp rfl)) fun a54 w54 s54 => ?_; clear s53
        obtain ⟨x2, e_x2, h15⟩ := bind_some h14; clear h14
        refine seq_op s54 rfl rfl (of_decide_eq_true rfl) (ob_callD (args := [_, _]) rfl .direct hb56 (fun a w s fs gs hf hg => by obtain rfl := hf.unnil; obtain rfl := hg.unnil; exact c_cabalref15_Find k _ _ _ e_x2 _ _ _ _ (s.arg (.tmp rfl)) (s.arg (.tmp rfl)))) fun a55 w55 s55 => ?_; clear s54
        refine seq_op s55 rfl rfl (of_decide_eq_true rfl) (ob_assign rfl (.tmp rfl)) fun a56 w56 s56 => ?_; clear s55
        refine wpList_nil ?_
        refine then_normal ?_
        refine hK20 _ _ ?_
        have s57 := s56.sub (.cons (t := 0) rfl (.cons (t := 1) rfl (.cons (t := 7) rfl (.cons (t := 8) rfl (.cons (t := 9) rfl (.cons (t := 10) rfl (.cons (t := 11) rfl .nil))))))); clear s56
        refine wp_region_lit ?_
        refine seq_op s57 rfl rfl (of_decide_eq_true rfl) (ob_move rfl (.tmp rfl)) fun a58 w58 s58 => ?_; clear s57
        refine seq_op s58 rfl rfl (of_decide_eq_true rfl) (ob_move rfl (.tmp rfl)) fun a59 w59 s59 => ?_; clear s58
        refine seq_opg s59 rfl rfl rfl rfl (of_decide_eq_true rfl) (fun hb => ob_move rfl (.tmp rfl)) fun a60 w60 s60 => ?_; clear s59
        refine seq_opg s60 rfl rfl rfl rfl (of_decide_eq_true rfl) (fun hb => ob_move rfl (.tmp rfl)) fun a61 w61 s61 => ?_; clear s60
        refine seq_opg s61 rfl rfl rfl rfl (of_decide_eq_true rfl) (fun hb => (Ob.uncond (t := 46) hb rfl ((Ob.uncond (t := 45) hb rfl (ob_eql rfl (.tmp rfl) (.tmp rfl)))))) fun a62 w62 s62 => ?_; clear s61
        refine seq_op s62 rfl rfl (of_decide_eq_true rfl) (ob_or2 rfl (.tmp rfl) opd_bool (.tmp rfl)) fun a63 w63 s63 => ?_; clear s62
        refine seq_op s63 rfl rfl (of_decide_eq_true rfl) (ob_move rfl (.tmp rfl)) fun a64 w64 s64 => ?_; clear s63
        refine seq_opg s64 rfl rfl rfl rfl (of_decide_eq_true rfl) (fun hb => ob_move rfl (.tmp rfl)) fun a65 w65 s65 => ?_; clear s64
        refine seq_opg s65 rfl rfl rfl rfl (of_decide_eq_true rfl) (fun hb => ob_move rfl (.tmp rfl)) fun a66 w66 s66 => ?_; clear s65
        obtain ⟨x3, e_x3, h16⟩ := bind_some h15; clear h15
        refine seq_opg s66 rfl rfl rfl rfl (of_decide_eq_true rfl) (fun hb => (Ob.uncond (t := 51) hb rfl ((Ob.uncond (t := 50) hb rfl (ob_indexAddrs rfl Try.underlying22 sz46 (.tmp rfl) (.tmp rfl) (ite_t hb e_x3)))))) fun a67 w67 s67 => ?_; clear s66
        refine seq_opg s67 rfl rfl rfl rfl (of_decide_eq_true rfl) (fun hb => (Ob.uncond (t := 52) hb rfl (ob_fieldAddrr rfl Try.underlying46 rfl sz41 (by decide) (.tmp rfl) (lg_api_Node_Past x3)))) fun a68 w68 s68 => ?_; clear s67
        refine seq_opg s68 rfl rfl rfl rfl (of_decide_eq_true rfl) (fun hb => (Ob.uncond (t := 53) hb rfl (ob_loadr rfl tk41 (.tmp rfl)))) fun a69 w69 s69 => ?_; clear s68
        refine seq_opg s69 rfl rfl rfl rfl (of_decide_eq_true rfl) (fun hb => ob_move rfl (.tmp rfl)) fun a70 w70 s70 => ?_; clear s69
        obtain ⟨x4, e_x4, h17⟩ := bind_some h16; clear h16
        refine seq_opg s70 rfl rfl rfl rfl (of_decide_eq_true rfl) (fun hb => (Ob.uncond (t := 55) hb rfl ((Ob.uncond (t := 54) hb rfl (ob_callD (args := [_, _]) rfl .direct hb44 (fun a w s fs gs hf hg => by obtain rfl := hf.unnil; obtain rfl := hg.unnil; exact c_cabalref15_In k _ _ _ (ite_t hb e_x4) _ _ _ _ (s.arg (.tmp rfl)) (s.arg (.tmp rfl)))))))) fun a71 w71 s71 => ?_; clear s70
        refine seq_op s71 rfl rfl (of_decide_eq_true rfl) (ob_or2 rfl (.tmp rfl) opd_bool (.tmp rfl)) fun a72 w72 s72 => ?_; clear s71
        refine seq_op s72 rfl rfl (of_decide_eq_true rfl) (ob_assign rfl (.tmp rfl)) fun a73 w73 s73 => ?_; clear s72
        refine wpList_nil ?_
        refine in_normal ?_
        refine then_normal ?_
        refine hK19 _ _ ?_
        have s74 := s73.sub (.cons (t := 0) rfl (.cons (t := 1) rfl (.cons (t := 7) rfl (.cons (t := 8) rfl (.cons (t := 9) rfl (.cons (t := 10) rfl .nil)))))); clear s73
        refine wp_region_lit ?_
        refine seq_op s74 rfl rfl (of_decide_eq_true rfl) (ob_move rfl (.tmp rfl)) fun a75 w75 s75 => ?_; clear s74
        refine seq_op s75 rfl rfl (of_decide_eq_true rfl) (ob_add rfl (.tmp rfl) (opd_int rfl)) fun a76 w76 s76 => ?_; clear s75
        refine seq_op s76 rfl rfl (of_decide_eq_true rfl) (ob_assign rfl (.tmp rfl)) fun a77 w77 s77 => ?_; clear s76
        refine wpList_nil ?_
        refine then_normal ?_
        exact hK16 ((if (if y6 then true else (x2 == y2)) then true else x4), (iadd .i64 y7 (1 : Int))) _ _ h17 (s77.sub (.cons rfl (.cons rfl (.cons rfl (.cons rfl (.cons rfl (.cons rfl .nil)))))))
      · replace h12 := ite_f hc3 h12
        have h18 := h12; clear h12
        refine wp_exit ?_
        refine (then_exit (then_exit (in_here ?_)))
        refine then_normal ?_
        exact hj4 y6 _ _ h18 (s48.sub (.cons rfl (.cons rfl (.cons rfl (.cons rfl (.cons rfl .nil))))))
    · replace h4 := ite_f hc1 h4
      have h19 := h4; clear h4
      refine wp_exit ?_
      refine (then_exit (then_exit (in_here ?_)))
      refine then_normal ?_
      exact hj2 y3 v2 _ _ h19 (s25.sub (.cons rfl .nil))
  refine wp_block ?_
  refine wp_loop_fuel (fun m (q : Int) => cabalref15_Past.l3 k p2 p1 m q) r (fun _ => rfl) (fun q a w => St ⟨64, w0, ok, (idsOf [])⟩ [] [(0, ((ksl k_api_Node).V p1)), (1, ((ksl (karr 32 (kint .u8))).V p2)), (6, ((kint .i64).V q))] a w) ?_ k (0 : Int) _ _ h0 (s8.sub (.cons rfl (.cons rfl (.cons rfl .nil))))
  rintro n3 y8 a78 w78 h20 s78 K21 hK21
  replace h20 : cabalref15_Past.l3 k p2 p1 (n3 + 1) y8 = some r := h20; rw [cabalref15_Past.l3] at h20
  have h21 := h20; clear h20
  refine wp_seq_k fun K22 hK22 => ?_
  refine wp_seq_k fun K23 hK23 => ?_
  refine wp_region_lit ?_
  refine seq_op s78 rfl rfl (of_decide_eq_true rfl) (ob_move rfl (.tmp rfl)) fun a79 w79 s79 => ?_; clear s78
  refine seq_op s79 rfl rfl (of_decide_eq_true rfl) (ob_move rfl (.tmp rfl)) fun a80 w80 s80 => ?_; clear s79
  refine seq_op s80 rfl rfl (of_decide_eq_true rfl) (ob_lens rfl Try.underlying40 (.tmp rfl)) fun a81 w81 s81 => ?_; clear s80
  refine seq_op s81 rfl rfl (of_decide_eq_true rfl) (ob_lss rfl (.tmp rfl) (.tmp rfl)) fun a82 w82 s82 => ?_; clear s81
  refine wpList_nil ?_
  refine then_normal ?_
  refine hK23 _ _ ?_
  have s83 := s82.sub (.cons (t := 0) rfl (.cons (t := 1) rfl (.cons (t := 6) rfl (.cons (t := 15) rfl .nil)))); clear s82
  refine cond_split s83 (.tmp rfl) (fun hc4 => ?_) (fun hc4 => ?_)
  · replace h21 := ite_t hc4 h21
    have h22 := h21; clear h21
    refine wp_skip ?_
    refine then_normal ?_
    refine hK22 _ _ ?_
    have s84 := s83.sub (.cons (t := 0) rfl (.cons (t := 1) rfl (.cons (t := 6) rfl .nil))); clear s83
    refine wp_seq_k fun K24 hK24 => ?_
    refine wp_block ?_
    refine wp_seq_k fun K25 hK25 => ?_
    refine wp_region_lit ?_
    refine seq_op s84 rfl rfl (of_decide_eq_true rfl) (ob_move rfl (.tmp rfl)) fun a85 w85 s85 => ?_; clear s84
    refine seq_op s85 rfl rfl (of_decide_eq_true rfl) (ob_move rfl (.tmp rfl)) fun a86 w86 s86 => ?_; clear s85
    refine seq_op s86 rfl rfl (of_decide_eq_true rfl) (ob_move rfl (.tmp rfl)) fun a87 w87 s87 => ?_; clear s86
    obtain ⟨x5, e_x5, h23⟩ := bind_some h22; clear h22
    refine seq_op s87 rfl rfl (of_decide_eq_true rfl) (ob_indexAddrs rfl Try.underlying40 sz39 (.tmp rfl) (.tmp rfl) e_x5) fun a88 w88 s88 => ?_; clear s87
    refine seq_op s88 rfl rfl (of_decide_eq_true rfl) (ob_loadr rfl tk39 (.tmp rfl)) fun a89 w89 s89 => ?_; clear s88
    obtain ⟨x6, e_x6, h24⟩ := bind_some h23; clear h23
    refine seq_op s89 rfl rfl (of_decide_eq_true rfl) (ob_callD (args := [_, _]) rfl .direct hb56 (fun a w s fs gs hf hg => by obtain rfl := hf.unnil; obtain rfl := hg.unnil; exact c_cabalref15_Find k _ _ _ e_x6 _ _ _ _ (s.arg (.tmp rfl)) (s.arg (.tmp rfl)))) fun a90 w90 s90 => ?_; clear s89
    refine seq_op s90 rfl rfl (of_decide_eq_true rfl) (ob_lss rfl (.tmp rfl) (opd_int rfl)) fun a91 w91 s91 => ?_; clear s90
    refine wpList_nil ?_
    refine then_normal ?_
    refine hK25 _ _ ?_
    have s92 := s91.sub (.cons (t := 0) rfl (.cons (t := 1) rfl (.cons (t := 6) rfl (.cons (t := 24) rfl .nil)))); clear s91
    refine cond_split s92 (.tmp rfl) (fun hc5 => ?_) (fun hc5 => ?_)
    · replace h24 := ite_t hc5 h24
      have h25 := h24; clear h24
      refine wp_seq_k fun K26 hK26 => ?_
      refine wp_region_lit ?_
      refine seq_op s92 rfl rfl (of_decide_eq_true rfl) (ob_assign rfl opd_is) fun a93 w93 s93 => ?_; clear s92
      have s94 := St.adopt s93 (G := RowF (nilRow 38) 3 (kint .i64) []) rfl (rowNilN _ _ _ _ _); clear s93
      refine seq_op s94 rfl rfl (of_decide_eq_true rfl) (ob_assign rfl opd_bool) fun a95 w95 s95 => ?_; clear s94
      refine wpList_nil ?_
      refine then_normal ?_
      refine hK26 _ _ ?_
      have s96 := s95.sub (.cons (t := 4) rfl (.cons (t := 5) rfl .nil)); clear s95
      refine wp_ret ?_
      obtain rfl := Option.some.inj h25
      exact leaveXD (D := []) (nilRow 38) s96 rfl (.inl rfl) rfl (.cons (.tmp rfl) (.cons (.tmp rfl) .nil)) rfl
    · replace h24 := ite_f hc5 h24
      have h26 := h24; clear h24
      refine wp_skip ?_
      refine in_normal ?_
      refine then_normal ?_
      refine hK24 _ _ ?_
      have s97 := s92.sub (.cons (t := 0) rfl (.cons (t := 1) rfl (.cons (t := 6) rfl .nil))); clear s92
      refine wp_region_lit ?_
      refine seq_op s97 rfl rfl (of_decide_eq_true rfl) (ob_move rfl (.tmp rfl)) fun a98 w98 s98 => ?_; clear s97
      refine seq_op s98 rfl rfl (of_decide_eq_true rfl) (ob_add rfl (.tmp rfl) (opd_int rfl)) fun a99 w99 s99 => ?_; clear s98
      refine seq_op s99 rfl rfl (of_decide_eq_true rfl) (ob_assign rfl (.tmp rfl)) fun a100 w100 s100 => ?_; clear s99
      refine wpList_nil ?_
      refine then_normal ?_
      exact hK21 (iadd .i64 y8 (1 : Int)) _ _ h26 (s100.sub (.cons rfl (.cons rfl (.cons rfl .nil))))
  · replace h21 := ite_f hc4 h21
    have h27 := h21; clear h21
    refine wp_exit ?_
    refine (then_exit (then_exit (in_here ?_)))
    refine then_normal ?_
    exact hj1 _ _ h27 (s83.sub (.cons rfl (.cons rfl .nil)))

/- 129 cabal/cabalref11.Member -/
theorem c_cabalref11_Member (k : Nat) (p1 : Int) (r : Bool) (h0 : cabalref11_Member k p1 = some r) (ok : Ok) (w0 : World) (z0 : Value) (u0 : ((kint .i64).V p1).holds ok w0 z0) :
    Gives Try.prog 129 [z0] ok w0 (resFact [kbool.V r]) := by
  unfold cabalref11_Member at h0
  refine enter (N := 9) Try.func129 rfl rfl (of_decide_eq_true rfl) (.cons u0 .nil) fun a1 s1 => ?_
  refine wp_seq_k fun K1 hK1 => ?_
  refine wp_region_lit ?_
  refine seq_op s1 rfl rfl (of_decide_eq_true rfl) (ob_assign rfl opd_bool) fun a2 w2 s2 => ?_; clear s1
  refine wpList_nil ?_
  refine then_normal ?_
  refine hK1 _ _ ?_
  have s3 := s2.sub (.cons (t := 0) rfl .nil); clear s2
  refine wp_seq_k fun K2 hK2 => ?_
  refine wp_region_lit ?_
  refine seq_op s3 rfl rfl (of_decide_eq_true rfl) (ob_move rfl (.tmp rfl)) fun a4 w4 s4 => ?_; clear s3
  refine seq_op s4 rfl rfl (of_decide_eq_true rfl) (ob_geq rfl (.tmp rfl) (opd_int rfl)) fun a5 w5 s5 => ?_; clear s4
  refine seq_op s5 rfl rfl (of_decide_eq_true rfl) (ob_move rfl (.tmp rfl)) fun a6 w6 s6 => ?_; clear s5
  refine seq_opg s6 rfl rfl rfl rfl (of_decide_eq_true rfl) (fun hb => ob_move rfl (.tmp rfl)) fun a7 w7 s7 => ?_; clear s6
  refine seq_opg s7 rfl rfl rfl rfl (of_decide_eq_true rfl) (fun hb => (Ob.uncond (t := 6) hb rfl (ob_leq rfl (.tmp rfl) (opd_int rfl)))) fun a8 w8 s8 => ?_; clear s7
  obtain ⟨x1, e_x1, h1⟩ := bind_some h0; clear h0; replace e_x1 := Option.some.inj e_x1
  refine seq_op s8 rfl rfl (of_decide_eq_true rfl) ((ob_and2 rfl (.tmp rfl) (.tmp rfl) opd_bool).nm e_x1) fun a9 w9 s9 => ?_; clear s8
  refine seq_op s9 rfl rfl (of_decide_eq_true rfl) (ob_assign rfl (.tmp rfl)) fun a10 w10 s10 => ?_; clear s9
  refine wpList_nil ?_
  refine then_normal ?_
  refine hK2 _ _ ?_
  have s11 := s10.sub (.cons (t := 2) rfl .nil); clear s10
  refine wp_ret ?_
  obtain rfl := Option.some.inj h1
  exact leave s11 (.inl rfl) rfl (.cons (.tmp rfl) .nil)

/- 108 cabal/cabalref11.Less -/
theorem c_cabalref11_Less (k : Nat) (p1 : (List Int)) (p2 : (List Int)) (r : Bool) (h0 : cabalref11_Less k p1 p2 = some r) (ok : Ok) (w0 : World) (z0 : Value) (z1 : Value) (u0 : ((karr 32 (kint .u8)).V p1).holds ok w0 z0) (u1 : ((karr 32 (kint .u8)).V p2).holds ok w0 z1) :
    Gives Try.prog 108 [z0, z1] ok w0 (resFact [kbool.V r]) := by
  unfold cabalref11_Less at h0
  refine enter (N := 24) Try.func108 rfl rfl (of_decide_eq_true rfl) (.cons u0 (.cons u1 .nil)) fun a1 s1 => ?_
  refine wp_seq_k fun K1 hK1 => ?_
  refine wp_region_lit ?_
  refine seq_opx (B' := (fun b1 : Nat => [BF b1 39 (karr 32 (kint .u8)) p1])) s1 rfl rfl (of_decide_eq_true rfl) (ob_box rfl (.tmp rfl)) fun b1 a2 w2 s2 => ?_; clear s1
  refine seq_opx (B' := (fun b2 : Nat => [BF b2 39 (karr 32 (kint .u8)) p2, BF b1 39 (karr 32 (kint .u8)) p1])) s2 rfl rfl (of_decide_eq_true rfl) (ob_box rfl (.tmp rfl)) fun b2 a3 w3 s3 => ?_; clear s2
  refine seq_op s3 rfl rfl (of_decide_eq_true rfl) (ob_assign rfl opd_bool) fun a4 w4 s4 => ?_; clear s3
  refine wpList_nil ?_
  refine then_normal ?_
  refine hK1 _ _ ?_
  have s5 := s4.sub (.cons (t := 2) rfl (.cons (t := 3) rfl .nil)); clear s4
  refine wp_seq_k fun K2 hK2 => ?_
  refine wp_seq_k fun K3 hK3 => ?_
  refine wp_region_lit ?_
  refine seq_op s5 rfl rfl (of_decide_eq_true rfl) (ob_assign rfl (opd_int rfl)) fun a6 w6 s6 => ?_; clear s5
  refine wpList_nil ?_
  refine then_normal ?_
  refine hK3 _ _ ?_
  have s7 := s6.sub (.cons (t := 2) rfl (.cons (t := 3) rfl (.cons (t := 5) rfl .nil))); clear s6
  have hj1 : ∀ (a : Act) (w : World), (cabalref11_Less.j1 k) = some r → St ⟨24, w0, ok, []⟩ [] [] a w → K2 a w := by
    intro a8 w8 h1 s8
    unfold cabalref11_Less.j1 at h1
    refine hK2 _ _ ?_
    refine wp_seq_k fun K4 hK4 => ?_
    refine wp_region_lit ?_
    refine seq_op s8 rfl rfl (of_decide_eq_true rfl) (ob_assign rfl opd_bool) fun a9 w9 s9 => ?_; clear s8
    refine wpList_nil ?_
    refine then_normal ?_
    refine hK4 _ _ ?_
    have s10 := s9.sub (.cons (t := 4) rfl .nil); clear s9
    refine wp_ret ?_
    obtain rfl := Option.some.inj h1
    exact leave s10 (.inl rfl) rfl (.cons (.tmp rfl) .nil)
  refine wp_block ?_
  have s11 := s7.perm (toFront [_] (toFront [] (List.Perm.refl _))); clear s7
  refine wp_loop_fuel (fun m (q : Int) => cabalref11_Less.l1 k p1 p2 m q) r (fun _ => rfl) (fun q a w => St ⟨24, w0, ok, []⟩ [BF b1 39 (karr 32 (kint .u8)) p1, BF b2 39 (karr 32 (kint .u8)) p2] [(2, (ptrB b1 0)), (3, (ptrB b2 0)), (5, ((kint .i64).V q))] a w) ?_ k (0 : Int) _ _ h0 (s11.sub (.cons rfl (.cons rfl (.cons rfl .nil))))
  rintro n1 y1 a12 w12 h2 s12 K5 hK5
  replace h2 : cabalref11_Less.l1 k p1 p2 (n1 + 1) y1 = some r := h2; rw [cabalref11_Less.l1] at h2
  have h3 := h2; clear h2
  refine wp_seq_k fun K6 hK6 => ?_
  refine wp_seq_k fun K7 hK7 => ?_
  refine wp_region_lit ?_
  refine seq_op s12 rfl rfl (of_decide_eq_true rfl) (ob_move rfl (.tmp rfl)) fun a13 w13 s13 => ?_; clear s12
  refine seq_op s13 rfl rfl (of_decide_eq_true rfl) (ob_lss rfl (.tmp rfl) (opd_int rfl)) fun a14 w14 s14 => ?_; clear s13
  refine wpList_nil ?_
  refine then_normal ?_
  refine hK7 _ _ ?_
  have s15 := s14.sub (.cons (t := 2) rfl (.cons (t := 3) rfl (.cons (t := 5) rfl (.cons (t := 7) rfl .nil)))); clear s14
  refine cond_split s15 (.tmp rfl) (fun hc1 => ?_) (fun hc1 => ?_)
  · replace h3 := ite_t hc1 h3
    have h4 := h3; clear h3
    refine wp_skip ?_
    refine then_normal ?_
    refine hK6 _ _ ?_
    have s16 := s15.sub (.cons (t := 2) rfl (.cons (t := 3) rfl (.cons (t := 5) rfl .nil))); clear s15
    refine wp_seq_k fun K8 hK8 => ?_
    refine wp_block ?_
    refine wp_seq_k fun K9 hK9 => ?_
    obtain ⟨g1, h5⟩ := guard_some h4; clear h4
    obtain ⟨x1, e_x1, h6⟩ := bind_some h5; clear h5
    obtain ⟨g2, h7⟩ := guard_some h6; clear h6
    obtain ⟨x2, e_x2, h8⟩ := bind_some h7; clear h7
    refine wp_goes (Fs := [((kint .i64).V y1), (ptrB b1 (y1.toNat * 1)), ((kint .u8).V x1), ((kint .i64).V y1), (ptrB b2 (y1.toNat * 1)), ((kint .u8).V x2)]) (bits := [0, 1, 3, 0, 8, 24, 63]) (m := 6) (todo := 0) mx s16 ?_; clear s16
    refine goes_last (by kernel_rfl) rfl (opsS_cons (.plain _ (Av.old (t := 5) rfl rfl Av.nil) rfl rfl (ob_move rfl (.tmp rfl))) (opsS_cons (.plain _ (Av.old (t := 2) rfl rfl (Av.new (j := 0) rfl rfl rfl Av.nil)) rfl rfl (ob_indexAddr rfl Try.underlying39 sz5 (.tmp rfl) (.tmp rfl) g1.1 g1.2 (Nat.zero_add _))) (opsS_cons (.plain _ (Av.new (j := 1) rfl rfl rfl Av.nil) rfl rfl (ob_load rfl tk5 (.tmp rfl) (.head _) (LG.arrA e_x1))) (opsS_cons (.plain _ (Av.old (t := 5) rfl rfl Av.nil) rfl rfl (ob_move rfl (.tmp rfl))) (opsS_cons (.plain _ (Av.old (t := 3) rfl rfl (Av.new (j := 3) rfl rfl rfl Av.nil)) rfl rfl (ob_indexAddr rfl Try.underlying39 sz5 (.tmp rfl) (.tmp rfl) g2.1 g2.2 (Nat.zero_add _))) (opsS_cons (.plain _ (Av.new (j := 4) rfl rfl rfl Av.nil) rfl rfl (ob_load rfl tk5 (.tmp rfl) (.tail _ (.head _)) (LG.arrA e_x2))) opsS_nil)))))) (out_old (t := 2) rfl rfl (out_old (t := 3) rfl rfl (out_old (t := 5) rfl rfl (out_new (i := 2) (by decide) rfl rfl (out_new (i := 5) (by decide) rfl rfl out_nil))))) fun a17 w17 s17 => ?_
    refine seq_op s17 rfl rfl (of_decide_eq_true rfl) (ob_neq rfl (.tmp rfl) (.tmp rfl)) fun a18 w18 s18 => ?_; clear s17
    refine wpList_nil ?_
    refine then_normal ?_
    refine hK9 _ _ ?_
    have s19 := s18.sub (.cons (t := 2) rfl (.cons (t := 3) rfl (.cons (t := 5) rfl (.cons (t := 16) rfl .nil)))); clear s18
    refine cond_split s19 (.tmp rfl) (fun hc2 => ?_) (fun hc2 => ?_)
    · replace h8 := ite_t hc2 h8
      have h9 := h8; clear h8
      refine wp_seq_k fun K10 hK10 => ?_
      obtain ⟨g3, h10⟩ := guard_some h9; clear h9
      obtain ⟨x3, e_x3, h11⟩ := bind_some h10; clear h10
      obtain ⟨g4, h12⟩ := guard_some h11; clear h11
      obtain ⟨x4, e_x4, h13⟩ := bind_some h12; clear h12
      refine wp_goes (Fs := [((kint .i64).V y1), (ptrB b1 (y1.toNat * 1)), ((kint .u8).V x3), ((kint .i64).V y1), (ptrB b2 (y1.toNat * 1)), ((kint .u8).V x4)]) (bits := [0, 1, 3, 0, 8, 24, 63, 127]) (m := 6) (todo := 0) mx s19 ?_; clear s19
      refine goes_last (by kernel_rfl) rfl (opsS_cons (.plain _ (Av.old (t := 5) rfl rfl Av.nil) rfl rfl (ob_move rfl (.tmp rfl))) (opsS_cons (.plain _ (Av.old (t := 2) rfl rfl (Av.new (j := 0) rfl rfl rfl Av.nil)) rfl rfl (ob_indexAddr rfl Try.underlying39 sz5 (.tmp rfl) (.tmp rfl) g3.1 g3.2 (Nat.zero_add _))) (opsS_cons (.plain _ (Av.new (j := 1) rfl rfl rfl Av.nil) rfl rfl (ob_load rfl tk5 (.tmp rfl) (.head _) (LG.arrA e_x3))) (opsS_cons (.plain _ (Av.old (t := 5) rfl rfl Av.nil) rfl rfl (ob_move rfl (.tmp rfl))) (opsS_cons (.plain _ (Av.old (t := 3) rfl rfl (Av.new (j := 3) rfl rfl rfl Av.nil)) rfl rfl (ob_indexAddr rfl Try.underlying39 sz5 (.tmp rfl) (.tmp rfl) g4.1 g4.2 (Nat.zero_add _))) (opsS_cons (.plain _ (Av.new (j := 4) rfl rfl rfl Av.nil) rfl rfl (ob_load rfl tk5 (.tmp rfl) (.tail _ (.head _)) (LG.arrA e_x4))) opsS_nil)))))) (out_new (i := 2) (by decide) rfl rfl (out_new (i := 5) (by decide) rfl rfl out_nil)) fun a20 w20 s20 => ?_
      refine seq_op s20 rfl rfl (of_decide_eq_true rfl) (ob_lss rfl (.tmp rfl) (.tmp rfl)) fun a21 w21 s21 => ?_; clear s20
      refine seq_op s21 rfl rfl (of_decide_eq_true rfl) (ob_assign rfl (.tmp rfl)) fun a22 w22 s22 => ?_; clear s21
      refine wpList_nil ?_
      refine then_normal ?_
      refine hK10 _ _ ?_
      have s23 := s22.sub (.cons (t := 4) rfl .nil); clear s22
      have s24 := St.drop (A := []) s23; clear s23
      have s25 := St.drop (A := []) s24; clear s24
      refine wp_ret ?_
      obtain rfl := Option.some.inj h13
      exact leave s25 (.inl rfl) rfl (.cons (.tmp rfl) .nil)
    · replace h8 := ite_f hc2 h8
      have h14 := h8; clear h8
      refine wp_skip ?_
      refine in_normal ?_
      refine then_normal ?_
      refine hK8 _ _ ?_
      have s26 := s19.sub (.cons (t := 2) rfl (.cons (t := 3) rfl (.cons (t := 5) rfl .nil))); clear s19
      refine wp_region_lit ?_
      refine seq_op s26 rfl rfl (of_decide_eq_true rfl) (ob_move rfl (.tmp rfl)) fun a27 w27 s27 => ?_; clear s26
      refine seq_op s27 rfl rfl (of_decide_eq_true rfl) (ob_add rfl (.tmp rfl) (opd_int rfl)) fun a28 w28 s28 => ?_; clear s27
      refine seq_op s28 rfl rfl (of_decide_eq_true rfl) (ob_assign rfl (.tmp rfl)) fun a29 w29 s29 => ?_; clear s28
      refine wpList_nil ?_
      refine then_normal ?_
      exact hK5 (iadd .i64 y1 (1 : Int)) _ _ h14 (s29.sub (.cons rfl (.cons rfl (.cons rfl .nil))))
  · replace h3 := ite_f hc1 h3
    have h15 := h3; clear h3
    refine wp_exit ?_
    refine (then_exit (then_exit (in_here ?_)))
    refine then_normal ?_
    have s30 := St.drop (A := []) s15; clear s15
    have s31 := St.drop (A := []) s30; clear s30
    exact hj1 _ _ h15 (s31.sub .nil)

/- 130 cabal/cabalref11.kind -/
theorem c_cabalref11_kind (k : Nat) (p1 : api_Op) (p2 : Bool) (r : Bool) (h0 : cabalref11_kind k p1 p2 = some r) (ok : Ok) (w0 : World) (z0 : Value) (z1 : Value) (u0 : (k_api_Op.V p1).holds ok w0 z0) (u1 : (kbool.V p2).holds ok w0 z1) :
    Gives Try.prog 130 [z0, z1] ok w0 (resFact [kbool.V r]) := by
  unfold cabalref11_kind at h0
  refine enter (N := 100) Try.func130 rfl rfl (of_decide_eq_true rfl) (.cons u0 (.cons u1 .nil)) fun a1 s1 => ?_
  refine wp_seq_k fun K1 hK1 => ?_
  refine wp_region_lit ?_
  refine seq_opx (B' := (fun b1 : Nat => [BF b1 44 k_api_Op p1])) s1 rfl rfl (of_decide_eq_true rfl) (ob_box rfl (.tmp rfl)) fun b1 a2 w2 s2 => ?_; clear s1
  refine seq_op s2 rfl rfl (of_decide_eq_true rfl) (ob_assign rfl opd_bool) fun a3 w3 s3 => ?_; clear s2
  refine wpList_nil ?_
  refine then_normal ?_
  refine hK1 _ _ ?_
  have s4 := s3.sub (.cons (t := 1) rfl (.cons (t := 2) rfl .nil)); clear s3
  refine wp_seq_k fun K2 hK2 => ?_
  refine wp_region_lit ?_
  obtain ⟨x1, e_x1, h1⟩ := bind_some h0; clear h0; replace e_x1 := Option.some.inj e_x1
  refine seq_op s4 rfl rfl (of_decide_eq_true rfl) (((ob_mkArr (k := (kint .u8)) rfl Try.underlying39 zz39 sz5 (Zr.arr 32 (Zr.int .u8)) (.nil _) : Ob _ _ _ _ _ ((karr 32 (kint .u8)).V ([(0 : Int), (0 : Int), (0 : Int), (0 : Int), (0 : Int), (0 : Int), (0 : Int), (0 : Int), (0 : Int), (0 : Int), (0 : Int), (0 : Int), (0 : Int), (0 : Int), (0 : Int), (0 : Int), (0 : Int), (0 : Int), (0 : Int), (0 : Int), (0 : Int), (0 : Int), (0 : Int), (0 : Int), (0 : Int), (0 : Int), (0 : Int), (0 : Int), (0 : Int), (0 : Int), (0 : Int), (0 : Int)] : (List Int))))).nm e_x1) fun a5 w5 s5 => ?_; clear s4
  refine seq_opx (B' := (fun b2 : Nat => [BF b2 39 (karr 32 (kint .u8)) (List.replicate 32 (0 : Int)), BF b1 44 k_api_Op p1])) s5 rfl rfl (of_decide_eq_true rfl) (ob_new (k := (karr 32 (kint .u8))) rfl zz39 (Zr.arr 32 (Zr.int .u8))) fun b2 a6 w6 s6 => ?_; clear s5
  refine seq_opx0 (B' := (fun _ : Unit => [BF b2 39 (karr 32 (kint .u8)) x1, BF b1 44 k_api_Op p1])) s6 rfl rfl (ob_store (A := []) rfl tk39 (.tmp rfl) (.tmp rfl) rfl (LS.refl _ _ _) rfl) fun _ a7 w7 s7 => ?_; clear s6
  refine wpList_nil ?_
  refine then_normal ?_
  refine hK2 _ _ ?_
  have s8 := s7.sub (.cons (t := 1) rfl (.cons (t := 2) rfl (.cons (t := 5) rfl .nil))); clear s7
  refine wp_seq_k fun K3 hK3 => ?_
  refine wp_seq_k fun K4 hK4 => ?_
  refine wp_region_lit ?_
  refine seq_op s8 rfl rfl (of_decide_eq_true rfl) (ob_fieldAddr (off' := 3) rfl Try.underlying44 rfl sz3 (by decide) (.tmp rfl) rfl) fun a9 w9 s9 => ?_; clear s8
  refine seq_op s9 rfl rfl (of_decide_eq_true rfl) (ob_load rfl tk3 (.tmp rfl) (.tail _ (.head _)) (lg_api_Op_Kind p1)) fun a10 w10 s10 => ?_; clear s9
  refine seq_op s10 rfl rfl (of_decide_eq_true rfl) (ob_eql rfl (.tmp rfl) (opd_int rfl)) fun a11 w11 s11 => ?_; clear s10
  refine seq_op s11 rfl rfl (of_decide_eq_true rfl) (ob_move rfl (.tmp rfl)) fun a12 w12 s12 => ?_; clear s11
  refine seq_opg s12 rfl rfl rfl rfl (of_decide_eq_true rfl) (fun hb => ob_move rfl (.tmp rfl)) fun a13 w13 s13 => ?_; clear s12
  refine seq_opg s13 rfl rfl rfl rfl (of_decide_eq_true rfl) (fun hb => (Ob.uncond (t := 11) hb rfl (ob_not rfl (.tmp rfl)))) fun a14 w14 s14 => ?_; clear s13
  refine seq_opg s14 rfl rfl rfl rfl (of_decide_eq_true rfl) (fun hb => (Ob.uncond (t := 12) hb rfl (ob_move rfl (.tmp rfl)))) fun a15 w15 s15 => ?_; clear s14
  refine seq_opg2 s15 rfl rfl rfl rfl (of_decide_eq_true rfl) (fun hb => ob_fieldAddr (off' := 2) rfl Try.underlying44 rfl sz40 (by decide) (.tmp rfl) rfl) fun a16 w16 s16 => ?_; clear s15
  refine seq_opg2 s16 rfl rfl rfl rfl (of_decide_eq_true rfl) (fun hb => (Ob.uncond (t := 14) hb rfl (ob_load rfl tk40 (.tmp rfl) (.tail _ (.head _)) (lg_api_Op_Parents p1)))) fun a17 w17 s17 => ?_; clear s16
  refine seq_opg2 s17 rfl rfl rfl rfl (of_decide_eq_true rfl) (fun hb => (Ob.uncond (t := 15) hb rfl (ob_lens rfl Try.underlying40 (.tmp rfl)))) fun a18 w18 s18 => ?_; clear s17
  refine seq_opg2 s18 rfl rfl rfl rfl (of_decide_eq_true rfl) (fun hb => (Ob.uncond (t := 16) hb rfl (ob_gtr rfl (.tmp rfl) (opd_int rfl)))) fun a19 w19 s19 => ?_; clear s18
  obtain ⟨x2, e_x2, h2⟩ := bind_some h1; clear h1; replace e_x2 := Option.some.inj e_x2
  refine seq_opg s19 rfl rfl rfl rfl (of_decide_eq_true rfl) (fun hb => (Ob.uncond (t := 13) hb rfl ((ob_or3 hb rfl (.tmp rfl) opd_bool (.tmp rfl)).nm e_x2))) fun a20 w20 s20 => ?_; clear s19
  refine seq_opg s20 rfl rfl rfl rfl (of_decide_eq_true rfl) (fun hb => (Ob.uncond (t := 18) hb rfl (ob_move rfl (.tmp rfl)))) fun a21 w21 s21 => ?_; clear s20
  refine seq_opg2 s21 rfl rfl rfl rfl (of_decide_eq_true rfl) (fun hb => ob_fieldAddr (off' := 1) rfl Try.underlying44 rfl sz25 (by decide) (.tmp rfl) rfl) fun a22 w22 s22 => ?_; clear s21
  refine seq_opg2 s22 rfl rfl rfl rfl (of_decide_eq_true rfl) (fun hb => (Ob.uncond (t := 20) hb rfl (ob_load rfl tk25 (.tmp rfl) (.tail _ (.head _)) (lg_api_Op_Seq p1)))) fun a23 w23 s23 => ?_; clear s22
  refine seq_opg2 s23 rfl rfl rfl rfl (of_decide_eq_true rfl) (fun hb => (Ob.uncond (t := 21) hb rfl (ob_neq rfl (.tmp rfl) (opd_int rfl)))) fun a24 w24 s24 => ?_; clear s23
  refine seq_opg s24 rfl rfl rfl rfl (of_decide_eq_true rfl) (fun hb => (Ob.uncond (t := 19) hb rfl (ob_or3 hb rfl (.tmp rfl) opd_bool (.tmp rfl)))) fun a25 w25 s25 => ?_; clear s24
  obtain ⟨x3, e_x3, h3⟩ := bind_some h2; clear h2; replace e_x3 := Option.some.inj e_x3
  refine seq_op s25 rfl rfl (of_decide_eq_true rfl) ((ob_and2 rfl (.tmp rfl) (.tmp rfl) opd_bool).nm e_x3) fun a26 w26 s26 => ?_; clear s25
  refine seq_op s26 rfl rfl (of_decide_eq_true rfl) (ob_move rfl (.tmp rfl)) fun a27 w27 s27 => ?_; clear s26
  refine seq_opg s27 rfl rfl rfl rfl (of_decide_eq_true rfl) (fun hb => ob_fieldAddr (off' := 3) rfl Try.underlying44 rfl sz3 (by decide) (.tmp rfl) rfl) fun a28 w28 s28 => ?_; clear s27
  refine seq_opg s28 rfl rfl rfl rfl (of_decide_eq_true rfl) (fun hb => (Ob.uncond (t := 26) hb rfl (ob_load rfl tk3 (.tmp rfl) (.tail _ (.head _)) (lg_api_Op_Kind p1)))) fun a29 w29 s29 => ?_; clear s28
  refine seq_opg s29 rfl rfl rfl rfl (of_decide_eq_true rfl) (fun hb => (Ob.uncond (t := 27) hb rfl (ob_neq rfl (.tmp rfl) (opd_int rfl)))) fun a30 w30 s30 => ?_; clear s29
  refine seq_opg s30 rfl rfl rfl rfl (of_decide_eq_true rfl) (fun hb => (Ob.uncond (t := 28) hb rfl (ob_move rfl (.tmp rfl)))) fun a31 w31 s31 => ?_; clear s30
  refine seq_opg2 s31 rfl rfl rfl rfl (of_decide_eq_true rfl) (fun hb => ob_fieldAddr (off' := 2) rfl Try.underlying44 rfl sz40 (by decide) (.tmp rfl) rfl) fun a32 w32 s32 => ?_; clear s31
  refine seq_opg2 s32 rfl rfl rfl rfl (of_decide_eq_true rfl) (fun hb => (Ob.uncond (t := 30) hb rfl (ob_load rfl tk40 (.tmp rfl) (.tail _ (.head _)) (lg_api_Op_Parents p1)))) fun a33 w33 s33 => ?_; clear s32
  refine seq_opg2 s33 rfl rfl rfl rfl (of_decide_eq_true rfl) (fun hb => (Ob.uncond (t := 31) hb rfl (ob_lens rfl Try.underlying40 (.tmp rfl)))) fun a34 w34 s34 => ?_; clear s33
  refine seq_opg2 s34 rfl rfl rfl rfl (of_decide_eq_true rfl) (fun hb => (Ob.uncond (t := 32) hb rfl (ob_eql rfl (.tmp rfl) (opd_int rfl)))) fun a35 w35 s35 => ?_; clear s34
  obtain ⟨x4, e_x4, h4⟩ := bind_some h3; clear h3; replace e_x4 := Option.some.inj e_x4
  refine seq_opg s35 rfl rfl rfl rfl (of_decide_eq_true rfl) (fun hb => (Ob.uncond (t := 29) hb rfl ((ob_and3 hb rfl (.tmp rfl) (.tmp rfl) opd_bool).nm e_x4))) fun a36 w36 s36 => ?_; clear s35
  refine seq_op s36 rfl rfl (of_decide_eq_true rfl) (ob_or2 rfl (.tmp rfl) opd_bool (.tmp rfl)) fun a37 w37 s37 => ?_; clear s36
  refine wpList_nil ?_
  refine then_normal ?_
  refine hK4 _ _ ?_
  have s38 := s37.sub (.cons (t := 1) rfl (.cons (t := 2) rfl (.cons (t := 5) rfl (.cons (t := 35) rfl .nil)))); clear s37
  refine cond_split s38 (.tmp rfl) (fun hc1 => ?_) (fun hc1 => ?_)
  · replace h4 := ite_t hc1 h4
    have h5 := h4; clear h4
    refine wp_seq_k fun K5 hK5 => ?_
    refine wp_region_lit ?_
    refine seq_op s38 rfl rfl (of_decide_eq_true rfl) (ob_assign rfl opd_bool) fun a39 w39 s39 => ?_; clear s38
    refine wpList_nil ?_
    refine then_normal ?_
    refine hK5 _ _ ?_
    have s40 := s39.sub (.cons (t := 4) rfl .nil); clear s39
    have s41 := St.drop (A := []) s40; clear s40
    have s42 := St.drop (A := []) s41; clear s41
    refine wp_ret ?_
    obtain rfl := Option.some.inj h5
    exact leave s42 (.inl rfl) rfl (.cons (.tmp rfl) .nil)
  · replace h4 := ite_f hc1 h4
    have h6 := h4; clear h4
    refine wp_skip ?_
    refine then_normal ?_
    refine hK3 _ _ ?_
    have s43 := s38.sub (.cons (t := 1) rfl (.cons (t := 2) rfl (.cons (t := 5) rfl .nil))); clear s38
    refine wp_seq_k fun K6 hK6 => ?_
    refine wp_seq_k fun K7 hK7 => ?_
    refine wp_region_lit ?_
    refine seq_op s43 rfl rfl (of_decide_eq_true rfl) (ob_fieldAddr (off' := 3) rfl Try.underlying44 rfl sz3 (by decide) (.tmp rfl) rfl) fun a44 w44 s44 => ?_; clear s43
    refine seq_op s44 rfl rfl (of_decide_eq_true rfl) (ob_load rfl tk3 (.tmp rfl) (.tail _ (.head _)) (lg_api_Op_Kind p1)) fun a45 w45 s45 => ?_; clear s44
    refine seq_op s45 rfl rfl (of_decide_eq_true rfl) (ob_eql rfl (.tmp rfl) (opd_int rfl)) fun a46 w46 s46 => ?_; clear s45
    refine seq_op s46 rfl rfl (of_decide_eq_true rfl) (ob_move rfl (.tmp rfl)) fun a47 w47 s47 => ?_; clear s46
    refine seq_opg s47 rfl rfl rfl rfl (of_decide_eq_true rfl) (fun hb => ob_fieldAddr (off' := 3) rfl Try.underlying44 rfl sz3 (by decide) (.tmp rfl) rfl) fun a48 w48 s48 => ?_; clear s47
    refine seq_opg s48 rfl rfl rfl rfl (of_decide_eq_true rfl) (fun hb => (Ob.uncond (t := 40) hb rfl (ob_load rfl tk3 (.tmp rfl) (.tail _ (.head _)) (lg_api_Op_Kind p1)))) fun a49 w49 s49 => ?_; clear s48
    refine seq_opg s49 rfl rfl rfl rfl (of_decide_eq_true rfl) (fun hb => (Ob.uncond (t := 41) hb rfl (ob_eql rfl (.tmp rfl) (opd_int rfl)))) fun a50 w50 s50 => ?_; clear s49
    refine seq_op s50 rfl rfl (of_decide_eq_true rfl) (ob_or2 rfl (.tmp rfl) opd_bool (.tmp rfl)) fun a51 w51 s51 => ?_; clear s50
    refine seq_op s51 rfl rfl (of_decide_eq_true rfl) (ob_move rfl (.tmp rfl)) fun a52 w52 s52 => ?_; clear s51
    refine seq_opg s52 rfl rfl rfl rfl (of_decide_eq_true rfl) (fun hb => ob_move rfl (.tmp rfl)) fun a53 w53 s53 => ?_; clear s52
    refine seq_opg s53 rfl rfl rfl rfl (of_decide_eq_true rfl) (fun hb => (Ob.uncond (t := 45) hb rfl (ob_move rfl (.tmp rfl)))) fun a54 w54 s54 => ?_; clear s53
    refine seq_opg2 s54 rfl rfl rfl rfl (of_decide_eq_true rfl) (fun hb => ob_fieldAddr (off' := 4) rfl Try.underlying44 rfl sz41 (by decide) (.tmp rfl) rfl) fun a55 w55 s55 => ?_; clear s54
    refine seq_opg2 s55 rfl rfl rfl rfl (of_decide_eq_true rfl) (fun hb => (Ob.uncond (t := 47) hb rfl (ob_load rfl tk41 (.tmp rfl) (.tail _ (.head _)) (lg_api_Op_Who p1)))) fun a56 w56 s56 => ?_; clear s55
    refine seq_opg2 s56 rfl rfl rfl rfl (of_decide_eq_true rfl) (fun hb => (Ob.uncond (t := 48) hb rfl (ob_lens rfl Try.underlying41 (.tmp rfl)))) fun a57 w57 s57 => ?_; clear s56
    refine seq_opg2 s57 rfl rfl rfl rfl (of_decide_eq_true rfl) (fun hb => (Ob.uncond (t := 49) hb rfl (ob_neq rfl (.tmp rfl) (opd_int rfl)))) fun a58 w58 s58 => ?_; clear s57
    refine seq_opg s58 rfl rfl rfl rfl (of_decide_eq_true rfl) (fun hb => (Ob.uncond (t := 46) hb rfl (ob_or3 hb rfl (.tmp rfl) opd_bool (.tmp rfl)))) fun a59 w59 s59 => ?_; clear s58
    obtain ⟨x5, e_x5, h7⟩ := bind_some h6; clear h6; replace e_x5 := Option.some.inj e_x5
    refine seq_op s59 rfl rfl (of_decide_eq_true rfl) ((ob_and2 rfl (.tmp rfl) (.tmp rfl) opd_bool).nm e_x5) fun a60 w60 s60 => ?_; clear s59
    refine seq_op s60 rfl rfl (of_decide_eq_true rfl) (ob_move rfl (.tmp rfl)) fun a61 w61 s61 => ?_; clear s60
    refine seq_opg s61 rfl rfl rfl rfl (of_decide_eq_true rfl) (fun hb => ob_fieldAddr (off' := 3) rfl Try.underlying44 rfl sz3 (by decide) (.tmp rfl) rfl) fun a62 w62 s62 => ?_; clear s61
    refine seq_opg s62 rfl rfl rfl rfl (of_decide_eq_true rfl) (fun hb => (Ob.uncond (t := 54) hb rfl (ob_load rfl tk3 (.tmp rfl) (.tail _ (.head _)) (lg_api_Op_Kind p1)))) fun a63 w63 s63 => ?_; clear s62
    refine seq_opg s63 rfl rfl rfl rfl (of_decide_eq_true rfl) (fun hb => (Ob.uncond (t := 55) hb rfl (ob_gtr rfl (.tmp rfl) (opd_int rfl)))) fun a64 w64 s64 => ?_; clear s63
    refine seq_opg s64 rfl rfl rfl rfl (of_decide_eq_true rfl) (fun hb => (Ob.uncond (t := 56) hb rfl (ob_move rfl (.tmp rfl)))) fun a65 w65 s65 => ?_; clear s64
    refine seq_opg2 s65 rfl rfl rfl rfl (of_decide_eq_true rfl) (fun hb => ob_fieldAddr (off' := 4) rfl Try.underlying44 rfl sz41 (by decide) (.tmp rfl) rfl) fun a66 w66 s66 => ?_; clear s65
    refine seq_opg2 s66 rfl rfl rfl rfl (of_decide_eq_true rfl) (fun hb => (Ob.uncond (t := 58) hb rfl (ob_load rfl tk41 (.tmp rfl) (.tail _ (.head _)) (lg_api_Op_Who p1)))) fun a67 w67 s67 => ?_; clear s66
    refine seq_opg2 s67 rfl rfl rfl rfl (of_decide_eq_true rfl) (fun hb => (Ob.uncond (t := 59) hb rfl (ob_lens rfl Try.underlying41 (.tmp rfl)))) fun a68 w68 s68 => ?_; clear s67
    refine seq_opg2 s68 rfl rfl rfl rfl (of_decide_eq_true rfl) (fun hb => (Ob.uncond (t := 60) hb rfl (ob_gtr rfl (.tmp rfl) (opd_int rfl)))) fun a69 w69 s69 => ?_; clear s68
    obtain ⟨x6, e_x6, h8⟩ := bind_some h7; clear h7; replace e_x6 := Option.some.inj e_x6
    refine seq_opg s69 rfl rfl rfl rfl (of_decide_eq_true rfl) (fun hb => (Ob.uncond (t := 57) hb rfl ((ob_and3 hb rfl (.tmp rfl) (.tmp rfl) opd_bool).nm e_x6))) fun a70 w70 s70 => ?_; clear s69
    refine seq_op s70 rfl rfl (of_decide_eq_true rfl) (ob_or2 rfl (.tmp rfl) opd_bool (.tmp rfl)) fun a71 w71 s71 => ?_; clear s70
    refine wpList_nil ?_
    refine then_normal ?_
    refine hK7 _ _ ?_
    have s72 := s71.sub (.cons (t := 2) rfl (.cons (t := 5) rfl (.cons (t := 63) rfl .nil))); clear s71
    refine cond_split s72 (.tmp rfl) (fun hc2 => ?_) (fun hc2 => ?_)
    · replace h8 := ite_t hc2 h8
      have h9 := h8; clear h8
      refine wp_seq_k fun K8 hK8 => ?_
      refine wp_region_lit ?_
      refine seq_op s72 rfl rfl (of_decide_eq_true rfl) (ob_assign rfl opd_bool) fun a73 w73 s73 => ?_; clear s72
      refine wpList_nil ?_
      refine then_normal ?_
      refine hK8 _ _ ?_
      have s74 := s73.sub (.cons (t := 4) rfl .nil); clear s73
      have s75 := St.drop (A := []) s74; clear s74
      have s76 := St.drop (A := []) s75; clear s75
      refine wp_ret ?_
      obtain rfl := Option.some.inj h9
      exact leave s76 (.inl rfl) rfl (.cons (.tmp rfl) .nil)
    · replace h8 := ite_f hc2 h8
      have h10 := h8; clear h8
      refine wp_skip ?_
      refine then_normal ?_
      refine hK6 _ _ ?_
      have s77 := s72.sub (.cons (t := 2) rfl (.cons (t := 5) rfl .nil)); clear s72
      refine wp_seq_k fun K9 hK9 => ?_
      refine wp_seq_k fun K10 hK10 => ?_
      refine wp_goes (Fs := [(ptrB b1 3), ((kint .i64).V p1.Kind), (kbool.V (p1.Kind == (5 : Int))), (kbool.V (p1.Kind == (5 : Int))), (Fact.when ((p1.Kind == (5 : Int)) == false) (ptrB b1 3)), (Fact.when ((p1.Kind == (5 : Int)) == false) ((kint .i64).V p1.Kind)), (Fact.when ((p1.Kind == (5 : Int)) == false) (kbool.V (p1.Kind == (6 : Int)))), (kbool.V (if (p1.Kind == (5 : Int)) then true else (p1.Kind == (6 : Int)))), (ptrB b1 5), ((karr 32 (kint .u8)).V p1.Of), ((karr 32 (kint .u8)).V x1), (kbool.V (decide (p1.Of = x1)))]) (bits := [0, 1, 3, 7, 15, 31, 63, 127, 0, 256, 0, 1792, 4095]) (m := 12) (todo := 0) mx s77 ?_; clear s77
      refine goes_last (by kernel_rfl) rfl (opsS_cons (.plain _ (Av.old (t := 2) rfl rfl Av.nil) rfl rfl (ob_fieldAddr (off' := 3) rfl Try.underlying44 rfl sz3 (by decide) (.tmp rfl) rfl)) (opsS_cons (.plain _ (Av.new (j := 0) rfl rfl rfl Av.nil) rfl rfl (ob_load rfl tk3 (.tmp rfl) (.tail _ (.head _)) (lg_api_Op_Kind p1))) (opsS_cons (.plain _ (Av.new (j := 1) rfl rfl rfl Av.nil) rfl rfl (ob_eql rfl (.tmp rfl) (opd_int rfl))) (opsS_cons (.plain _ (Av.new (j := 2) rfl rfl rfl Av.nil) rfl rfl (ob_move rfl (.tmp rfl))) (opsS_cons (.guarded _ (Av.old (t := 2) rfl rfl (Av.new (j := 3) rfl rfl rfl Av.nil)) rfl rfl rfl rfl (fun hb => ob_fieldAddr (off' := 3) rfl Try.underlying44 rfl sz3 (by decide) (.tmp rfl) rfl)) (opsS_cons (.guarded _ (Av.new (j := 3) rfl rfl rfl (Av.new (j := 4) rfl rfl rfl Av.nil)) rfl rfl rfl rfl (fun hb => (Ob.uncond (t := 68) hb rfl (ob_load rfl tk3 (.tmp rfl) (.tail _ (.head _)) (lg_api_Op_Kind p1))))) (opsS_cons (.guarded _ (Av.new (j := 3) rfl rfl rfl (Av.new (j := 5) rfl rfl rfl Av.nil)) rfl rfl rfl rfl (fun hb => (Ob.uncond (t := 69) hb rfl (ob_eql rfl (.tmp rfl) (opd_int rfl))))) (opsS_cons (.plain _ (Av.new (j := 3) rfl rfl rfl (Av.new (j := 6) rfl rfl rfl Av.nil)) rfl rfl (ob_or2 rfl (.tmp rfl) opd_bool (.tmp rfl))) (opsS_cons (.plain _ (Av.old (t := 2) rfl rfl Av.nil) rfl rfl (ob_fieldAddr (off' := 5) rfl Try.underlying44 rfl sz39 (by decide) (.tmp rfl) rfl)) (opsS_cons (.plain _ (Av.new (j := 8) rfl rfl rfl Av.nil) rfl rfl (ob_load rfl tk39 (.tmp rfl) (.tail _ (.head _)) (lg_api_Op_Of p1))) (opsS_cons (.plain _ (Av.old (t := 5) rfl rfl Av.nil) rfl rfl (ob_load rfl tk39 (.tmp rfl) (.head _) (LG.refl _ _))) (opsS_cons (.plain _ (Av.new (j := 9) rfl rfl rfl (Av.new (j := 10) rfl rfl rfl Av.nil)) rfl rfl (ob_eqAgg rfl rfl (by kernel_rfl) eq39 (by decide) (.tmp rfl) (.tmp rfl))) opsS_nil)))))))))))) (out_old (t := 2) rfl rfl (out_old (t := 5) rfl rfl (out_new (i := 7) (by decide) rfl rfl (out_new (i := 11) (by decide) rfl rfl out_nil)))) fun a78 w78 s78 => ?_
      obtain ⟨x7, e_x7, h11⟩ := bind_some h10; clear h10; replace e_x7 := Option.some.inj e_x7
      refine seq_op s78 rfl rfl (of_decide_eq_true rfl) ((ob_beql rfl Try.underlying4 (.tmp rfl) (.tmp rfl)).nm e_x7) fun a79 w79 s79 => ?_; clear s78
      refine wpList_nil ?_
      refine then_normal ?_
      refine hK10 _ _ ?_
      have s80 := s79.sub (.cons (t := 2) rfl (.cons (t := 5) rfl (.cons (t := 76) rfl .nil))); clear s79
      refine cond_split s80 (.tmp rfl) (fun hc3 => ?_) (fun hc3 => ?_)
      · replace h11 := ite_t hc3 h11
        have h12 := h11; clear h11
        refine wp_seq_k fun K11 hK11 => ?_
        refine wp_region_lit ?_
        refine seq_op s80 rfl rfl (of_decide_eq_true rfl) (ob_assign rfl opd_bool) fun a81 w81 s81 => ?_; clear s80
        refine wpList_nil ?_
        refine then_normal ?_
        refine hK11 _ _ ?_
        have s82 := s81.sub (.cons (t := 4) rfl .nil); clear s81
        have s83 := St.drop (A := []) s82; clear s82
        have s84 := St.drop (A := []) s83; clear s83
        refine wp_ret ?_
        obtain rfl := Option.some.inj h12
        exact leave s84 (.inl rfl) rfl (.cons (.tmp rfl) .nil)
      · replace h11 := ite_f hc3 h11
        have h13 := h11; clear h11
        refine wp_skip ?_
        refine then_normal ?_
        refine hK9 _ _ ?_
        have s85 := s80.sub (.cons (t := 2) rfl (.cons (t := 5) rfl .nil)); clear s80
        refine wp_seq_k fun K12 hK12 => ?_
        refine wp_seq_k fun K13 hK13 => ?_
        refine wp_region_lit ?_
        refine seq_op s85 rfl rfl (of_decide_eq_true rfl) (ob_fieldAddr (off' := 3) rfl Try.underlying44 rfl sz3 (by decide) (.tmp rfl) rfl) fun a86 w86 s86 => ?_; clear s85
        refine seq_op s86 rfl rfl (of_decide_eq_true rfl) (ob_load rfl tk3 (.tmp rfl) (.tail _ (.head _)) (lg_api_Op_Kind p1)) fun a87 w87 s87 => ?_; clear s86
        refine seq_op s87 rfl rfl (of_decide_eq_true rfl) (ob_eql rfl (.tmp rfl) (opd_int rfl)) fun a88 w88 s88 => ?_; clear s87
        refine wpList_nil ?_
        refine then_normal ?_
        refine hK13 _ _ ?_
        have s89 := s88.sub (.cons (t := 2) rfl (.cons (t := 5) rfl (.cons (t := 79) rfl .nil))); clear s88
        refine cond_split s89 (.tmp rfl) (fun hc4 => ?_) (fun hc4 => ?_)
        · replace h13 := ite_t hc4 h13
          have h14 := h13; clear h13
          refine wp_seq_k fun K14 hK14 => ?_
          refine wp_region_lit ?_
          refine seq_op s89 rfl rfl (of_decide_eq_true rfl) (ob_fieldAddr (off' := 37) rfl Try.underlying44 rfl sz39 (by decide) (.tmp rfl) rfl) fun a90 w90 s90 => ?_; clear s89
          refine seq_op s90 rfl rfl (of_decide_eq_true rfl) (ob_load rfl tk39 (.tmp rfl) (.tail _ (.head _)) (lg_api_Op_Check p1)) fun a91 w91 s91 => ?_; clear s90
          refine seq_op s91 rfl rfl (of_decide_eq_true rfl) (ob_load rfl tk39 (.tmp rfl) (.head _) (LG.refl _ _)) fun a92 w92 s92 => ?_; clear s91
          refine seq_op s92 rfl rfl (of_decide_eq_true rfl) (ob_eqAgg rfl rfl (by kernel_rfl) eq39 (by decide) (.tmp rfl) (.tmp rfl)) fun a93 w93 s93 => ?_; clear s92
          refine seq_op s93 rfl rfl (of_decide_eq_true rfl) (ob_move rfl (.tmp rfl)) fun a94 w94 s94 => ?_; clear s93
          refine seq_opg s94 rfl rfl rfl rfl (of_decide_eq_true rfl) (fun hb => ob_fieldAddr (off' := 69) rfl Try.underlying44 rfl sz9 (by decide) (.tmp rfl) rfl) fun a95 w95 s95 => ?_; clear s94
          refine seq_opg s95 rfl rfl rfl rfl (of_decide_eq_true rfl) (fun hb => (Ob.uncond (t := 85) hb rfl (ob_load rfl tk9 (.tmp rfl) (.tail _ (.head _)) (lg_api_Op_Text p1)))) fun a96 w96 s96 => ?_; clear s95
          refine seq_opg s96 rfl rfl rfl rfl (of_decide_eq_true rfl) (fun hb => (Ob.uncond (t := 86) hb rfl (ob_lenStr rfl Try.underlying9 (.tmp rfl)))) fun a97 w97 s97 => ?_; clear s96
          refine seq_opg s97 rfl rfl rfl rfl (of_decide_eq_true rfl) (fun hb => (Ob.uncond (t := 87) hb rfl (ob_gtr rfl (.tmp rfl) (opd_int rfl)))) fun a98 w98 s98 => ?_; clear s97
          obtain ⟨x8, e_x8, h15⟩ := bind_some h14; clear h14; replace e_x8 := Option.some.inj e_x8
          refine seq_op s98 rfl rfl (of_decide_eq_true rfl) ((ob_and2 rfl (.tmp rfl) (.tmp rfl) opd_bool).nm e_x8) fun a99 w99 s99 => ?_; clear s98
          refine seq_op s99 rfl rfl (of_decide_eq_true rfl) (ob_assign rfl (.tmp rfl)) fun a100 w100 s100 => ?_; clear s99
          refine wpList_nil ?_
          refine then_normal ?_
          refine hK14 _ _ ?_
          have s101 := s100.sub (.cons (t := 4) rfl .nil); clear s100
          have s102 := St.drop (A := []) s101; clear s101
          have s103 := St.drop (A := []) s102; clear s102
          refine wp_ret ?_
          obtain rfl := Option.some.inj h15
          exact leave s103 (.inl rfl) rfl (.cons (.tmp rfl) .nil)
        · replace h13 := ite_f hc4 h13
          have h16 := h13; clear h13
          refine wp_skip ?_
          refine then_normal ?_
          refine hK12 _ _ ?_
          have s104 := s89.sub (.cons (t := 2) rfl (.cons (t := 5) rfl .nil)); clear s89
          refine wp_seq_k fun K15 hK15 => ?_
          refine wp_region_lit ?_
          refine seq_op s104 rfl rfl (of_decide_eq_true rfl) (ob_fieldAddr (off' := 37) rfl Try.underlying44 rfl sz39 (by decide) (.tmp rfl) rfl) fun a105 w105 s105 => ?_; clear s104
          refine seq_op s105 rfl rfl (of_decide_eq_true rfl) (ob_load rfl tk39 (.tmp rfl) (.tail _ (.head _)) (lg_api_Op_Check p1)) fun a106 w106 s106 => ?_; clear s105
          refine seq_op s106 rfl rfl (of_decide_eq_true rfl) (ob_load rfl tk39 (.tmp rfl) (.head _) (LG.refl _ _)) fun a107 w107 s107 => ?_; clear s106
          refine seq_op s107 rfl rfl (of_decide_eq_true rfl) (ob_neqAgg rfl rfl (by kernel_rfl) eq39 (by decide) (.tmp rfl) (.tmp rfl)) fun a108 w108 s108 => ?_; clear s107
          refine seq_op s108 rfl rfl (of_decide_eq_true rfl) (ob_move rfl (.tmp rfl)) fun a109 w109 s109 => ?_; clear s108
          refine seq_opg s109 rfl rfl rfl rfl (of_decide_eq_true rfl) (fun hb => ob_fieldAddr (off' := 69) rfl Try.underlying44 rfl sz9 (by decide) (.tmp rfl) rfl) fun a110 w110 s110 => ?_; clear s109
          refine seq_opg s110 rfl rfl rfl rfl (of_decide_eq_true rfl) (fun hb => (Ob.uncond (t := 95) hb rfl (ob_load rfl tk9 (.tmp rfl) (.tail _ (.head _)) (lg_api_Op_Text p1)))) fun a111 w111 s111 => ?_; clear s110
          refine seq_opg s111 rfl rfl rfl rfl (of_decide_eq_true rfl) (fun hb => (Ob.uncond (t := 96) hb rfl (ob_lenStr rfl Try.underlying9 (.tmp rfl)))) fun a112 w112 s112 => ?_; clear s111
          refine seq_opg s112 rfl rfl rfl rfl (of_decide_eq_true rfl) (fun hb => (Ob.uncond (t := 97) hb rfl (ob_eql rfl (.tmp rfl) (opd_int rfl)))) fun a113 w113 s113 => ?_; clear s112
          obtain ⟨x9, e_x9, h17⟩ := bind_some h16; clear h16; replace e_x9 := Option.some.inj e_x9
          refine seq_op s113 rfl rfl (of_decide_eq_true rfl) ((ob_and2 rfl (.tmp rfl) (.tmp rfl) opd_bool).nm e_x9) fun a114 w114 s114 => ?_; clear s113
          refine seq_op s114 rfl rfl (of_decide_eq_true rfl) (ob_assign rfl (.tmp rfl)) fun a115 w115 s115 => ?_; clear s114
          refine wpList_nil ?_
          refine then_normal ?_
          refine hK15 _ _ ?_
          have s116 := s115.sub (.cons (t := 4) rfl .nil); clear s115
          have s117 := St.drop (A := []) s116; clear s116
          have s118 := St.drop (A := []) s117; clear s117
          refine wp_ret ?_
          obtain rfl := Option.some.inj h17
          exact leave s118 (.inl rfl) rfl (.cons (.tmp rfl) .nil)

end Go.Proofs.Ytdlnfgpcnfbjiaa
