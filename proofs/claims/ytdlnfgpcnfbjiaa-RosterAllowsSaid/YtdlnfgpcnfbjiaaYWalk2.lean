/- Each function's code comes to what its plain function answers. No condition. -/
import Derived.Test.YtdlnfgpcnfbjiaaYWalk1
namespace Go.Proofs.Ytdlnfgpcnfbjiaa
open Go Go.RowKit Go.Proofs.Kit Go.Proofs.Pure
set_option linter.unusedVariables false
set_option linter.unusedSimpArgs false
set_option maxRecDepth 100000
set_option maxHeartbeats 2000000

/- 94 cabal/graph.clone -/
theorem c_graph_clone (k : Nat) (p1 : api_Op) (r : api_Op) (h0 : graph_clone k p1 = some r) (ok : Ok) (w0 : World) (z0 : Value) (u0 : (k_api_Op.V p1).holds ok w0 z0) :
    Gives Try.prog 94 [z0] ok w0 (resFact [k_api_Op.V r]) := by
  unfold graph_clone at h0
  refine enter (N := 16) Try.func94 rfl rfl (of_decide_eq_true rfl) (.cons u0 .nil) fun a1 s1 => ?_
  refine wp_seq_k fun K1 hK1 => ?_
  refine wp_region_lit ?_
  refine seq_opx (B' := (fun b1 : Nat => [BF b1 44 k_api_Op p1])) s1 rfl rfl (of_decide_eq_true rfl) (ob_box rfl (.tmp rfl)) fun b1 a2 w2 s2 => ?_; clear s1
  refine seq_opx (B' := (fun b2 : Nat => [BF b2 44 k_api_Op (⟨(0 : Int), (0 : Int), [], (0 : Int), [], (List.replicate 32 (0 : Int)), (List.replicate 32 (0 : Int)), [], []⟩ : api_Op), BF b1 44 k_api_Op p1])) s2 rfl rfl (of_decide_eq_true rfl) (ob_new (k := k_api_Op) rfl zz44 (Zr.iso (f := t_api_Op) (x := (⟨(0 : Int), (0 : Int), [], (0 : Int), [], (List.replicate 32 (0 : Int)), (List.replicate 32 (0 : Int)), [], []⟩ : api_Op)) (Zr.pair (Zr.int .i64) (Zr.pair (Zr.int .u32) (Zr.pair (Zr.sl _) (Zr.pair (Zr.int .i64) (Zr.pair (Zr.sl _) (Zr.pair (Zr.arr 32 (Zr.int .u8)) (Zr.pair (Zr.arr 32 (Zr.int .u8)) (Zr.pair Zr.str (Zr.pair (Zr.sl _) Zr.nil))))))))))) fun b2 a3 w3 s3 => ?_; clear s2
  refine wpList_nil ?_
  refine then_normal ?_
  refine hK1 _ _ ?_
  have s4 := s3.sub (.cons (t := 1) rfl (.cons (t := 2) rfl .nil)); clear s3
  refine wp_seq_k fun K2 hK2 => ?_
  obtain ⟨x1, e_x1, h1⟩ := bind_some h0; clear h0
  obtain ⟨x2, e_x2, h2⟩ := bind_some h1; clear h1
  obtain ⟨x3, e_x3, h3⟩ := bind_some h2; clear h2
  refine wp_goes (Fs := [(ptrB b1 2), ((ksl (karr 32 (kint .u8))).V p1.Parents), ((ksl (karr 32 (kint .u8))).V x1), (ptrB b1 4), ((ksl (kint .i64)).V p1.Who), ((ksl (kint .i64)).V x2), (ptrB b1 70), ((ksl k_api_Box).V p1.Boxes), ((ksl k_api_Box).V x3), (ptrB b1 2)]) (bits := [0, 1, 3, 0, 8, 31, 0, 64, 255, 223, 1023, 2047, 4095, 8191, 16383]) (m := 10) (todo := 0) mx s4 ?_; clear s4
  refine goes_last (by kernel_rfl) rfl (opsS_cons (.plain _ (Av.old (t := 1) rfl rfl Av.nil) rfl rfl (ob_fieldAddr (off' := 2) rfl Try.underlying44 rfl sz40 (by decide) (.tmp rfl) rfl)) (opsS_cons (.plain _ (Av.new (j := 0) rfl rfl rfl Av.nil) rfl rfl (ob_load rfl tk40 (.tmp rfl) (.tail _ (.head _)) (lg_api_Op_Parents p1))) (opsS_cons (.plain _ (Av.new (j := 1) rfl rfl rfl Av.nil) rfl rfl ((ObF.ob (ob_callF (F := resFact [((ksl (karr 32 (kint .u8))).V x1)]) (args := [_]) rfl .direct hb142 (fun a w s fs gs hf hg => by obtain rfl := hf.unnil; obtain rfl := hg.unnil; exact c_slices_Clone_api_Key_api_Key k _ _ e_x1 _ _ _ (s.arg (.tmp rfl))) (by exact fun g => ResF.all (.row (.head _) (KFlat.arr (KFlat.int _)) .nil)))))) (opsS_cons (.plain _ (Av.old (t := 1) rfl rfl Av.nil) rfl rfl (ob_fieldAddr (off' := 4) rfl Try.underlying44 rfl sz41 (by decide) (.tmp rfl) rfl)) (opsS_cons (.plain _ (Av.new (j := 3) rfl rfl rfl Av.nil) rfl rfl (ob_load rfl tk41 (.tmp rfl) (.tail _ (.head _)) (lg_api_Op_Who p1))) (opsS_cons (.plain _ (Av.new (j := 4) rfl rfl rfl Av.nil) rfl rfl ((ObF.ob (ob_callF (F := resFact [((ksl (kint .i64)).V x2)]) (args := [_]) rfl .direct hb80 (fun a w s fs gs hf hg => by obtain rfl := hf.unnil; obtain rfl := hg.unnil; exact c_slices_Clone_int_int k _ _ e_x2 _ _ _ (s.arg (.tmp rfl))) (by exact fun g => ResF.all (.row (.head _) (KFlat.int _) .nil)))))) (opsS_cons (.plain _ (Av.old (t := 1) rfl rfl Av.nil) rfl rfl (ob_fieldAddr (off' := 70) rfl Try.underlying44 rfl sz42 (by decide) (.tmp rfl) rfl)) (opsS_cons (.plain _ (Av.new (j := 6) rfl rfl rfl Av.nil) rfl rfl (ob_load rfl tk42 (.tmp rfl) (.tail _ (.head _)) (lg_api_Op_Boxes p1))) (opsS_cons (.plain _ (Av.new (j := 7) rfl rfl rfl Av.nil) rfl rfl ((ObF.ob (ob_callF (F := resFact [((ksl k_api_Box).V x3)]) (args := [_]) rfl .direct hb143 (fun a w s fs gs hf hg => by obtain rfl := hf.unnil; obtain rfl := hg.unnil; exact c_slices_Clone_api_Box_api_Box k _ _ e_x3 _ _ _ (s.arg (.tmp rfl))) (by exact fun g => ResF.all (.row (.head _) kf_api_Box .nil)))))) (opsS_cons (.plain _ (Av.old (t := 1) rfl rfl Av.nil) rfl rfl (ob_fieldAddr (off' := 2) rfl Try.underlying44 rfl sz40 (by decide) (.tmp rfl) rfl)) opsS_nil)))))))))) (out_old (t := 1) rfl rfl (out_old (t := 2) rfl rfl (out_new (i := 2) (by decide) rfl rfl (out_new (i := 5) (by decide) rfl rfl (out_new (i := 8) (by decide) rfl rfl (out_new (i := 9) (by decide) rfl rfl out_nil)))))) fun a5 w5 s5 => ?_
  refine seq_opx0 (B' := (fun _ : Unit => [BF b2 44 k_api_Op (⟨(0 : Int), (0 : Int), [], (0 : Int), [], (List.replicate 32 (0 : Int)), (List.replicate 32 (0 : Int)), [], []⟩ : api_Op), BF b1 44 k_api_Op ({ p1 with Parents := x1 })])) s5 rfl rfl (ob_store (A := [_]) rfl tk40 (.tmp rfl) (.tmp rfl) rfl (ls_api_Op_Parents p1 x1) rfl) fun _ a6 w6 s6 => ?_; clear s5
  refine seq_op s6 rfl rfl (of_decide_eq_true rfl) (ob_fieldAddr (off' := 4) rfl Try.underlying44 rfl sz41 (by decide) (.tmp rfl) rfl) fun a7 w7 s7 => ?_; clear s6
  refine seq_opx0 (B' := (fun _ : Unit => [BF b2 44 k_api_Op (⟨(0 : Int), (0 : Int), [], (0 : Int), [], (List.replicate 32 (0 : Int)), (List.replicate 32 (0 : Int)), [], []⟩ : api_Op), BF b1 44 k_api_Op ({ { p1 with Parents := x1 } with Who := x2 })])) s7 rfl rfl (ob_store (A := [_]) rfl tk41 (.tmp rfl) (.tmp rfl) rfl (ls_api_Op_Who ({ p1 with Parents := x1 }) x2) rfl) fun _ a8 w8 s8 => ?_; clear s7
  refine seq_op s8 rfl rfl (of_decide_eq_true rfl) (ob_fieldAddr (off' := 70) rfl Try.underlying44 rfl sz42 (by decide) (.tmp rfl) rfl) fun a9 w9 s9 => ?_; clear s8
  obtain ⟨x4, e_x4, h4⟩ := bind_some h3; clear h3; replace e_x4 := Option.some.inj e_x4
  refine seq_opx0 (B' := (fun _ : Unit => [BF b2 44 k_api_Op (⟨(0 : Int), (0 : Int), [], (0 : Int), [], (List.replicate 32 (0 : Int)), (List.replicate 32 (0 : Int)), [], []⟩ : api_Op), BF b1 44 k_api_Op x4])) s9 rfl rfl (ob_store (A := [_]) rfl tk42 (.tmp rfl) (.tmp rfl) rfl (LS.to (ls_api_Op_Boxes ({ { p1 with Parents := x1 } with Who := x2 }) x3) e_x4) rfl) fun _ a10 w10 s10 => ?_; clear s9
  refine wpList_nil ?_
  refine then_normal ?_
  refine hK2 _ _ ?_
  have s11 := s10.sub (.cons (t := 1) rfl (.cons (t := 2) rfl .nil)); clear s10
  refine wp_seq_k fun K3 hK3 => ?_
  refine wp_region_lit ?_
  refine seq_op s11 rfl rfl (of_decide_eq_true rfl) (ob_load rfl tk44 (.tmp rfl) (.tail _ (.head _)) (LG.refl _ _)) fun a12 w12 s12 => ?_; clear s11
  refine seq_opx0 (B' := (fun _ : Unit => [BF b2 44 k_api_Op x4, BF b1 44 k_api_Op x4])) s12 rfl rfl (ob_store (A := []) rfl tk44 (.tmp rfl) (.tmp rfl) rfl (LS.refl _ _ _) rfl) fun _ a13 w13 s13 => ?_; clear s12
  refine wpList_nil ?_
  refine then_normal ?_
  refine hK3 _ _ ?_
  have s14 := s13.sub (.cons (t := 2) rfl .nil); clear s13
  have s15 := St.drop (A := [_]) s14; clear s14
  refine wp_ret ?_
  obtain rfl := Option.some.inj h4
  exact leave s15 (.inl rfl) rfl (.cons (.cell rfl tk44 (.head _) (LG.refl _ _)) .nil)

/- 43 cabal/graph.Add -/
theorem c_graph_Add (k : Nat) (p1 : (List api_Node)) (p2 : (List Int)) (p3 : api_Op) (r : ((List api_Node) × Int)) (h0 : graph_Add k p1 p2 p3 = some r) (ok : Ok) (w0 : World) (z0 : Value) (z1 : Value) (z2 : Value) (u0 : ((ksl k_api_Node).V p1).holds ok w0 z0) (u1 : ((karr 32 (kint .u8)).V p2).holds ok w0 z1) (u2 : (k_api_Op.V p3).holds ok w0 z2) :
    GivesX Try.prog 43 [z0, z1, z2] ok w0 [] (fun g : Value => resFact [is g, (kint .i64).V r.2]) (fun g : Value => [RowF (g) 46 k_api_Node r.1]) := by
  unfold graph_Add at h0
  refine enterX (N := 74) Try.func43 rfl rfl (of_decide_eq_true rfl) (.cons u0 (.cons u1 (.cons u2 .nil))) List.nodup_nil (fun _ h => by cases h) (fun _ h => by cases h) fun a1 s1 => ?_
  refine wp_seq_k fun K1 hK1 => ?_
  refine wp_region_lit ?_
  refine seq_opx (B' := (fun b1 : Nat => [BF b1 39 (karr 32 (kint .u8)) p2])) s1 rfl rfl (of_decide_eq_true rfl) (ob_box rfl (.tmp rfl)) fun b1 a2 w2 s2 => ?_; clear s1
  refine seq_opx (B' := (fun b2 : Nat => [BF b2 44 k_api_Op p3, BF b1 39 (karr 32 (kint .u8)) p2])) s2 rfl rfl (of_decide_eq_true rfl) (ob_box rfl (.tmp rfl)) fun b2 a3 w3 s3 => ?_; clear s2
  refine seq_op s3 rfl rfl (of_decide_eq_true rfl) (ob_assign rfl opd_is) fun a4 w4 s4 => ?_; clear s3
  have s5 := St.adopt s4 (G := RowF (nilRow 1) 46 k_api_Node []) rfl (rowNilN _ _ _ _ _); clear s4
  refine seq_op s5 rfl rfl (of_decide_eq_true rfl) (ob_assign rfl (opd_int rfl)) fun a6 w6 s6 => ?_; clear s5
  refine wpList_nil ?_
  refine then_normal ?_
  refine hK1 _ _ ?_
  have s7 := s6.sub (.cons (t := 0) rfl (.cons (t := 4) rfl (.cons (t := 5) rfl .nil))); clear s6
  have s8 := St.drop (A := []) s7; clear s7
  refine wp_seq_k fun K2 hK2 => ?_
  refine wp_seq_k fun K3 hK3 => ?_
  refine wp_region_lit ?_
  refine seq_op s8 rfl rfl (of_decide_eq_true rfl) (ob_move rfl (.tmp rfl)) fun a9 w9 s9 => ?_; clear s8
  obtain ⟨x1, e_x1, h1⟩ := bind_some h0; clear h0
  refine seq_op s9 rfl rfl (of_decide_eq_true rfl) (ob_callD (args := [_]) rfl .direct hb24 (fun a w s fs gs hf hg => by obtain rfl := hf.unnil; obtain rfl := hg.unnil; exact c_graph_Right k _ _ e_x1 _ _ _ (s.arg (.tmp rfl)))) fun a10 w10 s10 => ?_; clear s9
  refine seq_op s10 rfl rfl (of_decide_eq_true rfl) (ob_not rfl (.tmp rfl)) fun a11 w11 s11 => ?_; clear s10
  refine seq_op s11 rfl rfl (of_decide_eq_true rfl) (ob_move rfl (.tmp rfl)) fun a12 w12 s12 => ?_; clear s11
  refine seq_opg s12 rfl rfl rfl rfl (of_decide_eq_true rfl) (fun hb => ob_load rfl tk44 (.tmp rfl) (.head _) (LG.refl _ _)) fun a13 w13 s13 => ?_; clear s12
  obtain ⟨x2, e_x2, h2⟩ := bind_some h1; clear h1
  refine seq_opg s13 rfl rfl rfl rfl (of_decide_eq_true rfl) (fun hb => (Ob.uncond (t := 17) hb rfl (ob_callD (args := [_]) rfl .direct hb91 (fun a w s fs gs hf hg => by obtain rfl := hf.unnil; obtain rfl := hg.unnil; exact c_frame_Right k _ _ (ite_t hb e_x2) _ _ _ (s.arg (.tmp rfl)))))) fun a14 w14 s14 => ?_; clear s13
  refine seq_opg s14 rfl rfl rfl rfl (of_decide_eq_true rfl) (fun hb => (Ob.uncond (t := 18) hb rfl (ob_not rfl (.tmp rfl)))) fun a15 w15 s15 => ?_; clear s14
  refine seq_op s15 rfl rfl (of_decide_eq_true rfl) (ob_or2 rfl (.tmp rfl) opd_bool (.tmp rfl)) fun a16 w16 s16 => ?_; clear s15
  refine wpList_nil ?_
  refine then_normal ?_
  refine hK3 _ _ ?_
  have s17 := s16.sub (.cons (t := 0) rfl (.cons (t := 4) rfl (.cons (t := 5) rfl (.cons (t := 20) rfl .nil)))); clear s16
  refine cond_split s17 (.tmp rfl) (fun hc1 => ?_) (fun hc1 => ?_)
  · replace h2 := ite_t hc1 h2
    have h3 := h2; clear h2
    refine wp_seq_k fun K4 hK4 => ?_
    refine wp_region_lit ?_
    refine seq_op s17 rfl rfl (of_decide_eq_true rfl) (ob_assign rfl opd_is) fun a18 w18 s18 => ?_; clear s17
    have s19 := St.adopt s18 (G := RowF (nilRow 5) 46 k_api_Node []) rfl (rowNilN _ _ _ _ _); clear s18
    refine seq_op s19 rfl rfl (of_decide_eq_true rfl) (ob_assign rfl (opd_int rfl)) fun a20 w20 s20 => ?_; clear s19
    refine wpList_nil ?_
    refine then_normal ?_
    refine hK4 _ _ ?_
    have s21 := s20.sub (.cons (t := 6) rfl (.cons (t := 7) rfl .nil)); clear s20
    have s22 := St.drop (A := [_]) s21; clear s21
    have s23 := St.drop (A := [_]) s22; clear s22
    refine wp_ret ?_
    obtain rfl := Option.some.inj h3
    exact leaveXD (D := []) (nilRow 5) s23 rfl (.inl rfl) rfl (.cons (.tmp rfl) (.cons (.tmp rfl) .nil)) rfl
  · replace h2 := ite_f hc1 h2
    have h4 := h2; clear h2
    refine wp_skip ?_
    refine then_normal ?_
    refine hK2 _ _ ?_
    have s24 := s17.sub (.cons (t := 0) rfl (.cons (t := 4) rfl (.cons (t := 5) rfl .nil))); clear s17
    refine wp_seq_k fun K5 hK5 => ?_
    refine wp_block ?_
    refine wp_seq_k fun K6 hK6 => ?_
    refine wp_region_lit ?_
    refine seq_op s24 rfl rfl (of_decide_eq_true rfl) (ob_move rfl (.tmp rfl)) fun a25 w25 s25 => ?_; clear s24
    refine seq_op s25 rfl rfl (of_decide_eq_true rfl) (ob_load rfl tk39 (.tmp rfl) (.tail _ (.head _)) (LG.refl _ _)) fun a26 w26 s26 => ?_; clear s25
    obtain ⟨x3, e_x3, h5⟩ := bind_some h4; clear h4
    refine seq_op s26 rfl rfl (of_decide_eq_true rfl) (ob_callD (args := [_, _]) rfl .direct hb48 (fun a w s fs gs hf hg => by obtain rfl := hf.unnil; obtain rfl := hg.unnil; exact c_graph_Find k _ _ _ e_x3 _ _ _ _ (s.arg (.tmp rfl)) (s.arg (.tmp rfl)))) fun a27 w27 s27 => ?_; clear s26
    refine seq_op s27 rfl rfl (of_decide_eq_true rfl) (ob_geq rfl (.tmp rfl) (opd_int rfl)) fun a28 w28 s28 => ?_; clear s27
    refine seq_op s28 rfl rfl (of_decide_eq_true rfl) (ob_assign rfl (.tmp rfl)) fun a29 w29 s29 => ?_; clear s28
    refine wpList_nil ?_
    refine then_normal ?_
    refine hK6 _ _ ?_
    have s30 := s29.sub (.cons (t := 0) rfl (.cons (t := 4) rfl (.cons (t := 5) rfl (.cons (t := 21) rfl .nil)))); clear s29
    refine cond_split s30 (.tmp rfl) (fun hc2 => ?_) (fun hc2 => ?_)
    · replace h5 := ite_t hc2 h5
      have h6 := h5; clear h5
      refine wp_seq_k fun K7 hK7 => ?_
      refine wp_region_lit ?_
      refine seq_op s30 rfl rfl (of_decide_eq_true rfl) (ob_assign rfl opd_is) fun a31 w31 s31 => ?_; clear s30
      have s32 := St.adopt s31 (G := RowF (nilRow 6) 46 k_api_Node []) rfl (rowNilN _ _ _ _ _); clear s31
      refine seq_op s32 rfl rfl (of_decide_eq_true rfl) (ob_assign rfl (opd_int rfl)) fun a33 w33 s33 => ?_; clear s32
      refine wpList_nil ?_
      refine then_normal ?_
      refine hK7 _ _ ?_
      have s34 := s33.sub (.cons (t := 6) rfl (.cons (t := 7) rfl .nil)); clear s33
      have s35 := St.drop (A := [_]) s34; clear s34
      have s36 := St.drop (A := [_]) s35; clear s35
      refine wp_ret ?_
      obtain rfl := Option.some.inj h6
      exact leaveXD (D := []) (nilRow 6) s36 rfl (.inl rfl) rfl (.cons (.tmp rfl) (.cons (.tmp rfl) .nil)) rfl
    · replace h5 := ite_f hc2 h5
      have h7 := h5; clear h5
      refine wp_seq_k fun K8 hK8 => ?_
      refine wp_region_lit ?_
      refine seq_op s30 rfl rfl (of_decide_eq_true rfl) (ob_move rfl (.tmp rfl)) fun a37 w37 s37 => ?_; clear s30
      refine seq_op s37 rfl rfl (of_decide_eq_true rfl) (ob_lens rfl Try.underlying22 (.tmp rfl)) fun a38 w38 s38 => ?_; clear s37
      refine seq_op s38 rfl rfl (of_decide_eq_true rfl) (ob_eql rfl (.tmp rfl) (opd_int rfl)) fun a39 w39 s39 => ?_; clear s38
      refine seq_op s39 rfl rfl (of_decide_eq_true rfl) (ob_assign rfl (.tmp rfl)) fun a40 w40 s40 => ?_; clear s39
      refine wpList_nil ?_
      refine then_normal ?_
      refine hK8 _ _ ?_
      have s41 := s40.sub (.cons (t := 0) rfl (.cons (t := 4) rfl (.cons (t := 5) rfl (.cons (t := 26) rfl .nil)))); clear s40
      refine cond_split s41 (.tmp rfl) (fun hc3 => ?_) (fun hc3 => ?_)
      · replace h7 := ite_t hc3 h7
        have h8 := h7; clear h7
        refine wp_seq_k fun K9 hK9 => ?_
        refine wp_region_lit ?_
        refine seq_op s41 rfl rfl (of_decide_eq_true rfl) (ob_assign rfl opd_is) fun a42 w42 s42 => ?_; clear s41
        have s43 := St.adopt s42 (G := RowF (nilRow 7) 46 k_api_Node []) rfl (rowNilN _ _ _ _ _); clear s42
        refine seq_op s43 rfl rfl (of_decide_eq_true rfl) (ob_assign rfl (opd_int rfl)) fun a44 w44 s44 => ?_; clear s43
        refine wpList_nil ?_
        refine then_normal ?_
        refine hK9 _ _ ?_
        have s45 := s44.sub (.cons (t := 6) rfl (.cons (t := 7) rfl .nil)); clear s44
        have s46 := St.drop (A := [_]) s45; clear s45
        have s47 := St.drop (A := [_]) s46; clear s46
        refine wp_ret ?_
        obtain rfl := Option.some.inj h8
        exact leaveXD (D := []) (nilRow 7) s47 rfl (.inl rfl) rfl (.cons (.tmp rfl) (.cons (.tmp rfl) .nil)) rfl
      · replace h7 := ite_f hc3 h7
        have h9 := h7; clear h7
        refine wp_skip ?_
        refine in_normal ?_
        refine then_normal ?_
        refine hK5 _ _ ?_
        have s48 := s41.sub (.cons (t := 0) rfl (.cons (t := 4) rfl (.cons (t := 5) rfl .nil))); clear s41
        refine wp_seq_k fun K10 hK10 => ?_
        refine wp_region_lit ?_
        refine seq_op s48 rfl rfl (of_decide_eq_true rfl) (ob_move rfl (.tmp rfl)) fun a49 w49 s49 => ?_; clear s48
        refine seq_op s49 rfl rfl (of_decide_eq_true rfl) (ob_fieldAddr (off' := 2) rfl Try.underlying44 rfl sz40 (by decide) (.tmp rfl) rfl) fun a50 w50 s50 => ?_; clear s49
        refine seq_op s50 rfl rfl (of_decide_eq_true rfl) (ob_load rfl tk40 (.tmp rfl) (.head _) (lg_api_Op_Parents p3)) fun a51 w51 s51 => ?_; clear s50
        obtain ⟨x4, e_x4, h10⟩ := bind_some h9; clear h9
        refine seq_opx (B' := (fun v1 : Value => [RowF v1 3 (kint .i64) x4.1, BF b2 44 k_api_Op p3, BF b1 39 (karr 32 (kint .u8)) p2])) s51 rfl rfl (of_decide_eq_true rfl) (ob_callL (args := [_, _]) (L := []) rfl .direct hb92 (List.Perm.refl _) (fun a w s fs gs hf hg => by obtain rfl := hf.unnil; obtain rfl := hg.unnil; exact c_graph_past k _ _ _ e_x4 _ _ _ _ (s.arg (.tmp rfl)) (s.arg (.tmp rfl))) (by exact fun _ => rfl)) fun v1 a52 w52 s52 => ?_; clear s51
        refine seq_op s52 rfl rfl (of_decide_eq_true rfl) (ob_move rfl (.tmp rfl)) fun a53 w53 s53 => ?_; clear s52
        refine seq_op s53 rfl rfl (of_decide_eq_true rfl) (ob_extract rfl (.tmp rfl) rfl) fun a54 w54 s54 => ?_; clear s53
        refine seq_op s54 rfl rfl (of_decide_eq_true rfl) (ob_extract rfl (.tmp rfl) rfl) fun a55 w55 s55 => ?_; clear s54
        refine seq_op s55 rfl rfl (of_decide_eq_true rfl) (ob_assign rfl (.tmp rfl)) fun a56 w56 s56 => ?_; clear s55
        refine seq_op s56 rfl rfl (of_decide_eq_true rfl) (ob_assign rfl (.tmp rfl)) fun a57 w57 s57 => ?_; clear s56
        refine wpList_nil ?_
        refine then_normal ?_
        refine hK10 _ _ ?_
        have s58 := s57.sub (.cons (t := 0) rfl (.cons (t := 4) rfl (.cons (t := 5) rfl (.cons (t := 8) rfl (.cons (t := 9) rfl .nil))))); clear s57
        refine wp_seq_k fun K11 hK11 => ?_
        refine wp_block ?_
        refine wp_seq_k fun K12 hK12 => ?_
        refine wp_region_lit ?_
        refine seq_op s58 rfl rfl (of_decide_eq_true rfl) (ob_move rfl (.tmp rfl)) fun a59 w59 s59 => ?_; clear s58
        refine seq_op s59 rfl rfl (of_decide_eq_true rfl) (ob_neq rfl (.tmp rfl) (opd_int rfl)) fun a60 w60 s60 => ?_; clear s59
        refine seq_op s60 rfl rfl (of_decide_eq_true rfl) (ob_assign rfl (.tmp rfl)) fun a61 w61 s61 => ?_; clear s60
        refine wpList_nil ?_
        refine then_normal ?_
        refine hK12 _ _ ?_
        have s62 := s61.sub (.cons (t := 0) rfl (.cons (t := 4) rfl (.cons (t := 5) rfl (.cons (t := 8) rfl (.cons (t := 9) rfl (.cons (t := 37) rfl .nil)))))); clear s61
        refine cond_split s62 (.tmp rfl) (fun hc4 => ?_) (fun hc4 => ?_)
        · replace h10 := ite_t hc4 h10
          have h11 := h10; clear h10
          refine wp_seq_k fun K13 hK13 => ?_
          refine wp_region_lit ?_
          refine seq_op s62 rfl rfl (of_decide_eq_true rfl) (ob_move rfl (.tmp rfl)) fun a63 w63 s63 => ?_; clear s62
          refine seq_op s63 rfl rfl (of_decide_eq_true rfl) (ob_assign rfl opd_is) fun a64 w64 s64 => ?_; clear s63
          have s65 := St.adopt s64 (G := RowF (nilRow 8) 46 k_api_Node []) rfl (rowNilN _ _ _ _ _); clear s64
          refine seq_op s65 rfl rfl (of_decide_eq_true rfl) (ob_assign rfl (.tmp rfl)) fun a66 w66 s66 => ?_; clear s65
          refine wpList_nil ?_
          refine then_normal ?_
          refine hK13 _ _ ?_
          have s67 := s66.sub (.cons (t := 6) rfl (.cons (t := 7) rfl .nil)); clear s66
          have s68 := St.drop (A := [_]) s67; clear s67
          have s69 := St.drop (A := [_]) s68; clear s68
          have s70 := St.drop (A := [_]) s69; clear s69
          refine wp_ret ?_
          obtain rfl := Option.some.inj h11
          exact leaveXD (D := []) (nilRow 8) s70 rfl (.inl rfl) rfl (.cons (.tmp rfl) (.cons (.tmp rfl) .nil)) rfl
        · replace h10 := ite_f hc4 h10
          have h12 := h10; clear h10
          refine wp_seq_k fun K14 hK14 => ?_
          refine wp_region_lit ?_
          refine seq_op s62 rfl rfl (of_decide_eq_true rfl) (ob_move rfl (.tmp rfl)) fun a71 w71 s71 => ?_; clear s62
          refine seq_op s71 rfl rfl (of_decide_eq_true rfl) (ob_load rfl tk44 (.tmp rfl) (.tail _ (.head _)) (LG.refl _ _)) fun a72 w72 s72 => ?_; clear s71
          refine seq_op s72 rfl rfl (of_decide_eq_true rfl) (ob_move rfl (.tmp rfl)) fun a73 w73 s73 => ?_; clear s72
          obtain ⟨x5, e_x5, h13⟩ := bind_some h12; clear h12
          refine seq_op s73 rfl rfl (of_decide_eq_true rfl) ((ob_lendG (L := [_]) (List.Perm.refl _) (.cons (t := 44) rfl (lendRow (.head _)) .nil) (Flat.res1 (Flat.V KFlat.bool)) (fun _ => ob_callD (args := [_, _, _]) rfl .direct hb93 (fun a w s fs gs hf hg => by obtain rfl := hf.unnil; obtain rfl := hg.unnil; exact c_graph_turn k _ _ _ _ e_x5 _ _ _ _ _ (s.arg (.tmp rfl)) (s.arg (.tmp rfl)) (s.arg (.tmp rfl)))))) fun a74 w74 s74 => ?_; clear s73
          refine seq_op s74 rfl rfl (of_decide_eq_true rfl) (ob_not rfl (.tmp rfl)) fun a75 w75 s75 => ?_; clear s74
          refine seq_op s75 rfl rfl (of_decide_eq_true rfl) (ob_assign rfl (.tmp rfl)) fun a76 w76 s76 => ?_; clear s75
          refine wpList_nil ?_
          refine then_normal ?_
          refine hK14 _ _ ?_
          have s77 := s76.sub (.cons (t := 0) rfl (.cons (t := 4) rfl (.cons (t := 5) rfl (.cons (t := 8) rfl (.cons (t := 41) rfl .nil))))); clear s76
          refine cond_split s77 (.tmp rfl) (fun hc5 => ?_) (fun hc5 => ?_)
          · replace h13 := ite_t hc5 h13
            have h14 := h13; clear h13
            refine wp_seq_k fun K15 hK15 => ?_
            refine wp_region_lit ?_
            refine seq_op s77 rfl rfl (of_decide_eq_true rfl) (ob_assign rfl opd_is) fun a78 w78 s78 => ?_; clear s77
            have s79 := St.adopt s78 (G := RowF (nilRow 9) 46 k_api_Node []) rfl (rowNilN _ _ _ _ _); clear s78
            refine seq_op s79 rfl rfl (of_decide_eq_true rfl) (ob_assign rfl (opd_int rfl)) fun a80 w80 s80 => ?_; clear s79
            refine wpList_nil ?_
            refine then_normal ?_
            refine hK15 _ _ ?_
            have s81 := s80.sub (.cons (t := 6) rfl (.cons (t := 7) rfl .nil)); clear s80
            have s82 := St.drop (A := [_]) s81; clear s81
            have s83 := St.drop (A := [_]) s82; clear s82
            have s84 := St.drop (A := [_]) s83; clear s83
            refine wp_ret ?_
            obtain rfl := Option.some.inj h14
            exact leaveXD (D := []) (nilRow 9) s84 rfl (.inl rfl) rfl (.cons (.tmp rfl) (.cons (.tmp rfl) .nil)) rfl
          · replace h13 := ite_f hc5 h13
            have h15 := h13; clear h13
            refine wp_skip ?_
            refine in_normal ?_
            refine then_normal ?_
            refine hK11 _ _ ?_
            have s85 := s77.sub (.cons (t := 0) rfl (.cons (t := 4) rfl (.cons (t := 5) rfl (.cons (t := 8) rfl .nil)))); clear s77
            refine wp_seq_k fun K16 hK16 => ?_
            refine wp_region_lit ?_
            refine seq_op s85 rfl rfl (of_decide_eq_true rfl) (ob_assign rfl opd_is) fun a86 w86 s86 => ?_; clear s85
            have s87 := St.adopt s86 (G := RowF (nilRow 10) 46 k_api_Node []) rfl (rowNilN _ _ _ _ _); clear s86
            refine wpList_nil ?_
            refine then_normal ?_
            refine hK16 _ _ ?_
            have s88 := s87.sub (.cons (t := 0) rfl (.cons (t := 4) rfl (.cons (t := 5) rfl (.cons (t := 8) rfl (.cons (t := 10) rfl .nil))))); clear s87
            refine wp_seq_k fun K17 hK17 => ?_
            refine wp_seq_k fun K18 hK18 => ?_
            refine wp_region_lit ?_
            refine seq_op s88 rfl rfl (of_decide_eq_true rfl) (ob_move rfl (.tmp rfl)) fun a89 w89 s89 => ?_; clear s88
            refine seq_op s89 rfl rfl (of_decide_eq_true rfl) (ob_lens rfl Try.underlying22 (.tmp rfl)) fun a90 w90 s90 => ?_; clear s89
            refine seq_op s90 rfl rfl (of_decide_eq_true rfl) (ob_move rfl (opd_int rfl)) fun a91 w91 s91 => ?_; clear s90
            refine wpList_nil ?_
            refine then_normal ?_
            refine hK18 _ _ ?_
            have s92 := s91.sub (.cons (t := 4) rfl (.cons (t := 5) rfl (.cons (t := 8) rfl (.cons (t := 10) rfl (.cons (t := 47) rfl (.cons (t := 48) rfl (.cons (t := 49) rfl .nil))))))); clear s91
            have hj1 : ∀ (y1 : (List api_Node)) (v2 : Value) (a : Act) (w : World), (graph_Add.j1 k p3 p2 x4) y1 = some r → St ⟨74, w0, ok, (idsOf [])⟩ [BF b1 39 (karr 32 (kint .u8)) p2, BF b2 44 k_api_Op p3, RowF v1 3 (kint .i64) x4.1, RowF v2 46 k_api_Node y1] [(4, (ptrB b1 0)), (5, (ptrB b2 0)), (8, (is v1)), (10, (is v2))] a w → K17 a w := by
              intro y1 v2 a93 w93 h16 s93
              unfold graph_Add.j1 at h16
              refine hK17 _ _ ?_
              refine wp_seq_k fun K19 hK19 => ?_
              have s94 := St.freezeAllM (A := [_, _]) s93 (ts := [8]) (.cons rfl .nil); clear s93
              obtain ⟨x6, e_x6, h17⟩ := bind_some h16; clear h16
              refine wp_goes (Fs := [(is v2), ((karr 32 (kint .u8)).V p2), (k_api_Op.V p3), (k_api_Op.V x6), ((ksl (kint .i64)).V x4.1), (k_api_Node.V (⟨p2, x6, x4.1⟩ : api_Node)), ((ksl k_api_Node).V ([(⟨p2, x6, x4.1⟩ : api_Node)] : (List api_Node)))]) (bits := [0, 0, 0, 4, 0, 30, 62, 127, 255, 511]) (m := 7) (todo := 0) mx s94 ?_; clear s94
              refine goes_last (by kernel_rfl) rfl (opsS_cons (.plain _ (Av.old (t := 10) rfl rfl Av.nil) rfl rfl (ob_move rfl (.tmp rfl))) (opsS_cons (.plain _ (Av.old (t := 4) rfl rfl Av.nil) rfl rfl (ob_load rfl tk39 (.tmp rfl) (.head _) (LG.refl _ _))) (opsS_cons (.plain _ (Av.old (t := 5) rfl rfl Av.nil) rfl rfl (ob_load rfl tk44 (.tmp rfl) (.tail _ (.head _)) (LG.refl _ _))) (opsS_cons (.plain _ (Av.new (j := 2) rfl rfl rfl Av.nil) rfl rfl (ob_callD (args := [_]) rfl .direct hb94 (fun a w s fs gs hf hg => by obtain rfl := hf.unnil; obtain rfl := hg.unnil; exact c_graph_clone k _ _ e_x6 _ _ _ (s.arg (.tmp rfl))))) (opsS_cons (.plain _ (Av.old (t := 8) rfl rfl Av.nil) rfl rfl (ob_move rfl (.tmp rfl))) (opsS_cons (.plain _ (Av.new (j := 1) rfl rfl rfl (Av.new (j := 3) rfl rfl rfl (Av.new (j := 4) rfl rfl rfl Av.nil))) rfl rfl (ob_mkStruct (K := k_api_Node) (X0 := (⟨(List.replicate 32 (0 : Int)), (⟨(0 : Int), (0 : Int), [], (0 : Int), [], (List.replicate 32 (0 : Int)), (List.replicate 32 (0 : Int)), [], []⟩ : api_Op), []⟩ : api_Node)) rfl Try.underlying46 zz46 rfl pl46 (Zr.iso (f := t_api_Node) (x := (⟨(List.replicate 32 (0 : Int)), (⟨(0 : Int), (0 : Int), [], (0 : Int), [], (List.replicate 32 (0 : Int)), (List.replicate 32 (0 : Int)), [], []⟩ : api_Op), []⟩ : api_Node)) (Zr.pair (Zr.arr 32 (Zr.int .u8)) (Zr.pair (Zr.iso (f := t_api_Op) (x := (⟨(0 : Int), (0 : Int), [], (0 : Int), [], (List.replicate 32 (0 : Int)), (List.replicate 32 (0 : Int)), [], []⟩ : api_Op)) (Zr.pair (Zr.int .i64) (Zr.pair (Zr.int .u32) (Zr.pair (Zr.sl _) (Zr.pair (Zr.int .i64) (Zr.pair (Zr.sl _) (Zr.pair (Zr.arr 32 (Zr.int .u8)) (Zr.pair (Zr.arr 32 (Zr.int .u8)) (Zr.pair Zr.str (Zr.pair (Zr.sl _) Zr.nil)))))))))) (Zr.pair (Zr.sl _) Zr.nil)))) (.cons (.tmp rfl) rfl (ls_api_Node_Id (⟨(List.replicate 32 (0 : Int)), (⟨(0 : Int), (0 : Int), [], (0 : Int), [], (List.replicate 32 (0 : Int)), (List.replicate 32 (0 : Int)), [], []⟩ : api_Op), []⟩ : api_Node) p2) (.cons (.tmp rfl) rfl (ls_api_Node_Op (⟨p2, (⟨(0 : Int), (0 : Int), [], (0 : Int), [], (List.replicate 32 (0 : Int)), (List.replicate 32 (0 : Int)), [], []⟩ : api_Op), []⟩ : api_Node) x6) (.cons (.tmp rfl) rfl (ls_api_Node_Past (⟨p2, x6, []⟩ : api_Node) x4.1) (.nil _)))))) (opsS_cons (.plain _ (Av.new (j := 5) rfl rfl rfl Av.nil) rfl rfl (ob_mkSlice (k := k_api_Node) (xs := ([(⟨p2, x6, x4.1⟩ : api_Node)] : (List api_Node))) rfl Try.underlying22 zz46 sz46 (Zr.iso (f := t_api_Node) (x := (⟨(List.replicate 32 (0 : Int)), (⟨(0 : Int), (0 : Int), [], (0 : Int), [], (List.replicate 32 (0 : Int)), (List.replicate 32 (0 : Int)), [], []⟩ : api_Op), []⟩ : api_Node)) (Zr.pair (Zr.arr 32 (Zr.int .u8)) (Zr.pair (Zr.iso (f := t_api_Op) (x := (⟨(0 : Int), (0 : Int), [], (0 : Int), [], (List.replicate 32 (0 : Int)), (List.replicate 32 (0 : Int)), [], []⟩ : api_Op)) (Zr.pair (Zr.int .i64) (Zr.pair (Zr.int .u32) (Zr.pair (Zr.sl _) (Zr.pair (Zr.int .i64) (Zr.pair (Zr.sl _) (Zr.pair (Zr.arr 32 (Zr.int .u8)) (Zr.pair (Zr.arr 32 (Zr.int .u8)) (Zr.pair Zr.str (Zr.pair (Zr.sl _) Zr.nil)))))))))) (Zr.pair (Zr.sl _) Zr.nil)))) (by decide) (by decide) (.cons (.tmp rfl) rfl (LS.arr' (i := 0) (ys := ([(⟨p2, x6, x4.1⟩ : api_Node)] : (List api_Node))) (by simp) (by rfl)) (.nil _)))) opsS_nil))))))) (out_new (i := 0) (by decide) rfl rfl (out_new (i := 6) (by decide) rfl rfl out_nil)) fun a95 w95 s95 => ?_
              obtain ⟨g1, h18⟩ := guard_some h17; clear h17
              refine seq_opx (B' := (fun v3 : Value => [BF b1 39 (karr 32 (kint .u8)) p2, BF b2 44 k_api_Op p3, RowF v3 46 k_api_Node (y1 ++ ([(⟨p2, x6, x4.1⟩ : api_Node)] : (List api_Node)))])) s95 rfl rfl (of_decide_eq_true rfl) (ob_appendL2 (A := [_, _]) rfl Try.underlying22 ap46 (Zr.iso (f := t_api_Node) (x := (⟨(List.replicate 32 (0 : Int)), (⟨(0 : Int), (0 : Int), [], (0 : Int), [], (List.replicate 32 (0 : Int)), (List.replicate 32 (0 : Int)), [], []⟩ : api_Op), []⟩ : api_Node)) (Zr.pair (Zr.arr 32 (Zr.int .u8)) (Zr.pair (Zr.iso (f := t_api_Op) (x := (⟨(0 : Int), (0 : Int), [], (0 : Int), [], (List.replicate 32 (0 : Int)), (List.replicate 32 (0 : Int)), [], []⟩ : api_Op)) (Zr.pair (Zr.int .i64) (Zr.pair (Zr.int .u32) (Zr.pair (Zr.sl _) (Zr.pair (Zr.int .i64) (Zr.pair (Zr.sl _) (Zr.pair (Zr.arr 32 (Zr.int .u8)) (Zr.pair (Zr.arr 32 (Zr.int .u8)) (Zr.pair Zr.str (Zr.pair (Zr.sl _) Zr.nil)))))))))) (Zr.pair (Zr.sl _) Zr.nil)))) (by decide) (.tmp rfl) (.tmp rfl) rfl g1) fun v3 a96 w96 s96 => ?_; clear s95
              refine seq_op s96 rfl rfl (of_decide_eq_true rfl) (ob_assign rfl (.tmp rfl)) fun a97 w97 s97 => ?_; clear s96
              refine seq_op s97 rfl rfl (of_decide_eq_true rfl) (ob_assign rfl (opd_int rfl)) fun a98 w98 s98 => ?_; clear s97
              refine wpList_nil ?_
              refine then_normal ?_
              refine hK19 _ _ ?_
              have s99 := s98.sub (.cons (t := 6) rfl (.cons (t := 7) rfl .nil)); clear s98
              have s100 := St.drop (A := []) s99; clear s99
              have s101 := St.drop (A := []) s100; clear s100
              refine wp_ret ?_
              obtain rfl := Option.some.inj h18
              exact leaveXD (D := []) v3 s101 rfl (.inl rfl) rfl (.cons (.tmp rfl) (.cons (.tmp rfl) .nil)) rfl
            refine wp_block ?_
            have s102 := s92.perm (toFront [_, _, _] (toFront [_, _] (toFront [_] (toFront [] (List.Perm.refl _))))); clear s92
            refine wp_loop_fuel (fun m (q : Int × (List api_Node)) => graph_Add.l1 k p1 p3 p2 x4 m q.1 q.2) r (fun _ => rfl) (fun q a w => ∃ (v4 : Value), St ⟨74, w0, ok, (idsOf [])⟩ [BF b1 39 (karr 32 (kint .u8)) p2, BF b2 44 k_api_Op p3, RowF v1 3 (kint .i64) x4.1, RowF v4 46 k_api_Node q.2] [(4, (ptrB b1 0)), (5, (ptrB b2 0)), (8, (is v1)), (10, (is v4)), (47, ((ksl k_api_Node).V p1)), (48, ((kint .i64).V (p1.length : Int))), (49, ((kint .i64).V q.1))] a w) ?_ k ((0 : Int), ([] : (List api_Node))) _ _ h15 ⟨(nilRow 10), (s102.sub (.cons rfl (.cons rfl (.cons rfl (.cons rfl (.cons rfl (.cons rfl (.cons rfl .nil))))))))⟩
            rintro n1 ⟨y2, y3⟩ a103 w103 h19 ⟨v4, s103⟩ K20 hK20
            replace h19 : graph_Add.l1 k p1 p3 p2 x4 (n1 + 1) y2 y3 = some r := h19; rw [graph_Add.l1] at h19
            have h20 := h19; clear h19
            refine wp_seq_k fun K21 hK21 => ?_
            refine wp_region_lit ?_
            refine seq_op s103 rfl rfl (of_decide_eq_true rfl) (ob_lss rfl (.tmp rfl) (.tmp rfl)) fun a104 w104 s104 => ?_; clear s103
            refine wpList_nil ?_
            refine then_normal ?_
            refine hK21 _ _ ?_
            have s105 := s104.sub (.cons (t := 4) rfl (.cons (t := 5) rfl (.cons (t := 8) rfl (.cons (t := 10) rfl (.cons (t := 47) rfl (.cons (t := 48) rfl (.cons (t := 49) rfl (.cons (t := 50) rfl .nil)))))))); clear s104
            refine wp_seq_k fun K22 hK22 => ?_
            refine cond_split s105 (.tmp rfl) (fun hc6 => ?_) (fun hc6 => ?_)
            · replace h20 := ite_t hc6 h20
              have h21 := h20; clear h20
              refine wp_skip ?_
              refine then_normal ?_
              refine hK22 _ _ ?_
              have s106 := s105.sub (.cons (t := 4) rfl (.cons (t := 5) rfl (.cons (t := 8) rfl (.cons (t := 10) rfl (.cons (t := 47) rfl (.cons (t := 48) rfl (.cons (t := 49) rfl .nil))))))); clear s105
              refine wp_seq_k fun K23 hK23 => ?_
              refine wp_block ?_
              refine wp_seq_k fun K24 hK24 => ?_
              refine wp_region_lit ?_
              obtain ⟨x7, e_x7, h22⟩ := bind_some h21; clear h21
              refine seq_op s106 rfl rfl (of_decide_eq_true rfl) (ob_indexAddrs rfl Try.underlying22 sz46 (.tmp rfl) (.tmp rfl) e_x7) fun a107 w107 s107 => ?_; clear s106
              refine seq_op s107 rfl rfl (of_decide_eq_true rfl) (ob_loadr rfl tk46 (.tmp rfl)) fun a108 w108 s108 => ?_; clear s107
              refine seq_opx (B' := (fun b3 : Nat => [BF b3 46 k_api_Node (⟨(List.replicate 32 (0 : Int)), (⟨(0 : Int), (0 : Int), [], (0 : Int), [], (List.replicate 32 (0 : Int)), (List.replicate 32 (0 : Int)), [], []⟩ : api_Op), []⟩ : api_Node), BF b1 39 (karr 32 (kint .u8)) p2, BF b2 44 k_api_Op p3, RowF v1 3 (kint .i64) x4.1, RowF v4 46 k_api_Node y3])) s108 rfl rfl (of_decide_eq_true rfl) (ob_new (k := k_api_Node) rfl zz46 (Zr.iso (f := t_api_Node) (x := (⟨(List.replicate 32 (0 : Int)), (⟨(0 : Int), (0 : Int), [], (0 : Int), [], (List.replicate 32 (0 : Int)), (List.replicate 32 (0 : Int)), [], []⟩ : api_Op), []⟩ : api_Node)) (Zr.pair (Zr.arr 32 (Zr.int .u8)) (Zr.pair (Zr.iso (f := t_api_Op) (x := (⟨(0 : Int), (0 : Int), [], (0 : Int), [], (List.replicate 32 (0 : Int)), (List.replicate 32 (0 : Int)), [], []⟩ : api_Op)) (Zr.pair (Zr.int .i64) (Zr.pair (Zr.int .u32) (Zr.pair (Zr.sl _) (Zr.pair (Zr.int .i64) (Zr.pair (Zr.sl _) (Zr.pair (Zr.arr 32 (Zr.int .u8)) (Zr.pair (Zr.arr 32 (Zr.int .u8)) (Zr.pair Zr.str (Zr.pair (Zr.sl _) Zr.nil)))))))))) (Zr.pair (Zr.sl _) Zr.nil))))) fun b3 a109 w109 s109 => ?_; clear s108
              refine seq_opx0 (B' := (fun _ : Unit => [BF b3 46 k_api_Node x7, BF b1 39 (karr 32 (kint .u8)) p2, BF b2 44 k_api_Op p3, RowF v1 3 (kint .i64) x4.1, RowF v4 46 k_api_Node y3])) s109 rfl rfl (ob_store (A := []) rfl tk46 (.tmp rfl) (.tmp rfl) rfl (LS.refl _ _ _) rfl) fun _ a110 w110 s110 => ?_; clear s109
              refine wpList_nil ?_
              refine then_normal ?_
              refine hK24 _ _ ?_
              have s111 := s110.sub (.cons (t := 4) rfl (.cons (t := 5) rfl (.cons (t := 8) rfl (.cons (t := 10) rfl (.cons (t := 12) rfl (.cons (t := 47) rfl (.cons (t := 48) rfl (.cons (t := 49) rfl .nil)))))))); clear s110
              obtain ⟨x8, e_x8, h23⟩ := bind_some h22; clear h22
              obtain ⟨x9, e_x9, h24⟩ := bind_some h23; clear h23
              refine wp_goes (Fs := [(is v4), (ptrB b3 0), ((karr 32 (kint .u8)).V x7.Id), (ptrB b3 32), (k_api_Op.V x7.Op), (k_api_Op.V x8), (ptrB b3 103), ((ksl (kint .i64)).V x7.Past), ((ksl (kint .i64)).V x9), (k_api_Node.V (⟨x7.Id, x8, x9⟩ : api_Node)), ((ksl k_api_Node).V ([(⟨x7.Id, x8, x9⟩ : api_Node)] : (List api_Node)))]) (bits := [0, 0, 2, 0, 8, 24, 0, 64, 248, 510, 1022, 2047, 4095]) (m := 11) (todo := 0) mx s111 ?_; clear s111
              refine goes_last (by kernel_rfl) rfl (opsS_cons (.plain _ (Av.old (t := 10) rfl rfl Av.nil) rfl rfl (ob_move rfl (.tmp rfl))) (opsS_cons (.plain _ (Av.old (t := 12) rfl rfl Av.nil) rfl rfl (ob_fieldAddr (off' := 0) rfl Try.underlying46 rfl sz39 (by decide) (.tmp rfl) rfl)) (opsS_cons (.plain _ (Av.new (j := 1) rfl rfl rfl Av.nil) rfl rfl (ob_load rfl tk39 (.tmp rfl) (.head _) (lg_api_Node_Id x7))) (opsS_cons (.plain _ (Av.old (t := 12) rfl rfl Av.nil) rfl rfl (ob_fieldAddr (off' := 32) rfl Try.underlying46 rfl sz44 (by decide) (.tmp rfl) rfl)) (opsS_cons (.plain _ (Av.new (j := 3) rfl rfl rfl Av.nil) rfl rfl (ob_load rfl tk44 (.tmp rfl) (.head _) (lg_api_Node_Op x7))) (opsS_cons (.plain _ (Av.new (j := 4) rfl rfl rfl Av.nil) rfl rfl (ob_callD (args := [_]) rfl .direct hb94 (fun a w s fs gs hf hg => by obtain rfl := hf.unnil; obtain rfl := hg.unnil; exact c_graph_clone k _ _ e_x8 _ _ _ (s.arg (.tmp rfl))))) (opsS_cons (.plain _ (Av.old (t := 12) rfl rfl Av.nil) rfl rfl (ob_fieldAddr (off' := 103) rfl Try.underlying46 rfl sz41 (by decide) (.tmp rfl) rfl)) (opsS_cons (.plain _ (Av.new (j := 6) rfl rfl rfl Av.nil) rfl rfl (ob_load rfl tk41 (.tmp rfl) (.head _) (lg_api_Node_Past x7))) (opsS_cons (.plain _ (Av.new (j := 7) rfl rfl rfl Av.nil) rfl rfl ((ObF.ob (ob_callF (F := resFact [((ksl (kint .i64)).V x9)]) (args := [_]) rfl .direct hb80 (fun a w s fs gs hf hg => by obtain rfl := hf.unnil; obtain rfl := hg.unnil; exact c_slices_Clone_int_int k _ _ e_x9 _ _ _ (s.arg (.tmp rfl))) (by exact fun g => ResF.all (.row (.head _) (KFlat.int _) .nil)))))) (opsS_cons (.plain _ (Av.new (j := 2) rfl rfl rfl (Av.new (j := 5) rfl rfl rfl (Av.new (j := 8) rfl rfl rfl Av.nil))) rfl rfl (ob_mkStruct (K := k_api_Node) (X0 := (⟨(List.replicate 32 (0 : Int)), (⟨(0 : Int), (0 : Int), [], (0 : Int), [], (List.replicate 32 (0 : Int)), (List.replicate 32 (0 : Int)), [], []⟩ : api_Op), []⟩ : api_Node)) rfl Try.underlying46 zz46 rfl pl46 (Zr.iso (f := t_api_Node) (x := (⟨(List.replicate 32 (0 : Int)), (⟨(0 : Int), (0 : Int), [], (0 : Int), [], (List.replicate 32 (0 : Int)), (List.replicate 32 (0 : Int)), [], []⟩ : api_Op), []⟩ : api_Node)) (Zr.pair (Zr.arr 32 (Zr.int .u8)) (Zr.pair (Zr.iso (f := t_api_Op) (x := (⟨(0 : Int), (0 : Int), [], (0 : Int), [], (List.replicate 32 (0 : Int)), (List.replicate 32 (0 : Int)), [], []⟩ : api_Op)) (Zr.pair (Zr.int .i64) (Zr.pair (Zr.int .u32) (Zr.pair (Zr.sl _) (Zr.pair (Zr.int .i64) (Zr.pair (Zr.sl _) (Zr.pair (Zr.arr 32 (Zr.int .u8)) (Zr.pair (Zr.arr 32 (Zr.int .u8)) (Zr.pair Zr.str (Zr.pair (Zr.sl _) Zr.nil)))))))))) (Zr.pair (Zr.sl _) Zr.nil)))) (.cons (.tmp rfl) rfl (ls_api_Node_Id (⟨(List.replicate 32 (0 : Int)), (⟨(0 : Int), (0 : Int), [], (0 : Int), [], (List.replicate 32 (0 : Int)), (List.replicate 32 (0 : Int)), [], []⟩ : api_Op), []⟩ : api_Node) x7.Id) (.cons (.tmp rfl) rfl (ls_api_Node_Op (⟨x7.Id, (⟨(0 : Int), (0 : Int), [], (0 : Int), [], (List.replicate 32 (0 : Int)), (List.replicate 32 (0 : Int)), [], []⟩ : api_Op), []⟩ : api_Node) x8) (.cons (.tmp rfl) rfl (ls_api_Node_Past (⟨x7.Id, x8, []⟩ : api_Node) x9) (.nil _)))))) (opsS_cons (.plain _ (Av.new (j := 9) rfl rfl rfl Av.nil) rfl rfl (ob_mkSlice (k := k_api_Node) (xs := ([(⟨x7.Id, x8, x9⟩ : api_Node)] : (List api_Node))) rfl Try.underlying22 zz46 sz46 (Zr.iso (f := t_api_Node) (x := (⟨(List.replicate 32 (0 : Int)), (⟨(0 : Int), (0 : Int), [], (0 : Int), [], (List.replicate 32 (0 : Int)), (List.replicate 32 (0 : Int)), [], []⟩ : api_Op), []⟩ : api_Node)) (Zr.pair (Zr.arr 32 (Zr.int .u8)) (Zr.pair (Zr.iso (f := t_api_Op) (x := (⟨(0 : Int), (0 : Int), [], (0 : Int), [], (List.replicate 32 (0 : Int)), (List.replicate 32 (0 : Int)), [], []⟩ : api_Op)) (Zr.pair (Zr.int .i64) (Zr.pair (Zr.int .u32) (Zr.pair (Zr.sl _) (Zr.pair (Zr.int .i64) (Zr.pair (Zr.sl _) (Zr.pair (Zr.arr 32 (Zr.int .u8)) (Zr.pair (Zr.arr 32 (Zr.int .u8)) (Zr.pair Zr.str (Zr.pair (Zr.sl _) Zr.nil)))))))))) (Zr.pair (Zr.sl _) Zr.nil)))) (by decide) (by decide) (.cons (.tmp rfl) rfl (LS.arr' (i := 0) (ys := ([(⟨x7.Id, x8, x9⟩ : api_Node)] : (List api_Node))) (by simp) (by rfl)) (.nil _)))) opsS_nil))))))))))) (out_old (t := 4) rfl rfl (out_old (t := 5) rfl rfl (out_old (t := 8) rfl rfl (out_old (t := 10) rfl rfl (out_old (t := 47) rfl rfl (out_old (t := 48) rfl rfl (out_old (t := 49) rfl rfl (out_new (i := 0) (by decide) rfl rfl (out_new (i := 10) (by decide) rfl rfl out_nil))))))))) fun a112 w112 s112 => ?_
              obtain ⟨g2, h25⟩ := guard_some h24; clear h24
              refine seq_opx (B' := (fun v5 : Value => [BF b3 46 k_api_Node x7, BF b1 39 (karr 32 (kint .u8)) p2, BF b2 44 k_api_Op p3, RowF v1 3 (kint .i64) x4.1, RowF v5 46 k_api_Node (y3 ++ ([(⟨x7.Id, x8, x9⟩ : api_Node)] : (List api_Node)))])) s112 rfl rfl (of_decide_eq_true rfl) (ob_appendL2 (A := [_, _, _, _]) rfl Try.underlying22 ap46 (Zr.iso (f := t_api_Node) (x := (⟨(List.replicate 32 (0 : Int)), (⟨(0 : Int), (0 : Int), [], (0 : Int), [], (List.replicate 32 (0 : Int)), (List.replicate 32 (0 : Int)), [], []⟩ : api_Op), []⟩ : api_Node)) (Zr.pair (Zr.arr 32 (Zr.int .u8)) (Zr.pair (Zr.iso (f := t_api_Op) (x := (⟨(0 : Int), (0 : Int), [], (0 : Int), [], (List.replicate 32 (0 : Int)), (List.replicate 32 (0 : Int)), [], []⟩ : api_Op)) (Zr.pair (Zr.int .i64) (Zr.pair (Zr.int .u32) (Zr.pair (Zr.sl _) (Zr.pair (Zr.int .i64) (Zr.pair (Zr.sl _) (Zr.pair (Zr.arr 32 (Zr.int .u8)) (Zr.pair (Zr.arr 32 (Zr.int .u8)) (Zr.pair Zr.str (Zr.pair (Zr.sl _) Zr.nil)))))))))) (Zr.pair (Zr.sl _) Zr.nil)))) (by decide) (.tmp rfl) (.tmp rfl) rfl g2) fun v5 a113 w113 s113 => ?_; clear s112
              refine seq_op s113 rfl rfl (of_decide_eq_true rfl) (ob_assign rfl (.tmp rfl)) fun a114 w114 s114 => ?_; clear s113
              refine wpList_nil ?_
              refine in_normal ?_
              refine then_normal ?_
              refine hK23 _ _ ?_
              have s115 := s114.sub (.cons (t := 4) rfl (.cons (t := 5) rfl (.cons (t := 8) rfl (.cons (t := 10) rfl (.cons (t := 47) rfl (.cons (t := 48) rfl (.cons (t := 49) rfl .nil))))))); clear s114
              have s116 := St.drop (A := []) s115; clear s115
              refine wp_region_lit ?_
              refine seq_op s116 rfl rfl (of_decide_eq_true rfl) (ob_add rfl (.tmp rfl) (opd_int rfl)) fun a117 w117 s117 => ?_; clear s116
              refine seq_op s117 rfl rfl (of_decide_eq_true rfl) (ob_move rfl (.tmp rfl)) fun a118 w118 s118 => ?_; clear s117
              refine wpList_nil ?_
              refine then_normal ?_
              exact hK20 ((iadd .i64 y2 (1 : Int)), (y3 ++ ([(⟨x7.Id, x8, x9⟩ : api_Node)] : (List api_Node)))) _ _ h25 ⟨v5, (s118.sub (.cons rfl (.cons rfl (.cons rfl (.cons rfl (.cons rfl (.cons rfl (.cons rfl .nil))))))))⟩
            · replace h20 := ite_f hc6 h20
              have h26 := h20; clear h20
              refine wp_exit ?_
              refine (then_exit (then_exit (in_here ?_)))
              refine then_normal ?_
              exact hj1 y3 v4 _ _ h26 (s105.sub (.cons rfl (.cons rfl (.cons rfl (.cons rfl .nil)))))

/- 45 cabal/caballaw16.op -/
theorem c_caballaw16_op (k : Nat) (p1 : Int) (p2 : Int) (p3 : Int) (p4 : Int) (p5 : (List (List Int))) (r : api_Op) (h0 : caballaw16_op k p1 p2 p3 p4 p5 = some r) (ok : Ok) (w0 : World) (z0 : Value) (z1 : Value) (z2 : Value) (z3 : Value) (z4 : Value) (u0 : ((kint .i64).V p1).holds ok w0 z0) (u1 : ((kint .i64).V p2).holds ok w0 z1) (u2 : ((kint .u32).V p3).holds ok w0 z2) (u3 : ((kint .i64).V p4).holds ok w0 z3) (u4 : ((ksl (karr 32 (kint .u8))).V p5).holds ok w0 z4) :
    Gives Try.prog 45 [z0, z1, z2, z3, z4] ok w0 (resFact [k_api_Op.V r]) := by
  unfold caballaw16_op at h0
  refine enter (N := 24) Try.func45 rfl rfl (of_decide_eq_true rfl) (.cons u0 (.cons u1 (.cons u2 (.cons u3 (.cons u4 .nil))))) fun a1 s1 => ?_
  refine wp_seq_k fun K1 hK1 => ?_
  refine wp_region_lit ?_
  refine seq_opx (B' := (fun b1 : Nat => [BF b1 44 k_api_Op (⟨(0 : Int), (0 : Int), [], (0 : Int), [], (List.replicate 32 (0 : Int)), (List.replicate 32 (0 : Int)), [], []⟩ : api_Op)])) s1 rfl rfl (of_decide_eq_true rfl) (ob_new (k := k_api_Op) rfl zz44 (Zr.iso (f := t_api_Op) (x := (⟨(0 : Int), (0 : Int), [], (0 : Int), [], (List.replicate 32 (0 : Int)), (List.replicate 32 (0 : Int)), [], []⟩ : api_Op)) (Zr.pair (Zr.int .i64) (Zr.pair (Zr.int .u32) (Zr.pair (Zr.sl _) (Zr.pair (Zr.int .i64) (Zr.pair (Zr.sl _) (Zr.pair (Zr.arr 32 (Zr.int .u8)) (Zr.pair (Zr.arr 32 (Zr.int .u8)) (Zr.pair Zr.str (Zr.pair (Zr.sl _) Zr.nil))))))))))) fun b1 a2 w2 s2 => ?_; clear s1
  refine wpList_nil ?_
  refine then_normal ?_
  refine hK1 _ _ ?_
  have s3 := s2.sub (.cons (t := 0) rfl (.cons (t := 1) rfl (.cons (t := 2) rfl (.cons (t := 3) rfl (.cons (t := 4) rfl (.cons (t := 10) rfl .nil)))))); clear s2
  refine wp_seq_k fun K2 hK2 => ?_
  refine wp_region_lit ?_
  refine seq_op s3 rfl rfl (of_decide_eq_true rfl) (ob_move rfl (.tmp rfl)) fun a4 w4 s4 => ?_; clear s3
  refine seq_op s4 rfl rfl (of_decide_eq_true rfl) (ob_move rfl (.tmp rfl)) fun a5 w5 s5 => ?_; clear s4
  refine seq_op s5 rfl rfl (of_decide_eq_true rfl) (ob_move rfl (.tmp rfl)) fun a6 w6 s6 => ?_; clear s5
  refine seq_op s6 rfl rfl (of_decide_eq_true rfl) (ob_move rfl (.tmp rfl)) fun a7 w7 s7 => ?_; clear s6
  obtain ⟨x1, e_x1, h1⟩ := bind_some h0; clear h0; replace e_x1 := Option.some.inj e_x1
  refine seq_op s7 rfl rfl (of_decide_eq_true rfl) (((ob_mkArr (k := (kint .u8)) rfl Try.underlying39 zz39 sz5 (Zr.arr 32 (Zr.int .u8)) (.cons (opd_int rfl) rfl (LS.arr' (i := 0) (ys := ([(1 : Int), (0 : Int), (0 : Int), (0 : Int), (0 : Int), (0 : Int), (0 : Int), (0 : Int), (0 : Int), (0 : Int), (0 : Int), (0 : Int), (0 : Int), (0 : Int), (0 : Int), (0 : Int), (0 : Int), (0 : Int), (0 : Int), (0 : Int), (0 : Int), (0 : Int), (0 : Int), (0 : Int), (0 : Int), (0 : Int), (0 : Int), (0 : Int), (0 : Int), (0 : Int), (0 : Int), (0 : Int)] : (List Int))) (by simp) (by rfl)) (.nil _)) : Ob _ _ _ _ _ ((karr 32 (kint .u8)).V ([(1 : Int), (0 : Int), (0 : Int), (0 : Int), (0 : Int), (0 : Int), (0 : Int), (0 : Int), (0 : Int), (0 : Int), (0 : Int), (0 : Int), (0 : Int), (0 : Int), (0 : Int), (0 : Int), (0 : Int), (0 : Int), (0 : Int), (0 : Int), (0 : Int), (0 : Int), (0 : Int), (0 : Int), (0 : Int), (0 : Int), (0 : Int), (0 : Int), (0 : Int), (0 : Int), (0 : Int), (0 : Int)] : (List Int))))).nm e_x1) fun a8 w8 s8 => ?_; clear s7
  obtain ⟨x2, e_x2, h2⟩ := bind_some h1; clear h1; replace e_x2 := Option.some.inj e_x2
  refine seq_op s8 rfl rfl (of_decide_eq_true rfl) ((ob_mkStruct (K := k_api_Op) (X0 := (⟨(0 : Int), (0 : Int), [], (0 : Int), [], (List.replicate 32 (0 : Int)), (List.replicate 32 (0 : Int)), [], []⟩ : api_Op)) rfl Try.underlying44 zz44 rfl pl44 (Zr.iso (f := t_api_Op) (x := (⟨(0 : Int), (0 : Int), [], (0 : Int), [], (List.replicate 32 (0 : Int)), (List.replicate 32 (0 : Int)), [], []⟩ : api_Op)) (Zr.pair (Zr.int .i64) (Zr.pair (Zr.int .u32) (Zr.pair (Zr.sl _) (Zr.pair (Zr.int .i64) (Zr.pair (Zr.sl _) (Zr.pair (Zr.arr 32 (Zr.int .u8)) (Zr.pair (Zr.arr 32 (Zr.int .u8)) (Zr.pair Zr.str (Zr.pair (Zr.sl _) Zr.nil)))))))))) (.cons (.tmp rfl) rfl (ls_api_Op_Author (⟨(0 : Int), (0 : Int), [], (0 : Int), [], (List.replicate 32 (0 : Int)), (List.replicate 32 (0 : Int)), [], []⟩ : api_Op) p2) (.cons (.tmp rfl) rfl (ls_api_Op_Seq (⟨p2, (0 : Int), [], (0 : Int), [], (List.replicate 32 (0 : Int)), (List.replicate 32 (0 : Int)), [], []⟩ : api_Op) p3) (.cons (.tmp rfl) rfl (ls_api_Op_Kind (⟨p2, p3, [], (0 : Int), [], (List.replicate 32 (0 : Int)), (List.replicate 32 (0 : Int)), [], []⟩ : api_Op) p1) (.cons (.tmp rfl) rfl (ls_api_Op_Parents (⟨p2, p3, [], p1, [], (List.replicate 32 (0 : Int)), (List.replicate 32 (0 : Int)), [], []⟩ : api_Op) p5) (.cons (.tmp rfl) rfl (ls_api_Op_Check (⟨p2, p3, p5, p1, [], (List.replicate 32 (0 : Int)), (List.replicate 32 (0 : Int)), [], []⟩ : api_Op) x1) (.nil _))))))).nm e_x2) fun a9 w9 s9 => ?_; clear s8
  refine seq_opx (B' := (fun b2 : Nat => [BF b2 44 k_api_Op (⟨(0 : Int), (0 : Int), [], (0 : Int), [], (List.replicate 32 (0 : Int)), (List.replicate 32 (0 : Int)), [], []⟩ : api_Op), BF b1 44 k_api_Op (⟨(0 : Int), (0 : Int), [], (0 : Int), [], (List.replicate 32 (0 : Int)), (List.replicate 32 (0 : Int)), [], []⟩ : api_Op)])) s9 rfl rfl (of_decide_eq_true rfl) (ob_new (k := k_api_Op) rfl zz44 (Zr.iso (f := t_api_Op) (x := (⟨(0 : Int), (0 : Int), [], (0 : Int), [], (List.replicate 32 (0 : Int)), (List.replicate 32 (0 : Int)), [], []⟩ : api_Op)) (Zr.pair (Zr.int .i64) (Zr.pair (Zr.int .u32) (Zr.pair (Zr.sl _) (Zr.pair (Zr.int .i64) (Zr.pair (Zr.sl _) (Zr.pair (Zr.arr 32 (Zr.int .u8)) (Zr.pair (Zr.arr 32 (Zr.int .u8)) (Zr.pair Zr.str (Zr.pair (Zr.sl _) Zr.nil))))))))))) fun b2 a10 w10 s10 => ?_; clear s9
  refine seq_opx0 (B' := (fun _ : Unit => [BF b2 44 k_api_Op x2, BF b1 44 k_api_Op (⟨(0 : Int), (0 : Int), [], (0 : Int), [], (List.replicate 32 (0 : Int)), (List.replicate 32 (0 : Int)), [], []⟩ : api_Op)])) s10 rfl rfl (ob_store (A := []) rfl tk44 (.tmp rfl) (.tmp rfl) rfl (LS.refl _ _ _) rfl) fun _ a11 w11 s11 => ?_; clear s10
  refine wpList_nil ?_
  refine then_normal ?_
  refine hK2 _ _ ?_
  have s12 := s11.sub (.cons (t := 3) rfl (.cons (t := 10) rfl (.cons (t := 11) rfl .nil))); clear s11
  refine wp_seq_k fun K3 hK3 => ?_
  refine wp_seq_k fun K4 hK4 => ?_
  refine wp_region_lit ?_
  refine seq_op s12 rfl rfl (of_decide_eq_true rfl) (ob_move rfl (.tmp rfl)) fun a13 w13 s13 => ?_; clear s12
  refine seq_op s13 rfl rfl (of_decide_eq_true rfl) (ob_geq rfl (.tmp rfl) (opd_int rfl)) fun a14 w14 s14 => ?_; clear s13
  refine wpList_nil ?_
  refine then_normal ?_
  refine hK4 _ _ ?_
  have s15 := s14.sub (.cons (t := 3) rfl (.cons (t := 10) rfl (.cons (t := 11) rfl (.cons (t := 19) rfl .nil)))); clear s14
  have hj1 : ∀ (y1 : api_Op) (a : Act) (w : World), (caballaw16_op.j1 k) y1 = some r → St ⟨24, w0, ok, []⟩ [BF b1 44 k_api_Op (⟨(0 : Int), (0 : Int), [], (0 : Int), [], (List.replicate 32 (0 : Int)), (List.replicate 32 (0 : Int)), [], []⟩ : api_Op), BF b2 44 k_api_Op y1] [(10, (ptrB b1 0)), (11, (ptrB b2 0))] a w → K3 a w := by
    intro y1 a16 w16 h3 s16
    unfold caballaw16_op.j1 at h3
    refine hK3 _ _ ?_
    refine wp_seq_k fun K5 hK5 => ?_
    refine wp_region_lit ?_
    refine seq_op s16 rfl rfl (of_decide_eq_true rfl) (ob_load rfl tk44 (.tmp rfl) (.tail _ (.head _)) (LG.refl _ _)) fun a17 w17 s17 => ?_; clear s16
    refine seq_opx0 (B' := (fun _ : Unit => [BF b1 44 k_api_Op y1, BF b2 44 k_api_Op y1])) s17 rfl rfl (ob_store (A := []) rfl tk44 (.tmp rfl) (.tmp rfl) rfl (LS.refl _ _ _) rfl) fun _ a18 w18 s18 => ?_; clear s17
    refine wpList_nil ?_
    refine then_normal ?_
    refine hK5 _ _ ?_
    have s19 := s18.sub (.cons (t := 10) rfl .nil); clear s18
    have s20 := St.drop (A := [_]) s19; clear s19
    refine wp_ret ?_
    obtain rfl := Option.some.inj h3
    exact leave s20 (.inl rfl) rfl (.cons (.cell rfl tk44 (.head _) (LG.refl _ _)) .nil)
  refine cond_split s15 (.tmp rfl) (fun hc1 => ?_) (fun hc1 => ?_)
  · replace h2 := ite_t hc1 h2
    have h4 := h2; clear h2
    refine wp_region_lit ?_
    refine seq_op s15 rfl rfl (of_decide_eq_true rfl) (ob_move rfl (.tmp rfl)) fun a21 w21 s21 => ?_; clear s15
    refine seq_op s21 rfl rfl (of_decide_eq_true rfl) (ob_mkSlice (k := (kint .i64)) (xs := ([p4] : (List Int))) rfl Try.underlying41 zz3 sz3 (Zr.int .i64) (by decide) (by decide) (.cons (.tmp rfl) rfl (LS.arr' (i := 0) (ys := ([p4] : (List Int))) (by simp) (by rfl)) (.nil _))) fun a22 w22 s22 => ?_; clear s21
    refine seq_op s22 rfl rfl (of_decide_eq_true rfl) (ob_fieldAddr (off' := 4) rfl Try.underlying44 rfl sz41 (by decide) (.tmp rfl) rfl) fun a23 w23 s23 => ?_; clear s22
    refine seq_opx0 (B' := (fun _ : Unit => [BF b2 44 k_api_Op ({ x2 with Who := ([p4] : (List Int)) }), BF b1 44 k_api_Op (⟨(0 : Int), (0 : Int), [], (0 : Int), [], (List.replicate 32 (0 : Int)), (List.replicate 32 (0 : Int)), [], []⟩ : api_Op)])) s23 rfl rfl (ob_store (A := []) rfl tk41 (.tmp rfl) (.tmp rfl) rfl (ls_api_Op_Who x2 ([p4] : (List Int))) rfl) fun _ a24 w24 s24 => ?_; clear s23
    refine wpList_nil ?_
    refine then_normal ?_
    have s25 := s24.perm (toFront [_] (toFront [] (List.Perm.refl _))); clear s24
    exact hj1 ({ x2 with Who := ([p4] : (List Int)) }) _ _ h4 (s25.sub (.cons rfl (.cons rfl .nil)))
  · replace h2 := ite_f hc1 h2
    have h5 := h2; clear h2
    refine wp_skip ?_
    refine then_normal ?_
    have s26 := s15.perm (toFront [_] (toFront [] (List.Perm.refl _))); clear s15
    exact hj1 x2 _ _ h5 (s26.sub (.cons rfl (.cons rfl .nil)))

/- 87 cabal/roster.closed -/
theorem c_roster_closed (k : Nat) (p1 : (List api_Node)) (p2 : (List Int)) (r : Bool) (h0 : roster_closed k p1 p2 = some r) (ok : Ok) (w0 : World) (z0 : Value) (z1 : Value) (u0 : ((ksl k_api_Node).V p1).holds ok w0 z0) (u1 : ((ksl (kint .i64)).V p2).holds ok w0 z1) :
    Gives Try.prog 87 [z0, z1] ok w0 (resFact [kbool.V r]) := by
  unfold roster_closed at h0
  refine enter (N := 53) Try.func87 rfl rfl (of_decide_eq_true rfl) (.cons u0 (.cons u1 .nil)) fun a1 s1 => ?_
  refine wp_seq_k fun K1 hK1 => ?_
  refine wp_region_lit ?_
  refine seq_op s1 rfl rfl (of_decide_eq_true rfl) (ob_assign rfl opd_bool) fun a2 w2 s2 => ?_; clear s1
  refine wpList_nil ?_
  refine then_normal ?_
  refine hK1 _ _ ?_
  have s3 := s2.sub (.cons (t := 0) rfl (.cons (t := 1) rfl .nil)); clear s2
  refine wp_seq_k fun K2 hK2 => ?_
  refine wp_seq_k fun K3 hK3 => ?_
  refine wp_region_lit ?_
  refine seq_op s3 rfl rfl (of_decide_eq_true rfl) (ob_move rfl (.tmp rfl)) fun a4 w4 s4 => ?_; clear s3
  refine seq_op s4 rfl rfl (of_decide_eq_true rfl) (ob_lens rfl Try.underlying41 (.tmp rfl)) fun a5 w5 s5 => ?_; clear s4
  refine seq_op s5 rfl rfl (of_decide_eq_true rfl) (ob_move rfl (opd_int rfl)) fun a6 w6 s6 => ?_; clear s5
  refine wpList_nil ?_
  refine then_normal ?_
  refine hK3 _ _ ?_
  have s7 := s6.sub (.cons (t := 0) rfl (.cons (t := 1) rfl (.cons (t := 9) rfl (.cons (t := 10) rfl (.cons (t := 11) rfl .nil))))); clear s6
  have hj1 : ∀ (a : Act) (w : World), (roster_closed.j1 k) = some r → St ⟨53, w0, ok, []⟩ [] [] a w → K2 a w := by
    intro a8 w8 h1 s8
    unfold roster_closed.j1 at h1
    refine hK2 _ _ ?_
    refine wp_seq_k fun K4 hK4 => ?_
    refine wp_region_lit ?_
    refine seq_op s8 rfl rfl (of_decide_eq_true rfl) (ob_assign rfl opd_bool) fun a9 w9 s9 => ?_; clear s8
    refine wpList_nil ?_
    refine then_normal ?_
    refine hK4 _ _ ?_
    have s10 := s9.sub (.cons (t := 4) rfl .nil); clear s9
    refine wp_ret ?_
    obtain rfl := Option.some.inj h1
    exact leave s10 (.inl rfl) rfl (.cons (.tmp rfl) .nil)
  refine wp_block ?_
  refine wp_loop_fuel (fun m (q : Int) => roster_closed.l1 k p2 p1 m q) r (fun _ => rfl) (fun q a w => St ⟨53, w0, ok, []⟩ [] [(0, ((ksl k_api_Node).V p1)), (1, ((ksl (kint .i64)).V p2)), (9, ((ksl (kint .i64)).V p2)), (10, ((kint .i64).V (p2.length : Int))), (11, ((kint .i64).V q))] a w) ?_ k (0 : Int) _ _ h0 (s7.sub (.cons rfl (.cons rfl (.cons rfl (.cons rfl (.cons rfl .nil))))))
  rintro n1 y1 a11 w11 h2 s11 K5 hK5
  replace h2 : roster_closed.l1 k p2 p1 (n1 + 1) y1 = some r := h2; rw [roster_closed.l1] at h2
  have h3 := h2; clear h2
  refine wp_seq_k fun K6 hK6 => ?_
  refine wp_region_lit ?_
  refine seq_op s11 rfl rfl (of_decide_eq_true rfl) (ob_lss rfl (.tmp rfl) (.tmp rfl)) fun a12 w12 s12 => ?_; clear s11
  refine wpList_nil ?_
  refine then_normal ?_
  refine hK6 _ _ ?_
  have s13 := s12.sub (.cons (t := 0) rfl (.cons (t := 1) rfl (.cons (t := 9) rfl (.cons (t := 10) rfl (.cons (t := 11) rfl (.cons (t := 12) rfl .nil)))))); clear s12
  refine wp_seq_k fun K7 hK7 => ?_
  refine cond_split s13 (.tmp rfl) (fun hc1 => ?_) (fun hc1 => ?_)
  · replace h3 := ite_t hc1 h3
    have h4 := h3; clear h3
    refine wp_skip ?_
    refine then_normal ?_
    refine hK7 _ _ ?_
    have s14 := s13.sub (.cons (t := 0) rfl (.cons (t := 1) rfl (.cons (t := 9) rfl (.cons (t := 10) rfl (.cons (t := 11) rfl .nil))))); clear s13
    refine wp_seq_k fun K8 hK8 => ?_
    have hj2 : ∀ (a : Act) (w : World), (roster_closed.j2 k y1 (roster_closed.l1 k p2 p1 n1)) = some r → St ⟨53, w0, ok, []⟩ [] [(0, ((ksl k_api_Node).V p1)), (1, ((ksl (kint .i64)).V p2)), (9, ((ksl (kint .i64)).V p2)), (10, ((kint .i64).V (p2.length : Int))), (11, ((kint .i64).V y1))] a w → K8 a w := by
      intro a15 w15 h5 s15
      unfold roster_closed.j2 at h5
      refine hK8 _ _ ?_
      refine wp_region_lit ?_
      refine seq_op s15 rfl rfl (of_decide_eq_true rfl) (ob_add rfl (.tmp rfl) (opd_int rfl)) fun a16 w16 s16 => ?_; clear s15
      refine seq_op s16 rfl rfl (of_decide_eq_true rfl) (ob_move rfl (.tmp rfl)) fun a17 w17 s17 => ?_; clear s16
      refine wpList_nil ?_
      refine then_normal ?_
      exact hK5 (iadd .i64 y1 (1 : Int)) _ _ h5 (s17.sub (.cons rfl (.cons rfl (.cons rfl (.cons rfl (.cons rfl .nil))))))
    refine wp_block ?_
    refine wp_seq_k fun K9 hK9 => ?_
    refine wp_region_lit ?_
    refine seq_op s14 rfl rfl (of_decide_eq_true rfl) (ob_move rfl (.tmp rfl)) fun a18 w18 s18 => ?_; clear s14
    obtain ⟨x1, e_x1, h6⟩ := bind_some h4; clear h4
    refine seq_op s18 rfl rfl (of_decide_eq_true rfl) (ob_indexAddrs rfl Try.underlying41 sz3 (.tmp rfl) (.tmp rfl) e_x1) fun a19 w19 s19 => ?_; clear s18
    refine seq_op s19 rfl rfl (of_decide_eq_true rfl) (ob_loadr rfl tk3 (.tmp rfl)) fun a20 w20 s20 => ?_; clear s19
    refine seq_op s20 rfl rfl (of_decide_eq_true rfl) (ob_assign rfl (.tmp rfl)) fun a21 w21 s21 => ?_; clear s20
    refine seq_op s21 rfl rfl (of_decide_eq_true rfl) (ob_assign rfl (.tmp rfl)) fun a22 w22 s22 => ?_; clear s21
    refine wpList_nil ?_
    refine then_normal ?_
    refine hK9 _ _ ?_
    have s23 := s22.sub (.cons (t := 0) rfl (.cons (t := 1) rfl (.cons (t := 5) rfl (.cons (t := 6) rfl (.cons (t := 9) rfl (.cons (t := 10) rfl (.cons (t := 11) rfl .nil))))))); clear s22
    refine wp_seq_k fun K10 hK10 => ?_
    refine wp_seq_k fun K11 hK11 => ?_
    refine wp_region_lit ?_
    refine seq_op s23 rfl rfl (of_decide_eq_true rfl) (ob_move rfl (.tmp rfl)) fun a24 w24 s24 => ?_; clear s23
    refine seq_op s24 rfl rfl (of_decide_eq_true rfl) (ob_lss rfl (.tmp rfl) (opd_int rfl)) fun a25 w25 s25 => ?_; clear s24
    refine seq_op s25 rfl rfl (of_decide_eq_true rfl) (ob_move rfl (.tmp rfl)) fun a26 w26 s26 => ?_; clear s25
    refine seq_opg s26 rfl rfl rfl rfl (of_decide_eq_true rfl) (fun hb => ob_move rfl (.tmp rfl)) fun a27 w27 s27 => ?_; clear s26
    refine seq_opg s27 rfl rfl rfl rfl (of_decide_eq_true rfl) (fun hb => ob_move rfl (.tmp rfl)) fun a28 w28 s28 => ?_; clear s27
    refine seq_opg s28 rfl rfl rfl rfl (of_decide_eq_true rfl) (fun hb => (Ob.uncond (t := 20) hb rfl (ob_lens rfl Try.underlying22 (.tmp rfl)))) fun a29 w29 s29 => ?_; clear s28
    refine seq_opg s29 rfl rfl rfl rfl (of_decide_eq_true rfl) (fun hb => (Ob.uncond (t := 21) hb rfl ((Ob.uncond (t := 19) hb rfl (ob_geq rfl (.tmp rfl) (.tmp rfl)))))) fun a30 w30 s30 => ?_; clear s29
    obtain ⟨x2, e_x2, h7⟩ := bind_some h6; clear h6; replace e_x2 := Option.some.inj e_x2
    refine seq_op s30 rfl rfl (of_decide_eq_true rfl) ((ob_or2 rfl (.tmp rfl) opd_bool (.tmp rfl)).nm e_x2) fun a31 w31 s31 => ?_; clear s30
    refine seq_op s31 rfl rfl (of_decide_eq_true rfl) (ob_move rfl (.tmp rfl)) fun a32 w32 s32 => ?_; clear s31
    refine seq_opg s32 rfl rfl rfl rfl (of_decide_eq_true rfl) (fun hb => ob_move rfl (.tmp rfl)) fun a33 w33 s33 => ?_; clear s32
    refine seq_opg s33 rfl rfl rfl rfl (of_decide_eq_true rfl) (fun hb => (Ob.uncond (t := 25) hb rfl (ob_gtr rfl (.tmp rfl) (opd_int rfl)))) fun a34 w34 s34 => ?_; clear s33
    refine seq_opg s34 rfl rfl rfl rfl (of_decide_eq_true rfl) (fun hb => (Ob.uncond (t := 26) hb rfl (ob_move rfl (.tmp rfl)))) fun a35 w35 s35 => ?_; clear s34
    refine seq_opg2 s35 rfl rfl rfl rfl (of_decide_eq_true rfl) (fun hb => ob_move rfl (.tmp rfl)) fun a36 w36 s36 => ?_; clear s35
    refine seq_opg2 s36 rfl rfl rfl rfl (of_decide_eq_true rfl) (fun hb => ob_move rfl (.tmp rfl)) fun a37 w37 s37 => ?_; clear s36
    refine seq_opg2 s37 rfl rfl rfl rfl (of_decide_eq_true rfl) (fun hb => (Ob.uncond (t := 29) hb rfl (ob_sub rfl (.tmp rfl) (opd_int rfl)))) fun a38 w38 s38 => ?_; clear s37
    obtain ⟨x3, e_x3, h8⟩ := bind_some h7; clear h7
    refine seq_opg2 s38 rfl rfl rfl rfl (of_decide_eq_true rfl) (fun hb => (Ob.uncond (t := 30) hb rfl ((Ob.uncond (t := 28) hb rfl (ob_indexAddrs rfl Try.underlying41 sz3 (.tmp rfl) (.tmp rfl) (ite_t hb e_x3)))))) fun a39 w39 s39 => ?_; clear s38
    refine seq_opg2 s39 rfl rfl rfl rfl (of_decide_eq_true rfl) (fun hb => (Ob.uncond (t := 31) hb rfl (ob_loadr rfl tk3 (.tmp rfl)))) fun a40 w40 s40 => ?_; clear s39
    refine seq_opg2 s40 rfl rfl rfl rfl (of_decide_eq_true rfl) (fun hb => ob_move rfl (.tmp rfl)) fun a41 w41 s41 => ?_; clear s40
    refine seq_opg2 s41 rfl rfl rfl rfl (of_decide_eq_true rfl) (fun hb => (Ob.uncond (t := 33) hb rfl ((Ob.uncond (t := 32) hb rfl (ob_geq rfl (.tmp rfl) (.tmp rfl)))))) fun a42 w42 s42 => ?_; clear s41
    refine seq_opg s42 rfl rfl rfl rfl (of_decide_eq_true rfl) (fun hb => (Ob.uncond (t := 27) hb rfl (ob_and3 hb rfl (.tmp rfl) (.tmp rfl) opd_bool))) fun a43 w43 s43 => ?_; clear s42
    obtain ⟨x4, e_x4, h9⟩ := bind_some h8; clear h8; replace e_x4 := Option.some.inj e_x4
    refine seq_op s43 rfl rfl (of_decide_eq_true rfl) ((ob_or2 rfl (.tmp rfl) opd_bool (.tmp rfl)).nm e_x4) fun a44 w44 s44 => ?_; clear s43
    refine wpList_nil ?_
    refine then_normal ?_
    refine hK11 _ _ ?_
    have s45 := s44.sub (.cons (t := 0) rfl (.cons (t := 1) rfl (.cons (t := 6) rfl (.cons (t := 9) rfl (.cons (t := 10) rfl (.cons (t := 11) rfl (.cons (t := 36) rfl .nil))))))); clear s44
    refine cond_split s45 (.tmp rfl) (fun hc2 => ?_) (fun hc2 => ?_)
    · replace h9 := ite_t hc2 h9
      have h10 := h9; clear h9
      refine wp_seq_k fun K12 hK12 => ?_
      refine wp_region_lit ?_
      refine seq_op s45 rfl rfl (of_decide_eq_true rfl) (ob_assign rfl opd_bool) fun a46 w46 s46 => ?_; clear s45
      refine wpList_nil ?_
      refine then_normal ?_
      refine hK12 _ _ ?_
      have s47 := s46.sub (.cons (t := 4) rfl .nil); clear s46
      refine wp_ret ?_
      obtain rfl := Option.some.inj h10
      exact leave s47 (.inl rfl) rfl (.cons (.tmp rfl) .nil)
    · replace h9 := ite_f hc2 h9
      have h11 := h9; clear h9
      refine wp_skip ?_
      refine then_normal ?_
      refine hK10 _ _ ?_
      have s48 := s45.sub (.cons (t := 0) rfl (.cons (t := 1) rfl (.cons (t := 6) rfl (.cons (t := 9) rfl (.cons (t := 10) rfl (.cons (t := 11) rfl .nil)))))); clear s45
      refine wp_seq_k fun K13 hK13 => ?_
      refine wp_region_lit ?_
      refine seq_op s48 rfl rfl (of_decide_eq_true rfl) (ob_move rfl (.tmp rfl)) fun a49 w49 s49 => ?_; clear s48
      refine seq_op s49 rfl rfl (of_decide_eq_true rfl) (ob_move rfl (.tmp rfl)) fun a50 w50 s50 => ?_; clear s49
      obtain ⟨x5, e_x5, h12⟩ := bind_some h11; clear h11
      refine seq_op s50 rfl rfl (of_decide_eq_true rfl) (ob_indexAddrs rfl Try.underlying22 sz46 (.tmp rfl) (.tmp rfl) e_x5) fun a51 w51 s51 => ?_; clear s50
      refine seq_op s51 rfl rfl (of_decide_eq_true rfl) (ob_fieldAddrr rfl Try.underlying46 rfl sz41 (by decide) (.tmp rfl) (lg_api_Node_Past x5)) fun a52 w52 s52 => ?_; clear s51
      refine seq_op s52 rfl rfl (of_decide_eq_true rfl) (ob_loadr rfl tk41 (.tmp rfl)) fun a53 w53 s53 => ?_; clear s52
      refine seq_op s53 rfl rfl (of_decide_eq_true rfl) (ob_lens rfl Try.underlying41 (.tmp rfl)) fun a54 w54 s54 => ?_; clear s53
      refine seq_op s54 rfl rfl (of_decide_eq_true rfl) (ob_move rfl (opd_int rfl)) fun a55 w55 s55 => ?_; clear s54
      refine wpList_nil ?_
      refine then_normal ?_
      refine hK13 _ _ ?_
      have s56 := s55.sub (.cons (t := 0) rfl (.cons (t := 1) rfl (.cons (t := 9) rfl (.cons (t := 10) rfl (.cons (t := 11) rfl (.cons (t := 41) rfl (.cons (t := 42) rfl (.cons (t := 43) rfl .nil)))))))); clear s55
      refine wp_block ?_
      refine wp_loop_fuel (fun m (q : Int) => roster_closed.l2 k x5 p2 y1 (roster_closed.l1 k p2 p1 n1) m q) r (fun _ => rfl) (fun q a w => St ⟨53, w0, ok, []⟩ [] [(0, ((ksl k_api_Node).V p1)), (1, ((ksl (kint .i64)).V p2)), (9, ((ksl (kint .i64)).V p2)), (10, ((kint .i64).V (p2.length : Int))), (11, ((kint .i64).V y1)), (41, ((ksl (kint .i64)).V x5.Past)), (42, ((kint .i64).V (x5.Past.length : Int))), (43, ((kint .i64).V q))] a w) ?_ k (0 : Int) _ _ h12 (s56.sub (.cons rfl (.cons rfl (.cons rfl (.cons rfl (.cons rfl (.cons rfl (.cons rfl (.cons rfl .nil)))))))))
      rintro n2 y2 a57 w57 h13 s57 K14 hK14
      replace h13 : roster_closed.l2 k x5 p2 y1 (roster_closed.l1 k p2 p1 n1) (n2 + 1) y2 = some r := h13; rw [roster_closed.l2] at h13
      have h14 := h13; clear h13
      refine wp_seq_k fun K15 hK15 => ?_
      refine wp_region_lit ?_
      refine seq_op s57 rfl rfl (of_decide_eq_true rfl) (ob_lss rfl (.tmp rfl) (.tmp rfl)) fun a58 w58 s58 => ?_; clear s57
      refine wpList_nil ?_
      refine then_normal ?_
      refine hK15 _ _ ?_
      have s59 := s58.sub (.cons (t := 0) rfl (.cons (t := 1) rfl (.cons (t := 9) rfl (.cons (t := 10) rfl (.cons (t := 11) rfl (.cons (t := 41) rfl (.cons (t := 42) rfl (.cons (t := 43) rfl (.cons (t := 44) rfl .nil))))))))); clear s58
      refine wp_seq_k fun K16 hK16 => ?_
      refine cond_split s59 (.tmp rfl) (fun hc3 => ?_) (fun hc3 => ?_)
      · replace h14 := ite_t hc3 h14
        have h15 := h14; clear h14
        refine wp_skip ?_
        refine then_normal ?_
        refine hK16 _ _ ?_
        have s60 := s59.sub (.cons (t := 0) rfl (.cons (t := 1) rfl (.cons (t := 9) rfl (.cons (t := 10) rfl (.cons (t := 11) rfl (.cons (t := 41) rfl (.cons (t := 42) rfl (.cons (t := 43) rfl .nil)))))))); clear s59
        refine wp_seq_k fun K17 hK17 => ?_
        refine wp_block ?_
        refine wp_seq_k fun K18 hK18 => ?_
        refine wp_region_lit ?_
        obtain ⟨x6, e_x6, h16⟩ := bind_some h15; clear h15
        refine seq_op s60 rfl rfl (of_decide_eq_true rfl) (ob_indexAddrs rfl Try.underlying41 sz3 (.tmp rfl) (.tmp rfl) e_x6) fun a61 w61 s61 => ?_; clear s60
        refine seq_op s61 rfl rfl (of_decide_eq_true rfl) (ob_loadr rfl tk3 (.tmp rfl)) fun a62 w62 s62 => ?_; clear s61
        refine seq_op s62 rfl rfl (of_decide_eq_true rfl) (ob_assign rfl (.tmp rfl)) fun a63 w63 s63 => ?_; clear s62
        refine wpList_nil ?_
        refine then_normal ?_
        refine hK18 _ _ ?_
        have s64 := s63.sub (.cons (t := 0) rfl (.cons (t := 1) rfl (.cons (t := 8) rfl (.cons (t := 9) rfl (.cons (t := 10) rfl (.cons (t := 11) rfl (.cons (t := 41) rfl (.cons (t := 42) rfl (.cons (t := 43) rfl .nil))))))))); clear s63
        refine wp_seq_k fun K19 hK19 => ?_
        refine wp_region_lit ?_
        refine seq_op s64 rfl rfl (of_decide_eq_true rfl) (ob_move rfl (.tmp rfl)) fun a65 w65 s65 => ?_; clear s64
        refine seq_op s65 rfl rfl (of_decide_eq_true rfl) (ob_move rfl (.tmp rfl)) fun a66 w66 s66 => ?_; clear s65
        obtain ⟨x7, e_x7, h17⟩ := bind_some h16; clear h16
        refine seq_op s66 rfl rfl (of_decide_eq_true rfl) (ob_callD (args := [_, _]) rfl .direct hb83 (fun a w s fs gs hf hg => by obtain rfl := hf.unnil; obtain rfl := hg.unnil; exact c_slices_Contains_int_int k _ _ _ e_x7 _ _ _ _ (s.arg (.tmp rfl)) (s.arg (.tmp rfl)))) fun a67 w67 s67 => ?_; clear s66
        refine seq_op s67 rfl rfl (of_decide_eq_true rfl) (ob_not rfl (.tmp rfl)) fun a68 w68 s68 => ?_; clear s67
        refine wpList_nil ?_
        refine then_normal ?_
        refine hK19 _ _ ?_
        have s69 := s68.sub (.cons (t := 0) rfl (.cons (t := 1) rfl (.cons (t := 9) rfl (.cons (t := 10) rfl (.cons (t := 11) rfl (.cons (t := 41) rfl (.cons (t := 42) rfl (.cons (t := 43) rfl (.cons (t := 50) rfl .nil))))))))); clear s68
        refine cond_split s69 (.tmp rfl) (fun hc4 => ?_) (fun hc4 => ?_)
        · replace h17 := ite_t hc4 h17
          have h18 := h17; clear h17
          refine wp_seq_k fun K20 hK20 => ?_
          refine wp_region_lit ?_
          refine seq_op s69 rfl rfl (of_decide_eq_true rfl) (ob_assign rfl opd_bool) fun a70 w70 s70 => ?_; clear s69
          refine wpList_nil ?_
          refine then_normal ?_
          refine hK20 _ _ ?_
          have s71 := s70.sub (.cons (t := 4) rfl .nil); clear s70
          refine wp_ret ?_
          obtain rfl := Option.some.inj h18
          exact leave s71 (.inl rfl) rfl (.cons (.tmp rfl) .nil)
        · replace h17 := ite_f hc4 h17
          have h19 := h17; clear h17
          refine wp_skip ?_
          refine in_normal ?_
          refine then_normal ?_
          refine hK17 _ _ ?_
          have s72 := s69.sub (.cons (t := 0) rfl (.cons (t := 1) rfl (.cons (t := 9) rfl (.cons (t := 10) rfl (.cons (t := 11) rfl (.cons (t := 41) rfl (.cons (t := 42) rfl (.cons (t := 43) rfl .nil)))))))); clear s69
          refine wp_region_lit ?_
          refine seq_op s72 rfl rfl (of_decide_eq_true rfl) (ob_add rfl (.tmp rfl) (opd_int rfl)) fun a73 w73 s73 => ?_; clear s72
          refine seq_op s73 rfl rfl (of_decide_eq_true rfl) (ob_move rfl (.tmp rfl)) fun a74 w74 s74 => ?_; clear s73
          refine wpList_nil ?_
          refine then_normal ?_
          exact hK14 (iadd .i64 y2 (1 : Int)) _ _ h19 (s74.sub (.cons rfl (.cons rfl (.cons rfl (.cons rfl (.cons rfl (.cons rfl (.cons rfl (.cons rfl .nil)))))))))
      · replace h14 := ite_f hc3 h14
        have h20 := h14; clear h14
        refine wp_exit ?_
        refine (then_exit (then_exit (in_here ?_)))
        refine in_normal ?_
        refine then_normal ?_
        exact hj2 _ _ h20 (s59.sub (.cons rfl (.cons rfl (.cons rfl (.cons rfl (.cons rfl .nil))))))
  · replace h3 := ite_f hc1 h3
    have h21 := h3; clear h3
    refine wp_exit ?_
    refine (then_exit (then_exit (in_here ?_)))
    refine then_normal ?_
    exact hj1 _ _ h21 (s13.sub .nil)

/- 131 cabal/roster.read$1 -/
theorem c_roster_read_1 (k : Nat) (p1 : (List Int)) (p2 : Int) (r : Bool) (h0 : roster_read_1 k p1 p2 = some r) (ok : Ok) (w0 : World) (z0 : Value) (z1 : Value) (u0 : ((ksl (kint .i64)).V p1).holds ok w0 z0) (u1 : ((kint .i64).V p2).holds ok w0 z1) :
    Gives Try.prog 131 [z0, z1] ok w0 (resFact [kbool.V r]) := by
  unfold roster_read_1 at h0
  refine enter (N := 8) Try.func131 rfl rfl (of_decide_eq_true rfl) (.cons u0 (.cons u1 .nil)) fun a1 s1 => ?_
  refine wp_seq_k fun K1 hK1 => ?_
  refine wp_region_lit ?_
  refine seq_op s1 rfl rfl (of_decide_eq_true rfl) (ob_assign rfl opd_bool) fun a2 w2 s2 => ?_; clear s1
  refine wpList_nil ?_
  refine then_normal ?_
  refine hK1 _ _ ?_
  have s3 := s2.sub (.cons (t := 0) rfl (.cons (t := 1) rfl .nil)); clear s2
  refine wp_seq_k fun K2 hK2 => ?_
  refine wp_region_lit ?_
  refine seq_op s3 rfl rfl (of_decide_eq_true rfl) (ob_move rfl (.tmp rfl)) fun a4 w4 s4 => ?_; clear s3
  refine seq_op s4 rfl rfl (of_decide_eq_true rfl) (ob_move rfl (.tmp rfl)) fun a5 w5 s5 => ?_; clear s4
  obtain ⟨x1, e_x1, h1⟩ := bind_some h0; clear h0
  refine seq_op s5 rfl rfl (of_decide_eq_true rfl) (ob_callD (args := [_, _]) rfl .direct hb83 (fun a w s fs gs hf hg => by obtain rfl := hf.unnil; obtain rfl := hg.unnil; exact c_slices_Contains_int_int k _ _ _ e_x1 _ _ _ _ (s.arg (.tmp rfl)) (s.arg (.tmp rfl)))) fun a6 w6 s6 => ?_; clear s5
  refine seq_op s6 rfl rfl (of_decide_eq_true rfl) (ob_assign rfl (.tmp rfl)) fun a7 w7 s7 => ?_; clear s6
  refine wpList_nil ?_
  refine then_normal ?_
  refine hK2 _ _ ?_
  have s8 := s7.sub (.cons (t := 4) rfl .nil); clear s7
  refine wp_ret ?_
  obtain rfl := Option.some.inj h1
  exact leave s8 (.inl rfl) rfl (.cons (.tmp rfl) .nil)

/- 153 (*cabal/roster.book).removes -/
theorem c_roster_book_removes (k : Nat) (p1 : roster_book) (p2 : Int) (p3 : Int) (r : Bool) (h0 : roster_book_removes k p1 p2 p3 = some r) (ok : Ok) (w0 : World) (z0 : Value) (z1 : Value) (z2 : Value) (u0 : (ptrTo k_roster_book p1).holds ok w0 z0) (u1 : ((kint .i64).V p2).holds ok w0 z1) (u2 : ((kint .i64).V p3).holds ok w0 z2) :
    Gives Try.prog 153 [z0, z1, z2] ok w0 (resFact [kbool.V r]) := by
  unfold roster_book_removes at h0
  refine enter (N := 38) Try.func153 rfl rfl (of_decide_eq_true rfl) (.cons u0 (.cons u1 (.cons u2 .nil))) fun a1 s1 => ?_
  refine wp_seq_k fun K1 hK1 => ?_
  refine wp_region_lit ?_
  refine seq_op s1 rfl rfl (of_decide_eq_true rfl) (ob_assign rfl opd_bool) fun a2 w2 s2 => ?_; clear s1
  refine wpList_nil ?_
  refine then_normal ?_
  refine hK1 _ _ ?_
  have s3 := s2.sub (.cons (t := 0) rfl (.cons (t := 1) rfl (.cons (t := 2) rfl .nil))); clear s2
  refine wp_seq_k fun K2 hK2 => ?_
  refine wp_region_lit ?_
  refine seq_op s3 rfl rfl (of_decide_eq_true rfl) (ob_move rfl (.tmp rfl)) fun a4 w4 s4 => ?_; clear s3
  refine seq_op s4 rfl rfl (of_decide_eq_true rfl) (ob_nilCheckr rfl (.tmp rfl)) fun a5 w5 s5 => ?_; clear s4
  refine seq_op s5 rfl rfl (of_decide_eq_true rfl) (ob_fieldAddrr rfl Try.underlying151 rfl sz22 (by decide) (.tmp rfl) (lg_roster_book_l p1)) fun a6 w6 s6 => ?_; clear s5
  refine seq_op s6 rfl rfl (of_decide_eq_true rfl) (ob_loadr rfl tk22 (.tmp rfl)) fun a7 w7 s7 => ?_; clear s6
  refine seq_op s7 rfl rfl (of_decide_eq_true rfl) (ob_move rfl (.tmp rfl)) fun a8 w8 s8 => ?_; clear s7
  obtain ⟨x1, e_x1, h1⟩ := bind_some h0; clear h0
  refine seq_op s8 rfl rfl (of_decide_eq_true rfl) (ob_indexAddrs rfl Try.underlying22 sz46 (.tmp rfl) (.tmp rfl) e_x1) fun a9 w9 s9 => ?_; clear s8
  refine seq_op s9 rfl rfl (of_decide_eq_true rfl) (ob_fieldAddrr rfl Try.underlying46 rfl sz44 (by decide) (.tmp rfl) (lg_api_Node_Op x1)) fun a10 w10 s10 => ?_; clear s9
  refine seq_op s10 rfl rfl (of_decide_eq_true rfl) (ob_loadr rfl tk44 (.tmp rfl)) fun a11 w11 s11 => ?_; clear s10
  refine seq_opx (B' := (fun b1 : Nat => [BF b1 44 k_api_Op (⟨(0 : Int), (0 : Int), [], (0 : Int), [], (List.replicate 32 (0 : Int)), (List.replicate 32 (0 : Int)), [], []⟩ : api_Op)])) s11 rfl rfl (of_decide_eq_true rfl) (ob_new (k := k_api_Op) rfl zz44 (Zr.iso (f := t_api_Op) (x := (⟨(0 : Int), (0 : Int), [], (0 : Int), [], (List.replicate 32 (0 : Int)), (List.replicate 32 (0 : Int)), [], []⟩ : api_Op)) (Zr.pair (Zr.int .i64) (Zr.pair (Zr.int .u32) (Zr.pair (Zr.sl _) (Zr.pair (Zr.int .i64) (Zr.pair (Zr.sl _) (Zr.pair (Zr.arr 32 (Zr.int .u8)) (Zr.pair (Zr.arr 32 (Zr.int .u8)) (Zr.pair Zr.str (Zr.pair (Zr.sl _) Zr.nil))))))))))) fun b1 a12 w12 s12 => ?_; clear s11
  refine seq_opx0 (B' := (fun _ : Unit => [BF b1 44 k_api_Op x1.Op])) s12 rfl rfl (ob_store (A := []) rfl tk44 (.tmp rfl) (.tmp rfl) rfl (LS.refl _ _ _) rfl) fun _ a13 w13 s13 => ?_; clear s12
  refine wpList_nil ?_
  refine then_normal ?_
  refine hK2 _ _ ?_
  have s14 := s13.sub (.cons (t := 0) rfl (.cons (t := 1) rfl (.cons (t := 2) rfl (.cons (t := 7) rfl .nil)))); clear s13
  refine wp_seq_k fun K3 hK3 => ?_
  obtain ⟨x2, e_x2, h2⟩ := bind_some h1; clear h1
  refine wp_goes (Fs := [(ptrTo k_roster_book p1), (ptrTo k_roster_book p1), (ptrTo (ksl kbool) p1.counts), ((ksl kbool).V p1.counts), ((kint .i64).V p2), (ptrTo kbool x2), (kbool.V x2), (kbool.V x2), (Fact.when (x2 == true) (ptrB b1 3)), (Fact.when (x2 == true) ((kint .i64).V x1.Op.Kind)), (Fact.when (x2 == true) (kbool.V (x1.Op.Kind == (3 : Int)))), (kbool.V (if x2 then (x1.Op.Kind == (3 : Int)) else false)), (kbool.V (if x2 then (x1.Op.Kind == (3 : Int)) else false)), (Fact.when ((if x2 then (x1.Op.Kind == (3 : Int)) else false) == true) (ptrTo k_roster_book p1)), (Fact.when ((if x2 then (x1.Op.Kind == (3 : Int)) else false) == true) (ptrTo k_roster_book p1)), (Fact.when ((if x2 then (x1.Op.Kind == (3 : Int)) else false) == true) (ptrTo (kis (.func (.func 131) #[] #[])) p1.in_)), (Fact.when ((if x2 then (x1.Op.Kind == (3 : Int)) else false) == true) (is (.func (.func 131) #[] #[]))), (Fact.when ((if x2 then (x1.Op.Kind == (3 : Int)) else false) == true) (ptrB b1 4)), (Fact.when ((if x2 then (x1.Op.Kind == (3 : Int)) else false) == true) ((ksl (kint .i64)).V x1.Op.Who)), (Fact.when ((if x2 then (x1.Op.Kind == (3 : Int)) else false) == true) ((kint .i64).V p3))]) (bits := [0, 1, 3, 7, 0, 31, 63, 127, 255, 511, 1023, 2047, 4095, 8191, 16383, 32767, 65535, 8191, 139263, 8191, 1048575, 2097151, 4194303]) (m := 20) (todo := 0) mx s14 ?_; clear s14
  refine goes_last (by kernel_rfl) rfl (opsS_cons (.plain _ (Av.old (t := 0) rfl rfl Av.nil) rfl rfl (ob_move rfl (.tmp rfl))) (opsS_cons (.plain _ (Av.new (j := 0) rfl rfl rfl Av.nil) rfl rfl (ob_nilCheckr rfl (.tmp rfl))) (opsS_cons (.plain _ (Av.new (j := 1) rfl rfl rfl Av.nil) rfl rfl (ob_fieldAddrr rfl Try.underlying151 rfl sz58 (by decide) (.tmp rfl) (lg_roster_book_counts p1))) (opsS_cons (.plain _ (Av.new (j := 2) rfl rfl rfl Av.nil) rfl rfl (ob_loadr rfl tk58 (.tmp rfl))) (opsS_cons (.plain _ (Av.old (t := 1) rfl rfl Av.nil) rfl rfl (ob_move rfl (.tmp rfl))) (opsS_cons (.plain _ (Av.new (j := 3) rfl rfl rfl (Av.new (j := 4) rfl rfl rfl Av.nil)) rfl rfl (ob_indexAddrs rfl Try.underlying58 sz4 (.tmp rfl) (.tmp rfl) e_x2)) (opsS_cons (.plain _ (Av.new (j := 5) rfl rfl rfl Av.nil) rfl rfl (ob_loadr rfl tk4 (.tmp rfl))) (opsS_cons (.plain _ (Av.new (j := 6) rfl rfl rfl Av.nil) rfl rfl (ob_move rfl (.tmp rfl))) (opsS_cons (.guarded _ (Av.old (t := 7) rfl rfl (Av.new (j := 7) rfl rfl rfl Av.nil)) rfl rfl rfl rfl (fun hb => ob_fieldAddr (off' := 3) rfl Try.underlying44 rfl sz3 (by decide) (.tmp rfl) rfl)) (opsS_cons (.guarded _ (Av.new (j := 7) rfl rfl rfl (Av.new (j := 8) rfl rfl rfl Av.nil)) rfl rfl rfl rfl (fun hb => (Ob.uncond (t := 24) hb rfl (ob_load rfl tk3 (.tmp rfl) (.head _) (lg_api_Op_Kind x1.Op))))) (opsS_cons (.guarded _ (Av.new (j := 7) rfl rfl rfl (Av.new (j := 9) rfl rfl rfl Av.nil)) rfl rfl rfl rfl (fun hb => (Ob.uncond (t := 25) hb rfl (ob_eql rfl (.tmp rfl) (opd_int rfl))))) (opsS_cons (.plain _ (Av.new (j := 7) rfl rfl rfl (Av.new (j := 10) rfl rfl rfl Av.nil)) rfl rfl (ob_and2 rfl (.tmp rfl) (.tmp rfl) opd_bool)) (opsS_cons (.plain _ (Av.new (j := 11) rfl rfl rfl Av.nil) rfl rfl (ob_move rfl (.tmp rfl))) (opsS_cons (.guarded _ (Av.old (t := 0) rfl rfl (Av.new (j := 12) rfl rfl rfl Av.nil)) rfl rfl rfl rfl (fun hb => ob_move rfl (.tmp rfl))) (opsS_cons (.guarded _ (Av.new (j := 12) rfl rfl rfl (Av.new (j := 13) rfl rfl rfl Av.nil)) rfl rfl rfl rfl (fun hb => (Ob.uncond (t := 29) hb rfl (ob_nilCheckr rfl (.tmp rfl))))) (opsS_cons (.guarded _ (Av.new (j := 12) rfl rfl rfl (Av.new (j := 14) rfl rfl rfl Av.nil)) rfl rfl rfl rfl (fun hb => (Ob.uncond (t := 30) hb rfl (ob_fieldAddrr rfl Try.underlying151 rfl sz64 (by decide) (.tmp rfl) (lg_roster_book_in_ p1))))) (opsS_cons (.guarded _ (Av.new (j := 12) rfl rfl rfl (Av.new (j := 15) rfl rfl rfl Av.nil)) rfl rfl rfl rfl (fun hb => (Ob.uncond (t := 31) hb rfl ((ob_loadr rfl tk64 (.tmp rfl)).as kis_is)))) (opsS_cons (.guarded _ (Av.old (t := 7) rfl rfl (Av.new (j := 12) rfl rfl rfl Av.nil)) rfl rfl rfl rfl (fun hb => ob_fieldAddr (off' := 4) rfl Try.underlying44 rfl sz41 (by decide) (.tmp rfl) rfl)) (opsS_cons (.guarded _ (Av.new (j := 12) rfl rfl rfl (Av.new (j := 17) rfl rfl rfl Av.nil)) rfl rfl rfl rfl (fun hb => (Ob.uncond (t := 33) hb rfl (ob_load rfl tk41 (.tmp rfl) (.head _) (lg_api_Op_Who x1.Op))))) (opsS_cons (.guarded _ (Av.old (t := 2) rfl rfl (Av.new (j := 12) rfl rfl rfl Av.nil)) rfl rfl rfl rfl (fun hb => ob_move rfl (.tmp rfl))) opsS_nil)))))))))))))))))))) (out_new (i := 12) (by decide) rfl rfl (out_new (i := 16) (by decide) rfl rfl (out_new (i := 18) (by decide) rfl rfl (out_new (i := 19) (by decide) rfl rfl out_nil)))) fun a15 w15 s15 => ?_
  obtain ⟨x3, e_x3, h3⟩ := bind_some h2; clear h2
  refine seq_opg s15 rfl rfl rfl rfl (of_decide_eq_true rfl) (fun hb => (Ob.uncond (t := 35) hb rfl ((Ob.uncond (t := 34) hb rfl ((Ob.uncond (t := 32) hb rfl (ob_callD (args := [_, _]) rfl (.fn (.tmp rfl)) hb131 (fun a w s fs gs hf hg => by obtain rfl := hf.unnil; obtain rfl := hg.unnil; exact c_roster_read_1 k _ _ _ (ite_t hb e_x3) _ _ _ _ (s.arg (.tmp rfl)) (s.arg (.tmp rfl)))))))))) fun a16 w16 s16 => ?_; clear s15
  obtain ⟨x4, e_x4, h4⟩ := bind_some h3; clear h3; replace e_x4 := Option.some.inj e_x4
  refine seq_op s16 rfl rfl (of_decide_eq_true rfl) ((ob_and2 rfl (.tmp rfl) (.tmp rfl) opd_bool).nm e_x4) fun a17 w17 s17 => ?_; clear s16
  refine seq_op s17 rfl rfl (of_decide_eq_true rfl) (ob_assign rfl (.tmp rfl)) fun a18 w18 s18 => ?_; clear s17
  refine wpList_nil ?_
  refine then_normal ?_
  refine hK3 _ _ ?_
  have s19 := s18.sub (.cons (t := 6) rfl .nil); clear s18
  have s20 := St.drop (A := []) s19; clear s19
  refine wp_ret ?_
  obtain rfl := Option.some.inj h4
  exact leave s20 (.inl rfl) rfl (.cons (.tmp rfl) .nil)

/- 154 (*cabal/roster.book).ahead -/
theorem c_roster_book_ahead (k : Nat) (p1 : roster_book) (p2 : Int) (p3 : Int) (r : Bool) (h0 : roster_book_ahead k p1 p2 p3 = some r) (ok : Ok) (w0 : World) (z0 : Value) (z1 : Value) (z2 : Value) (u0 : (ptrTo k_roster_book p1).holds ok w0 z0) (u1 : ((kint .i64).V p2).holds ok w0 z1) (u2 : ((kint .i64).V p3).holds ok w0 z2) :
    Gives Try.prog 154 [z0, z1, z2] ok w0 (resFact [kbool.V r]) := by
  unfold roster_book_ahead at h0
  refine enter (N := 21) Try.func154 rfl rfl (of_decide_eq_true rfl) (.cons u0 (.cons u1 (.cons u2 .nil))) fun a1 s1 => ?_
  refine wp_seq_k fun K1 hK1 => ?_
  refine wp_region_lit ?_
  refine seq_op s1 rfl rfl (of_decide_eq_true rfl) (ob_assign rfl opd_bool) fun a2 w2 s2 => ?_; clear s1
  refine wpList_nil ?_
  refine then_normal ?_
  refine hK1 _ _ ?_
  have s3 := s2.sub (.cons (t := 0) rfl (.cons (t := 1) rfl (.cons (t := 2) rfl .nil))); clear s2
  refine wp_seq_k fun K2 hK2 => ?_
  obtain ⟨x1, e_x1, h1⟩ := bind_some h0; clear h0
  refine wp_goes (Fs := [(ptrTo k_roster_book p1), (ptrTo k_roster_book p1), (ptrTo (kis (.func (.func 131) #[] #[])) p1.in_), (is (.func (.func 131) #[] #[])), (ptrTo k_roster_book p1), (ptrTo k_roster_book p1), (ptrTo (ksl k_api_Node) p1.l), ((ksl k_api_Node).V p1.l), ((kint .i64).V p3), (ptrTo k_api_Node x1), (ptrTo (ksl (kint .i64)) x1.Past), ((ksl (kint .i64)).V x1.Past), ((kint .i64).V p2)]) (bits := [0, 1, 3, 7, 0, 16, 48, 112, 0, 496, 1008, 2032, 0, 8191, 16383]) (m := 13) (todo := 0) mx s3 ?_; clear s3
  refine goes_last (by kernel_rfl) rfl (opsS_cons (.plain _ (Av.old (t := 0) rfl rfl Av.nil) rfl rfl (ob_move rfl (.tmp rfl))) (opsS_cons (.plain _ (Av.new (j := 0) rfl rfl rfl Av.nil) rfl rfl (ob_nilCheckr rfl (.tmp rfl))) (opsS_cons (.plain _ (Av.new (j := 1) rfl rfl rfl Av.nil) rfl rfl (ob_fieldAddrr rfl Try.underlying151 rfl sz64 (by decide) (.tmp rfl) (lg_roster_book_in_ p1))) (opsS_cons (.plain _ (Av.new (j := 2) rfl rfl rfl Av.nil) rfl rfl ((ob_loadr rfl tk64 (.tmp rfl)).as kis_is)) (opsS_cons (.plain _ (Av.old (t := 0) rfl rfl Av.nil) rfl rfl (ob_move rfl (.tmp rfl))) (opsS_cons (.plain _ (Av.new (j := 4) rfl rfl rfl Av.nil) rfl rfl (ob_nilCheckr rfl (.tmp rfl))) (opsS_cons (.plain _ (Av.new (j := 5) rfl rfl rfl Av.nil) rfl rfl (ob_fieldAddrr rfl Try.underlying151 rfl sz22 (by decide) (.tmp rfl) (lg_roster_book_l p1))) (opsS_cons (.plain _ (Av.new (j := 6) rfl rfl rfl Av.nil) rfl rfl (ob_loadr rfl tk22 (.tmp rfl))) (opsS_cons (.plain _ (Av.old (t := 2) rfl rfl Av.nil) rfl rfl (ob_move rfl (.tmp rfl))) (opsS_cons (.plain _ (Av.new (j := 7) rfl rfl rfl (Av.new (j := 8) rfl rfl rfl Av.nil)) rfl rfl (ob_indexAddrs rfl Try.underlying22 sz46 (.tmp rfl) (.tmp rfl) e_x1)) (opsS_cons (.plain _ (Av.new (j := 9) rfl rfl rfl Av.nil) rfl rfl (ob_fieldAddrr rfl Try.underlying46 rfl sz41 (by decide) (.tmp rfl) (lg_api_Node_Past x1))) (opsS_cons (.plain _ (Av.new (j := 10) rfl rfl rfl Av.nil) rfl rfl (ob_loadr rfl tk41 (.tmp rfl))) (opsS_cons (.plain _ (Av.old (t := 1) rfl rfl Av.nil) rfl rfl (ob_move rfl (.tmp rfl))) opsS_nil))))))))))))) (out_new (i := 3) (by decide) rfl rfl (out_new (i := 11) (by decide) rfl rfl (out_new (i := 12) (by decide) rfl rfl out_nil))) fun a4 w4 s4 => ?_
  obtain ⟨x2, e_x2, h2⟩ := bind_some h1; clear h1
  refine seq_op s4 rfl rfl (of_decide_eq_true rfl) (ob_callD (args := [_, _]) rfl (.fn (.tmp rfl)) hb131 (fun a w s fs gs hf hg => by obtain rfl := hf.unnil; obtain rfl := hg.unnil; exact c_roster_read_1 k _ _ _ e_x2 _ _ _ _ (s.arg (.tmp rfl)) (s.arg (.tmp rfl)))) fun a5 w5 s5 => ?_; clear s4
  refine seq_op s5 rfl rfl (of_decide_eq_true rfl) (ob_assign rfl (.tmp rfl)) fun a6 w6 s6 => ?_; clear s5
  refine wpList_nil ?_
  refine then_normal ?_
  refine hK2 _ _ ?_
  have s7 := s6.sub (.cons (t := 6) rfl .nil); clear s6
  refine wp_ret ?_
  obtain rfl := Option.some.inj h2
  exact leave s7 (.inl rfl) rfl (.cons (.tmp rfl) .nil)

/- 134 (*cabal/roster.book).lets -/
theorem c_roster_book_lets (k : Nat) (p1 : roster_book) (p2 : (List Int)) (p3 : Int) (p4 : Int) (r : Bool) (h0 : roster_book_lets k p1 p2 p3 p4 = some r) (ok : Ok) (w0 : World) (z0 : Value) (z1 : Value) (z2 : Value) (z3 : Value) (u0 : (ptrTo k_roster_book p1).holds ok w0 z0) (u1 : ((ksl (kint .i64)).V p2).holds ok w0 z1) (u2 : ((kint .i64).V p3).holds ok w0 z2) (u3 : ((kint .i64).V p4).holds ok w0 z3) :
    Gives Try.prog 134 [z0, z1, z2, z3] ok w0 (resFact [kbool.V r]) := by
  unfold roster_book_lets at h0
  refine enter (N := 96) Try.func134 rfl rfl (of_decide_eq_true rfl) (.cons u0 (.cons u1 (.cons u2 (.cons u3 .nil)))) fun a1 s1 => ?_
  refine wp_seq_k fun K1 hK1 => ?_
  refine wp_region_lit ?_
  refine seq_op s1 rfl rfl (of_decide_eq_true rfl) (ob_assign rfl opd_bool) fun a2 w2 s2 => ?_; clear s1
  refine wpList_nil ?_
  refine then_normal ?_
  refine hK1 _ _ ?_
  have s3 := s2.sub (.cons (t := 0) rfl (.cons (t := 1) rfl (.cons (t := 2) rfl (.cons (t := 3) rfl .nil)))); clear s2
  refine wp_seq_k fun K2 hK2 => ?_
  refine wp_region_lit ?_
  refine seq_op s3 rfl rfl (of_decide_eq_true rfl) (ob_move rfl (.tmp rfl)) fun a4 w4 s4 => ?_; clear s3
  refine seq_op s4 rfl rfl (of_decide_eq_true rfl) (ob_nilCheckr rfl (.tmp rfl)) fun a5 w5 s5 => ?_; clear s4
  refine seq_op s5 rfl rfl (of_decide_eq_true rfl) (ob_fieldAddrr rfl Try.underlying151 rfl sz22 (by decide) (.tmp rfl) (lg_roster_book_l p1)) fun a6 w6 s6 => ?_; clear s5
  refine seq_op s6 rfl rfl (of_decide_eq_true rfl) (ob_loadr rfl tk22 (.tmp rfl)) fun a7 w7 s7 => ?_; clear s6
  refine seq_op s7 rfl rfl (of_decide_eq_true rfl) (ob_move rfl (.tmp rfl)) fun a8 w8 s8 => ?_; clear s7
  obtain ⟨x1, e_x1, h1⟩ := bind_some h0; clear h0
  refine seq_op s8 rfl rfl (of_decide_eq_true rfl) (ob_indexAddrs rfl Try.underlying22 sz46 (.tmp rfl) (.tmp rfl) e_x1) fun a9 w9 s9 => ?_; clear s8
  refine seq_op s9 rfl rfl (of_decide_eq_true rfl) (ob_fieldAddrr rfl Try.underlying46 rfl sz44 (by decide) (.tmp rfl) (lg_api_Node_Op x1)) fun a10 w10 s10 => ?_; clear s9
  refine seq_op s10 rfl rfl (of_decide_eq_true rfl) (ob_loadr rfl tk44 (.tmp rfl)) fun a11 w11 s11 => ?_; clear s10
  refine seq_opx (B' := (fun b1 : Nat => [BF b1 44 k_api_Op (⟨(0 : Int), (0 : Int), [], (0 : Int), [], (List.replicate 32 (0 : Int)), (List.replicate 32 (0 : Int)), [], []⟩ : api_Op)])) s11 rfl rfl (of_decide_eq_true rfl) (ob_new (k := k_api_Op) rfl zz44 (Zr.iso (f := t_api_Op) (x := (⟨(0 : Int), (0 : Int), [], (0 : Int), [], (List.replicate 32 (0 : Int)), (List.replicate 32 (0 : Int)), [], []⟩ : api_Op)) (Zr.pair (Zr.int .i64) (Zr.pair (Zr.int .u32) (Zr.pair (Zr.sl _) (Zr.pair (Zr.int .i64) (Zr.pair (Zr.sl _) (Zr.pair (Zr.arr 32 (Zr.int .u8)) (Zr.pair (Zr.arr 32 (Zr.int .u8)) (Zr.pair Zr.str (Zr.pair (Zr.sl _) Zr.nil))))))))))) fun b1 a12 w12 s12 => ?_; clear s11
  refine seq_opx0 (B' := (fun _ : Unit => [BF b1 44 k_api_Op x1.Op])) s12 rfl rfl (ob_store (A := []) rfl tk44 (.tmp rfl) (.tmp rfl) rfl (LS.refl _ _ _) rfl) fun _ a13 w13 s13 => ?_; clear s12
  refine wpList_nil ?_
  refine then_normal ?_
  refine hK2 _ _ ?_
  have s14 := s13.sub (.cons (t := 0) rfl (.cons (t := 1) rfl (.cons (t := 2) rfl (.cons (t := 3) rfl (.cons (t := 9) rfl .nil))))); clear s13
  refine wp_seq_k fun K3 hK3 => ?_
  refine wp_seq_k fun K4 hK4 => ?_
  obtain ⟨x2, e_x2, h2⟩ := bind_some h1; clear h1
  obtain ⟨x3, e_x3, h3⟩ := bind_some h2; clear h2; replace e_x3 := Option.some.inj e_x3
  refine wp_goes (Fs := [(ptrTo k_roster_book p1), (ptrTo k_roster_book p1), (ptrTo (ksl kbool) p1.counts), ((ksl kbool).V p1.counts), ((kint .i64).V p3), (ptrTo kbool x2), (kbool.V x2), (kbool.V (!x2)), (kbool.V (!x2)), (Fact.when ((!x2) == false) (ptrB b1 3)), (Fact.when ((!x2) == false) ((kint .i64).V x1.Op.Kind)), (Fact.when ((!x2) == false) (kbool.V (x1.Op.Kind != (1 : Int)))), (Fact.when ((!x2) == false) (kbool.V (x1.Op.Kind != (1 : Int)))), (Fact.when (((!x2) == false) && ((x1.Op.Kind != (1 : Int)) == true)) (ptrB b1 3)), (Fact.when (((!x2) == false) && ((x1.Op.Kind != (1 : Int)) == true)) ((kint .i64).V x1.Op.Kind)), (Fact.when (((!x2) == false) && ((x1.Op.Kind != (1 : Int)) == true)) (kbool.V (x1.Op.Kind != (2 : Int)))), (Fact.when ((!x2) == false) (kbool.V x3)), (kbool.V (if (!x2) then true else x3)), (kbool.V (if (!x2) then true else x3)), (Fact.when ((if (!x2) then true else x3) == false) (ptrTo k_roster_book p1)), (Fact.when ((if (!x2) then true else x3) == false) (ptrTo k_roster_book p1)), (Fact.when ((if (!x2) then true else x3) == false) (ptrTo (kis (.func (.func 131) #[] #[])) p1.in_)), (Fact.when ((if (!x2) then true else x3) == false) (is (.func (.func 131) #[] #[]))), (Fact.when ((if (!x2) then true else x3) == false) (ptrB b1 4)), (Fact.when ((if (!x2) then true else x3) == false) ((ksl (kint .i64)).V x1.Op.Who)), (Fact.when ((if (!x2) then true else x3) == false) ((kint .i64).V p4))]) (bits := [0, 1, 3, 7, 0, 31, 63, 127, 255, 511, 1023, 2047, 4095, 8191, 16383, 32767, 65535, 131071, 262143, 524287, 1048575, 2097151, 4194303, 524287, 8912895, 524287, 67108863, 134217727, 268435455]) (m := 26) (todo := 0) mx s14 ?_; clear s14
  refine goes_last (by kernel_rfl) rfl (opsS_cons (.plain _ (Av.old (t := 0) rfl rfl Av.nil) rfl rfl (ob_move rfl (.tmp rfl))) (opsS_cons (.plain _ (Av.new (j := 0) rfl rfl rfl Av.nil) rfl rfl (ob_nilCheckr rfl (.tmp rfl))) (opsS_cons (.plain _ (Av.new (j := 1) rfl rfl rfl Av.nil) rfl rfl (ob_fieldAddrr rfl Try.underlying151 rfl sz58 (by decide) (.tmp rfl) (lg_roster_book_counts p1))) (opsS_cons (.plain _ (Av.new (j := 2) rfl rfl rfl Av.nil) rfl rfl (ob_loadr rfl tk58 (.tmp rfl))) (opsS_cons (.plain _ (Av.old (t := 2) rfl rfl Av.nil) rfl rfl (ob_move rfl (.tmp rfl))) (opsS_cons (.plain _ (Av.new (j := 3) rfl rfl rfl (Av.new (j := 4) rfl rfl rfl Av.nil)) rfl rfl (ob_indexAddrs rfl Try.underlying58 sz4 (.tmp rfl) (.tmp rfl) e_x2)) (opsS_cons (.plain _ (Av.new (j := 5) rfl rfl rfl Av.nil) rfl rfl (ob_loadr rfl tk4 (.tmp rfl))) (opsS_cons (.plain _ (Av.new (j := 6) rfl rfl rfl Av.nil) rfl rfl (ob_not rfl (.tmp rfl))) (opsS_cons (.plain _ (Av.new (j := 7) rfl rfl rfl Av.nil) rfl rfl (ob_move rfl (.tmp rfl))) (opsS_cons (.guarded _ (Av.old (t := 9) rfl rfl (Av.new (j := 8) rfl rfl rfl Av.nil)) rfl rfl rfl rfl (fun hb => ob_fieldAddr (off' := 3) rfl Try.underlying44 rfl sz3 (by decide) (.tmp rfl) rfl)) (opsS_cons (.guarded _ (Av.new (j := 8) rfl rfl rfl (Av.new (j := 9) rfl rfl rfl Av.nil)) rfl rfl rfl rfl (fun hb => (Ob.uncond (t := 29) hb rfl (ob_load rfl tk3 (.tmp rfl) (.head _) (lg_api_Op_Kind x1.Op))))) (opsS_cons (.guarded _ (Av.new (j := 8) rfl rfl rfl (Av.new (j := 10) rfl rfl rfl Av.nil)) rfl rfl rfl rfl (fun hb => (Ob.uncond (t := 30) hb rfl (ob_neq rfl (.tmp rfl) (opd_int rfl))))) (opsS_cons (.guarded _ (Av.new (j := 8) rfl rfl rfl (Av.new (j := 11) rfl rfl rfl Av.nil)) rfl rfl rfl rfl (fun hb => (Ob.uncond (t := 31) hb rfl (ob_move rfl (.tmp rfl))))) (opsS_cons (.guarded2 _ (Av.old (t := 9) rfl rfl (Av.new (j := 12) rfl rfl rfl Av.nil)) rfl rfl rfl rfl (fun hb => ob_fieldAddr (off' := 3) rfl Try.underlying44 rfl sz3 (by decide) (.tmp rfl) rfl)) (opsS_cons (.guarded2 _ (Av.new (j := 12) rfl rfl rfl (Av.new (j := 13) rfl rfl rfl Av.nil)) rfl rfl rfl rfl (fun hb => (Ob.uncond (t := 33) hb rfl (ob_load rfl tk3 (.tmp rfl) (.head _) (lg_api_Op_Kind x1.Op))))) (opsS_cons (.guarded2 _ (Av.new (j := 12) rfl rfl rfl (Av.new (j := 14) rfl rfl rfl Av.nil)) rfl rfl rfl rfl (fun hb => (Ob.uncond (t := 34) hb rfl (ob_neq rfl (.tmp rfl) (opd_int rfl))))) (opsS_cons (.guarded _ (Av.new (j := 8) rfl rfl rfl (Av.new (j := 12) rfl rfl rfl (Av.new (j := 15) rfl rfl rfl Av.nil))) rfl rfl rfl rfl (fun hb => (Ob.uncond (t := 32) hb rfl ((ob_and3 hb rfl (.tmp rfl) (.tmp rfl) opd_bool).nm e_x3)))) (opsS_cons (.plain _ (Av.new (j := 8) rfl rfl rfl (Av.new (j := 16) rfl rfl rfl Av.nil)) rfl rfl (ob_or2 rfl (.tmp rfl) opd_bool (.tmp rfl))) (opsS_cons (.plain _ (Av.new (j := 17) rfl rfl rfl Av.nil) rfl rfl (ob_move rfl (.tmp rfl))) (opsS_cons (.guarded _ (Av.old (t := 0) rfl rfl (Av.new (j := 18) rfl rfl rfl Av.nil)) rfl rfl rfl rfl (fun hb => ob_move rfl (.tmp rfl))) (opsS_cons (.guarded _ (Av.new (j := 18) rfl rfl rfl (Av.new (j := 19) rfl rfl rfl Av.nil)) rfl rfl rfl rfl (fun hb => (Ob.uncond (t := 39) hb rfl (ob_nilCheckr rfl (.tmp rfl))))) (opsS_cons (.guarded _ (Av.new (j := 18) rfl rfl rfl (Av.new (j := 20) rfl rfl rfl Av.nil)) rfl rfl rfl rfl (fun hb => (Ob.uncond (t := 40) hb rfl (ob_fieldAddrr rfl Try.underlying151 rfl sz64 (by decide) (.tmp rfl) (lg_roster_book_in_ p1))))) (opsS_cons (.guarded _ (Av.new (j := 18) rfl rfl rfl (Av.new (j := 21) rfl rfl rfl Av.nil)) rfl rfl rfl rfl (fun hb => (Ob.uncond (t := 41) hb rfl ((ob_loadr rfl tk64 (.tmp rfl)).as kis_is)))) (opsS_cons (.guarded _ (Av.old (t := 9) rfl rfl (Av.new (j := 18) rfl rfl rfl Av.nil)) rfl rfl rfl rfl (fun hb => ob_fieldAddr (off' := 4) rfl Try.underlying44 rfl sz41 (by decide) (.tmp rfl) rfl)) (opsS_cons (.guarded _ (Av.new (j := 18) rfl rfl rfl (Av.new (j := 23) rfl rfl rfl Av.nil)) rfl rfl rfl rfl (fun hb => (Ob.uncond (t := 43) hb rfl (ob_load rfl tk41 (.tmp rfl) (.head _) (lg_api_Op_Who x1.Op))))) (opsS_cons (.guarded _ (Av.old (t := 3) rfl rfl (Av.new (j := 18) rfl rfl rfl Av.nil)) rfl rfl rfl rfl (fun hb => ob_move rfl (.tmp rfl))) opsS_nil)))))))))))))))))))))))))) (out_old (t := 0) rfl rfl (out_old (t := 1) rfl rfl (out_old (t := 2) rfl rfl (out_old (t := 3) rfl rfl (out_old (t := 9) rfl rfl (out_new (i := 18) (by decide) rfl rfl (out_new (i := 22) (by decide) rfl rfl (out_new (i := 24) (by decide) rfl rfl (out_new (i := 25) (by decide) rfl rfl out_nil))))))))) fun a15 w15 s15 => ?_
  obtain ⟨x4, e_x4, h4⟩ := bind_some h3; clear h3
  refine seq_opg s15 rfl rfl rfl rfl (of_decide_eq_true rfl) (fun hb => (Ob.uncond (t := 45) hb rfl ((Ob.uncond (t := 44) hb rfl ((Ob.uncond (t := 42) hb rfl (ob_callD (args := [_, _]) rfl (.fn (.tmp rfl)) hb131 (fun a w s fs gs hf hg => by obtain rfl := hf.unnil; obtain rfl := hg.unnil; exact c_roster_read_1 k _ _ _ (ite_t hb e_x4) _ _ _ _ (s.arg (.tmp rfl)) (s.arg (.tmp rfl)))))))))) fun a16 w16 s16 => ?_; clear s15
  refine seq_opg s16 rfl rfl rfl rfl (of_decide_eq_true rfl) (fun hb => (Ob.uncond (t := 46) hb rfl (ob_not rfl (.tmp rfl)))) fun a17 w17 s17 => ?_; clear s16
  refine seq_op s17 rfl rfl (of_decide_eq_true rfl) (ob_or2 rfl (.tmp rfl) opd_bool (.tmp rfl)) fun a18 w18 s18 => ?_; clear s17
  refine wpList_nil ?_
  refine then_normal ?_
  refine hK4 _ _ ?_
  have s19 := s18.sub (.cons (t := 0) rfl (.cons (t := 1) rfl (.cons (t := 2) rfl (.cons (t := 3) rfl (.cons (t := 9) rfl (.cons (t := 48) rfl .nil)))))); clear s18
  refine cond_split s19 (.tmp rfl) (fun hc1 => ?_) (fun hc1 => ?_)
  · replace h4 := ite_t hc1 h4
    have h5 := h4; clear h4
    refine wp_seq_k fun K5 hK5 => ?_
    refine wp_region_lit ?_
    refine seq_op s19 rfl rfl (of_decide_eq_true rfl) (ob_assign rfl opd_bool) fun a20 w20 s20 => ?_; clear s19
    refine wpList_nil ?_
    refine then_normal ?_
    refine hK5 _ _ ?_
    have s21 := s20.sub (.cons (t := 8) rfl .nil); clear s20
    have s22 := St.drop (A := []) s21; clear s21
    refine wp_ret ?_
    obtain rfl := Option.some.inj h5
    exact leave s22 (.inl rfl) rfl (.cons (.tmp rfl) .nil)
  · replace h4 := ite_f hc1 h4
    have h6 := h4; clear h4
    refine wp_skip ?_
    refine then_normal ?_
    refine hK3 _ _ ?_
    have s23 := s19.sub (.cons (t := 0) rfl (.cons (t := 1) rfl (.cons (t := 2) rfl (.cons (t := 3) rfl (.cons (t := 9) rfl .nil))))); clear s19
    refine wp_seq_k fun K6 hK6 => ?_
    refine wp_seq_k fun K7 hK7 => ?_
    refine wp_region_lit ?_
    refine seq_op s23 rfl rfl (of_decide_eq_true rfl) (ob_move rfl (.tmp rfl)) fun a24 w24 s24 => ?_; clear s23
    refine seq_op s24 rfl rfl (of_decide_eq_true rfl) (ob_lens rfl Try.underlying41 (.tmp rfl)) fun a25 w25 s25 => ?_; clear s24
    refine seq_op s25 rfl rfl (of_decide_eq_true rfl) (ob_move rfl (opd_int rfl)) fun a26 w26 s26 => ?_; clear s25
    refine wpList_nil ?_
    refine then_normal ?_
    refine hK7 _ _ ?_
    have s27 := s26.sub (.cons (t := 0) rfl (.cons (t := 2) rfl (.cons (t := 3) rfl (.cons (t := 9) rfl (.cons (t := 49) rfl (.cons (t := 50) rfl (.cons (t := 51) rfl .nil))))))); clear s26
    have hj1 : ∀ (a : Act) (w : World), (roster_book_lets.j1 k) = some r → St ⟨96, w0, ok, []⟩ [] [] a w → K6 a w := by
      intro a28 w28 h7 s28
      unfold roster_book_lets.j1 at h7
      refine hK6 _ _ ?_
      refine wp_seq_k fun K8 hK8 => ?_
      refine wp_region_lit ?_
      refine seq_op s28 rfl rfl (of_decide_eq_true rfl) (ob_assign rfl opd_bool) fun a29 w29 s29 => ?_; clear s28
      refine wpList_nil ?_
      refine then_normal ?_
      refine hK8 _ _ ?_
      have s30 := s29.sub (.cons (t := 8) rfl .nil); clear s29
      refine wp_ret ?_
      obtain rfl := Option.some.inj h7
      exact leave s30 (.inl rfl) rfl (.cons (.tmp rfl) .nil)
    refine wp_block ?_
    refine wp_loop_fuel (fun m (q : Int) => roster_book_lets.l1 k p2 x1 p1 p3 p4 m q) r (fun _ => rfl) (fun q a w => St ⟨96, w0, ok, []⟩ [BF b1 44 k_api_Op x1.Op] [(0, (ptrTo k_roster_book p1)), (2, ((kint .i64).V p3)), (3, ((kint .i64).V p4)), (9, (ptrB b1 0)), (49, ((ksl (kint .i64)).V p2)), (50, ((kint .i64).V (p2.length : Int))), (51, ((kint .i64).V q))] a w) ?_ k (0 : Int) _ _ h6 (s27.sub (.cons rfl (.cons rfl (.cons rfl (.cons rfl (.cons rfl (.cons rfl (.cons rfl .nil))))))))
    rintro n1 y1 a31 w31 h8 s31 K9 hK9
    replace h8 : roster_book_lets.l1 k p2 x1 p1 p3 p4 (n1 + 1) y1 = some r := h8; rw [roster_book_lets.l1] at h8
    have h9 := h8; clear h8
    refine wp_seq_k fun K10 hK10 => ?_
    refine wp_region_lit ?_
    refine seq_op s31 rfl rfl (of_decide_eq_true rfl) (ob_lss rfl (.tmp rfl) (.tmp rfl)) fun a32 w32 s32 => ?_; clear s31
    refine wpList_nil ?_
    refine then_normal ?_
    refine hK10 _ _ ?_
    have s33 := s32.sub (.cons (t := 0) rfl (.cons (t := 2) rfl (.cons (t := 3) rfl (.cons (t := 9) rfl (.cons (t := 49) rfl (.cons (t := 50) rfl (.cons (t := 51) rfl (.cons (t := 52) rfl .nil)))))))); clear s32
    refine wp_seq_k fun K11 hK11 => ?_
    refine cond_split s33 (.tmp rfl) (fun hc2 => ?_) (fun hc2 => ?_)
    · replace h9 := ite_t hc2 h9
      have h10 := h9; clear h9
      refine wp_skip ?_
      refine then_normal ?_
      refine hK11 _ _ ?_
      have s34 := s33.sub (.cons (t := 0) rfl (.cons (t := 2) rfl (.cons (t := 3) rfl (.cons (t := 9) rfl (.cons (t := 49) rfl (.cons (t := 50) rfl (.cons (t := 51) rfl .nil))))))); clear s33
      refine wp_seq_k fun K12 hK12 => ?_
      refine wp_block ?_
      refine wp_seq_k fun K13 hK13 => ?_
      refine wp_region_lit ?_
      obtain ⟨x5, e_x5, h11⟩ := bind_some h10; clear h10
      refine seq_op s34 rfl rfl (of_decide_eq_true rfl) (ob_indexAddrs rfl Try.underlying41 sz3 (.tmp rfl) (.tmp rfl) e_x5) fun a35 w35 s35 => ?_; clear s34
      refine seq_op s35 rfl rfl (of_decide_eq_true rfl) (ob_loadr rfl tk3 (.tmp rfl)) fun a36 w36 s36 => ?_; clear s35
      refine seq_op s36 rfl rfl (of_decide_eq_true rfl) (ob_assign rfl (.tmp rfl)) fun a37 w37 s37 => ?_; clear s36
      refine wpList_nil ?_
      refine then_normal ?_
      refine hK13 _ _ ?_
      have s38 := s37.sub (.cons (t := 0) rfl (.cons (t := 2) rfl (.cons (t := 3) rfl (.cons (t := 9) rfl (.cons (t := 11) rfl (.cons (t := 49) rfl (.cons (t := 50) rfl (.cons (t := 51) rfl .nil)))))))); clear s37
      refine wp_seq_k fun K14 hK14 => ?_
      refine wp_seq_k fun K15 hK15 => ?_
      refine wp_region_lit ?_
      refine seq_op s38 rfl rfl (of_decide_eq_true rfl) (ob_fieldAddr (off' := 3) rfl Try.underlying44 rfl sz3 (by decide) (.tmp rfl) rfl) fun a39 w39 s39 => ?_; clear s38
      refine seq_op s39 rfl rfl (of_decide_eq_true rfl) (ob_load rfl tk3 (.tmp rfl) (.head _) (lg_api_Op_Kind x1.Op)) fun a40 w40 s40 => ?_; clear s39
      refine seq_op s40 rfl rfl (of_decide_eq_true rfl) (ob_eql rfl (.tmp rfl) (opd_int rfl)) fun a41 w41 s41 => ?_; clear s40
      refine seq_op s41 rfl rfl (of_decide_eq_true rfl) (ob_move rfl (.tmp rfl)) fun a42 w42 s42 => ?_; clear s41
      refine seq_opg s42 rfl rfl rfl rfl (of_decide_eq_true rfl) (fun hb => ob_move rfl (.tmp rfl)) fun a43 w43 s43 => ?_; clear s42
      refine seq_opg s43 rfl rfl rfl rfl (of_decide_eq_true rfl) (fun hb => ob_move rfl (.tmp rfl)) fun a44 w44 s44 => ?_; clear s43
      refine seq_opg s44 rfl rfl rfl rfl (of_decide_eq_true rfl) (fun hb => ob_fieldAddr (off' := 0) rfl Try.underlying44 rfl sz3 (by decide) (.tmp rfl) rfl) fun a45 w45 s45 => ?_; clear s44
      refine seq_opg s45 rfl rfl rfl rfl (of_decide_eq_true rfl) (fun hb => (Ob.uncond (t := 61) hb rfl (ob_load rfl tk3 (.tmp rfl) (.head _) (lg_api_Op_Author x1.Op)))) fun a46 w46 s46 => ?_; clear s45
      obtain ⟨x6, e_x6, h12⟩ := bind_some h11; clear h11
      refine seq_opg s46 rfl rfl rfl rfl (of_decide_eq_true rfl) (fun hb => (Ob.uncond (t := 62) hb rfl ((Ob.uncond (t := 60) hb rfl ((Ob.uncond (t := 59) hb rfl (ob_callD (args := [_, _, _]) rfl .direct hb153 (fun a w s fs gs hf hg => by obtain rfl := hf.unnil; obtain rfl := hg.unnil; exact c_roster_book_removes k _ _ _ _ (ite_t hb e_x6) _ _ _ _ _ (s.arg (.tmp rfl)) (s.arg (.tmp rfl)) (s.arg (.tmp rfl)))))))))) fun a47 w47 s47 => ?_; clear s46
      refine seq_op s47 rfl rfl (of_decide_eq_true rfl) (ob_and2 rfl (.tmp rfl) (.tmp rfl) opd_bool) fun a48 w48 s48 => ?_; clear s47
      refine seq_op s48 rfl rfl (of_decide_eq_true rfl) (ob_move rfl (.tmp rfl)) fun a49 w49 s49 => ?_; clear s48
      refine seq_opg s49 rfl rfl rfl rfl (of_decide_eq_true rfl) (fun hb => ob_move rfl (.tmp rfl)) fun a50 w50 s50 => ?_; clear s49
      refine seq_opg s50 rfl rfl rfl rfl (of_decide_eq_true rfl) (fun hb => ob_move rfl (.tmp rfl)) fun a51 w51 s51 => ?_; clear s50
      refine seq_opg s51 rfl rfl rfl rfl (of_decide_eq_true rfl) (fun hb => (Ob.uncond (t := 67) hb rfl ((Ob.uncond (t := 66) hb rfl (ob_neq rfl (.tmp rfl) (.tmp rfl)))))) fun a52 w52 s52 => ?_; clear s51
      obtain ⟨x7, e_x7, h13⟩ := bind_some h12; clear h12; replace e_x7 := Option.some.inj e_x7
      refine seq_op s52 rfl rfl (of_decide_eq_true rfl) ((ob_and2 rfl (.tmp rfl) (.tmp rfl) opd_bool).nm e_x7) fun a53 w53 s53 => ?_; clear s52
      refine seq_op s53 rfl rfl (of_decide_eq_true rfl) (ob_move rfl (.tmp rfl)) fun a54 w54 s54 => ?_; clear s53
      refine seq_opg s54 rfl rfl rfl rfl (of_decide_eq_true rfl) (fun hb => ob_move rfl (.tmp rfl)) fun a55 w55 s55 => ?_; clear s54
      refine seq_opg s55 rfl rfl rfl rfl (of_decide_eq_true rfl) (fun hb => ob_move rfl (.tmp rfl)) fun a56 w56 s56 => ?_; clear s55
      refine seq_opg s56 rfl rfl rfl rfl (of_decide_eq_true rfl) (fun hb => ob_move rfl (.tmp rfl)) fun a57 w57 s57 => ?_; clear s56
      obtain ⟨x8, e_x8, h14⟩ := bind_some h13; clear h13
      refine seq_opg s57 rfl rfl rfl rfl (of_decide_eq_true rfl) (fun hb => (Ob.uncond (t := 73) hb rfl ((Ob.uncond (t := 72) hb rfl ((Ob.uncond (t := 71) hb rfl (ob_callD (args := [_, _, _]) rfl .direct hb154 (fun a w s fs gs hf hg => by obtain rfl := hf.unnil; obtain rfl := hg.unnil; exact c_roster_book_ahead k _ _ _ _ (ite_t hb e_x8) _ _ _ _ _ (s.arg (.tmp rfl)) (s.arg (.tmp rfl)) (s.arg (.tmp rfl)))))))))) fun a58 w58 s58 => ?_; clear s57
      refine seq_opg s58 rfl rfl rfl rfl (of_decide_eq_true rfl) (fun hb => (Ob.uncond (t := 74) hb rfl (ob_not rfl (.tmp rfl)))) fun a59 w59 s59 => ?_; clear s58
      refine seq_op s59 rfl rfl (of_decide_eq_true rfl) (ob_and2 rfl (.tmp rfl) (.tmp rfl) opd_bool) fun a60 w60 s60 => ?_; clear s59
      refine seq_op s60 rfl rfl (of_decide_eq_true rfl) (ob_move rfl (.tmp rfl)) fun a61 w61 s61 => ?_; clear s60
      refine seq_opg s61 rfl rfl rfl rfl (of_decide_eq_true rfl) (fun hb => ob_move rfl (.tmp rfl)) fun a62 w62 s62 => ?_; clear s61
      refine seq_opg s62 rfl rfl rfl rfl (of_decide_eq_true rfl) (fun hb => ob_move rfl (.tmp rfl)) fun a63 w63 s63 => ?_; clear s62
      refine seq_opg s63 rfl rfl rfl rfl (of_decide_eq_true rfl) (fun hb => ob_move rfl (.tmp rfl)) fun a64 w64 s64 => ?_; clear s63
      obtain ⟨x9, e_x9, h15⟩ := bind_some h14; clear h14
      refine seq_opg s64 rfl rfl rfl rfl (of_decide_eq_true rfl) (fun hb => (Ob.uncond (t := 80) hb rfl ((Ob.uncond (t := 79) hb rfl ((Ob.uncond (t := 78) hb rfl (ob_callD (args := [_, _, _]) rfl .direct hb154 (fun a w s fs gs hf hg => by obtain rfl := hf.unnil; obtain rfl := hg.unnil; exact c_roster_book_ahead k _ _ _ _ (ite_t hb e_x9) _ _ _ _ _ (s.arg (.tmp rfl)) (s.arg (.tmp rfl)) (s.arg (.tmp rfl)))))))))) fun a65 w65 s65 => ?_; clear s64
      refine seq_opg s65 rfl rfl rfl rfl (of_decide_eq_true rfl) (fun hb => (Ob.uncond (t := 81) hb rfl (ob_not rfl (.tmp rfl)))) fun a66 w66 s66 => ?_; clear s65
      refine seq_op s66 rfl rfl (of_decide_eq_true rfl) (ob_and2 rfl (.tmp rfl) (.tmp rfl) opd_bool) fun a67 w67 s67 => ?_; clear s66
      refine wpList_nil ?_
      refine then_normal ?_
      refine hK15 _ _ ?_
      have s68 := s67.sub (.cons (t := 0) rfl (.cons (t := 2) rfl (.cons (t := 3) rfl (.cons (t := 9) rfl (.cons (t := 11) rfl (.cons (t := 49) rfl (.cons (t := 50) rfl (.cons (t := 51) rfl (.cons (t := 83) rfl .nil))))))))); clear s67
      refine cond_split s68 (.tmp rfl) (fun hc3 => ?_) (fun hc3 => ?_)
      · replace h15 := ite_t hc3 h15
        have h16 := h15; clear h15
        refine wp_seq_k fun K16 hK16 => ?_
        refine wp_region_lit ?_
        refine seq_op s68 rfl rfl (of_decide_eq_true rfl) (ob_assign rfl opd_bool) fun a69 w69 s69 => ?_; clear s68
        refine wpList_nil ?_
        refine then_normal ?_
        refine hK16 _ _ ?_
        have s70 := s69.sub (.cons (t := 8) rfl .nil); clear s69
        have s71 := St.drop (A := []) s70; clear s70
        refine wp_ret ?_
        obtain rfl := Option.some.inj h16
        exact leave s71 (.inl rfl) rfl (.cons (.tmp rfl) .nil)
      · replace h15 := ite_f hc3 h15
        have h17 := h15; clear h15
        refine wp_skip ?_
        refine then_normal ?_
        refine hK14 _ _ ?_
        have s72 := s68.sub (.cons (t := 0) rfl (.cons (t := 2) rfl (.cons (t := 3) rfl (.cons (t := 9) rfl (.cons (t := 11) rfl (.cons (t := 49) rfl (.cons (t := 50) rfl (.cons (t := 51) rfl .nil)))))))); clear s68
        refine wp_seq_k fun K17 hK17 => ?_
        refine wp_region_lit ?_
        refine seq_op s72 rfl rfl (of_decide_eq_true rfl) (ob_move rfl (.tmp rfl)) fun a73 w73 s73 => ?_; clear s72
        refine seq_op s73 rfl rfl (of_decide_eq_true rfl) (ob_move rfl (.tmp rfl)) fun a74 w74 s74 => ?_; clear s73
        refine seq_op s74 rfl rfl (of_decide_eq_true rfl) (ob_move rfl (.tmp rfl)) fun a75 w75 s75 => ?_; clear s74
        obtain ⟨x10, e_x10, h18⟩ := bind_some h17; clear h17
        refine seq_op s75 rfl rfl (of_decide_eq_true rfl) (ob_callD (args := [_, _, _]) rfl .direct hb153 (fun a w s fs gs hf hg => by obtain rfl := hf.unnil; obtain rfl := hg.unnil; exact c_roster_book_removes k _ _ _ _ e_x10 _ _ _ _ _ (s.arg (.tmp rfl)) (s.arg (.tmp rfl)) (s.arg (.tmp rfl)))) fun a76 w76 s76 => ?_; clear s75
        refine seq_op s76 rfl rfl (of_decide_eq_true rfl) (ob_move rfl (.tmp rfl)) fun a77 w77 s77 => ?_; clear s76
        refine seq_opg s77 rfl rfl rfl rfl (of_decide_eq_true rfl) (fun hb => ob_move rfl (.tmp rfl)) fun a78 w78 s78 => ?_; clear s77
        refine seq_opg s78 rfl rfl rfl rfl (of_decide_eq_true rfl) (fun hb => ob_move rfl (.tmp rfl)) fun a79 w79 s79 => ?_; clear s78
        refine seq_opg s79 rfl rfl rfl rfl (of_decide_eq_true rfl) (fun hb => ob_move rfl (.tmp rfl)) fun a80 w80 s80 => ?_; clear s79
        obtain ⟨x11, e_x11, h19⟩ := bind_some h18; clear h18
        refine seq_opg s80 rfl rfl rfl rfl (of_decide_eq_true rfl) (fun hb => (Ob.uncond (t := 91) hb rfl ((Ob.uncond (t := 90) hb rfl ((Ob.uncond (t := 89) hb rfl (ob_callD (args := [_, _, _]) rfl .direct hb154 (fun a w s fs gs hf hg => by obtain rfl := hf.unnil; obtain rfl := hg.unnil; exact c_roster_book_ahead k _ _ _ _ (ite_t hb e_x11) _ _ _ _ _ (s.arg (.tmp rfl)) (s.arg (.tmp rfl)) (s.arg (.tmp rfl)))))))))) fun a81 w81 s81 => ?_; clear s80
        refine seq_opg s81 rfl rfl rfl rfl (of_decide_eq_true rfl) (fun hb => (Ob.uncond (t := 92) hb rfl (ob_not rfl (.tmp rfl)))) fun a82 w82 s82 => ?_; clear s81
        refine seq_op s82 rfl rfl (of_decide_eq_true rfl) (ob_and2 rfl (.tmp rfl) (.tmp rfl) opd_bool) fun a83 w83 s83 => ?_; clear s82
        refine wpList_nil ?_
        refine then_normal ?_
        refine hK17 _ _ ?_
        have s84 := s83.sub (.cons (t := 0) rfl (.cons (t := 2) rfl (.cons (t := 3) rfl (.cons (t := 9) rfl (.cons (t := 49) rfl (.cons (t := 50) rfl (.cons (t := 51) rfl (.cons (t := 94) rfl .nil)))))))); clear s83
        refine cond_split s84 (.tmp rfl) (fun hc4 => ?_) (fun hc4 => ?_)
        · replace h19 := ite_t hc4 h19
          have h20 := h19; clear h19
          refine wp_seq_k fun K18 hK18 => ?_
          refine wp_region_lit ?_
          refine seq_op s84 rfl rfl (of_decide_eq_true rfl) (ob_assign rfl opd_bool) fun a85 w85 s85 => ?_; clear s84
          refine wpList_nil ?_
          refine then_normal ?_
          refine hK18 _ _ ?_
          have s86 := s85.sub (.cons (t := 8) rfl .nil); clear s85
          have s87 := St.drop (A := []) s86; clear s86
          refine wp_ret ?_
          obtain rfl := Option.some.inj h20
          exact leave s87 (.inl rfl) rfl (.cons (.tmp rfl) .nil)
        · replace h19 := ite_f hc4 h19
          have h21 := h19; clear h19
          refine wp_skip ?_
          refine in_normal ?_
          refine then_normal ?_
          refine hK12 _ _ ?_
          have s88 := s84.sub (.cons (t := 0) rfl (.cons (t := 2) rfl (.cons (t := 3) rfl (.cons (t := 9) rfl (.cons (t := 49) rfl (.cons (t := 50) rfl (.cons (t := 51) rfl .nil))))))); clear s84
          refine wp_region_lit ?_
          refine seq_op s88 rfl rfl (of_decide_eq_true rfl) (ob_add rfl (.tmp rfl) (opd_int rfl)) fun a89 w89 s89 => ?_; clear s88
          refine seq_op s89 rfl rfl (of_decide_eq_true rfl) (ob_move rfl (.tmp rfl)) fun a90 w90 s90 => ?_; clear s89
          refine wpList_nil ?_
          refine then_normal ?_
          exact hK9 (iadd .i64 y1 (1 : Int)) _ _ h21 (s90.sub (.cons rfl (.cons rfl (.cons rfl (.cons rfl (.cons rfl (.cons rfl (.cons rfl .nil))))))))
    · replace h9 := ite_f hc2 h9
      have h22 := h9; clear h9
      refine wp_exit ?_
      refine (then_exit (then_exit (in_here ?_)))
      refine then_normal ?_
      have s91 := St.drop (A := []) s33; clear s33
      exact hj1 _ _ h22 (s91.sub .nil)

/- 133 (*cabal/roster.book).roster$1 -/
theorem c_roster_book_roster_1 (k : Nat) (p1 : Int) (p2 : roster_book) (p3 : (List Int)) (p4 : Int) (r : Bool) (h0 : roster_book_roster_1 k p1 p2 p3 p4 = some r) (ok : Ok) (w0 : World) (z0 : Value) (z1 : Value) (z2 : Value) (z3 : Value) (u0 : ((kint .i64).V p1).holds ok w0 z0) (u1 : (ptrTo (kptr k_roster_book) p2).holds ok w0 z1) (u2 : (ptrTo (ksl (kint .i64)) p3).holds ok w0 z2) (u3 : (ptrTo (kint .i64) p4).holds ok w0 z3) :
    Gives Try.prog 133 [z0, z1, z2, z3] ok w0 (resFact [kbool.V r]) := by
  unfold roster_book_roster_1 at h0
  refine enter (N := 11) Try.func133 rfl rfl (of_decide_eq_true rfl) (.cons u0 (.cons u1 (.cons u2 (.cons u3 .nil)))) fun a1 s1 => ?_
  refine wp_seq_k fun K1 hK1 => ?_
  refine wp_region_lit ?_
  refine seq_op s1 rfl rfl (of_decide_eq_true rfl) (ob_assign rfl opd_bool) fun a2 w2 s2 => ?_; clear s1
  refine wpList_nil ?_
  refine then_normal ?_
  refine hK1 _ _ ?_
  have s3 := s2.sub (.cons (t := 0) rfl (.cons (t := 1) rfl (.cons (t := 2) rfl (.cons (t := 3) rfl .nil)))); clear s2
  refine wp_seq_k fun K2 hK2 => ?_
  refine wp_region_lit ?_
  refine seq_op s3 rfl rfl (of_decide_eq_true rfl) ((ob_loadr rfl tk113 (.tmp rfl)).as data_ptr) fun a4 w4 s4 => ?_; clear s3
  refine seq_op s4 rfl rfl (of_decide_eq_true rfl) (ob_loadr rfl tk41 (.tmp rfl)) fun a5 w5 s5 => ?_; clear s4
  refine seq_op s5 rfl rfl (of_decide_eq_true rfl) (ob_move rfl (.tmp rfl)) fun a6 w6 s6 => ?_; clear s5
  refine seq_op s6 rfl rfl (of_decide_eq_true rfl) (ob_loadr rfl tk3 (.tmp rfl)) fun a7 w7 s7 => ?_; clear s6
  obtain ⟨x1, e_x1, h1⟩ := bind_some h0; clear h0
  refine seq_op s7 rfl rfl (of_decide_eq_true rfl) (ob_callD (args := [_, _, _, _]) rfl .direct hb134 (fun a w s fs gs hf hg => by obtain rfl := hf.unnil; obtain rfl := hg.unnil; exact c_roster_book_lets k _ _ _ _ _ e_x1 _ _ _ _ _ _ (s.arg (.tmp rfl)) (s.arg (.tmp rfl)) (s.arg (.tmp rfl)) (s.arg (.tmp rfl)))) fun a8 w8 s8 => ?_; clear s7
  refine seq_op s8 rfl rfl (of_decide_eq_true rfl) (ob_assign rfl (.tmp rfl)) fun a9 w9 s9 => ?_; clear s8
  refine wpList_nil ?_
  refine then_normal ?_
  refine hK2 _ _ ?_
  have s10 := s9.sub (.cons (t := 5) rfl .nil); clear s9
  refine wp_ret ?_
  obtain rfl := Option.some.inj h1
  exact leave s10 (.inl rfl) rfl (.cons (.tmp rfl) .nil)

/- 152 slices.IndexFunc[[]int,int] -/
theorem c_slices_IndexFunc_int_int_roster_book_roster_1 (k : Nat) (p1 : (List Int)) (p2 : roster_book) (p3 : (List Int)) (p4 : Int) (r : Int) (h0 : slices_IndexFunc_int_int_roster_book_roster_1 k p1 p2 p3 p4 = some r) (ok : Ok) (w0 : World) (z0 : Value) (z1 : Value) (u0 : ((ksl (kint .i64)).V p1).holds ok w0 z0) (u1 : (cloF 133 [] [(ptrTo (kptr k_roster_book) p2), (ptrTo (ksl (kint .i64)) p3), (ptrTo (kint .i64) p4)]).holds ok w0 z1) :
    Gives Try.prog 152 [z0, z1] ok w0 (resFact [(kint .i64).V r]) := by
  unfold slices_IndexFunc_int_int_roster_book_roster_1 at h0
  refine enter (N := 19) Try.func152 rfl rfl (of_decide_eq_true rfl) (.cons u0 (.cons u1 .nil)) fun a1 s1 => ?_
  refine wp_seq_k fun K1 hK1 => ?_
  refine wp_region_lit ?_
  refine seq_op s1 rfl rfl (of_decide_eq_true rfl) (ob_assign rfl (opd_int rfl)) fun a2 w2 s2 => ?_; clear s1
  refine wpList_nil ?_
  refine then_normal ?_
  refine hK1 _ _ ?_
  have s3 := s2.sub (.cons (t := 0) rfl (.cons (t := 1) rfl .nil)); clear s2
  refine wp_seq_k fun K2 hK2 => ?_
  refine wp_seq_k fun K3 hK3 => ?_
  refine wp_region_lit ?_
  refine seq_op s3 rfl rfl (of_decide_eq_true rfl) (ob_move rfl (.tmp rfl)) fun a4 w4 s4 => ?_; clear s3
  refine seq_op s4 rfl rfl (of_decide_eq_true rfl) (ob_lens rfl Try.underlying41 (.tmp rfl)) fun a5 w5 s5 => ?_; clear s4
  refine seq_op s5 rfl rfl (of_decide_eq_true rfl) (ob_move rfl (opd_int rfl)) fun a6 w6 s6 => ?_; clear s5
  refine wpList_nil ?_
  refine then_normal ?_
  refine hK3 _ _ ?_
  have s7 := s6.sub (.cons (t := 0) rfl (.cons (t := 1) rfl (.cons (t := 7) rfl (.cons (t := 8) rfl .nil)))); clear s6
  have hj1 : ∀ (a : Act) (w : World), (slices_IndexFunc_int_int_roster_book_roster_1.j1 k) = some r → St ⟨19, w0, ok, []⟩ [] [] a w → K2 a w := by
    intro a8 w8 h1 s8
    unfold slices_IndexFunc_int_int_roster_book_roster_1.j1 at h1
    refine hK2 _ _ ?_
    refine wp_seq_k fun K4 hK4 => ?_
    refine wp_region_lit ?_
    refine seq_op s8 rfl rfl (of_decide_eq_true rfl) (ob_assign rfl (opd_int rfl)) fun a9 w9 s9 => ?_; clear s8
    refine wpList_nil ?_
    refine then_normal ?_
    refine hK4 _ _ ?_
    have s10 := s9.sub (.cons (t := 4) rfl .nil); clear s9
    refine wp_ret ?_
    obtain rfl := Option.some.inj h1
    exact leave s10 (.inl rfl) rfl (.cons (.tmp rfl) .nil)
  refine wp_block ?_
  refine wp_loop_fuel (fun m (q : Int) => slices_IndexFunc_int_int_roster_book_roster_1.l1 k p1 p2 p3 p4 m q) r (fun _ => rfl) (fun q a w => St ⟨19, w0, ok, []⟩ [] [(0, ((ksl (kint .i64)).V p1)), (1, (cloF 133 [] [(ptrTo (kptr k_roster_book) p2), (ptrTo (ksl (kint .i64)) p3), (ptrTo (kint .i64) p4)])), (7, ((kint .i64).V (p1.length : Int))), (8, ((kint .i64).V q))] a w) ?_ k (0 : Int) _ _ h0 (s7.sub (.cons rfl (.cons rfl (.cons rfl (.cons rfl .nil)))))
  rintro n1 y1 a11 w11 h2 s11 K5 hK5
  replace h2 : slices_IndexFunc_int_int_roster_book_roster_1.l1 k p1 p2 p3 p4 (n1 + 1) y1 = some r := h2; rw [slices_IndexFunc_int_int_roster_book_roster_1.l1] at h2
  have h3 := h2; clear h2
  refine wp_seq_k fun K6 hK6 => ?_
  refine wp_region_lit ?_
  refine seq_op s11 rfl rfl (of_decide_eq_true rfl) (ob_lss rfl (.tmp rfl) (.tmp rfl)) fun a12 w12 s12 => ?_; clear s11
  refine wpList_nil ?_
  refine then_normal ?_
  refine hK6 _ _ ?_
  have s13 := s12.sub (.cons (t := 0) rfl (.cons (t := 1) rfl (.cons (t := 7) rfl (.cons (t := 8) rfl (.cons (t := 9) rfl .nil))))); clear s12
  refine wp_seq_k fun K7 hK7 => ?_
  refine cond_split s13 (.tmp rfl) (fun hc1 => ?_) (fun hc1 => ?_)
  · replace h3 := ite_t hc1 h3
    have h4 := h3; clear h3
    refine wp_skip ?_
    refine then_normal ?_
    refine hK7 _ _ ?_
    have s14 := s13.sub (.cons (t := 0) rfl (.cons (t := 1) rfl (.cons (t := 7) rfl (.cons (t := 8) rfl .nil)))); clear s13
    refine wp_seq_k fun K8 hK8 => ?_
    refine wp_block ?_
    refine wp_seq_k fun K9 hK9 => ?_
    refine wp_region_lit ?_
    refine seq_op s14 rfl rfl (of_decide_eq_true rfl) (ob_move rfl (.tmp rfl)) fun a15 w15 s15 => ?_; clear s14
    refine seq_op s15 rfl rfl (of_decide_eq_true rfl) (ob_assign rfl (.tmp rfl)) fun a16 w16 s16 => ?_; clear s15
    refine wpList_nil ?_
    refine then_normal ?_
    refine hK9 _ _ ?_
    have s17 := s16.sub (.cons (t := 0) rfl (.cons (t := 1) rfl (.cons (t := 5) rfl (.cons (t := 7) rfl (.cons (t := 8) rfl .nil))))); clear s16
    refine wp_seq_k fun K10 hK10 => ?_
    refine wp_region_lit ?_
    refine seq_op s17 rfl rfl (of_decide_eq_true rfl) (ob_move rfl (.tmp rfl)) fun a18 w18 s18 => ?_; clear s17
    refine seq_op s18 rfl rfl (of_decide_eq_true rfl) (ob_move rfl (.tmp rfl)) fun a19 w19 s19 => ?_; clear s18
    refine seq_op s19 rfl rfl (of_decide_eq_true rfl) (ob_move rfl (.tmp rfl)) fun a20 w20 s20 => ?_; clear s19
    obtain ⟨x1, e_x1, h5⟩ := bind_some h4; clear h4
    refine seq_op s20 rfl rfl (of_decide_eq_true rfl) (ob_indexAddrs rfl Try.underlying41 sz3 (.tmp rfl) (.tmp rfl) e_x1) fun a21 w21 s21 => ?_; clear s20
    refine seq_op s21 rfl rfl (of_decide_eq_true rfl) (ob_loadr rfl tk3 (.tmp rfl)) fun a22 w22 s22 => ?_; clear s21
    obtain ⟨x2, e_x2, h6⟩ := bind_some h5; clear h5
    refine seq_op s22 rfl rfl (of_decide_eq_true rfl) (ob_callD (args := [_]) rfl (.clo (.tmp rfl)) hb133 (fun a w s fs gs hf hg => by obtain rfl := hf.unnil; obtain ⟨u0, _, rfl, fu0, hg⟩ := hg.uncons; obtain ⟨u1, _, rfl, fu1, hg⟩ := hg.uncons; obtain ⟨u2, _, rfl, fu2, hg⟩ := hg.uncons; obtain rfl := hg.unnil; exact c_roster_book_roster_1 k _ _ _ _ _ e_x2 _ _ _ _ _ _ (s.arg (.tmp rfl)) fu0 fu1 fu2)) fun a23 w23 s23 => ?_; clear s22
    refine wpList_nil ?_
    refine then_normal ?_
    refine hK10 _ _ ?_
    have s24 := s23.sub (.cons (t := 0) rfl (.cons (t := 1) rfl (.cons (t := 5) rfl (.cons (t := 7) rfl (.cons (t := 8) rfl (.cons (t := 16) rfl .nil)))))); clear s23
    refine cond_split s24 (.tmp rfl) (fun hc2 => ?_) (fun hc2 => ?_)
    · replace h6 := ite_t hc2 h6
      have h7 := h6; clear h6
      refine wp_seq_k fun K11 hK11 => ?_
      refine wp_region_lit ?_
      refine seq_op s24 rfl rfl (of_decide_eq_true rfl) (ob_move rfl (.tmp rfl)) fun a25 w25 s25 => ?_; clear s24
      refine seq_op s25 rfl rfl (of_decide_eq_true rfl) (ob_assign rfl (.tmp rfl)) fun a26 w26 s26 => ?_; clear s25
      refine wpList_nil ?_
      refine then_normal ?_
      refine hK11 _ _ ?_
      have s27 := s26.sub (.cons (t := 4) rfl .nil); clear s26
      refine wp_ret ?_
      obtain rfl := Option.some.inj h7
      exact leave s27 (.inl rfl) rfl (.cons (.tmp rfl) .nil)
    · replace h6 := ite_f hc2 h6
      have h8 := h6; clear h6
      refine wp_skip ?_
      refine in_normal ?_
      refine then_normal ?_
      refine hK8 _ _ ?_
      have s28 := s24.sub (.cons (t := 0) rfl (.cons (t := 1) rfl (.cons (t := 7) rfl (.cons (t := 8) rfl .nil)))); clear s24
      refine wp_region_lit ?_
      refine seq_op s28 rfl rfl (of_decide_eq_true rfl) (ob_add rfl (.tmp rfl) (opd_int rfl)) fun a29 w29 s29 => ?_; clear s28
      refine seq_op s29 rfl rfl (of_decide_eq_true rfl) (ob_move rfl (.tmp rfl)) fun a30 w30 s30 => ?_; clear s29
      refine wpList_nil ?_
      refine then_normal ?_
      exact hK5 (iadd .i64 y1 (1 : Int)) _ _ h8 (s30.sub (.cons rfl (.cons rfl (.cons rfl (.cons rfl .nil)))))
  · replace h3 := ite_f hc1 h3
    have h9 := h3; clear h3
    refine wp_exit ?_
    refine (then_exit (then_exit (in_here ?_)))
    refine then_normal ?_
    exact hj1 _ _ h9 (s13.sub .nil)

/- 132 slices.ContainsFunc[[]int,int] -/
theorem c_slices_ContainsFunc_int_int_roster_book_roster_1 (k : Nat) (p1 : (List Int)) (p2 : roster_book) (p3 : (List Int)) (p4 : Int) (r : Bool) (h0 : slices_ContainsFunc_int_int_roster_book_roster_1 k p1 p2 p3 p4 = some r) (ok : Ok) (w0 : World) (z0 : Value) (z1 : Value) (u0 : ((ksl (kint .i64)).V p1).holds ok w0 z0) (u1 : (cloF 133 [] [(ptrTo (kptr k_roster_book) p2), (ptrTo (ksl (kint .i64)) p3), (ptrTo (kint .i64) p4)]).holds ok w0 z1) :
    Gives Try.prog 132 [z0, z1] ok w0 (resFact [kbool.V r]) := by
  unfold slices_ContainsFunc_int_int_roster_book_roster_1 at h0
  refine enter (N := 9) Try.func132 rfl rfl (of_decide_eq_true rfl) (.cons u0 (.cons u1 .nil)) fun a1 s1 => ?_
  refine wp_seq_k fun K1 hK1 => ?_
  refine wp_region_lit ?_
  refine seq_op s1 rfl rfl (of_decide_eq_true rfl) (ob_assign rfl opd_bool) fun a2 w2 s2 => ?_; clear s1
  refine wpList_nil ?_
  refine then_normal ?_
  refine hK1 _ _ ?_
  have s3 := s2.sub (.cons (t := 0) rfl (.cons (t := 1) rfl .nil)); clear s2
  refine wp_seq_k fun K2 hK2 => ?_
  refine wp_region_lit ?_
  refine seq_op s3 rfl rfl (of_decide_eq_true rfl) (ob_move rfl (.tmp rfl)) fun a4 w4 s4 => ?_; clear s3
  refine seq_op s4 rfl rfl (of_decide_eq_true rfl) (ob_move rfl (.tmp rfl)) fun a5 w5 s5 => ?_; clear s4
  obtain ⟨x1, e_x1, h1⟩ := bind_some h0; clear h0
  refine seq_op s5 rfl rfl (of_decide_eq_true rfl) (ob_callD (args := [_, _]) rfl .direct hb152 (fun a w s fs gs hf hg => by obtain rfl := hf.unnil; obtain rfl := hg.unnil; exact c_slices_IndexFunc_int_int_roster_book_roster_1 k _ _ _ _ _ e_x1 _ _ _ _ (s.arg (.tmp rfl)) (s.arg (.tmp rfl)))) fun a6 w6 s6 => ?_; clear s5
  refine seq_op s6 rfl rfl (of_decide_eq_true rfl) (ob_geq rfl (.tmp rfl) (opd_int rfl)) fun a7 w7 s7 => ?_; clear s6
  refine seq_op s7 rfl rfl (of_decide_eq_true rfl) (ob_assign rfl (.tmp rfl)) fun a8 w8 s8 => ?_; clear s7
  refine wpList_nil ?_
  refine then_normal ?_
  refine hK2 _ _ ?_
  have s9 := s8.sub (.cons (t := 4) rfl .nil); clear s8
  refine wp_ret ?_
  obtain rfl := Option.some.inj h1
  exact leave s9 (.inl rfl) rfl (.cons (.tmp rfl) .nil)

/- 89 (*cabal/roster.book).roster -/
theorem c_roster_book_roster (k : Nat) (p1 : roster_book) (p2 : (List Int)) (r : (List Int)) (h0 : roster_book_roster k p1 p2 = some r) (ok : Ok) (w0 : World) (z0 : Value) (z1 : Value) (u0 : (ptrTo k_roster_book p1).holds ok w0 z0) (u1 : ((ksl (kint .i64)).V p2).holds ok w0 z1) :
    GivesX Try.prog 89 [z0, z1] ok w0 [] (fun g : Value => resFact [is g]) (fun g : Value => [RowF (g) 3 (kint .i64) r]) := by
  unfold roster_book_roster at h0
  refine enterX (N := 19) Try.func89 rfl rfl (of_decide_eq_true rfl) (.cons u0 (.cons u1 .nil)) List.nodup_nil (fun _ h => by cases h) (fun _ h => by cases h) fun a1 s1 => ?_
  refine wp_seq_k fun K1 hK1 => ?_
  refine wp_region_lit ?_
  refine seq_opx (B' := (fun b1 : Nat => [BF b1 113 (kptr k_roster_book) p1])) s1 rfl rfl (of_decide_eq_true rfl) (ob_box rfl (.conv (.tmp rfl) ptr_data)) fun b1 a2 w2 s2 => ?_; clear s1
  refine seq_opx (B' := (fun b2 : Nat => [BF b2 41 (ksl (kint .i64)) p2, BF b1 113 (kptr k_roster_book) p1])) s2 rfl rfl (of_decide_eq_true rfl) (ob_box rfl (.tmp rfl)) fun b2 a3 w3 s3 => ?_; clear s2
  refine seq_op s3 rfl rfl (of_decide_eq_true rfl) (ob_assign rfl opd_is) fun a4 w4 s4 => ?_; clear s3
  have s5 := St.adopt s4 (G := RowF (nilRow 20) 3 (kint .i64) []) rfl (rowNilN _ _ _ _ _); clear s4
  refine wpList_nil ?_
  refine then_normal ?_
  refine hK1 _ _ ?_
  have s6 := s5.sub (.cons (t := 2) rfl (.cons (t := 3) rfl .nil)); clear s5
  have s7 := St.drop (A := []) s6; clear s6
  refine wp_seq_k fun K2 hK2 => ?_
  refine wp_region_lit ?_
  refine seq_op s7 rfl rfl (of_decide_eq_true rfl) (ob_assign rfl opd_is) fun a8 w8 s8 => ?_; clear s7
  have s9 := St.adopt s8 (G := RowF (nilRow 21) 3 (kint .i64) []) rfl (rowNilN _ _ _ _ _); clear s8
  refine wpList_nil ?_
  refine then_normal ?_
  refine hK2 _ _ ?_
  have s10 := s9.sub (.cons (t := 2) rfl (.cons (t := 3) rfl (.cons (t := 5) rfl .nil))); clear s9
  refine wp_seq_k fun K3 hK3 => ?_
  refine wp_seq_k fun K4 hK4 => ?_
  refine wp_region_lit ?_
  refine seq_op s10 rfl rfl (of_decide_eq_true rfl) (ob_move rfl (opd_int rfl)) fun a11 w11 s11 => ?_; clear s10
  refine wpList_nil ?_
  refine then_normal ?_
  refine hK4 _ _ ?_
  have s12 := s11.sub (.cons (t := 2) rfl (.cons (t := 3) rfl (.cons (t := 5) rfl (.cons (t := 7) rfl .nil)))); clear s11
  have hj1 : ∀ (y1 : (List Int)) (v1 : Value) (a : Act) (w : World), (roster_book_roster.j1 k) y1 = some r → St ⟨19, w0, ok, (idsOf [])⟩ [RowF v1 3 (kint .i64) y1] [(5, (is v1))] a w → K3 a w := by
    intro y1 v1 a13 w13 h1 s13
    unfold roster_book_roster.j1 at h1
    refine hK3 _ _ ?_
    refine wp_seq_k fun K5 hK5 => ?_
    refine wp_region_lit ?_
    refine seq_op s13 rfl rfl (of_decide_eq_true rfl) (ob_move rfl (.tmp rfl)) fun a14 w14 s14 => ?_; clear s13
    refine seq_op s14 rfl rfl (of_decide_eq_true rfl) (ob_assign rfl (.tmp rfl)) fun a15 w15 s15 => ?_; clear s14
    refine wpList_nil ?_
    refine then_normal ?_
    refine hK5 _ _ ?_
    have s16 := s15.sub (.cons (t := 4) rfl .nil); clear s15
    refine wp_ret ?_
    obtain rfl := Option.some.inj h1
    exact leaveXD (D := []) v1 s16 rfl (.inl rfl) rfl (.cons (.tmp rfl) .nil) rfl
  refine wp_block ?_
  have s17 := s12.perm (toFront [_, _] (toFront [_] (toFront [] (List.Perm.refl _)))); clear s12
  refine wp_loop_fuel (fun m (q : Int × (List Int)) => roster_book_roster.l1 k p2 p1 m q.1 q.2) r (fun _ => rfl) (fun q a w => ∃ (v2 : Value), St ⟨19, w0, ok, (idsOf [])⟩ [BF b1 113 (kptr k_roster_book) p1, BF b2 41 (ksl (kint .i64)) p2, RowF v2 3 (kint .i64) q.2] [(2, (ptrB b1 0)), (3, (ptrB b2 0)), (5, (is v2)), (7, ((kint .i64).V q.1))] a w) ?_ k ((0 : Int), ([] : (List Int))) _ _ h0 ⟨(nilRow 21), (s17.sub (.cons rfl (.cons rfl (.cons rfl (.cons rfl .nil)))))⟩
  rintro n1 ⟨y2, y3⟩ a18 w18 h2 ⟨v2, s18⟩ K6 hK6
  replace h2 : roster_book_roster.l1 k p2 p1 (n1 + 1) y2 y3 = some r := h2; rw [roster_book_roster.l1] at h2
  have h3 := h2; clear h2
  refine wp_seq_k fun K7 hK7 => ?_
  refine wp_region_lit ?_
  refine seq_op s18 rfl rfl (of_decide_eq_true rfl) (ob_lss rfl (.tmp rfl) (opd_int rfl)) fun a19 w19 s19 => ?_; clear s18
  refine wpList_nil ?_
  refine then_normal ?_
  refine hK7 _ _ ?_
  have s20 := s19.sub (.cons (t := 2) rfl (.cons (t := 3) rfl (.cons (t := 5) rfl (.cons (t := 7) rfl (.cons (t := 8) rfl .nil))))); clear s19
  refine wp_seq_k fun K8 hK8 => ?_
  refine cond_split s20 (.tmp rfl) (fun hc1 => ?_) (fun hc1 => ?_)
  · replace h3 := ite_t hc1 h3
    have h4 := h3; clear h3
    refine wp_skip ?_
    refine then_normal ?_
    refine hK8 _ _ ?_
    have s21 := s20.sub (.cons (t := 2) rfl (.cons (t := 3) rfl (.cons (t := 5) rfl (.cons (t := 7) rfl .nil)))); clear s20
    refine wp_seq_k fun K9 hK9 => ?_
    have hj2 : ∀ (y4 : (List Int)) (v3 : Value) (a : Act) (w : World), (roster_book_roster.j2 k y2 (roster_book_roster.l1 k p2 p1 n1)) y4 = some r → St ⟨19, w0, ok, (idsOf [])⟩ [BF b1 113 (kptr k_roster_book) p1, BF b2 41 (ksl (kint .i64)) p2, RowF v3 3 (kint .i64) y4] [(2, (ptrB b1 0)), (3, (ptrB b2 0)), (5, (is v3)), (7, ((kint .i64).V y2))] a w → K9 a w := by
      intro y4 v3 a22 w22 h5 s22
      unfold roster_book_roster.j2 at h5
      refine hK9 _ _ ?_
      refine wp_region_lit ?_
      refine seq_op s22 rfl rfl (of_decide_eq_true rfl) (ob_add rfl (.tmp rfl) (opd_int rfl)) fun a23 w23 s23 => ?_; clear s22
      refine seq_op s23 rfl rfl (of_decide_eq_true rfl) (ob_move rfl (.tmp rfl)) fun a24 w24 s24 => ?_; clear s23
      refine wpList_nil ?_
      refine then_normal ?_
      exact hK6 ((iadd .i64 y2 (1 : Int)), y4) _ _ h5 ⟨v3, (s24.sub (.cons rfl (.cons rfl (.cons rfl (.cons rfl .nil)))))⟩
    refine wp_block ?_
    refine wp_seq_k fun K10 hK10 => ?_
    refine wp_region_lit ?_
    refine seq_op s21 rfl rfl (of_decide_eq_true rfl) (ob_move rfl (.tmp rfl)) fun a25 w25 s25 => ?_; clear s21
    refine seq_opx (B' := (fun b3 : Nat => [BF b3 3 (kint .i64) (0 : Int), BF b1 113 (kptr k_roster_book) p1, BF b2 41 (ksl (kint .i64)) p2, RowF v2 3 (kint .i64) y3])) s25 rfl rfl (of_decide_eq_true rfl) (ob_new (k := (kint .i64)) rfl zz3 (Zr.int .i64)) fun b3 a26 w26 s26 => ?_; clear s25
    refine seq_opx0 (B' := (fun _ : Unit => [BF b3 3 (kint .i64) y2, BF b1 113 (kptr k_roster_book) p1, BF b2 41 (ksl (kint .i64)) p2, RowF v2 3 (kint .i64) y3])) s26 rfl rfl (ob_store (A := []) rfl tk3 (.tmp rfl) (.tmp rfl) rfl (LS.refl _ _ _) rfl) fun _ a27 w27 s27 => ?_; clear s26
    refine wpList_nil ?_
    refine then_normal ?_
    refine hK10 _ _ ?_
    have s28 := s27.sub (.cons (t := 2) rfl (.cons (t := 3) rfl (.cons (t := 5) rfl (.cons (t := 6) rfl (.cons (t := 7) rfl .nil))))); clear s27
    refine wp_seq_k fun K11 hK11 => ?_
    refine wp_region_lit ?_
    refine seq_op s28 rfl rfl (of_decide_eq_true rfl) (ob_load rfl tk41 (.tmp rfl) (.tail _ (.tail _ (.head _))) (LG.refl _ _)) fun a29 w29 s29 => ?_; clear s28
    refine seq_op s29 rfl rfl (of_decide_eq_true rfl) (ob_makeFn (xs := []) (ys := [_, _, _]) rfl .nil (.cons (.tmp rfl) (.cons (.tmp rfl) (.cons (.tmp rfl) .nil)))) fun a30 w30 s30 => ?_; clear s29
    obtain ⟨x1, e_x1, h6⟩ := bind_some h4; clear h4
    refine seq_op s30 rfl rfl (of_decide_eq_true rfl) ((ob_lendG (L := [_, _, _]) (toFront [_] (toFront [_] (toFront [] (List.Perm.refl _)))) (.cons (t := 11) rfl (lendClo .nil (.cons (lendPtrB (.head _) (LG.refl _ _)) (.cons (lendPtrB (.tail _ (.head _)) (LG.refl _ _)) (.cons (lendPtrB (.tail _ (.tail _ (.head _))) (LG.refl _ _)) .nil)))) .nil) (Flat.res1 (Flat.V KFlat.bool)) (fun _ => ob_callD (args := [_, _]) rfl .direct hb132 (fun a w s fs gs hf hg => by obtain rfl := hf.unnil; obtain rfl := hg.unnil; exact c_slices_ContainsFunc_int_int_roster_book_roster_1 k _ _ _ _ _ e_x1 _ _ _ _ (s.arg (.tmp rfl)) (s.arg (.tmp rfl)))))) fun a31 w31 s31 => ?_; clear s30
    refine wpList_nil ?_
    refine then_normal ?_
    refine hK11 _ _ ?_
    have s32 := s31.sub (.cons (t := 2) rfl (.cons (t := 3) rfl (.cons (t := 5) rfl (.cons (t := 6) rfl (.cons (t := 7) rfl (.cons (t := 12) rfl .nil)))))); clear s31
    refine cond_split s32 (.tmp rfl) (fun hc2 => ?_) (fun hc2 => ?_)
    · replace h6 := ite_t hc2 h6
      have h7 := h6; clear h6
      refine wp_region_lit ?_
      refine seq_op s32 rfl rfl (of_decide_eq_true rfl) (ob_move rfl (.tmp rfl)) fun a33 w33 s33 => ?_; clear s32
      refine seq_op s33 rfl rfl (of_decide_eq_true rfl) (ob_load rfl tk3 (.tmp rfl) (.head _) (LG.refl _ _)) fun a34 w34 s34 => ?_; clear s33
      refine seq_op s34 rfl rfl (of_decide_eq_true rfl) (ob_mkSlice (k := (kint .i64)) (xs := ([y2] : (List Int))) rfl Try.underlying41 zz3 sz3 (Zr.int .i64) (by decide) (by decide) (.cons (.tmp rfl) rfl (LS.arr' (i := 0) (ys := ([y2] : (List Int))) (by simp) (by rfl)) (.nil _))) fun a35 w35 s35 => ?_; clear s34
      obtain ⟨g1, h8⟩ := guard_some h7; clear h7
      refine seq_opx (B' := (fun v4 : Value => [BF b3 3 (kint .i64) y2, BF b1 113 (kptr k_roster_book) p1, BF b2 41 (ksl (kint .i64)) p2, RowF v4 3 (kint .i64) (y3 ++ ([y2] : (List Int)))])) s35 rfl rfl (of_decide_eq_true rfl) (ob_appendL2 (A := [_, _, _]) rfl Try.underlying41 ap3 (Zr.int .i64) (by decide) (.tmp rfl) (.tmp rfl) rfl g1) fun v4 a36 w36 s36 => ?_; clear s35
      refine seq_op s36 rfl rfl (of_decide_eq_true rfl) (ob_assign rfl (.tmp rfl)) fun a37 w37 s37 => ?_; clear s36
      refine wpList_nil ?_
      refine in_normal ?_
      refine then_normal ?_
      have s38 := St.drop (A := []) s37; clear s37
      exact hj2 (y3 ++ ([y2] : (List Int))) v4 _ _ h8 (s38.sub (.cons rfl (.cons rfl (.cons rfl (.cons rfl .nil)))))
    · replace h6 := ite_f hc2 h6
      have h9 := h6; clear h6
      refine wp_skip ?_
      refine in_normal ?_
      refine then_normal ?_
      have s39 := St.drop (A := []) s32; clear s32
      exact hj2 y3 v2 _ _ h9 (s39.sub (.cons rfl (.cons rfl (.cons rfl (.cons rfl .nil)))))
  · replace h3 := ite_f hc1 h3
    have h10 := h3; clear h3
    refine wp_exit ?_
    refine (then_exit (then_exit (in_here ?_)))
    refine then_normal ?_
    have s40 := St.drop (A := []) s20; clear s20
    have s41 := St.drop (A := []) s40; clear s40
    exact hj1 y3 v2 _ _ h10 (s41.sub (.cons rfl .nil))

/- 88 cabal/roster.read -/
theorem c_roster_read (k : Nat) (p1 : (List api_Node)) (r : roster_book) (h0 : roster_read k p1 = some r) (ok : Ok) (w0 : World) (z0 : Value) (u0 : ((ksl k_api_Node).V p1).holds ok w0 z0) :
    GivesX Try.prog 88 [z0] ok w0 [] (fun g : Nat × Value => resFact [ptrB g.1 0]) (fun g : Nat × Value => [BF g.1 151 (ko_roster_book_1 (g.2)) (⟨r.l, [], r.in_⟩ : roster_book), RowF (g.2) 4 kbool r.counts]) := by
  unfold roster_read at h0
  refine enterX (N := 44) Try.func88 rfl rfl (of_decide_eq_true rfl) (.cons u0 .nil) List.nodup_nil (fun _ h => by cases h) (fun _ h => by cases h) fun a1 s1 => ?_
  refine wp_seq_k fun K1 hK1 => ?_
  refine wp_region_lit ?_
  refine seq_op s1 rfl rfl (of_decide_eq_true rfl) (ob_assign rfl opd_is) fun a2 w2 s2 => ?_; clear s1
  refine wpList_nil ?_
  refine then_normal ?_
  refine hK1 _ _ ?_
  have s3 := s2.sub (.cons (t := 0) rfl .nil); clear s2
  refine wp_seq_k fun K2 hK2 => ?_
  refine wp_region_lit ?_
  refine seq_op s3 rfl rfl (of_decide_eq_true rfl) (ob_move rfl (.tmp rfl)) fun a4 w4 s4 => ?_; clear s3
  have s5 := St.adopt s4 (G := RowF (nilRow 19) 4 kbool []) rfl (rowNilN _ _ _ _ _); clear s4
  refine seq_op s5 rfl rfl (of_decide_eq_true rfl) (((ob_mkObj (K0 := (ko_roster_book_1_2 (nilRow 19) Value.nilFunc)) (K := (ko_roster_book_1_2 (nilRow 19) (Value.func (.func 131) #[] #[]))) (X := (⟨p1, [], ()⟩ : roster_book)) rfl Try.underlying151 zz151 rfl rfl pl151 (Zr.iso (f := to_roster_book_1_2) (x := (⟨[], [], ()⟩ : roster_book)) (Zr.pair (Zr.sl _) (Zr.pair (Zr.kis 19) (Zr.pair Zr.nilFn Zr.nil)))) (.cons (.tmp rfl) rfl (LSK.of (lso_roster_book_1_2_l (⟨[], [], ()⟩ : roster_book) p1)) (.cons (.conv .func (is_kis rfl rfl rfl)) rfl (lsk_roster_book_1_2_to_1_2_at2 (⟨p1, [], ()⟩ : roster_book)) (.nil _ _)))).as (fun ok w v h => h) : Ob _ _ _ _ _ ((ko_roster_book_1 (nilRow 19)).V (⟨p1, [], ()⟩ : roster_book)))) fun a6 w6 s6 => ?_; clear s5
  refine seq_opx (B' := (fun b1 : Nat => [BF b1 151 (ko_roster_book_1 (nilRow 19)) (⟨p1, [], ()⟩ : roster_book), RowF (nilRow 19) 4 kbool ([] : (List Bool))])) s6 rfl rfl (of_decide_eq_true rfl) (ob_box rfl (.tmp rfl)) fun b1 a7 w7 s7 => ?_; clear s6
  refine seq_op s7 rfl rfl (of_decide_eq_true rfl) (ob_assign rfl (.tmp rfl)) fun a8 w8 s8 => ?_; clear s7
  refine wpList_nil ?_
  refine then_normal ?_
  refine hK2 _ _ ?_
  have s9 := s8.sub (.cons (t := 0) rfl (.cons (t := 3) rfl .nil)); clear s8
  refine wp_seq_k fun K3 hK3 => ?_
  refine wp_seq_k fun K4 hK4 => ?_
  refine wp_region_lit ?_
  refine seq_op s9 rfl rfl (of_decide_eq_true rfl) (ob_move rfl (.tmp rfl)) fun a10 w10 s10 => ?_; clear s9
  refine seq_op s10 rfl rfl (of_decide_eq_true rfl) (ob_lens rfl Try.underlying22 (.tmp rfl)) fun a11 w11 s11 => ?_; clear s10
  refine seq_op s11 rfl rfl (of_decide_eq_true rfl) (ob_move rfl (opd_int rfl)) fun a12 w12 s12 => ?_; clear s11
  refine wpList_nil ?_
  refine then_normal ?_
  refine hK4 _ _ ?_
  have s13 := s12.sub (.cons (t := 3) rfl (.cons (t := 9) rfl (.cons (t := 10) rfl (.cons (t := 11) rfl .nil)))); clear s12
  have hj1 : ∀ (y1 : (List Bool)) (v1 : Value) (a : Act) (w : World), (roster_read.j1 k p1) y1 = some r → St ⟨44, w0, ok, (idsOf [])⟩ [BF b1 151 (ko_roster_book_1 v1) (⟨p1, [], ()⟩ : roster_book), RowF v1 4 kbool y1] [(3, (ptrB b1 0))] a w → K3 a w := by
    intro y1 v1 a14 w14 h1 s14
    unfold roster_read.j1 at h1
    refine hK3 _ _ ?_
    refine wp_seq_k fun K5 hK5 => ?_
    refine wp_region_lit ?_
    refine seq_op s14 rfl rfl (of_decide_eq_true rfl) (ob_move rfl (.tmp rfl)) fun a15 w15 s15 => ?_; clear s14
    refine seq_op s15 rfl rfl (of_decide_eq_true rfl) (ob_assign rfl (.tmp rfl)) fun a16 w16 s16 => ?_; clear s15
    refine wpList_nil ?_
    refine then_normal ?_
    refine hK5 _ _ ?_
    have s17 := s16.sub (.cons (t := 2) rfl .nil); clear s16
    refine wp_ret ?_
    obtain rfl := Option.some.inj h1
    exact leaveXD (D := []) ⟨b1, v1⟩ s17 rfl (.inl rfl) rfl (.cons (.tmp rfl) .nil) rfl
  refine wp_block ?_
  refine wp_loop_fuel (fun m (q : Int × (List Bool)) => roster_read.l1 k p1 m q.1 q.2) r (fun _ => rfl) (fun q a w => ∃ (v2 : Value), St ⟨44, w0, ok, (idsOf [])⟩ [BF b1 151 (ko_roster_book_1 v2) (⟨p1, [], ()⟩ : roster_book), RowF v2 4 kbool q.2] [(3, (ptrB b1 0)), (9, ((ksl k_api_Node).V p1)), (10, ((kint .i64).V (p1.length : Int))), (11, ((kint .i64).V q.1))] a w) ?_ k ((0 : Int), ([] : (List Bool))) _ _ h0 ⟨(nilRow 19), (s13.sub (.cons rfl (.cons rfl (.cons rfl (.cons rfl .nil)))))⟩
  rintro n1 ⟨y2, y3⟩ a18 w18 h2 ⟨v2, s18⟩ K6 hK6
  replace h2 : roster_read.l1 k p1 (n1 + 1) y2 y3 = some r := h2; rw [roster_read.l1] at h2
  have h3 := h2; clear h2
  refine wp_seq_k fun K7 hK7 => ?_
  refine wp_region_lit ?_
  refine seq_op s18 rfl rfl (of_decide_eq_true rfl) (ob_lss rfl (.tmp rfl) (.tmp rfl)) fun a19 w19 s19 => ?_; clear s18
  refine wpList_nil ?_
  refine then_normal ?_
  refine hK7 _ _ ?_
  have s20 := s19.sub (.cons (t := 3) rfl (.cons (t := 9) rfl (.cons (t := 10) rfl (.cons (t := 11) rfl (.cons (t := 12) rfl .nil))))); clear s19
  refine wp_seq_k fun K8 hK8 => ?_
  refine cond_split s20 (.tmp rfl) (fun hc1 => ?_) (fun hc1 => ?_)
  · replace h3 := ite_t hc1 h3
    have h4 := h3; clear h3
    refine wp_skip ?_
    refine then_normal ?_
    refine hK8 _ _ ?_
    have s21 := s20.sub (.cons (t := 3) rfl (.cons (t := 9) rfl (.cons (t := 10) rfl (.cons (t := 11) rfl .nil)))); clear s20
    refine wp_seq_k fun K9 hK9 => ?_
    refine wp_block ?_
    refine wp_seq_k fun K10 hK10 => ?_
    refine wp_region_lit ?_
    obtain ⟨x1, e_x1, h5⟩ := bind_some h4; clear h4
    refine seq_op s21 rfl rfl (of_decide_eq_true rfl) (ob_indexAddrs rfl Try.underlying22 sz46 (.tmp rfl) (.tmp rfl) e_x1) fun a22 w22 s22 => ?_; clear s21
    refine seq_op s22 rfl rfl (of_decide_eq_true rfl) (ob_loadr rfl tk46 (.tmp rfl)) fun a23 w23 s23 => ?_; clear s22
    refine seq_opx (B' := (fun b2 : Nat => [BF b2 46 k_api_Node (⟨(List.replicate 32 (0 : Int)), (⟨(0 : Int), (0 : Int), [], (0 : Int), [], (List.replicate 32 (0 : Int)), (List.replicate 32 (0 : Int)), [], []⟩ : api_Op), []⟩ : api_Node), BF b1 151 (ko_roster_book_1 v2) (⟨p1, [], ()⟩ : roster_book), RowF v2 4 kbool y3])) s23 rfl rfl (of_decide_eq_true rfl) (ob_new (k := k_api_Node) rfl zz46 (Zr.iso (f := t_api_Node) (x := (⟨(List.replicate 32 (0 : Int)), (⟨(0 : Int), (0 : Int), [], (0 : Int), [], (List.replicate 32 (0 : Int)), (List.replicate 32 (0 : Int)), [], []⟩ : api_Op), []⟩ : api_Node)) (Zr.pair (Zr.arr 32 (Zr.int .u8)) (Zr.pair (Zr.iso (f := t_api_Op) (x := (⟨(0 : Int), (0 : Int), [], (0 : Int), [], (List.replicate 32 (0 : Int)), (List.replicate 32 (0 : Int)), [], []⟩ : api_Op)) (Zr.pair (Zr.int .i64) (Zr.pair (Zr.int .u32) (Zr.pair (Zr.sl _) (Zr.pair (Zr.int .i64) (Zr.pair (Zr.sl _) (Zr.pair (Zr.arr 32 (Zr.int .u8)) (Zr.pair (Zr.arr 32 (Zr.int .u8)) (Zr.pair Zr.str (Zr.pair (Zr.sl _) Zr.nil)))))))))) (Zr.pair (Zr.sl _) Zr.nil))))) fun b2 a24 w24 s24 => ?_; clear s23
    refine seq_opx0 (B' := (fun _ : Unit => [BF b2 46 k_api_Node x1, BF b1 151 (ko_roster_book_1 v2) (⟨p1, [], ()⟩ : roster_book), RowF v2 4 kbool y3])) s24 rfl rfl (ob_store (A := []) rfl tk46 (.tmp rfl) (.tmp rfl) rfl (LS.refl _ _ _) rfl) fun _ a25 w25 s25 => ?_; clear s24
    refine wpList_nil ?_
    refine then_normal ?_
    refine hK10 _ _ ?_
    have s26 := s25.sub (.cons (t := 3) rfl (.cons (t := 5) rfl (.cons (t := 9) rfl (.cons (t := 10) rfl (.cons (t := 11) rfl .nil))))); clear s25
    obtain ⟨x2, e_x2, h6⟩ := bind_some h5; clear h5
    obtain ⟨x3, e_x3, h7⟩ := bind_some h6; clear h6
    obtain ⟨g1, h8⟩ := guard_some h7; clear h7
    refine wp_goes (Fs := [(ptrB b1 0), (ptrB b1 0), (ptrB b1 0), (ptrB b1 1), (is v2), (ptrB b2 32), (ptrB b2 35), ((kint .i64).V x1.Op.Kind), (kbool.V (x1.Op.Kind == (1 : Int))), (kbool.V (x1.Op.Kind == (1 : Int))), (Fact.when ((x1.Op.Kind == (1 : Int)) == false) (ptrB b1 0)), (Fact.when ((x1.Op.Kind == (1 : Int)) == false) (ptrB b1 0)), (Fact.when ((x1.Op.Kind == (1 : Int)) == false) (ptrB b1 2)), (Fact.when ((x1.Op.Kind == (1 : Int)) == false) (is (.func (.func 131) #[] #[]))), (Fact.when ((x1.Op.Kind == (1 : Int)) == false) (ptrB b1 0)), (Fact.when ((x1.Op.Kind == (1 : Int)) == false) (ptrB b2 103)), (Fact.when ((x1.Op.Kind == (1 : Int)) == false) ((ksl (kint .i64)).V x1.Past)), (Fact.when ((x1.Op.Kind == (1 : Int)) == false) ((ksl (kint .i64)).V x2)), (Fact.when ((x1.Op.Kind == (1 : Int)) == false) (ptrB b2 32)), (Fact.when ((x1.Op.Kind == (1 : Int)) == false) (ptrB b2 32)), (Fact.when ((x1.Op.Kind == (1 : Int)) == false) ((kint .i64).V x1.Op.Author)), (Fact.when ((x1.Op.Kind == (1 : Int)) == false) (kbool.V x3)), (kbool.V (if (x1.Op.Kind == (1 : Int)) then true else x3)), ((ksl kbool).V ([(if (x1.Op.Kind == (1 : Int)) then true else x3)] : (List Bool))), nofact]) (bits := [0, 0, 2, 6, 14, 0, 32, 96, 224, 480, 992, 2016, 4064, 8160, 992, 992, 33760, 115680, 992, 263136, 787424, 2097120, 4194272, 8388576, 16777214, 33554431, 67108863, 134217727]) (m := 25) (todo := 16777216) mx s26 ?_; clear s26
    refine goes_turn (B' := (fun v3 : Value => [BF b2 46 k_api_Node x1, BF b1 151 (ko_roster_book_1 v2) (⟨p1, [], ()⟩ : roster_book), RowF v3 4 kbool (y3 ++ ([(if (x1.Op.Kind == (1 : Int)) then true else x3)] : (List Bool)))])) (Fs' := (fun v3 : Value => setAll ([(ptrB b1 0), (ptrB b1 0), (ptrB b1 0), (ptrB b1 1), (is v2), (ptrB b2 32), (ptrB b2 35), ((kint .i64).V x1.Op.Kind), (kbool.V (x1.Op.Kind == (1 : Int))), (kbool.V (x1.Op.Kind == (1 : Int))), (Fact.when ((x1.Op.Kind == (1 : Int)) == false) (ptrB b1 0)), (Fact.when ((x1.Op.Kind == (1 : Int)) == false) (ptrB b1 0)), (Fact.when ((x1.Op.Kind == (1 : Int)) == false) (ptrB b1 2)), (Fact.when ((x1.Op.Kind == (1 : Int)) == false) (is (.func (.func 131) #[] #[]))), (Fact.when ((x1.Op.Kind == (1 : Int)) == false) (ptrB b1 0)), (Fact.when ((x1.Op.Kind == (1 : Int)) == false) (ptrB b2 103)), (Fact.when ((x1.Op.Kind == (1 : Int)) == false) ((ksl (kint .i64)).V x1.Past)), (Fact.when ((x1.Op.Kind == (1 : Int)) == false) ((ksl (kint .i64)).V x2)), (Fact.when ((x1.Op.Kind == (1 : Int)) == false) (ptrB b2 32)), (Fact.when ((x1.Op.Kind == (1 : Int)) == false) (ptrB b2 32)), (Fact.when ((x1.Op.Kind == (1 : Int)) == false) ((kint .i64).V x1.Op.Author)), (Fact.when ((x1.Op.Kind == (1 : Int)) == false) (kbool.V x3)), (kbool.V (if (x1.Op.Kind == (1 : Int)) then true else x3)), ((ksl kbool).V ([(if (x1.Op.Kind == (1 : Int)) then true else x3)] : (List Bool))), nofact]) [(24, (is v3))])) 24 16777216 33554430 0 (by kernel_rfl) rfl rfl rfl (opsS_cons (.plain _ (Av.old (t := 3) rfl rfl Av.nil) rfl rfl (ob_move rfl (.tmp rfl))) (opsS_cons (.plain _ (Av.old (t := 3) rfl rfl Av.nil) rfl rfl (ob_move rfl (.tmp rfl))) (opsS_cons (.plain _ (Av.new (j := 1) rfl rfl rfl Av.nil) rfl rfl (ob_nilCheck rfl (.tmp rfl))) (opsS_cons (.plain _ (Av.new (j := 2) rfl rfl rfl Av.nil) rfl rfl (ob_fieldAddr (off' := 1) rfl Try.underlying151 rfl sz58 (by decide) (.tmp rfl) rfl)) (opsS_cons (.plain _ (Av.new (j := 3) rfl rfl rfl Av.nil) rfl rfl (ob_loadRowV rfl (tkr58 _) (.tmp rfl) (.tail _ (.head _)) (lgo_roster_book_1_counts (⟨p1, [], ()⟩ : roster_book)))) (opsS_cons (.plain _ (Av.old (t := 5) rfl rfl Av.nil) rfl rfl (ob_fieldAddr (off' := 32) rfl Try.underlying46 rfl sz44 (by decide) (.tmp rfl) rfl)) (opsS_cons (.plain _ (Av.new (j := 5) rfl rfl rfl Av.nil) rfl rfl (ob_fieldAddr (off' := 35) rfl Try.underlying44 rfl sz3 (by decide) (.tmp rfl) rfl)) (opsS_cons (.plain _ (Av.new (j := 6) rfl rfl rfl Av.nil) rfl rfl (ob_load rfl tk3 (.tmp rfl) (.head _) (LG.trans (lg_api_Node_Op x1) (lg_api_Op_Kind x1.Op) (by decide)))) (opsS_cons (.plain _ (Av.new (j := 7) rfl rfl rfl Av.nil) rfl rfl (ob_eql rfl (.tmp rfl) (opd_int rfl))) (opsS_cons (.plain _ (Av.new (j := 8) rfl rfl rfl Av.nil) rfl rfl (ob_move rfl (.tmp rfl))) (opsS_cons (.guarded _ (Av.old (t := 3) rfl rfl (Av.new (j := 9) rfl rfl rfl Av.nil)) rfl rfl rfl rfl (fun hb => ob_move rfl (.tmp rfl))) (opsS_cons (.guarded _ (Av.new (j := 9) rfl rfl rfl (Av.new (j := 10) rfl rfl rfl Av.nil)) rfl rfl rfl rfl (fun hb => (Ob.uncond (t := 25) hb rfl (ob_nilCheck rfl (.tmp rfl))))) (opsS_cons (.guarded _ (Av.new (j := 9) rfl rfl rfl (Av.new (j := 11) rfl rfl rfl Av.nil)) rfl rfl rfl rfl (fun hb => (Ob.uncond (t := 26) hb rfl (ob_fieldAddr (off' := 2) rfl Try.underlying151 rfl sz64 (by decide) (.tmp rfl) rfl)))) (opsS_cons (.guarded _ (Av.new (j := 9) rfl rfl rfl (Av.new (j := 12) rfl rfl rfl Av.nil)) rfl rfl rfl rfl (fun hb => (Ob.uncond (t := 27) hb rfl ((ob_load rfl tk64 (.tmp rfl) (.tail _ (.head _)) (lgo_roster_book_1_in_ (⟨p1, [], ()⟩ : roster_book))).as kis_is)))) (opsS_cons (.guarded _ (Av.old (t := 3) rfl rfl (Av.new (j := 9) rfl rfl rfl Av.nil)) rfl rfl rfl rfl (fun hb => ob_move rfl (.tmp rfl))) (opsS_cons (.guarded _ (Av.old (t := 5) rfl rfl (Av.new (j := 9) rfl rfl rfl Av.nil)) rfl rfl rfl rfl (fun hb => ob_fieldAddr (off' := 103) rfl Try.underlying46 rfl sz41 (by decide) (.tmp rfl) rfl)) (opsS_cons (.guarded _ (Av.new (j := 9) rfl rfl rfl (Av.new (j := 15) rfl rfl rfl Av.nil)) rfl rfl rfl rfl (fun hb => (Ob.uncond (t := 30) hb rfl (ob_load rfl tk41 (.tmp rfl) (.head _) (lg_api_Node_Past x1))))) (opsS_cons (.guarded _ (Av.new (j := 9) rfl rfl rfl (Av.new (j := 14) rfl rfl rfl (Av.new (j := 16) rfl rfl rfl Av.nil))) rfl rfl rfl rfl (fun hb => (ObF.ob ((ObF.uncond (t := 31) hb rfl ((ObF.uncond (t := 29) hb rfl ((ob_lendF (L := [_, _]) (toFront [_] (toFront [_] (List.Perm.refl _))) (.cons (t := 29) rfl (lendObj (K' := k_roster_book) (X' := (⟨p1, y3, ()⟩ : roster_book)) (.head _) rfl (upo_roster_book_1 rfl (.row (LetAll.row (.tail _ (.head _)))))) .nil) (fun _ => ob_callF (F := resFact [((ksl (kint .i64)).V x2)]) (args := [_, _]) rfl .direct hb89 (fun a w s fs gs hf hg => by obtain rfl := hf.unnil; obtain rfl := hg.unnil; exact c_roster_book_roster k _ _ _ (ite_t hb e_x2) _ _ _ _ (s.arg (.tmp rfl)) (s.arg (.tmp rfl))) (by exact fun g => ResF.all (.row (.head _) (KFlat.int _) .nil)))))))))))) (opsS_cons (.guarded _ (Av.old (t := 5) rfl rfl (Av.new (j := 9) rfl rfl rfl Av.nil)) rfl rfl rfl rfl (fun hb => ob_fieldAddr (off' := 32) rfl Try.underlying46 rfl sz44 (by decide) (.tmp rfl) rfl)) (opsS_cons (.guarded _ (Av.new (j := 9) rfl rfl rfl (Av.new (j := 18) rfl rfl rfl Av.nil)) rfl rfl rfl rfl (fun hb => (Ob.uncond (t := 33) hb rfl (ob_fieldAddr (off' := 32) rfl Try.underlying44 rfl sz3 (by decide) (.tmp rfl) rfl)))) (opsS_cons (.guarded _ (Av.new (j := 9) rfl rfl rfl (Av.new (j := 19) rfl rfl rfl Av.nil)) rfl rfl rfl rfl (fun hb => (Ob.uncond (t := 34) hb rfl (ob_load rfl tk3 (.tmp rfl) (.head _) (LG.trans (lg_api_Node_Op x1) (lg_api_Op_Author x1.Op) (by decide)))))) (opsS_cons (.guarded _ (Av.new (j := 9) rfl rfl rfl (Av.new (j := 13) rfl rfl rfl (Av.new (j := 17) rfl rfl rfl (Av.new (j := 20) rfl rfl rfl Av.nil)))) rfl rfl rfl rfl (fun hb => (Ob.uncond (t := 35) hb rfl ((Ob.uncond (t := 32) hb rfl ((Ob.uncond (t := 28) hb rfl (ob_callD (args := [_, _]) rfl (.fn (.tmp rfl)) hb131 (fun a w s fs gs hf hg => by obtain rfl := hf.unnil; obtain rfl := hg.unnil; exact c_roster_read_1 k _ _ _ (ite_t hb e_x3) _ _ _ _ (s.arg (.tmp rfl)) (s.arg (.tmp rfl))))))))))) (opsS_cons (.plain _ (Av.new (j := 9) rfl rfl rfl (Av.new (j := 21) rfl rfl rfl Av.nil)) rfl rfl (ob_or2 rfl (.tmp rfl) opd_bool (.tmp rfl))) (opsS_cons (.plain _ (Av.new (j := 22) rfl rfl rfl Av.nil) rfl rfl (ob_mkSlice (k := kbool) (xs := ([(if (x1.Op.Kind == (1 : Int)) then true else x3)] : (List Bool))) rfl Try.underlying58 zz4 sz4 Zr.bool (by decide) (by decide) (.cons (.tmp rfl) rfl (LS.arr' (i := 0) (ys := ([(if (x1.Op.Kind == (1 : Int)) then true else x3)] : (List Bool))) (by simp) (by rfl)) (.nil _)))) (opsS_skip (by rfl) opsS_nil))))))))))))))))))))))))) (.plain _ (Av.new (j := 4) rfl rfl rfl (Av.new (j := 23) rfl rfl rfl Av.nil)) rfl (fun _ => rfl) (fun R => ob_appendL2 (A := [_, _]) rfl Try.underlying58 ap4 Zr.bool (by decide) (.tmp rfl) (.tmp rfl) rfl g1)) (setAll_same (us := (fun v3 : Value => [(24, (is v3))])) fun _ => by kernel_rfl) fun v3 => ?_
    refine goes_last (by kernel_rfl) rfl (opsS_cons (.plain _ (Av.old (t := 3) rfl rfl Av.nil) rfl rfl (ob_move rfl (.tmp rfl))) (opsS_skip (by rfl) (opsS_skip (by rfl) (opsS_skip (by rfl) (opsS_skip (by rfl) (opsS_skip (by rfl) (opsS_skip (by rfl) (opsS_skip (by rfl) (opsS_skip (by rfl) (opsS_skip (by rfl) (opsS_skip (by rfl) (opsS_skip (by rfl) (opsS_skip (by rfl) (opsS_skip (by rfl) (opsS_skip (by rfl) (opsS_skip (by rfl) (opsS_skip (by rfl) (opsS_skip (by rfl) (opsS_skip (by rfl) (opsS_skip (by rfl) (opsS_skip (by rfl) (opsS_skip (by rfl) (opsS_skip (by rfl) (opsS_skip (by rfl) (opsS_skip (by rfl) opsS_nil))))))))))))))))))))))))) (out_old (t := 3) rfl rfl (out_old (t := 9) rfl rfl (out_old (t := 10) rfl rfl (out_old (t := 11) rfl rfl (out_new (i := 0) (by decide) rfl rfl (out_new (i := 24) (by decide) rfl rfl out_nil)))))) fun a27 w27 s27 => ?_
    refine seq_op s27 rfl rfl (of_decide_eq_true rfl) (ob_nilCheck rfl (.tmp rfl)) fun a28 w28 s28 => ?_; clear s27
    refine seq_op s28 rfl rfl (of_decide_eq_true rfl) (ob_fieldAddr (off' := 1) rfl Try.underlying151 rfl sz58 (by decide) (.tmp rfl) rfl) fun a29 w29 s29 => ?_; clear s28
    refine seq_opx0 (B' := (fun _ : Unit => [BF b2 46 k_api_Node x1, BF b1 151 (ko_roster_book_1 v3) (⟨p1, [], ()⟩ : roster_book), RowF v3 4 kbool (y3 ++ ([(if (x1.Op.Kind == (1 : Int)) then true else x3)] : (List Bool)))])) s29 rfl rfl (ob_storeRowV (A := [_]) rfl (tkr58 _) (.tmp rfl) (.tmp rfl) (.tail _ (.tail _ (.head _))) rfl (lsk_roster_book_1_to_1_at1 (⟨p1, [], ()⟩ : roster_book)) rfl) fun _ a30 w30 s30 => ?_; clear s29
    refine wpList_nil ?_
    refine in_normal ?_
    refine then_normal ?_
    refine hK9 _ _ ?_
    have s31 := s30.sub (.cons (t := 3) rfl (.cons (t := 9) rfl (.cons (t := 10) rfl (.cons (t := 11) rfl .nil)))); clear s30
    have s32 := St.drop (A := []) s31; clear s31
    refine wp_region_lit ?_
    refine seq_op s32 rfl rfl (of_decide_eq_true rfl) (ob_add rfl (.tmp rfl) (opd_int rfl)) fun a33 w33 s33 => ?_; clear s32
    refine seq_op s33 rfl rfl (of_decide_eq_true rfl) (ob_move rfl (.tmp rfl)) fun a34 w34 s34 => ?_; clear s33
    refine wpList_nil ?_
    refine then_normal ?_
    exact hK6 ((iadd .i64 y2 (1 : Int)), (y3 ++ ([(if (x1.Op.Kind == (1 : Int)) then true else x3)] : (List Bool)))) _ _ h8 ⟨v3, (s34.sub (.cons rfl (.cons rfl (.cons rfl (.cons rfl .nil)))))⟩
  · replace h3 := ite_f hc1 h3
    have h9 := h3; clear h3
    refine wp_exit ?_
    refine (then_exit (then_exit (in_here ?_)))
    refine then_normal ?_
    exact hj1 y3 v2 _ _ h9 (s20.sub (.cons rfl .nil))

/- 36 cabal/roster.Of -/
theorem c_roster_Of (k : Nat) (p1 : (List api_Node)) (p2 : (List Int)) (r : ((List Int) × Int)) (h0 : roster_Of k p1 p2 = some r) (ok : Ok) (w0 : World) (z0 : Value) (z1 : Value) (u0 : ((ksl k_api_Node).V p1).holds ok w0 z0) (u1 : ((ksl (kint .i64)).V p2).holds ok w0 z1) :
    GivesX Try.prog 36 [z0, z1] ok w0 [] (fun g : Value => resFact [is g, (kint .i64).V r.2]) (fun g : Value => [RowF (g) 3 (kint .i64) r.1]) := by
  unfold roster_Of at h0
  refine enterX (N := 19) Try.func36 rfl rfl (of_decide_eq_true rfl) (.cons u0 (.cons u1 .nil)) List.nodup_nil (fun _ h => by cases h) (fun _ h => by cases h) fun a1 s1 => ?_
  refine wp_seq_k fun K1 hK1 => ?_
  refine wp_region_lit ?_
  refine seq_op s1 rfl rfl (of_decide_eq_true rfl) (ob_assign rfl opd_is) fun a2 w2 s2 => ?_; clear s1
  have s3 := St.adopt s2 (G := RowF (nilRow 17) 3 (kint .i64) []) rfl (rowNilN _ _ _ _ _); clear s2
  refine seq_op s3 rfl rfl (of_decide_eq_true rfl) (ob_assign rfl (opd_int rfl)) fun a4 w4 s4 => ?_; clear s3
  refine wpList_nil ?_
  refine then_normal ?_
  refine hK1 _ _ ?_
  have s5 := s4.sub (.cons (t := 0) rfl (.cons (t := 1) rfl .nil)); clear s4
  have s6 := St.drop (A := []) s5; clear s5
  refine wp_seq_k fun K2 hK2 => ?_
  refine wp_seq_k fun K3 hK3 => ?_
  refine wp_region_lit ?_
  refine seq_op s6 rfl rfl (of_decide_eq_true rfl) (ob_move rfl (.tmp rfl)) fun a7 w7 s7 => ?_; clear s6
  obtain ⟨x1, e_x1, h1⟩ := bind_some h0; clear h0
  refine seq_op s7 rfl rfl (of_decide_eq_true rfl) (ob_callD (args := [_]) rfl .direct hb24 (fun a w s fs gs hf hg => by obtain rfl := hf.unnil; obtain rfl := hg.unnil; exact c_graph_Right k _ _ e_x1 _ _ _ (s.arg (.tmp rfl)))) fun a8 w8 s8 => ?_; clear s7
  refine seq_op s8 rfl rfl (of_decide_eq_true rfl) (ob_not rfl (.tmp rfl)) fun a9 w9 s9 => ?_; clear s8
  refine seq_op s9 rfl rfl (of_decide_eq_true rfl) (ob_move rfl (.tmp rfl)) fun a10 w10 s10 => ?_; clear s9
  refine seq_opg s10 rfl rfl rfl rfl (of_decide_eq_true rfl) (fun hb => ob_move rfl (.tmp rfl)) fun a11 w11 s11 => ?_; clear s10
  refine seq_opg s11 rfl rfl rfl rfl (of_decide_eq_true rfl) (fun hb => ob_move rfl (.tmp rfl)) fun a12 w12 s12 => ?_; clear s11
  obtain ⟨x2, e_x2, h2⟩ := bind_some h1; clear h1
  refine seq_opg s12 rfl rfl rfl rfl (of_decide_eq_true rfl) (fun hb => (Ob.uncond (t := 11) hb rfl ((Ob.uncond (t := 10) hb rfl (ob_callD (args := [_, _]) rfl .direct hb87 (fun a w s fs gs hf hg => by obtain rfl := hf.unnil; obtain rfl := hg.unnil; exact c_roster_closed k _ _ _ (ite_t hb e_x2) _ _ _ _ (s.arg (.tmp rfl)) (s.arg (.tmp rfl)))))))) fun a13 w13 s13 => ?_; clear s12
  refine seq_opg s13 rfl rfl rfl rfl (of_decide_eq_true rfl) (fun hb => (Ob.uncond (t := 12) hb rfl (ob_not rfl (.tmp rfl)))) fun a14 w14 s14 => ?_; clear s13
  refine seq_op s14 rfl rfl (of_decide_eq_true rfl) (ob_or2 rfl (.tmp rfl) opd_bool (.tmp rfl)) fun a15 w15 s15 => ?_; clear s14
  refine wpList_nil ?_
  refine then_normal ?_
  refine hK3 _ _ ?_
  have s16 := s15.sub (.cons (t := 0) rfl (.cons (t := 1) rfl (.cons (t := 14) rfl .nil))); clear s15
  refine cond_split s16 (.tmp rfl) (fun hc1 => ?_) (fun hc1 => ?_)
  · replace h2 := ite_t hc1 h2
    have h3 := h2; clear h2
    refine wp_seq_k fun K4 hK4 => ?_
    refine wp_region_lit ?_
    refine seq_op s16 rfl rfl (of_decide_eq_true rfl) (ob_assign rfl opd_is) fun a17 w17 s17 => ?_; clear s16
    have s18 := St.adopt s17 (G := RowF (nilRow 18) 3 (kint .i64) []) rfl (rowNilN _ _ _ _ _); clear s17
    refine seq_op s18 rfl rfl (of_decide_eq_true rfl) (ob_assign rfl (opd_int rfl)) fun a19 w19 s19 => ?_; clear s18
    refine wpList_nil ?_
    refine then_normal ?_
    refine hK4 _ _ ?_
    have s20 := s19.sub (.cons (t := 4) rfl (.cons (t := 5) rfl .nil)); clear s19
    refine wp_ret ?_
    obtain rfl := Option.some.inj h3
    exact leaveXD (D := []) (nilRow 18) s20 rfl (.inl rfl) rfl (.cons (.tmp rfl) (.cons (.tmp rfl) .nil)) rfl
  · replace h2 := ite_f hc1 h2
    have h4 := h2; clear h2
    refine wp_skip ?_
    refine then_normal ?_
    refine hK2 _ _ ?_
    have s21 := s16.sub (.cons (t := 0) rfl (.cons (t := 1) rfl .nil)); clear s16
    refine wp_seq_k fun K5 hK5 => ?_
    refine wp_region_lit ?_
    refine seq_op s21 rfl rfl (of_decide_eq_true rfl) (ob_move rfl (.tmp rfl)) fun a22 w22 s22 => ?_; clear s21
    obtain ⟨x3, e_x3, h5⟩ := bind_some h4; clear h4
    refine seq_opx (B' := (fun gg : Nat × Value => [BF gg.1 151 (ko_roster_book_1 gg.2) (⟨x3.l, [], x3.in_⟩ : roster_book), RowF gg.2 4 kbool x3.counts])) s22 rfl rfl (of_decide_eq_true rfl) (ob_callL (args := [_]) (L := []) rfl .direct hb88 (List.Perm.refl _) (fun a w s fs gs hf hg => by obtain rfl := hf.unnil; obtain rfl := hg.unnil; exact c_roster_read k _ _ e_x3 _ _ _ (s.arg (.tmp rfl))) (by exact fun _ => rfl)) fun gg23 a23 w23 s23 => ?_; clear s22
    obtain ⟨b1, v1⟩ := gg23
    refine seq_op s23 rfl rfl (of_decide_eq_true rfl) (ob_move rfl (.tmp rfl)) fun a24 w24 s24 => ?_; clear s23
    obtain ⟨x4, e_x4, h6⟩ := bind_some h5; clear h5
    refine seq_opx (B' := (fun v2 : Value => [BF b1 151 (ko_roster_book_1 v1) (⟨x3.l, [], x3.in_⟩ : roster_book), RowF v1 4 kbool x3.counts, RowF v2 3 (kint .i64) x4])) s24 rfl rfl (of_decide_eq_true rfl) ((ob_lendX (L := [_, _]) (List.Perm.refl _) (.cons (t := 16) rfl (lendObj (K' := k_roster_book) (X' := x3) (.head _) rfl (upo_roster_book_1 rfl (.row (LetAll.row (.tail _ (.head _)))))) .nil) (fun _ => (Flat.res1 Flat.is)) (fun _ => (.cons (FlatO.row (KFlat.int _)) FlatL.nil)) (fun _ _ => ob_callL (args := [_, _]) (L := []) (D := []) rfl .direct hb89 (List.Perm.refl _) (fun a w s fs gs hf hg => by obtain rfl := hf.unnil; obtain rfl := hg.unnil; exact c_roster_book_roster k _ _ _ e_x4 _ _ _ _ (s.arg (.tmp rfl)) (s.arg (.tmp rfl))) (by exact fun _ => rfl)))) fun v2 a25 w25 s25 => ?_; clear s24
    refine seq_op s25 rfl rfl (of_decide_eq_true rfl) (ob_assign rfl (.tmp rfl)) fun a26 w26 s26 => ?_; clear s25
    refine seq_op s26 rfl rfl (of_decide_eq_true rfl) (ob_assign rfl (opd_int rfl)) fun a27 w27 s27 => ?_; clear s26
    refine wpList_nil ?_
    refine then_normal ?_
    refine hK5 _ _ ?_
    have s28 := s27.sub (.cons (t := 4) rfl (.cons (t := 5) rfl .nil)); clear s27
    have s29 := St.drop (A := []) s28; clear s28
    have s30 := St.drop (A := []) s29; clear s29
    refine wp_ret ?_
    obtain rfl := Option.some.inj h6
    exact leaveXD (D := []) v2 s30 rfl (.inl rfl) rfl (.cons (.tmp rfl) (.cons (.tmp rfl) .nil)) rfl

/- 37 cabal/roster.All -/
theorem c_roster_All (k : Nat) (p1 : (List api_Node)) (r : (List Int)) (h0 : roster_All k p1 = some r) (ok : Ok) (w0 : World) (z0 : Value) (u0 : ((ksl k_api_Node).V p1).holds ok w0 z0) :
    GivesX Try.prog 37 [z0] ok w0 [] (fun g : Value => resFact [is g]) (fun g : Value => [RowF (g) 3 (kint .i64) r]) := by
  unfold roster_All at h0
  refine enterX (N := 22) Try.func37 rfl rfl (of_decide_eq_true rfl) (.cons u0 .nil) List.nodup_nil (fun _ h => by cases h) (fun _ h => by cases h) fun a1 s1 => ?_
  refine wp_seq_k fun K1 hK1 => ?_
  refine wp_region_lit ?_
  refine seq_op s1 rfl rfl (of_decide_eq_true rfl) (ob_assign rfl opd_is) fun a2 w2 s2 => ?_; clear s1
  have s3 := St.adopt s2 (G := RowF (nilRow 22) 3 (kint .i64) []) rfl (rowNilN _ _ _ _ _); clear s2
  refine wpList_nil ?_
  refine then_normal ?_
  refine hK1 _ _ ?_
  have s4 := s3.sub (.cons (t := 0) rfl .nil); clear s3
  have s5 := St.drop (A := []) s4; clear s4
  refine wp_seq_k fun K2 hK2 => ?_
  refine wp_seq_k fun K3 hK3 => ?_
  refine wp_region_lit ?_
  refine seq_op s5 rfl rfl (of_decide_eq_true rfl) (ob_move rfl (.tmp rfl)) fun a6 w6 s6 => ?_; clear s5
  obtain ⟨x1, e_x1, h1⟩ := bind_some h0; clear h0
  refine seq_op s6 rfl rfl (of_decide_eq_true rfl) (ob_callD (args := [_]) rfl .direct hb24 (fun a w s fs gs hf hg => by obtain rfl := hf.unnil; obtain rfl := hg.unnil; exact c_graph_Right k _ _ e_x1 _ _ _ (s.arg (.tmp rfl)))) fun a7 w7 s7 => ?_; clear s6
  refine seq_op s7 rfl rfl (of_decide_eq_true rfl) (ob_not rfl (.tmp rfl)) fun a8 w8 s8 => ?_; clear s7
  refine wpList_nil ?_
  refine then_normal ?_
  refine hK3 _ _ ?_
  have s9 := s8.sub (.cons (t := 0) rfl (.cons (t := 7) rfl .nil)); clear s8
  refine cond_split s9 (.tmp rfl) (fun hc1 => ?_) (fun hc1 => ?_)
  · replace h1 := ite_t hc1 h1
    have h2 := h1; clear h1
    refine wp_seq_k fun K4 hK4 => ?_
    refine wp_region_lit ?_
    refine seq_op s9 rfl rfl (of_decide_eq_true rfl) (ob_assign rfl opd_is) fun a10 w10 s10 => ?_; clear s9
    have s11 := St.adopt s10 (G := RowF (nilRow 23) 3 (kint .i64) []) rfl (rowNilN _ _ _ _ _); clear s10
    refine wpList_nil ?_
    refine then_normal ?_
    refine hK4 _ _ ?_
    have s12 := s11.sub (.cons (t := 2) rfl .nil); clear s11
    refine wp_ret ?_
    obtain rfl := Option.some.inj h2
    exact leaveXD (D := []) (nilRow 23) s12 rfl (.inl rfl) rfl (.cons (.tmp rfl) .nil) rfl
  · replace h1 := ite_f hc1 h1
    have h3 := h1; clear h1
    refine wp_skip ?_
    refine then_normal ?_
    refine hK2 _ _ ?_
    have s13 := s9.sub (.cons (t := 0) rfl .nil); clear s9
    refine wp_seq_k fun K5 hK5 => ?_
    refine wp_region_lit ?_
    refine seq_op s13 rfl rfl (of_decide_eq_true rfl) (ob_assign rfl opd_is) fun a14 w14 s14 => ?_; clear s13
    have s15 := St.adopt s14 (G := RowF (nilRow 24) 3 (kint .i64) []) rfl (rowNilN _ _ _ _ _); clear s14
    refine wpList_nil ?_
    refine then_normal ?_
    refine hK5 _ _ ?_
    have s16 := s15.sub (.cons (t := 0) rfl (.cons (t := 3) rfl .nil)); clear s15
    refine wp_seq_k fun K6 hK6 => ?_
    refine wp_seq_k fun K7 hK7 => ?_
    refine wp_region_lit ?_
    refine seq_op s16 rfl rfl (of_decide_eq_true rfl) (ob_move rfl (.tmp rfl)) fun a17 w17 s17 => ?_; clear s16
    refine seq_op s17 rfl rfl (of_decide_eq_true rfl) (ob_lens rfl Try.underlying22 (.tmp rfl)) fun a18 w18 s18 => ?_; clear s17
    refine seq_op s18 rfl rfl (of_decide_eq_true rfl) (ob_move rfl (opd_int rfl)) fun a19 w19 s19 => ?_; clear s18
    refine wpList_nil ?_
    refine then_normal ?_
    refine hK7 _ _ ?_
    have s20 := s19.sub (.cons (t := 0) rfl (.cons (t := 3) rfl (.cons (t := 9) rfl (.cons (t := 10) rfl .nil)))); clear s19
    have hj1 : ∀ (y1 : (List Int)) (v1 : Value) (a : Act) (w : World), (roster_All.j1 k p1) y1 = some r → St ⟨22, w0, ok, (idsOf [])⟩ [RowF v1 3 (kint .i64) y1] [(0, ((ksl k_api_Node).V p1)), (3, (is v1))] a w → K6 a w := by
      intro y1 v1 a21 w21 h4 s21
      unfold roster_All.j1 at h4
      refine hK6 _ _ ?_
      refine wp_seq_k fun K8 hK8 => ?_
      refine wp_region_lit ?_
      refine seq_op s21 rfl rfl (of_decide_eq_true rfl) (ob_move rfl (.tmp rfl)) fun a22 w22 s22 => ?_; clear s21
      obtain ⟨x2, e_x2, h5⟩ := bind_some h4; clear h4
      refine seq_opx (B' := (fun gg : Nat × Value => [BF gg.1 151 (ko_roster_book_1 gg.2) (⟨x2.l, [], x2.in_⟩ : roster_book), RowF gg.2 4 kbool x2.counts, RowF v1 3 (kint .i64) y1])) s22 rfl rfl (of_decide_eq_true rfl) (ob_callL (args := [_]) (L := []) rfl .direct hb88 (List.Perm.refl _) (fun a w s fs gs hf hg => by obtain rfl := hf.unnil; obtain rfl := hg.unnil; exact c_roster_read k _ _ e_x2 _ _ _ (s.arg (.tmp rfl))) (by exact fun _ => rfl)) fun gg23 a23 w23 s23 => ?_; clear s22
      obtain ⟨b1, v2⟩ := gg23
      refine seq_op s23 rfl rfl (of_decide_eq_true rfl) (ob_move rfl (.tmp rfl)) fun a24 w24 s24 => ?_; clear s23
      obtain ⟨x3, e_x3, h6⟩ := bind_some h5; clear h5
      refine seq_opx (B' := (fun v3 : Value => [BF b1 151 (ko_roster_book_1 v2) (⟨x2.l, [], x2.in_⟩ : roster_book), RowF v2 4 kbool x2.counts, RowF v1 3 (kint .i64) y1, RowF v3 3 (kint .i64) x3])) s24 rfl rfl (of_decide_eq_true rfl) ((ob_lendX (L := [_, _, _]) (List.Perm.refl _) (.cons (t := 19) rfl (lendObj (K' := k_roster_book) (X' := x2) (.head _) rfl (upo_roster_book_1 rfl (.row (LetAll.row (.tail _ (.head _)))))) (.cons (t := 20) rfl (lendRow (.tail _ (.tail _ (.head _)))) .nil)) (fun _ => (Flat.res1 Flat.is)) (fun _ => (.cons (FlatO.row (KFlat.int _)) FlatL.nil)) (fun _ _ => ob_callL (args := [_, _]) (L := []) (D := []) rfl .direct hb89 (List.Perm.refl _) (fun a w s fs gs hf hg => by obtain rfl := hf.unnil; obtain rfl := hg.unnil; exact c_roster_book_roster k _ _ _ e_x3 _ _ _ _ (s.arg (.tmp rfl)) (s.arg (.tmp rfl))) (by exact fun _ => rfl)))) fun v3 a25 w25 s25 => ?_; clear s24
      refine seq_op s25 rfl rfl (of_decide_eq_true rfl) (ob_assign rfl (.tmp rfl)) fun a26 w26 s26 => ?_; clear s25
      refine wpList_nil ?_
      refine then_normal ?_
      refine hK8 _ _ ?_
      have s27 := s26.sub (.cons (t := 2) rfl .nil); clear s26
      have s28 := St.drop (A := []) s27; clear s27
      have s29 := St.drop (A := []) s28; clear s28
      have s30 := St.drop (A := []) s29; clear s29
      refine wp_ret ?_
      obtain rfl := Option.some.inj h6
      exact leaveXD (D := []) v3 s30 rfl (.inl rfl) rfl (.cons (.tmp rfl) .nil) rfl
    refine wp_block ?_
    refine wp_loop_fuel (fun m (q : Int × (List Int)) => roster_All.l1 k p1 m q.1 q.2) r (fun _ => rfl) (fun q a w => ∃ (v4 : Value), St ⟨22, w0, ok, (idsOf [])⟩ [RowF v4 3 (kint .i64) q.2] [(0, ((ksl k_api_Node).V p1)), (3, (is v4)), (9, ((kint .i64).V (p1.length : Int))), (10, ((kint .i64).V q.1))] a w) ?_ k ((0 : Int), ([] : (List Int))) _ _ h3 ⟨(nilRow 24), (s20.sub (.cons rfl (.cons rfl (.cons rfl (.cons rfl .nil)))))⟩
    rintro n1 ⟨y2, y3⟩ a31 w31 h7 ⟨v4, s31⟩ K9 hK9
    replace h7 : roster_All.l1 k p1 (n1 + 1) y2 y3 = some r := h7; rw [roster_All.l1] at h7
    have h8 := h7; clear h7
    refine wp_seq_k fun K10 hK10 => ?_
    refine wp_region_lit ?_
    refine seq_op s31 rfl rfl (of_decide_eq_true rfl) (ob_lss rfl (.tmp rfl) (.tmp rfl)) fun a32 w32 s32 => ?_; clear s31
    refine wpList_nil ?_
    refine then_normal ?_
    refine hK10 _ _ ?_
    have s33 := s32.sub (.cons (t := 0) rfl (.cons (t := 3) rfl (.cons (t := 9) rfl (.cons (t := 10) rfl (.cons (t := 11) rfl .nil))))); clear s32
    refine wp_seq_k fun K11 hK11 => ?_
    refine cond_split s33 (.tmp rfl) (fun hc2 => ?_) (fun hc2 => ?_)
    · replace h8 := ite_t hc2 h8
      have h9 := h8; clear h8
      refine wp_skip ?_
      refine then_normal ?_
      refine hK11 _ _ ?_
      have s34 := s33.sub (.cons (t := 0) rfl (.cons (t := 3) rfl (.cons (t := 9) rfl (.cons (t := 10) rfl .nil)))); clear s33
      refine wp_seq_k fun K12 hK12 => ?_
      refine wp_block ?_
      refine wp_seq_k fun K13 hK13 => ?_
      refine wp_region_lit ?_
      refine seq_op s34 rfl rfl (of_decide_eq_true rfl) (ob_move rfl (.tmp rfl)) fun a35 w35 s35 => ?_; clear s34
      refine seq_op s35 rfl rfl (of_decide_eq_true rfl) (ob_assign rfl (.tmp rfl)) fun a36 w36 s36 => ?_; clear s35
      refine wpList_nil ?_
      refine then_normal ?_
      refine hK13 _ _ ?_
      have s37 := s36.sub (.cons (t := 0) rfl (.cons (t := 3) rfl (.cons (t := 4) rfl (.cons (t := 9) rfl (.cons (t := 10) rfl .nil))))); clear s36
      refine wp_region_lit ?_
      refine seq_op s37 rfl rfl (of_decide_eq_true rfl) (ob_move rfl (.tmp rfl)) fun a38 w38 s38 => ?_; clear s37
      refine seq_op s38 rfl rfl (of_decide_eq_true rfl) (ob_move rfl (.tmp rfl)) fun a39 w39 s39 => ?_; clear s38
      refine seq_op s39 rfl rfl (of_decide_eq_true rfl) (ob_mkSlice (k := (kint .i64)) (xs := ([y2] : (List Int))) rfl Try.underlying41 zz3 sz3 (Zr.int .i64) (by decide) (by decide) (.cons (.tmp rfl) rfl (LS.arr' (i := 0) (ys := ([y2] : (List Int))) (by simp) (by rfl)) (.nil _))) fun a40 w40 s40 => ?_; clear s39
      obtain ⟨g1, h10⟩ := guard_some h9; clear h9
      refine seq_opx (B' := (fun v5 : Value => [RowF v5 3 (kint .i64) (y3 ++ ([y2] : (List Int)))])) s40 rfl rfl (of_decide_eq_true rfl) (ob_appendL2 (A := []) rfl Try.underlying41 ap3 (Zr.int .i64) (by decide) (.tmp rfl) (.tmp rfl) rfl g1) fun v5 a41 w41 s41 => ?_; clear s40
      refine seq_op s41 rfl rfl (of_decide_eq_true rfl) (ob_assign rfl (.tmp rfl)) fun a42 w42 s42 => ?_; clear s41
      refine wpList_nil ?_
      refine in_normal ?_
      refine then_normal ?_
      refine hK12 _ _ ?_
      have s43 := s42.sub (.cons (t := 0) rfl (.cons (t := 3) rfl (.cons (t := 9) rfl (.cons (t := 10) rfl .nil)))); clear s42
      refine wp_region_lit ?_
      refine seq_op s43 rfl rfl (of_decide_eq_true rfl) (ob_add rfl (.tmp rfl) (opd_int rfl)) fun a44 w44 s44 => ?_; clear s43
      refine seq_op s44 rfl rfl (of_decide_eq_true rfl) (ob_move rfl (.tmp rfl)) fun a45 w45 s45 => ?_; clear s44
      refine wpList_nil ?_
      refine then_normal ?_
      exact hK9 ((iadd .i64 y2 (1 : Int)), (y3 ++ ([y2] : (List Int)))) _ _ h10 ⟨v5, (s45.sub (.cons rfl (.cons rfl (.cons rfl (.cons rfl .nil)))))⟩
    · replace h8 := ite_f hc2 h8
      have h11 := h8; clear h8
      refine wp_exit ?_
      refine (then_exit (then_exit (in_here ?_)))
      refine then_normal ?_
      exact hj1 y3 v4 _ _ h11 (s33.sub (.cons rfl (.cons rfl .nil)))

/- 38 cabal/cabalref15.SameInts -/
theorem c_cabalref15_SameInts (k : Nat) (p1 : (List Int)) (p2 : (List Int)) (r : Bool) (h0 : cabalref15_SameInts k p1 p2 = some r) (ok : Ok) (w0 : World) (z0 : Value) (z1 : Value) (u0 : ((ksl (kint .i64)).V p1).holds ok w0 z0) (u1 : ((ksl (kint .i64)).V p2).holds ok w0 z1) :
    Gives Try.prog 38 [z0, z1] ok w0 (resFact [kbool.V r]) := by
  unfold cabalref15_SameInts at h0
  refine enter (N := 26) Try.func38 rfl rfl (of_decide_eq_true rfl) (.cons u0 (.cons u1 .nil)) fun a1 s1 => ?_
  refine wp_seq_k fun K1 hK1 => ?_
  refine wp_region_lit ?_
  refine seq_op s1 rfl rfl (of_decide_eq_true rfl) (ob_assign rfl opd_bool) fun a2 w2 s2 => ?_; clear s1
  refine wpList_nil ?_
  refine then_normal ?_
  refine hK1 _ _ ?_
  have s3 := s2.sub (.cons (t := 0) rfl (.cons (t := 1) rfl .nil)); clear s2
  refine wp_seq_k fun K2 hK2 => ?_
  refine wp_seq_k fun K3 hK3 => ?_
  refine wp_region_lit ?_
  refine seq_op s3 rfl rfl (of_decide_eq_true rfl) (ob_move rfl (.tmp rfl)) fun a4 w4 s4 => ?_; clear s3
  refine seq_op s4 rfl rfl (of_decide_eq_true rfl) (ob_lens rfl Try.underlying41 (.tmp rfl)) fun a5 w5 s5 => ?_; clear s4
  refine seq_op s5 rfl rfl (of_decide_eq_true rfl) (ob_move rfl (.tmp rfl)) fun a6 w6 s6 => ?_; clear s5
  refine seq_op s6 rfl rfl (of_decide_eq_true rfl) (ob_lens rfl Try.underlying41 (.tmp rfl)) fun a7 w7 s7 => ?_; clear s6
  refine seq_op s7 rfl rfl (of_decide_eq_true rfl) (ob_neq rfl (.tmp rfl) (.tmp rfl)) fun a8 w8 s8 => ?_; clear s7
  refine wpList_nil ?_
  refine then_normal ?_
  refine hK3 _ _ ?_
  have s9 := s8.sub (.cons (t := 0) rfl (.cons (t := 1) rfl (.cons (t := 10) rfl .nil))); clear s8
  refine cond_split s9 (.tmp rfl) (fun hc1 => ?_) (fun hc1 => ?_)
  · replace h0 := ite_t hc1 h0
    have h1 := h0; clear h0
    refine wp_seq_k fun K4 hK4 => ?_
    refine wp_region_lit ?_
    refine seq_op s9 rfl rfl (of_decide_eq_true rfl) (ob_assign rfl opd_bool) fun a10 w10 s10 => ?_; clear s9
    refine wpList_nil ?_
    refine then_normal ?_
    refine hK4 _ _ ?_
    have s11 := s10.sub (.cons (t := 4) rfl .nil); clear s10
    refine wp_ret ?_
    obtain rfl := Option.some.inj h1
    exact leave s11 (.inl rfl) rfl (.cons (.tmp rfl) .nil)
  · replace h0 := ite_f hc1 h0
    have h2 := h0; clear h0
    refine wp_skip ?_
    refine then_normal ?_
    refine hK2 _ _ ?_
    have s12 := s9.sub (.cons (t := 0) rfl (.cons (t := 1) rfl .nil)); clear s9
    refine wp_seq_k fun K5 hK5 => ?_
    refine wp_seq_k fun K6 hK6 => ?_
    refine wp_region_lit ?_
    refine seq_op s12 rfl rfl (of_decide_eq_true rfl) (ob_assign rfl (opd_int rfl)) fun a13 w13 s13 => ?_; clear s12
    refine wpList_nil ?_
    refine then_normal ?_
    refine hK6 _ _ ?_
    have s14 := s13.sub (.cons (t := 0) rfl (.cons (t := 1) rfl (.cons (t := 5) rfl .nil))); clear s13
    have hj1 : ∀ (a : Act) (w : World), (cabalref15_SameInts.j1 k) = some r → St ⟨26, w0, ok, []⟩ [] [] a w → K5 a w := by
      intro a15 w15 h3 s15
      unfold cabalref15_SameInts.j1 at h3
      refine hK5 _ _ ?_
      refine wp_seq_k fun K7 hK7 => ?_
      refine wp_region_lit ?_
      refine seq_op s15 rfl rfl (of_decide_eq_true rfl) (ob_assign rfl opd_bool) fun a16 w16 s16 => ?_; clear s15
      refine wpList_nil ?_
      refine then_normal ?_
      refine hK7 _ _ ?_
      have s17 := s16.sub (.cons (t := 4) rfl .nil); clear s16
      refine wp_ret ?_
      obtain rfl := Option.some.inj h3
      exact leave s17 (.inl rfl) rfl (.cons (.tmp rfl) .nil)
    refine wp_block ?_
    refine wp_loop_fuel (fun m (q : Int) => cabalref15_SameInts.l1 k p1 p2 m q) r (fun _ => rfl) (fun q a w => St ⟨26, w0, ok, []⟩ [] [(0, ((ksl (kint .i64)).V p1)), (1, ((ksl (kint .i64)).V p2)), (5, ((kint .i64).V q))] a w) ?_ k (0 : Int) _ _ h2 (s14.sub (.cons rfl (.cons rfl (.cons rfl .nil))))
    rintro n1 y1 a18 w18 h4 s18 K8 hK8
    replace h4 : cabalref15_SameInts.l1 k p1 p2 (n1 + 1) y1 = some r := h4; rw [cabalref15_SameInts.l1] at h4
    have h5 := h4; clear h4
    refine wp_seq_k fun K9 hK9 => ?_
    refine wp_seq_k fun K10 hK10 => ?_
    refine wp_region_lit ?_
    refine seq_op s18 rfl rfl (of_decide_eq_true rfl) (ob_move rfl (.tmp rfl)) fun a19 w19 s19 => ?_; clear s18
    refine seq_op s19 rfl rfl (of_decide_eq_true rfl) (ob_move rfl (.tmp rfl)) fun a20 w20 s20 => ?_; clear s19
    refine seq_op s20 rfl rfl (of_decide_eq_true rfl) (ob_lens rfl Try.underlying41 (.tmp rfl)) fun a21 w21 s21 => ?_; clear s20
    refine seq_op s21 rfl rfl (of_decide_eq_true rfl) (ob_lss rfl (.tmp rfl) (.tmp rfl)) fun a22 w22 s22 => ?_; clear s21
    refine wpList_nil ?_
    refine then_normal ?_
    refine hK10 _ _ ?_
    have s23 := s22.sub (.cons (t := 0) rfl (.cons (t := 1) rfl (.cons (t := 5) rfl (.cons (t := 14) rfl .nil)))); clear s22
    refine cond_split s23 (.tmp rfl) (fun hc2 => ?_) (fun hc2 => ?_)
    · replace h5 := ite_t hc2 h5
      have h6 := h5; clear h5
      refine wp_skip ?_
      refine then_normal ?_
      refine hK9 _ _ ?_
      have s24 := s23.sub (.cons (t := 0) rfl (.cons (t := 1) rfl (.cons (t := 5) rfl .nil))); clear s23
      refine wp_seq_k fun K11 hK11 => ?_
      refine wp_block ?_
      refine wp_seq_k fun K12 hK12 => ?_
      obtain ⟨x1, e_x1, h7⟩ := bind_some h6; clear h6
      obtain ⟨x2, e_x2, h8⟩ := bind_some h7; clear h7
      refine wp_goes (Fs := [((ksl (kint .i64)).V p1), ((kint .i64).V y1), (ptrTo (kint .i64) x1), ((kint .i64).V x1), ((ksl (kint .i64)).V p2), ((kint .i64).V y1), (ptrTo (kint .i64) x2), ((kint .i64).V x2)]) (bits := [0, 0, 3, 7, 0, 0, 48, 112, 255]) (m := 8) (todo := 0) mx s24 ?_; clear s24
      refine goes_last (by kernel_rfl) rfl (opsS_cons (.plain _ (Av.old (t := 0) rfl rfl Av.nil) rfl rfl (ob_move rfl (.tmp rfl))) (opsS_cons (.plain _ (Av.old (t := 5) rfl rfl Av.nil) rfl rfl (ob_move rfl (.tmp rfl))) (opsS_cons (.plain _ (Av.new (j := 0) rfl rfl rfl (Av.new (j := 1) rfl rfl rfl Av.nil)) rfl rfl (ob_indexAddrs rfl Try.underlying41 sz3 (.tmp rfl) (.tmp rfl) e_x1)) (opsS_cons (.plain _ (Av.new (j := 2) rfl rfl rfl Av.nil) rfl rfl (ob_loadr rfl tk3 (.tmp rfl))) (opsS_cons (.plain _ (Av.old (t := 1) rfl rfl Av.nil) rfl rfl (ob_move rfl (.tmp rfl))) (opsS_cons (.plain _ (Av.old (t := 5) rfl rfl Av.nil) rfl rfl (ob_move rfl (.tmp rfl))) (opsS_cons (.plain _ (Av.new (j := 4) rfl rfl rfl (Av.new (j := 5) rfl rfl rfl Av.nil)) rfl rfl (ob_indexAddrs rfl Try.underlying41 sz3 (.tmp rfl) (.tmp rfl) e_x2)) (opsS_cons (.plain _ (Av.new (j := 6) rfl rfl rfl Av.nil) rfl rfl (ob_loadr rfl tk3 (.tmp rfl))) opsS_nil)))))))) (out_old (t := 0) rfl rfl (out_old (t := 1) rfl rfl (out_old (t := 5) rfl rfl (out_new (i := 3) (by decide) rfl rfl (out_new (i := 7) (by decide) rfl rfl out_nil))))) fun a25 w25 s25 => ?_
      refine seq_op s25 rfl rfl (of_decide_eq_true rfl) (ob_neq rfl (.tmp rfl) (.tmp rfl)) fun a26 w26 s26 => ?_; clear s25
      refine wpList_nil ?_
      refine then_normal ?_
      refine hK12 _ _ ?_
      have s27 := s26.sub (.cons (t := 0) rfl (.cons (t := 1) rfl (.cons (t := 5) rfl (.cons (t := 25) rfl .nil)))); clear s26
      refine cond_split s27 (.tmp rfl) (fun hc3 => ?_) (fun hc3 => ?_)
      · replace h8 := ite_t hc3 h8
        have h9 := h8; clear h8
        refine wp_seq_k fun K13 hK13 => ?_
        refine wp_region_lit ?_
        refine seq_op s27 rfl rfl (of_decide_eq_true rfl) (ob_assign rfl opd_bool) fun a28 w28 s28 => ?_; clear s27
        refine wpList_nil ?_
        refine then_normal ?_
        refine hK13 _ _ ?_
        have s29 := s28.sub (.cons (t := 4) rfl .nil); clear s28
        refine wp_ret ?_
        obtain rfl := Option.some.inj h9
        exact leave s29 (.inl rfl) rfl (.cons (.tmp rfl) .nil)
      · replace h8 := ite_f hc3 h8
        have h10 := h8; clear h8
        refine wp_skip ?_
        refine in_normal ?_
        refine then_normal ?_
        refine hK11 _ _ ?_
        have s30 := s27.sub (.cons (t := 0) rfl (.cons (t := 1) rfl (.cons (t := 5) rfl .nil))); clear s27
        refine wp_region_lit ?_
        refine seq_op s30 rfl rfl (of_decide_eq_true rfl) (ob_move rfl (.tmp rfl)) fun a31 w31 s31 => ?_; clear s30
        refine seq_op s31 rfl rfl (of_decide_eq_true rfl) (ob_add rfl (.tmp rfl) (opd_int rfl)) fun a32 w32 s32 => ?_; clear s31
        refine seq_op s32 rfl rfl (of_decide_eq_true rfl) (ob_assign rfl (.tmp rfl)) fun a33 w33 s33 => ?_; clear s32
        refine wpList_nil ?_
        refine then_normal ?_
        exact hK8 (iadd .i64 y1 (1 : Int)) _ _ h10 (s33.sub (.cons rfl (.cons rfl (.cons rfl .nil))))
    · replace h5 := ite_f hc2 h5
      have h11 := h5; clear h5
      refine wp_exit ?_
      refine (then_exit (then_exit (in_here ?_)))
      refine then_normal ?_
      exact hj1 _ _ h11 (s23.sub .nil)

/- 35 cabal/caballaw16.alive -/
theorem c_caballaw16_alive (k : Nat) (r : Bool) (h0 : caballaw16_alive k = some r) (ok : Ok) (w0 : World) :
    Gives Try.prog 35 [] ok w0 (resFact [kbool.V r]) := by
  unfold caballaw16_alive at h0
  refine enter (N := 64) Try.func35 rfl rfl (of_decide_eq_true rfl) .nil fun a1 s1 => ?_
  refine wp_seq_k fun K1 hK1 => ?_
  refine wp_region_lit ?_
  refine seq_op s1 rfl rfl (of_decide_eq_true rfl) (ob_assign rfl opd_bool) fun a2 w2 s2 => ?_; clear s1
  refine wpList_nil ?_
  refine then_normal ?_
  refine hK1 _ _ ?_
  have s3 := s2.sub .nil; clear s2
  refine wp_seq_k fun K2 hK2 => ?_
  refine wp_region_lit ?_
  obtain ⟨x1, e_x1, h1⟩ := bind_some h0; clear h0; replace e_x1 := Option.some.inj e_x1
  refine seq_op s3 rfl rfl (of_decide_eq_true rfl) (((ob_mkArr (k := (kint .u8)) rfl Try.underlying39 zz39 sz5 (Zr.arr 32 (Zr.int .u8)) (.cons (opd_int rfl) rfl (LS.arr' (i := 0) (ys := ([(1 : Int), (0 : Int), (0 : Int), (0 : Int), (0 : Int), (0 : Int), (0 : Int), (0 : Int), (0 : Int), (0 : Int), (0 : Int), (0 : Int), (0 : Int), (0 : Int), (0 : Int), (0 : Int), (0 : Int), (0 : Int), (0 : Int), (0 : Int), (0 : Int), (0 : Int), (0 : Int), (0 : Int), (0 : Int), (0 : Int), (0 : Int), (0 : Int), (0 : Int), (0 : Int), (0 : Int), (0 : Int)] : (List Int))) (by simp) (by rfl)) (.nil _)) : Ob _ _ _ _ _ ((karr 32 (kint .u8)).V ([(1 : Int), (0 : Int), (0 : Int), (0 : Int), (0 : Int), (0 : Int), (0 : Int), (0 : Int), (0 : Int), (0 : Int), (0 : Int), (0 : Int), (0 : Int), (0 : Int), (0 : Int), (0 : Int), (0 : Int), (0 : Int), (0 : Int), (0 : Int), (0 : Int), (0 : Int), (0 : Int), (0 : Int), (0 : Int), (0 : Int), (0 : Int), (0 : Int), (0 : Int), (0 : Int), (0 : Int), (0 : Int)] : (List Int))))).nm e_x1) fun a4 w4 s4 => ?_; clear s3
  refine seq_op s4 rfl rfl (of_decide_eq_true rfl) (ob_mkSlice (k := (kint .i64)) (xs := ([(0 : Int), (1 : Int), (2 : Int)] : (List Int))) rfl Try.underlying41 zz3 sz3 (Zr.int .i64) (by decide) (by decide) (.cons (opd_int rfl) rfl (LS.arr' (i := 0) (ys := ([(0 : Int), (0 : Int), (0 : Int)] : (List Int))) (by simp) (by rfl)) (.cons (opd_int rfl) rfl (LS.arr' (i := 1) (ys := ([(0 : Int), (1 : Int), (0 : Int)] : (List Int))) (by simp) (by rfl)) (.cons (opd_int rfl) rfl (LS.arr' (i := 2) (ys := ([(0 : Int), (1 : Int), (2 : Int)] : (List Int))) (by simp) (by rfl)) (.nil _))))) fun a5 w5 s5 => ?_; clear s4
  obtain ⟨x2, e_x2, h2⟩ := bind_some h1; clear h1; replace e_x2 := Option.some.inj e_x2
  refine seq_op s5 rfl rfl (of_decide_eq_true rfl) (((ob_mkArr (k := (kint .u8)) rfl Try.underlying39 zz39 sz5 (Zr.arr 32 (Zr.int .u8)) (.cons (opd_int rfl) rfl (LS.arr' (i := 0) (ys := ([(1 : Int), (0 : Int), (0 : Int), (0 : Int), (0 : Int), (0 : Int), (0 : Int), (0 : Int), (0 : Int), (0 : Int), (0 : Int), (0 : Int), (0 : Int), (0 : Int), (0 : Int), (0 : Int), (0 : Int), (0 : Int), (0 : Int), (0 : Int), (0 : Int), (0 : Int), (0 : Int), (0 : Int), (0 : Int), (0 : Int), (0 : Int), (0 : Int), (0 : Int), (0 : Int), (0 : Int), (0 : Int)] : (List Int))) (by simp) (by rfl)) (.nil _)) : Ob _ _ _ _ _ ((karr 32 (kint .u8)).V ([(1 : Int), (0 : Int), (0 : Int), (0 : Int), (0 : Int), (0 : Int), (0 : Int), (0 : Int), (0 : Int), (0 : Int), (0 : Int), (0 : Int), (0 : Int), (0 : Int), (0 : Int), (0 : Int), (0 : Int), (0 : Int), (0 : Int), (0 : Int), (0 : Int), (0 : Int), (0 : Int), (0 : Int), (0 : Int), (0 : Int), (0 : Int), (0 : Int), (0 : Int), (0 : Int), (0 : Int), (0 : Int)] : (List Int))))).nm e_x2) fun a6 w6 s6 => ?_; clear s5
  obtain ⟨x3, e_x3, h3⟩ := bind_some h2; clear h2; replace e_x3 := Option.some.inj e_x3
  refine seq_op s6 rfl rfl (of_decide_eq_true rfl) ((ob_mkStruct (K := k_api_Op) (X0 := (⟨(0 : Int), (0 : Int), [], (0 : Int), [], (List.replicate 32 (0 : Int)), (List.replicate 32 (0 : Int)), [], []⟩ : api_Op)) rfl Try.underlying44 zz44 rfl pl44 (Zr.iso (f := t_api_Op) (x := (⟨(0 : Int), (0 : Int), [], (0 : Int), [], (List.replicate 32 (0 : Int)), (List.replicate 32 (0 : Int)), [], []⟩ : api_Op)) (Zr.pair (Zr.int .i64) (Zr.pair (Zr.int .u32) (Zr.pair (Zr.sl _) (Zr.pair (Zr.int .i64) (Zr.pair (Zr.sl _) (Zr.pair (Zr.arr 32 (Zr.int .u8)) (Zr.pair (Zr.arr 32 (Zr.int .u8)) (Zr.pair Zr.str (Zr.pair (Zr.sl _) Zr.nil)))))))))) (.cons (opd_int rfl) rfl (ls_api_Op_Seq (⟨(0 : Int), (0 : Int), [], (0 : Int), [], (List.replicate 32 (0 : Int)), (List.replicate 32 (0 : Int)), [], []⟩ : api_Op) (1 : Int)) (.cons (opd_int rfl) rfl (ls_api_Op_Kind (⟨(0 : Int), (1 : Int), [], (0 : Int), [], (List.replicate 32 (0 : Int)), (List.replicate 32 (0 : Int)), [], []⟩ : api_Op) (1 : Int)) (.cons (.tmp rfl) rfl (ls_api_Op_Who (⟨(0 : Int), (1 : Int), [], (1 : Int), [], (List.replicate 32 (0 : Int)), (List.replicate 32 (0 : Int)), [], []⟩ : api_Op) ([(0 : Int), (1 : Int), (2 : Int)] : (List Int))) (.cons (.tmp rfl) rfl (ls_api_Op_Check (⟨(0 : Int), (1 : Int), [], (1 : Int), ([(0 : Int), (1 : Int), (2 : Int)] : (List Int)), (List.replicate 32 (0 : Int)), (List.replicate 32 (0 : Int)), [], []⟩ : api_Op) x2) (.nil _)))))).nm e_x3) fun a7 w7 s7 => ?_; clear s6
  obtain ⟨x4, e_x4, h4⟩ := bind_some h3; clear h3
  refine seq_opx (B' := (fun v1 : Value => [RowF v1 46 k_api_Node x4.1])) s7 rfl rfl (of_decide_eq_true rfl) (ob_callL (args := [_, _, _]) (L := []) rfl .direct hb43 (List.Perm.refl _) (fun a w s fs gs hf hg => by obtain rfl := hf.unnil; obtain rfl := hg.unnil; exact c_graph_Add k _ _ _ _ e_x4 _ _ _ _ _ (s.arg opd_nil) (s.arg (.tmp rfl)) (s.arg (.tmp rfl))) (by exact fun _ => rfl)) fun v1 a8 w8 s8 => ?_; clear s7
  refine seq_op s8 rfl rfl (of_decide_eq_true rfl) (ob_move rfl (.tmp rfl)) fun a9 w9 s9 => ?_; clear s8
  refine seq_op s9 rfl rfl (of_decide_eq_true rfl) (ob_extract rfl (.tmp rfl) rfl) fun a10 w10 s10 => ?_; clear s9
  refine seq_op s10 rfl rfl (of_decide_eq_true rfl) (ob_extract rfl (.tmp rfl) rfl) fun a11 w11 s11 => ?_; clear s10
  refine seq_op s11 rfl rfl (of_decide_eq_true rfl) (ob_assign rfl (.tmp rfl)) fun a12 w12 s12 => ?_; clear s11
  refine seq_op s12 rfl rfl (of_decide_eq_true rfl) (ob_assign rfl (.tmp rfl)) fun a13 w13 s13 => ?_; clear s12
  refine wpList_nil ?_
  refine then_normal ?_
  refine hK2 _ _ ?_
  have s14 := s13.sub (.cons (t := 1) rfl .nil); clear s13
  refine wp_seq_k fun K3 hK3 => ?_
  refine wp_region_lit ?_
  refine seq_op s14 rfl rfl (of_decide_eq_true rfl) (ob_move rfl (.tmp rfl)) fun a15 w15 s15 => ?_; clear s14
  obtain ⟨x5, e_x5, h5⟩ := bind_some h4; clear h4; replace e_x5 := Option.some.inj e_x5
  refine seq_op s15 rfl rfl (of_decide_eq_true rfl) (((ob_mkArr (k := (kint .u8)) rfl Try.underlying39 zz39 sz5 (Zr.arr 32 (Zr.int .u8)) (.cons (opd_int rfl) rfl (LS.arr' (i := 0) (ys := ([(2 : Int), (0 : Int), (0 : Int), (0 : Int), (0 : Int), (0 : Int), (0 : Int), (0 : Int), (0 : Int), (0 : Int), (0 : Int), (0 : Int), (0 : Int), (0 : Int), (0 : Int), (0 : Int), (0 : Int), (0 : Int), (0 : Int), (0 : Int), (0 : Int), (0 : Int), (0 : Int), (0 : Int), (0 : Int), (0 : Int), (0 : Int), (0 : Int), (0 : Int), (0 : Int), (0 : Int), (0 : Int)] : (List Int))) (by simp) (by rfl)) (.nil _)) : Ob _ _ _ _ _ ((karr 32 (kint .u8)).V ([(2 : Int), (0 : Int), (0 : Int), (0 : Int), (0 : Int), (0 : Int), (0 : Int), (0 : Int), (0 : Int), (0 : Int), (0 : Int), (0 : Int), (0 : Int), (0 : Int), (0 : Int), (0 : Int), (0 : Int), (0 : Int), (0 : Int), (0 : Int), (0 : Int), (0 : Int), (0 : Int), (0 : Int), (0 : Int), (0 : Int), (0 : Int), (0 : Int), (0 : Int), (0 : Int), (0 : Int), (0 : Int)] : (List Int))))).nm e_x5) fun a16 w16 s16 => ?_; clear s15
  obtain ⟨x6, e_x6, h6⟩ := bind_some h5; clear h5; replace e_x6 := Option.some.inj e_x6
  refine seq_op s16 rfl rfl (of_decide_eq_true rfl) (((ob_mkArr (k := (kint .u8)) rfl Try.underlying39 zz39 sz5 (Zr.arr 32 (Zr.int .u8)) (.cons (opd_int rfl) rfl (LS.arr' (i := 0) (ys := ([(1 : Int), (0 : Int), (0 : Int), (0 : Int), (0 : Int), (0 : Int), (0 : Int), (0 : Int), (0 : Int), (0 : Int), (0 : Int), (0 : Int), (0 : Int), (0 : Int), (0 : Int), (0 : Int), (0 : Int), (0 : Int), (0 : Int), (0 : Int), (0 : Int), (0 : Int), (0 : Int), (0 : Int), (0 : Int), (0 : Int), (0 : Int), (0 : Int), (0 : Int), (0 : Int), (0 : Int), (0 : Int)] : (List Int))) (by simp) (by rfl)) (.nil _)) : Ob _ _ _ _ _ ((karr 32 (kint .u8)).V ([(1 : Int), (0 : Int), (0 : Int), (0 : Int), (0 : Int), (0 : Int), (0 : Int), (0 : Int), (0 : Int), (0 : Int), (0 : Int), (0 : Int), (0 : Int), (0 : Int), (0 : Int), (0 : Int), (0 : Int), (0 : Int), (0 : Int), (0 : Int), (0 : Int), (0 : Int), (0 : Int), (0 : Int), (0 : Int), (0 : Int), (0 : Int), (0 : Int), (0 : Int), (0 : Int), (0 : Int), (0 : Int)] : (List Int))))).nm e_x6) fun a17 w17 s17 => ?_; clear s16
  refine seq_op s17 rfl rfl (of_decide_eq_true rfl) (ob_mkSlice (k := (karr 32 (kint .u8))) (xs := ([x6] : (List (List Int)))) rfl Try.underlying40 zz39 sz39 (Zr.arr 32 (Zr.int .u8)) (by decide) (by decide) (.cons (.tmp rfl) rfl (LS.arr' (i := 0) (ys := ([x6] : (List (List Int)))) (by simp) (by rfl)) (.nil _))) fun a18 w18 s18 => ?_; clear s17
  obtain ⟨x7, e_x7, h7⟩ := bind_some h6; clear h6
  refine seq_op s18 rfl rfl (of_decide_eq_true rfl) (ob_callD (args := [_, _, _, _, _]) rfl .direct hb45 (fun a w s fs gs hf hg => by obtain rfl := hf.unnil; obtain rfl := hg.unnil; exact c_caballaw16_op k _ _ _ _ _ _ e_x7 _ _ _ _ _ _ _ (s.arg (opd_int rfl)) (s.arg (opd_int rfl)) (s.arg (opd_int rfl)) (s.arg (opd_int rfl)) (s.arg (.tmp rfl)))) fun a19 w19 s19 => ?_; clear s18
  have s20 := St.freezeAllM (A := []) s19 (ts := [1, 18]) (.cons rfl (.cons rfl .nil)); clear s19
  obtain ⟨x8, e_x8, h8⟩ := bind_some h7; clear h7
  refine seq_opx (B' := (fun v2 : Value => [RowF v2 46 k_api_Node x8.1])) s20 rfl rfl (of_decide_eq_true rfl) (ob_callL (args := [_, _, _]) (L := []) rfl .direct hb43 (List.Perm.refl _) (fun a w s fs gs hf hg => by obtain rfl := hf.unnil; obtain rfl := hg.unnil; exact c_graph_Add k _ _ _ _ e_x8 _ _ _ _ _ (s.arg (.tmp rfl)) (s.arg (.tmp rfl)) (s.arg (.tmp rfl))) (by exact fun _ => rfl)) fun v2 a21 w21 s21 => ?_; clear s20
  refine seq_op s21 rfl rfl (of_decide_eq_true rfl) (ob_move rfl (.tmp rfl)) fun a22 w22 s22 => ?_; clear s21
  refine seq_op s22 rfl rfl (of_decide_eq_true rfl) (ob_extract rfl (.tmp rfl) rfl) fun a23 w23 s23 => ?_; clear s22
  refine seq_op s23 rfl rfl (of_decide_eq_true rfl) (ob_extract rfl (.tmp rfl) rfl) fun a24 w24 s24 => ?_; clear s23
  refine seq_op s24 rfl rfl (of_decide_eq_true rfl) (ob_assign rfl (.tmp rfl)) fun a25 w25 s25 => ?_; clear s24
  refine seq_op s25 rfl rfl (of_decide_eq_true rfl) (ob_assign rfl (.tmp rfl)) fun a26 w26 s26 => ?_; clear s25
  refine wpList_nil ?_
  refine then_normal ?_
  refine hK3 _ _ ?_
  have s27 := s26.sub (.cons (t := 1) rfl (.cons (t := 3) rfl .nil)); clear s26
  refine wp_seq_k fun K4 hK4 => ?_
  refine wp_region_lit ?_
  refine seq_op s27 rfl rfl (of_decide_eq_true rfl) (ob_move rfl (.tmp rfl)) fun a28 w28 s28 => ?_; clear s27
  obtain ⟨x9, e_x9, h9⟩ := bind_some h8; clear h8; replace e_x9 := Option.some.inj e_x9
  refine seq_op s28 rfl rfl (of_decide_eq_true rfl) (((ob_mkArr (k := (kint .u8)) rfl Try.underlying39 zz39 sz5 (Zr.arr 32 (Zr.int .u8)) (.cons (opd_int rfl) rfl (LS.arr' (i := 0) (ys := ([(3 : Int), (0 : Int), (0 : Int), (0 : Int), (0 : Int), (0 : Int), (0 : Int), (0 : Int), (0 : Int), (0 : Int), (0 : Int), (0 : Int), (0 : Int), (0 : Int), (0 : Int), (0 : Int), (0 : Int), (0 : Int), (0 : Int), (0 : Int), (0 : Int), (0 : Int), (0 : Int), (0 : Int), (0 : Int), (0 : Int), (0 : Int), (0 : Int), (0 : Int), (0 : Int), (0 : Int), (0 : Int)] : (List Int))) (by simp) (by rfl)) (.nil _)) : Ob _ _ _ _ _ ((karr 32 (kint .u8)).V ([(3 : Int), (0 : Int), (0 : Int), (0 : Int), (0 : Int), (0 : Int), (0 : Int), (0 : Int), (0 : Int), (0 : Int), (0 : Int), (0 : Int), (0 : Int), (0 : Int), (0 : Int), (0 : Int), (0 : Int), (0 : Int), (0 : Int), (0 : Int), (0 : Int), (0 : Int), (0 : Int), (0 : Int), (0 : Int), (0 : Int), (0 : Int), (0 : Int), (0 : Int), (0 : Int), (0 : Int), (0 : Int)] : (List Int))))).nm e_x9) fun a29 w29 s29 => ?_; clear s28
  obtain ⟨x10, e_x10, h10⟩ := bind_some h9; clear h9; replace e_x10 := Option.some.inj e_x10
  refine seq_op s29 rfl rfl (of_decide_eq_true rfl) (((ob_mkArr (k := (kint .u8)) rfl Try.underlying39 zz39 sz5 (Zr.arr 32 (Zr.int .u8)) (.cons (opd_int rfl) rfl (LS.arr' (i := 0) (ys := ([(1 : Int), (0 : Int), (0 : Int), (0 : Int), (0 : Int), (0 : Int), (0 : Int), (0 : Int), (0 : Int), (0 : Int), (0 : Int), (0 : Int), (0 : Int), (0 : Int), (0 : Int), (0 : Int), (0 : Int), (0 : Int), (0 : Int), (0 : Int), (0 : Int), (0 : Int), (0 : Int), (0 : Int), (0 : Int), (0 : Int), (0 : Int), (0 : Int), (0 : Int), (0 : Int), (0 : Int), (0 : Int)] : (List Int))) (by simp) (by rfl)) (.nil _)) : Ob _ _ _ _ _ ((karr 32 (kint .u8)).V ([(1 : Int), (0 : Int), (0 : Int), (0 : Int), (0 : Int), (0 : Int), (0 : Int), (0 : Int), (0 : Int), (0 : Int), (0 : Int), (0 : Int), (0 : Int), (0 : Int), (0 : Int), (0 : Int), (0 : Int), (0 : Int), (0 : Int), (0 : Int), (0 : Int), (0 : Int), (0 : Int), (0 : Int), (0 : Int), (0 : Int), (0 : Int), (0 : Int), (0 : Int), (0 : Int), (0 : Int), (0 : Int)] : (List Int))))).nm e_x10) fun a30 w30 s30 => ?_; clear s29
  refine seq_op s30 rfl rfl (of_decide_eq_true rfl) (ob_mkSlice (k := (karr 32 (kint .u8))) (xs := ([x10] : (List (List Int)))) rfl Try.underlying40 zz39 sz39 (Zr.arr 32 (Zr.int .u8)) (by decide) (by decide) (.cons (.tmp rfl) rfl (LS.arr' (i := 0) (ys := ([x10] : (List (List Int)))) (by simp) (by rfl)) (.nil _))) fun a31 w31 s31 => ?_; clear s30
  obtain ⟨x11, e_x11, h11⟩ := bind_some h10; clear h10
  refine seq_op s31 rfl rfl (of_decide_eq_true rfl) (ob_callD (args := [_, _, _, _, _]) rfl .direct hb45 (fun a w s fs gs hf hg => by obtain rfl := hf.unnil; obtain rfl := hg.unnil; exact c_caballaw16_op k _ _ _ _ _ _ e_x11 _ _ _ _ _ _ _ (s.arg (opd_int rfl)) (s.arg (opd_int rfl)) (s.arg (opd_int rfl)) (s.arg (opd_int rfl)) (s.arg (.tmp rfl)))) fun a32 w32 s32 => ?_; clear s31
  have s33 := St.freezeAllM (A := []) s32 (ts := [3, 27]) (.cons rfl (.cons rfl .nil)); clear s32
  obtain ⟨x12, e_x12, h12⟩ := bind_some h11; clear h11
  refine seq_opx (B' := (fun v3 : Value => [RowF v3 46 k_api_Node x12.1])) s33 rfl rfl (of_decide_eq_true rfl) (ob_callL (args := [_, _, _]) (L := []) rfl .direct hb43 (List.Perm.refl _) (fun a w s fs gs hf hg => by obtain rfl := hf.unnil; obtain rfl := hg.unnil; exact c_graph_Add k _ _ _ _ e_x12 _ _ _ _ _ (s.arg (.tmp rfl)) (s.arg (.tmp rfl)) (s.arg (.tmp rfl))) (by exact fun _ => rfl)) fun v3 a34 w34 s34 => ?_; clear s33
  refine seq_op s34 rfl rfl (of_decide_eq_true rfl) (ob_move rfl (.tmp rfl)) fun a35 w35 s35 => ?_; clear s34
  refine seq_op s35 rfl rfl (of_decide_eq_true rfl) (ob_extract rfl (.tmp rfl) rfl) fun a36 w36 s36 => ?_; clear s35
  refine seq_op s36 rfl rfl (of_decide_eq_true rfl) (ob_extract rfl (.tmp rfl) rfl) fun a37 w37 s37 => ?_; clear s36
  refine seq_op s37 rfl rfl (of_decide_eq_true rfl) (ob_assign rfl (.tmp rfl)) fun a38 w38 s38 => ?_; clear s37
  refine seq_op s38 rfl rfl (of_decide_eq_true rfl) (ob_assign rfl (.tmp rfl)) fun a39 w39 s39 => ?_; clear s38
  refine wpList_nil ?_
  refine then_normal ?_
  refine hK4 _ _ ?_
  have s40 := s39.sub (.cons (t := 1) rfl (.cons (t := 5) rfl (.cons (t := 6) rfl .nil))); clear s39
  refine wp_seq_k fun K5 hK5 => ?_
  refine wp_region_lit ?_
  refine seq_op s40 rfl rfl (of_decide_eq_true rfl) (ob_move rfl (.tmp rfl)) fun a41 w41 s41 => ?_; clear s40
  refine seq_op s41 rfl rfl (of_decide_eq_true rfl) (ob_mkSlice (k := (kint .i64)) (xs := ([(0 : Int), (2 : Int)] : (List Int))) rfl Try.underlying41 zz3 sz3 (Zr.int .i64) (by decide) (by decide) (.cons (opd_int rfl) rfl (LS.arr' (i := 0) (ys := ([(0 : Int), (0 : Int)] : (List Int))) (by simp) (by rfl)) (.cons (opd_int rfl) rfl (LS.arr' (i := 1) (ys := ([(0 : Int), (2 : Int)] : (List Int))) (by simp) (by rfl)) (.nil _)))) fun a42 w42 s42 => ?_; clear s41
  obtain ⟨x13, e_x13, h13⟩ := bind_some h12; clear h12
  refine seq_opx (B' := (fun v4 : Value => [RowF v3 46 k_api_Node x12.1, RowF v4 3 (kint .i64) x13.1])) s42 rfl rfl (of_decide_eq_true rfl) ((ob_lendX (L := [_]) (List.Perm.refl _) (.cons (t := 36) rfl (lendRow (.head _)) .nil) (fun _ => (Flat.res2 Flat.is (Flat.V (KFlat.int _)))) (fun _ => (.cons (FlatO.row (KFlat.int _)) FlatL.nil)) (fun _ _ => ob_callL (args := [_, _]) (L := []) (D := []) rfl .direct hb36 (List.Perm.refl _) (fun a w s fs gs hf hg => by obtain rfl := hf.unnil; obtain rfl := hg.unnil; exact c_roster_Of k _ _ _ e_x13 _ _ _ _ (s.arg (.tmp rfl)) (s.arg (.tmp rfl))) (by exact fun _ => rfl)))) fun v4 a43 w43 s43 => ?_; clear s42
  refine seq_op s43 rfl rfl (of_decide_eq_true rfl) (ob_move rfl (.tmp rfl)) fun a44 w44 s44 => ?_; clear s43
  refine seq_op s44 rfl rfl (of_decide_eq_true rfl) (ob_extract rfl (.tmp rfl) rfl) fun a45 w45 s45 => ?_; clear s44
  refine seq_op s45 rfl rfl (of_decide_eq_true rfl) (ob_extract rfl (.tmp rfl) rfl) fun a46 w46 s46 => ?_; clear s45
  refine seq_op s46 rfl rfl (of_decide_eq_true rfl) (ob_assign rfl (.tmp rfl)) fun a47 w47 s47 => ?_; clear s46
  refine seq_op s47 rfl rfl (of_decide_eq_true rfl) (ob_assign rfl (.tmp rfl)) fun a48 w48 s48 => ?_; clear s47
  refine wpList_nil ?_
  refine then_normal ?_
  refine hK5 _ _ ?_
  have s49 := s48.sub (.cons (t := 1) rfl (.cons (t := 5) rfl (.cons (t := 6) rfl (.cons (t := 7) rfl (.cons (t := 8) rfl .nil))))); clear s48
  refine wp_seq_k fun K6 hK6 => ?_
  refine wp_region_lit ?_
  refine seq_op s49 rfl rfl (of_decide_eq_true rfl) (ob_move rfl (.tmp rfl)) fun a50 w50 s50 => ?_; clear s49
  refine seq_op s50 rfl rfl (of_decide_eq_true rfl) (ob_eql rfl (.tmp rfl) (opd_int rfl)) fun a51 w51 s51 => ?_; clear s50
  refine seq_op s51 rfl rfl (of_decide_eq_true rfl) (ob_move rfl (.tmp rfl)) fun a52 w52 s52 => ?_; clear s51
  refine seq_opg s52 rfl rfl rfl rfl (of_decide_eq_true rfl) (fun hb => ob_move rfl (.tmp rfl)) fun a53 w53 s53 => ?_; clear s52
  refine seq_opg s53 rfl rfl rfl rfl (of_decide_eq_true rfl) (fun hb => (Ob.uncond (t := 44) hb rfl (ob_eql rfl (.tmp rfl) (opd_int rfl)))) fun a54 w54 s54 => ?_; clear s53
  refine seq_op s54 rfl rfl (of_decide_eq_true rfl) (ob_and2 rfl (.tmp rfl) (.tmp rfl) opd_bool) fun a55 w55 s55 => ?_; clear s54
  refine seq_op s55 rfl rfl (of_decide_eq_true rfl) (ob_move rfl (.tmp rfl)) fun a56 w56 s56 => ?_; clear s55
  refine seq_opg s56 rfl rfl rfl rfl (of_decide_eq_true rfl) (fun hb => ob_move rfl (.tmp rfl)) fun a57 w57 s57 => ?_; clear s56
  obtain ⟨x14, e_x14, h14⟩ := bind_some h13; clear h13
  refine seq_opg s57 rfl rfl rfl rfl (of_decide_eq_true rfl) (fun hb => (ObF.ob ((ObF.uncond (t := 48) hb rfl ((ob_lendF (L := [_]) (List.Perm.refl _) (.cons (t := 48) rfl (lendRow (.head _)) .nil) (fun _ => ob_callF (F := resFact [((ksl (kint .i64)).V x14)]) (args := [_]) rfl .direct hb37 (fun a w s fs gs hf hg => by obtain rfl := hf.unnil; obtain rfl := hg.unnil; exact c_roster_All k _ _ (ite_t hb e_x14) _ _ _ (s.arg (.tmp rfl))) (by exact fun g => ResF.all (.row (.head _) (KFlat.int _) .nil))))))))) fun a58 w58 s58 => ?_; clear s57
  refine seq_opg s58 rfl rfl rfl rfl (of_decide_eq_true rfl) (fun hb => ob_mkSlice (k := (kint .i64)) (xs := ([(0 : Int), (2 : Int)] : (List Int))) rfl Try.underlying41 zz3 sz3 (Zr.int .i64) (by decide) (by decide) (.cons (opd_int rfl) rfl (LS.arr' (i := 0) (ys := ([(0 : Int), (0 : Int)] : (List Int))) (by simp) (by rfl)) (.cons (opd_int rfl) rfl (LS.arr' (i := 1) (ys := ([(0 : Int), (2 : Int)] : (List Int))) (by simp) (by rfl)) (.nil _)))) fun a59 w59 s59 => ?_; clear s58
  obtain ⟨x15, e_x15, h15⟩ := bind_some h14; clear h14
  refine seq_opg s59 rfl rfl rfl rfl (of_decide_eq_true rfl) (fun hb => (Ob.uncond (t := 50) hb rfl ((Ob.uncond (t := 49) hb rfl (ob_callD (args := [_, _]) rfl .direct hb38 (fun a w s fs gs hf hg => by obtain rfl := hf.unnil; obtain rfl := hg.unnil; exact c_cabalref15_SameInts k _ _ _ (ite_t hb e_x15) _ _ _ _ (s.arg (.tmp rfl)) (s.arg (.tmp rfl)))))))) fun a60 w60 s60 => ?_; clear s59
  obtain ⟨x16, e_x16, h16⟩ := bind_some h15; clear h15; replace e_x16 := Option.some.inj e_x16
  refine seq_op s60 rfl rfl (of_decide_eq_true rfl) ((ob_and2 rfl (.tmp rfl) (.tmp rfl) opd_bool).nm e_x16) fun a61 w61 s61 => ?_; clear s60
  refine seq_op s61 rfl rfl (of_decide_eq_true rfl) (ob_move rfl (.tmp rfl)) fun a62 w62 s62 => ?_; clear s61
  refine seq_opg s62 rfl rfl rfl rfl (of_decide_eq_true rfl) (fun hb => ob_move rfl (.tmp rfl)) fun a63 w63 s63 => ?_; clear s62
  refine seq_opg s63 rfl rfl rfl rfl (of_decide_eq_true rfl) (fun hb => ob_mkSlice (k := (kint .i64)) (xs := ([(0 : Int), (1 : Int), (2 : Int), (3 : Int)] : (List Int))) rfl Try.underlying41 zz3 sz3 (Zr.int .i64) (by decide) (by decide) (.cons (opd_int rfl) rfl (LS.arr' (i := 0) (ys := ([(0 : Int), (0 : Int), (0 : Int), (0 : Int)] : (List Int))) (by simp) (by rfl)) (.cons (opd_int rfl) rfl (LS.arr' (i := 1) (ys := ([(0 : Int), (1 : Int), (0 : Int), (0 : Int)] : (List Int))) (by simp) (by rfl)) (.cons (opd_int rfl) rfl (LS.arr' (i := 2) (ys := ([(0 : Int), (1 : Int), (2 : Int), (0 : Int)] : (List Int))) (by simp) (by rfl)) (.cons (opd_int rfl) rfl (LS.arr' (i := 3) (ys := ([(0 : Int), (1 : Int), (2 : Int), (3 : Int)] : (List Int))) (by simp) (by rfl)) (.nil _)))))) fun a64 w64 s64 => ?_; clear s63
  obtain ⟨x17, e_x17, h17⟩ := bind_some h16; clear h16
  refine seq_opg s64 rfl rfl rfl rfl (of_decide_eq_true rfl) (fun hb => (Ob.uncond (t := 55) hb rfl ((Ob.uncond (t := 54) hb rfl ((ob_lendG (L := [_]) (toFront [_] (List.Perm.refl _)) (.cons (t := 54) rfl (lendRow (.head _)) .nil) (Flat.res1 (Flat.V KFlat.bool)) (fun _ => ob_callD (args := [_, _]) rfl .direct hb38 (fun a w s fs gs hf hg => by obtain rfl := hf.unnil; obtain rfl := hg.unnil; exact c_cabalref15_SameInts k _ _ _ (ite_t hb e_x17) _ _ _ _ (s.arg (.tmp rfl)) (s.arg (.tmp rfl)))))))))) fun a65 w65 s65 => ?_; clear s64
  refine seq_op s65 rfl rfl (of_decide_eq_true rfl) (ob_and2 rfl (.tmp rfl) (.tmp rfl) opd_bool) fun a66 w66 s66 => ?_; clear s65
  refine seq_op s66 rfl rfl (of_decide_eq_true rfl) (ob_move rfl (.tmp rfl)) fun a67 w67 s67 => ?_; clear s66
  refine seq_opg s67 rfl rfl rfl rfl (of_decide_eq_true rfl) (fun hb => ob_move rfl (.tmp rfl)) fun a68 w68 s68 => ?_; clear s67
  obtain ⟨x18, e_x18, h18⟩ := bind_some h17; clear h17
  refine seq_opg s68 rfl rfl rfl rfl (of_decide_eq_true rfl) (fun hb => (ObF.ob ((ObF.uncond (t := 59) hb rfl (ob_callF (F := resFact [((ksl (kint .i64)).V x18)]) (args := [_]) rfl .direct hb37 (fun a w s fs gs hf hg => by obtain rfl := hf.unnil; obtain rfl := hg.unnil; exact c_roster_All k _ _ (ite_t hb e_x18) _ _ _ (s.arg (.tmp rfl))) (by exact fun g => ResF.all (.row (.head _) (KFlat.int _) .nil))))))) fun a69 w69 s69 => ?_; clear s68
  refine seq_opg s69 rfl rfl rfl rfl (of_decide_eq_true rfl) (fun hb => ob_mkSlice (k := (kint .i64)) (xs := ([(0 : Int), (1 : Int), (2 : Int)] : (List Int))) rfl Try.underlying41 zz3 sz3 (Zr.int .i64) (by decide) (by decide) (.cons (opd_int rfl) rfl (LS.arr' (i := 0) (ys := ([(0 : Int), (0 : Int), (0 : Int)] : (List Int))) (by simp) (by rfl)) (.cons (opd_int rfl) rfl (LS.arr' (i := 1) (ys := ([(0 : Int), (1 : Int), (0 : Int)] : (List Int))) (by simp) (by rfl)) (.cons (opd_int rfl) rfl (LS.arr' (i := 2) (ys := ([(0 : Int), (1 : Int), (2 : Int)] : (List Int))) (by simp) (by rfl)) (.nil _))))) fun a70 w70 s70 => ?_; clear s69
  obtain ⟨x19, e_x19, h19⟩ := bind_some h18; clear h18
  refine seq_opg s70 rfl rfl rfl rfl (of_decide_eq_true rfl) (fun hb => (Ob.uncond (t := 61) hb rfl ((Ob.uncond (t := 60) hb rfl (ob_callD (args := [_, _]) rfl .direct hb38 (fun a w s fs gs hf hg => by obtain rfl := hf.unnil; obtain rfl := hg.unnil; exact c_cabalref15_SameInts k _ _ _ (ite_t hb e_x19) _ _ _ _ (s.arg (.tmp rfl)) (s.arg (.tmp rfl)))))))) fun a71 w71 s71 => ?_; clear s70
  refine seq_op s71 rfl rfl (of_decide_eq_true rfl) (ob_and2 rfl (.tmp rfl) (.tmp rfl) opd_bool) fun a72 w72 s72 => ?_; clear s71
  refine seq_op s72 rfl rfl (of_decide_eq_true rfl) (ob_assign rfl (.tmp rfl)) fun a73 w73 s73 => ?_; clear s72
  refine wpList_nil ?_
  refine then_normal ?_
  refine hK6 _ _ ?_
  have s74 := s73.sub (.cons (t := 0) rfl .nil); clear s73
  have s75 := St.drop (A := []) s74; clear s74
  have s76 := St.drop (A := []) s75; clear s75
  refine wp_ret ?_
  obtain rfl := Option.some.inj h19
  exact leave s76 (.inl rfl) rfl (.cons (.tmp rfl) .nil)

/- 51 cabal/cabalref11.Great -/
theorem c_cabalref11_Great (k : Nat) (p1 : api_Op) (r : Bool) (h0 : cabalref11_Great k p1 = some r) (ok : Ok) (w0 : World) (z0 : Value) (u0 : (k_api_Op.V p1).holds ok w0 z0) :
    Gives Try.prog 51 [z0] ok w0 (resFact [kbool.V r]) := by
  unfold cabalref11_Great at h0
  refine enter (N := 41) Try.func51 rfl rfl (of_decide_eq_true rfl) (.cons u0 .nil) fun a1 s1 => ?_
  refine wp_seq_k fun K1 hK1 => ?_
  refine wp_region_lit ?_
  refine seq_opx (B' := (fun b1 : Nat => [BF b1 44 k_api_Op p1])) s1 rfl rfl (of_decide_eq_true rfl) (ob_box rfl (.tmp rfl)) fun b1 a2 w2 s2 => ?_; clear s1
  refine seq_op s2 rfl rfl (of_decide_eq_true rfl) (ob_assign rfl opd_bool) fun a3 w3 s3 => ?_; clear s2
  refine wpList_nil ?_
  refine then_normal ?_
  refine hK1 _ _ ?_
  have s4 := s3.sub (.cons (t := 1) rfl .nil); clear s3
  refine wp_seq_k fun K2 hK2 => ?_
  refine wp_seq_k fun K3 hK3 => ?_
  refine wp_region_lit ?_
  refine seq_op s4 rfl rfl (of_decide_eq_true rfl) (ob_fieldAddr (off' := 2) rfl Try.underlying44 rfl sz40 (by decide) (.tmp rfl) rfl) fun a5 w5 s5 => ?_; clear s4
  refine seq_op s5 rfl rfl (of_decide_eq_true rfl) (ob_load rfl tk40 (.tmp rfl) (.head _) (lg_api_Op_Parents p1)) fun a6 w6 s6 => ?_; clear s5
  refine seq_op s6 rfl rfl (of_decide_eq_true rfl) (ob_lens rfl Try.underlying40 (.tmp rfl)) fun a7 w7 s7 => ?_; clear s6
  refine seq_op s7 rfl rfl (of_decide_eq_true rfl) (ob_gtr rfl (.tmp rfl) (opd_int rfl)) fun a8 w8 s8 => ?_; clear s7
  refine seq_op s8 rfl rfl (of_decide_eq_true rfl) (ob_move rfl (.tmp rfl)) fun a9 w9 s9 => ?_; clear s8
  refine seq_opg s9 rfl rfl rfl rfl (of_decide_eq_true rfl) (fun hb => ob_fieldAddr (off' := 4) rfl Try.underlying44 rfl sz41 (by decide) (.tmp rfl) rfl) fun a10 w10 s10 => ?_; clear s9
  refine seq_opg s10 rfl rfl rfl rfl (of_decide_eq_true rfl) (fun hb => (Ob.uncond (t := 9) hb rfl (ob_load rfl tk41 (.tmp rfl) (.head _) (lg_api_Op_Who p1)))) fun a11 w11 s11 => ?_; clear s10
  refine seq_opg s11 rfl rfl rfl rfl (of_decide_eq_true rfl) (fun hb => (Ob.uncond (t := 10) hb rfl (ob_lens rfl Try.underlying41 (.tmp rfl)))) fun a12 w12 s12 => ?_; clear s11
  refine seq_opg s12 rfl rfl rfl rfl (of_decide_eq_true rfl) (fun hb => (Ob.uncond (t := 11) hb rfl (ob_gtr rfl (.tmp rfl) (opd_int rfl)))) fun a13 w13 s13 => ?_; clear s12
  obtain ⟨x1, e_x1, h1⟩ := bind_some h0; clear h0; replace e_x1 := Option.some.inj e_x1
  refine seq_op s13 rfl rfl (of_decide_eq_true rfl) ((ob_or2 rfl (.tmp rfl) opd_bool (.tmp rfl)).nm e_x1) fun a14 w14 s14 => ?_; clear s13
  refine seq_op s14 rfl rfl (of_decide_eq_true rfl) (ob_move rfl (.tmp rfl)) fun a15 w15 s15 => ?_; clear s14
  refine seq_opg s15 rfl rfl rfl rfl (of_decide_eq_true rfl) (fun hb => ob_fieldAddr (off' := 70) rfl Try.underlying44 rfl sz42 (by decide) (.tmp rfl) rfl) fun a16 w16 s16 => ?_; clear s15
  refine seq_opg s16 rfl rfl rfl rfl (of_decide_eq_true rfl) (fun hb => (Ob.uncond (t := 15) hb rfl (ob_load rfl tk42 (.tmp rfl) (.head _) (lg_api_Op_Boxes p1)))) fun a17 w17 s17 => ?_; clear s16
  refine seq_opg s17 rfl rfl rfl rfl (of_decide_eq_true rfl) (fun hb => (Ob.uncond (t := 16) hb rfl (ob_lens rfl Try.underlying42 (.tmp rfl)))) fun a18 w18 s18 => ?_; clear s17
  refine seq_opg s18 rfl rfl rfl rfl (of_decide_eq_true rfl) (fun hb => (Ob.uncond (t := 17) hb rfl (ob_gtr rfl (.tmp rfl) (opd_int rfl)))) fun a19 w19 s19 => ?_; clear s18
  refine seq_op s19 rfl rfl (of_decide_eq_true rfl) (ob_or2 rfl (.tmp rfl) opd_bool (.tmp rfl)) fun a20 w20 s20 => ?_; clear s19
  refine seq_op s20 rfl rfl (of_decide_eq_true rfl) (ob_move rfl (.tmp rfl)) fun a21 w21 s21 => ?_; clear s20
  refine seq_opg s21 rfl rfl rfl rfl (of_decide_eq_true rfl) (fun hb => ob_fieldAddr (off' := 69) rfl Try.underlying44 rfl sz9 (by decide) (.tmp rfl) rfl) fun a22 w22 s22 => ?_; clear s21
  refine seq_opg s22 rfl rfl rfl rfl (of_decide_eq_true rfl) (fun hb => (Ob.uncond (t := 21) hb rfl (ob_load rfl tk9 (.tmp rfl) (.head _) (lg_api_Op_Text p1)))) fun a23 w23 s23 => ?_; clear s22
  refine seq_opg s23 rfl rfl rfl rfl (of_decide_eq_true rfl) (fun hb => (Ob.uncond (t := 22) hb rfl (ob_lenStr rfl Try.underlying9 (.tmp rfl)))) fun a24 w24 s24 => ?_; clear s23
  refine seq_opg s24 rfl rfl rfl rfl (of_decide_eq_true rfl) (fun hb => (Ob.uncond (t := 23) hb rfl (ob_gtr rfl (.tmp rfl) (opd_int rfl)))) fun a25 w25 s25 => ?_; clear s24
  obtain ⟨x2, e_x2, h2⟩ := bind_some h1; clear h1; replace e_x2 := Option.some.inj e_x2
  refine seq_op s25 rfl rfl (of_decide_eq_true rfl) ((ob_or2 rfl (.tmp rfl) opd_bool (.tmp rfl)).nm e_x2) fun a26 w26 s26 => ?_; clear s25
  refine wpList_nil ?_
  refine then_normal ?_
  refine hK3 _ _ ?_
  have s27 := s26.sub (.cons (t := 1) rfl (.cons (t := 25) rfl .nil)); clear s26
  refine cond_split s27 (.tmp rfl) (fun hc1 => ?_) (fun hc1 => ?_)
  · replace h2 := ite_t hc1 h2
    have h3 := h2; clear h2
    refine wp_seq_k fun K4 hK4 => ?_
    refine wp_region_lit ?_
    refine seq_op s27 rfl rfl (of_decide_eq_true rfl) (ob_assign rfl opd_bool) fun a28 w28 s28 => ?_; clear s27
    refine wpList_nil ?_
    refine then_normal ?_
    refine hK4 _ _ ?_
    have s29 := s28.sub (.cons (t := 2) rfl .nil); clear s28
    have s30 := St.drop (A := []) s29; clear s29
    refine wp_ret ?_
    obtain rfl := Option.some.inj h3
    exact leave s30 (.inl rfl) rfl (.cons (.tmp rfl) .nil)
  · replace h2 := ite_f hc1 h2
    have h4 := h2; clear h2
    refine wp_skip ?_
    refine then_normal ?_
    refine hK2 _ _ ?_
    have s31 := s27.sub (.cons (t := 1) rfl .nil); clear s27
    refine wp_seq_k fun K5 hK5 => ?_
    refine wp_seq_k fun K6 hK6 => ?_
    refine wp_region_lit ?_
    refine seq_op s31 rfl rfl (of_decide_eq_true rfl) (ob_assign rfl (opd_int rfl)) fun a32 w32 s32 => ?_; clear s31
    refine wpList_nil ?_
    refine then_normal ?_
    refine hK6 _ _ ?_
    have s33 := s32.sub (.cons (t := 1) rfl (.cons (t := 3) rfl .nil)); clear s32
    have hj1 : ∀ (a : Act) (w : World), (cabalref11_Great.j1 k) = some r → St ⟨41, w0, ok, []⟩ [] [] a w → K5 a w := by
      intro a34 w34 h5 s34
      unfold cabalref11_Great.j1 at h5
      refine hK5 _ _ ?_
      refine wp_seq_k fun K7 hK7 => ?_
      refine wp_region_lit ?_
      refine seq_op s34 rfl rfl (of_decide_eq_true rfl) (ob_assign rfl opd_bool) fun a35 w35 s35 => ?_; clear s34
      refine wpList_nil ?_
      refine then_normal ?_
      refine hK7 _ _ ?_
      have s36 := s35.sub (.cons (t := 2) rfl .nil); clear s35
      refine wp_ret ?_
      obtain rfl := Option.some.inj h5
      exact leave s36 (.inl rfl) rfl (.cons (.tmp rfl) .nil)
    refine wp_block ?_
    refine wp_loop_fuel (fun m (q : Int) => cabalref11_Great.l1 k p1 m q) r (fun _ => rfl) (fun q a w => St ⟨41, w0, ok, []⟩ [BF b1 44 k_api_Op p1] [(1, (ptrB b1 0)), (3, ((kint .i64).V q))] a w) ?_ k (0 : Int) _ _ h4 (s33.sub (.cons rfl (.cons rfl .nil)))
    rintro n1 y1 a37 w37 h6 s37 K8 hK8
    replace h6 : cabalref11_Great.l1 k p1 (n1 + 1) y1 = some r := h6; rw [cabalref11_Great.l1] at h6
    have h7 := h6; clear h6
    refine wp_seq_k fun K9 hK9 => ?_
    refine wp_seq_k fun K10 hK10 => ?_
    refine wp_region_lit ?_
    refine seq_op s37 rfl rfl (of_decide_eq_true rfl) (ob_move rfl (.tmp rfl)) fun a38 w38 s38 => ?_; clear s37
    refine seq_op s38 rfl rfl (of_decide_eq_true rfl) (ob_fieldAddr (off' := 70) rfl Try.underlying44 rfl sz42 (by decide) (.tmp rfl) rfl) fun a39 w39 s39 => ?_; clear s38
    refine seq_op s39 rfl rfl (of_decide_eq_true rfl) (ob_load rfl tk42 (.tmp rfl) (.head _) (lg_api_Op_Boxes p1)) fun a40 w40 s40 => ?_; clear s39
    refine seq_op s40 rfl rfl (of_decide_eq_true rfl) (ob_lens rfl Try.underlying42 (.tmp rfl)) fun a41 w41 s41 => ?_; clear s40
    refine seq_op s41 rfl rfl (of_decide_eq_true rfl) (ob_lss rfl (.tmp rfl) (.tmp rfl)) fun a42 w42 s42 => ?_; clear s41
    refine wpList_nil ?_
    refine then_normal ?_
    refine hK10 _ _ ?_
    have s43 := s42.sub (.cons (t := 1) rfl (.cons (t := 3) rfl (.cons (t := 30) rfl .nil))); clear s42
    refine cond_split s43 (.tmp rfl) (fun hc2 => ?_) (fun hc2 => ?_)
    · replace h7 := ite_t hc2 h7
      have h8 := h7; clear h7
      refine wp_skip ?_
      refine then_normal ?_
      refine hK9 _ _ ?_
      have s44 := s43.sub (.cons (t := 1) rfl (.cons (t := 3) rfl .nil)); clear s43
      refine wp_seq_k fun K11 hK11 => ?_
      refine wp_block ?_
      refine wp_seq_k fun K12 hK12 => ?_
      refine wp_region_lit ?_
      refine seq_op s44 rfl rfl (of_decide_eq_true rfl) (ob_fieldAddr (off' := 70) rfl Try.underlying44 rfl sz42 (by decide) (.tmp rfl) rfl) fun a45 w45 s45 => ?_; clear s44
      refine seq_op s45 rfl rfl (of_decide_eq_true rfl) (ob_load rfl tk42 (.tmp rfl) (.head _) (lg_api_Op_Boxes p1)) fun a46 w46 s46 => ?_; clear s45
      refine seq_op s46 rfl rfl (of_decide_eq_true rfl) (ob_move rfl (.tmp rfl)) fun a47 w47 s47 => ?_; clear s46
      obtain ⟨x3, e_x3, h9⟩ := bind_some h8; clear h8
      refine seq_op s47 rfl rfl (of_decide_eq_true rfl) (ob_indexAddrs rfl Try.underlying42 sz78 (.tmp rfl) (.tmp rfl) e_x3) fun a48 w48 s48 => ?_; clear s47
      refine seq_op s48 rfl rfl (of_decide_eq_true rfl) (ob_fieldAddrr rfl Try.underlying78 rfl sz9 (by decide) (.tmp rfl) (lg_api_Box_Body x3)) fun a49 w49 s49 => ?_; clear s48
      refine seq_op s49 rfl rfl (of_decide_eq_true rfl) (ob_loadr rfl tk9 (.tmp rfl)) fun a50 w50 s50 => ?_; clear s49
      refine seq_op s50 rfl rfl (of_decide_eq_true rfl) (ob_lenStr rfl Try.underlying9 (.tmp rfl)) fun a51 w51 s51 => ?_; clear s50
      refine seq_op s51 rfl rfl (of_decide_eq_true rfl) (ob_gtr rfl (.tmp rfl) (opd_int rfl)) fun a52 w52 s52 => ?_; clear s51
      refine wpList_nil ?_
      refine then_normal ?_
      refine hK12 _ _ ?_
      have s53 := s52.sub (.cons (t := 1) rfl (.cons (t := 3) rfl (.cons (t := 40) rfl .nil))); clear s52
      refine cond_split s53 (.tmp rfl) (fun hc3 => ?_) (fun hc3 => ?_)
      · replace h9 := ite_t hc3 h9
        have h10 := h9; clear h9
        refine wp_seq_k fun K13 hK13 => ?_
        refine wp_region_lit ?_
        refine seq_op s53 rfl rfl (of_decide_eq_true rfl) (ob_assign rfl opd_bool) fun a54 w54 s54 => ?_; clear s53
        refine wpList_nil ?_
        refine then_normal ?_
        refine hK13 _ _ ?_
        have s55 := s54.sub (.cons (t := 2) rfl .nil); clear s54
        have s56 := St.drop (A := []) s55; clear s55
        refine wp_ret ?_
        obtain rfl := Option.some.inj h10
        exact leave s56 (.inl rfl) rfl (.cons (.tmp rfl) .nil)
      · replace h9 := ite_f hc3 h9
        have h11 := h9; clear h9
        refine wp_skip ?_
        refine in_normal ?_
        refine then_normal ?_
        refine hK11 _ _ ?_
        have s57 := s53.sub (.cons (t := 1) rfl (.cons (t := 3) rfl .nil)); clear s53
        refine wp_region_lit ?_
        refine seq_op s57 rfl rfl (of_decide_eq_true rfl) (ob_move rfl (.tmp rfl)) fun a58 w58 s58 => ?_; clear s57
        refine seq_op s58 rfl rfl (of_decide_eq_true rfl) (ob_add rfl (.tmp rfl) (opd_int rfl)) fun a59 w59 s59 => ?_; clear s58
        refine seq_op s59 rfl rfl (of_decide_eq_true rfl) (ob_assign rfl (.tmp rfl)) fun a60 w60 s60 => ?_; clear s59
        refine wpList_nil ?_
        refine then_normal ?_
        exact hK8 (iadd .i64 y1 (1 : Int)) _ _ h11 (s60.sub (.cons rfl (.cons rfl .nil)))
    · replace h7 := ite_f hc2 h7
      have h12 := h7; clear h7
      refine wp_exit ?_
      refine (then_exit (then_exit (in_here ?_)))
      refine then_normal ?_
      have s61 := St.drop (A := []) s43; clear s43
      exact hj1 _ _ h12 (s61.sub .nil)

/- 23 cabal/cabalref15.Great -/
theorem c_cabalref15_Great (k : Nat) (p1 : (List api_Node)) (r : Bool) (h0 : cabalref15_Great k p1 = some r) (ok : Ok) (w0 : World) (z0 : Value) (u0 : ((ksl k_api_Node).V p1).holds ok w0 z0) :
    Gives Try.prog 23 [z0] ok w0 (resFact [kbool.V r]) := by
  unfold cabalref15_Great at h0
  refine enter (N := 28) Try.func23 rfl rfl (of_decide_eq_true rfl) (.cons u0 .nil) fun a1 s1 => ?_
  refine wp_seq_k fun K1 hK1 => ?_
  refine wp_region_lit ?_
  refine seq_op s1 rfl rfl (of_decide_eq_true rfl) (ob_assign rfl opd_bool) fun a2 w2 s2 => ?_; clear s1
  refine wpList_nil ?_
  refine then_normal ?_
  refine hK1 _ _ ?_
  have s3 := s2.sub (.cons (t := 0) rfl .nil); clear s2
  refine wp_seq_k fun K2 hK2 => ?_
  refine wp_seq_k fun K3 hK3 => ?_
  refine wp_region_lit ?_
  refine seq_op s3 rfl rfl (of_decide_eq_true rfl) (ob_move rfl (.tmp rfl)) fun a4 w4 s4 => ?_; clear s3
  refine seq_op s4 rfl rfl (of_decide_eq_true rfl) (ob_lens rfl Try.underlying22 (.tmp rfl)) fun a5 w5 s5 => ?_; clear s4
  refine seq_op s5 rfl rfl (of_decide_eq_true rfl) (ob_gtr rfl (.tmp rfl) (opd_int rfl)) fun a6 w6 s6 => ?_; clear s5
  refine wpList_nil ?_
  refine then_normal ?_
  refine hK3 _ _ ?_
  have s7 := s6.sub (.cons (t := 0) rfl (.cons (t := 6) rfl .nil)); clear s6
  refine cond_split s7 (.tmp rfl) (fun hc1 => ?_) (fun hc1 => ?_)
  · replace h0 := ite_t hc1 h0
    have h1 := h0; clear h0
    refine wp_seq_k fun K4 hK4 => ?_
    refine wp_region_lit ?_
    refine seq_op s7 rfl rfl (of_decide_eq_true rfl) (ob_assign rfl opd_bool) fun a8 w8 s8 => ?_; clear s7
    refine wpList_nil ?_
    refine then_normal ?_
    refine hK4 _ _ ?_
    have s9 := s8.sub (.cons (t := 2) rfl .nil); clear s8
    refine wp_ret ?_
    obtain rfl := Option.some.inj h1
    exact leave s9 (.inl rfl) rfl (.cons (.tmp rfl) .nil)
  · replace h0 := ite_f hc1 h0
    have h2 := h0; clear h0
    refine wp_skip ?_
    refine then_normal ?_
    refine hK2 _ _ ?_
    have s10 := s7.sub (.cons (t := 0) rfl .nil); clear s7
    refine wp_seq_k fun K5 hK5 => ?_
    refine wp_seq_k fun K6 hK6 => ?_
    refine wp_region_lit ?_
    refine seq_op s10 rfl rfl (of_decide_eq_true rfl) (ob_assign rfl (opd_int rfl)) fun a11 w11 s11 => ?_; clear s10
    refine wpList_nil ?_
    refine then_normal ?_
    refine hK6 _ _ ?_
    have s12 := s11.sub (.cons (t := 0) rfl (.cons (t := 3) rfl .nil)); clear s11
    have hj1 : ∀ (a : Act) (w : World), (cabalref15_Great.j1 k) = some r → St ⟨28, w0, ok, []⟩ [] [] a w → K5 a w := by
      intro a13 w13 h3 s13
      unfold cabalref15_Great.j1 at h3
      refine hK5 _ _ ?_
      refine wp_seq_k fun K7 hK7 => ?_
      refine wp_region_lit ?_
      refine seq_op s13 rfl rfl (of_decide_eq_true rfl) (ob_assign rfl opd_bool) fun a14 w14 s14 => ?_; clear s13
      refine wpList_nil ?_
      refine then_normal ?_
      refine hK7 _ _ ?_
      have s15 := s14.sub (.cons (t := 2) rfl .nil); clear s14
      refine wp_ret ?_
      obtain rfl := Option.some.inj h3
      exact leave s15 (.inl rfl) rfl (.cons (.tmp rfl) .nil)
    refine wp_block ?_
    refine wp_loop_fuel (fun m (q : Int) => cabalref15_Great.l1 k p1 m q) r (fun _ => rfl) (fun q a w => St ⟨28, w0, ok, []⟩ [] [(0, ((ksl k_api_Node).V p1)), (3, ((kint .i64).V q))] a w) ?_ k (0 : Int) _ _ h2 (s12.sub (.cons rfl (.cons rfl .nil)))
    rintro n1 y1 a16 w16 h4 s16 K8 hK8
    replace h4 : cabalref15_Great.l1 k p1 (n1 + 1) y1 = some r := h4; rw [cabalref15_Great.l1] at h4
    have h5 := h4; clear h4
    refine wp_seq_k fun K9 hK9 => ?_
    refine wp_seq_k fun K10 hK10 => ?_
    refine wp_region_lit ?_
    refine seq_op s16 rfl rfl (of_decide_eq_true rfl) (ob_move rfl (.tmp rfl)) fun a17 w17 s17 => ?_; clear s16
    refine seq_op s17 rfl rfl (of_decide_eq_true rfl) (ob_move rfl (.tmp rfl)) fun a18 w18 s18 => ?_; clear s17
    refine seq_op s18 rfl rfl (of_decide_eq_true rfl) (ob_lens rfl Try.underlying22 (.tmp rfl)) fun a19 w19 s19 => ?_; clear s18
    refine seq_op s19 rfl rfl (of_decide_eq_true rfl) (ob_lss rfl (.tmp rfl) (.tmp rfl)) fun a20 w20 s20 => ?_; clear s19
    refine wpList_nil ?_
    refine then_normal ?_
    refine hK10 _ _ ?_
    have s21 := s20.sub (.cons (t := 0) rfl (.cons (t := 3) rfl (.cons (t := 10) rfl .nil))); clear s20
    refine cond_split s21 (.tmp rfl) (fun hc2 => ?_) (fun hc2 => ?_)
    · replace h5 := ite_t hc2 h5
      have h6 := h5; clear h5
      refine wp_skip ?_
      refine then_normal ?_
      refine hK9 _ _ ?_
      have s22 := s21.sub (.cons (t := 0) rfl (.cons (t := 3) rfl .nil)); clear s21
      refine wp_seq_k fun K11 hK11 => ?_
      refine wp_block ?_
      refine wp_seq_k fun K12 hK12 => ?_
      refine wp_region_lit ?_
      refine seq_op s22 rfl rfl (of_decide_eq_true rfl) (ob_move rfl (.tmp rfl)) fun a23 w23 s23 => ?_; clear s22
      refine seq_op s23 rfl rfl (of_decide_eq_true rfl) (ob_move rfl (.tmp rfl)) fun a24 w24 s24 => ?_; clear s23
      obtain ⟨x1, e_x1, h7⟩ := bind_some h6; clear h6
      refine seq_op s24 rfl rfl (of_decide_eq_true rfl) (ob_indexAddrs rfl Try.underlying22 sz46 (.tmp rfl) (.tmp rfl) e_x1) fun a25 w25 s25 => ?_; clear s24
      refine seq_op s25 rfl rfl (of_decide_eq_true rfl) (ob_fieldAddrr rfl Try.underlying46 rfl sz44 (by decide) (.tmp rfl) (lg_api_Node_Op x1)) fun a26 w26 s26 => ?_; clear s25
      refine seq_op s26 rfl rfl (of_decide_eq_true rfl) (ob_loadr rfl tk44 (.tmp rfl)) fun a27 w27 s27 => ?_; clear s26
      obtain ⟨x2, e_x2, h8⟩ := bind_some h7; clear h7
      refine seq_op s27 rfl rfl (of_decide_eq_true rfl) (ob_callD (args := [_]) rfl .direct hb51 (fun a w s fs gs hf hg => by obtain rfl := hf.unnil; obtain rfl := hg.unnil; exact c_cabalref11_Great k _ _ e_x2 _ _ _ (s.arg (.tmp rfl)))) fun a28 w28 s28 => ?_; clear s27
      refine seq_op s28 rfl rfl (of_decide_eq_true rfl) (ob_move rfl (.tmp rfl)) fun a29 w29 s29 => ?_; clear s28
      refine seq_opg s29 rfl rfl rfl rfl (of_decide_eq_true rfl) (fun hb => ob_move rfl (.tmp rfl)) fun a30 w30 s30 => ?_; clear s29
      refine seq_opg s30 rfl rfl rfl rfl (of_decide_eq_true rfl) (fun hb => ob_move rfl (.tmp rfl)) fun a31 w31 s31 => ?_; clear s30
      obtain ⟨x3, e_x3, h9⟩ := bind_some h8; clear h8
      refine seq_opg s31 rfl rfl rfl rfl (of_decide_eq_true rfl) (fun hb => (Ob.uncond (t := 21) hb rfl ((Ob.uncond (t := 20) hb rfl (ob_indexAddrs rfl Try.underlying22 sz46 (.tmp rfl) (.tmp rfl) (ite_t hb e_x3)))))) fun a32 w32 s32 => ?_; clear s31
      refine seq_opg s32 rfl rfl rfl rfl (of_decide_eq_true rfl) (fun hb => (Ob.uncond (t := 22) hb rfl (ob_fieldAddrr rfl Try.underlying46 rfl sz41 (by decide) (.tmp rfl) (lg_api_Node_Past x3)))) fun a33 w33 s33 => ?_; clear s32
      refine seq_opg s33 rfl rfl rfl rfl (of_decide_eq_true rfl) (fun hb => (Ob.uncond (t := 23) hb rfl (ob_loadr rfl tk41 (.tmp rfl)))) fun a34 w34 s34 => ?_; clear s33
      refine seq_opg s34 rfl rfl rfl rfl (of_decide_eq_true rfl) (fun hb => (Ob.uncond (t := 24) hb rfl (ob_lens rfl Try.underlying41 (.tmp rfl)))) fun a35 w35 s35 => ?_; clear s34
      refine seq_opg s35 rfl rfl rfl rfl (of_decide_eq_true rfl) (fun hb => (Ob.uncond (t := 25) hb rfl (ob_gtr rfl (.tmp rfl) (opd_int rfl)))) fun a36 w36 s36 => ?_; clear s35
      refine seq_op s36 rfl rfl (of_decide_eq_true rfl) (ob_or2 rfl (.tmp rfl) opd_bool (.tmp rfl)) fun a37 w37 s37 => ?_; clear s36
      refine wpList_nil ?_
      refine then_normal ?_
      refine hK12 _ _ ?_
      have s38 := s37.sub (.cons (t := 0) rfl (.cons (t := 3) rfl (.cons (t := 27) rfl .nil))); clear s37
      refine cond_split s38 (.tmp rfl) (fun hc3 => ?_) (fun hc3 => ?_)
      · replace h9 := ite_t hc3 h9
        have h10 := h9; clear h9
        refine wp_seq_k fun K13 hK13 => ?_
        refine wp_region_lit ?_
        refine seq_op s38 rfl rfl (of_decide_eq_true rfl) (ob_assign rfl opd_bool) fun a39 w39 s39 => ?_; clear s38
        refine wpList_nil ?_
        refine then_normal ?_
        refine hK13 _ _ ?_
        have s40 := s39.sub (.cons (t := 2) rfl .nil); clear s39
        refine wp_ret ?_
        obtain rfl := Option.some.inj h10
        exact leave s40 (.inl rfl) rfl (.cons (.tmp rfl) .nil)
      · replace h9 := ite_f hc3 h9
        have h11 := h9; clear h9
        refine wp_skip ?_
        refine in_normal ?_
        refine then_normal ?_
        refine hK11 _ _ ?_
        have s41 := s38.sub (.cons (t := 0) rfl (.cons (t := 3) rfl .nil)); clear s38
        refine wp_region_lit ?_
        refine seq_op s41 rfl rfl (of_decide_eq_true rfl) (ob_move rfl (.tmp rfl)) fun a42 w42 s42 => ?_; clear s41
        refine seq_op s42 rfl rfl (of_decide_eq_true rfl) (ob_add rfl (.tmp rfl) (opd_int rfl)) fun a43 w43 s43 => ?_; clear s42
        refine seq_op s43 rfl rfl (of_decide_eq_true rfl) (ob_assign rfl (.tmp rfl)) fun a44 w44 s44 => ?_; clear s43
        refine wpList_nil ?_
        refine then_normal ?_
        exact hK8 (iadd .i64 y1 (1 : Int)) _ _ h11 (s44.sub (.cons rfl (.cons rfl .nil)))
    · replace h5 := ite_f hc2 h5
      have h12 := h5; clear h5
      refine wp_exit ?_
      refine (then_exit (then_exit (in_here ?_)))
      refine then_normal ?_
      exact hj1 _ _ h12 (s21.sub .nil)

/- 54 cabal/graph.Past -/
theorem c_graph_Past (k : Nat) (p1 : (List api_Node)) (p2 : (List (List Int))) (r : ((List Int) × Int)) (h0 : graph_Past k p1 p2 = some r) (ok : Ok) (w0 : World) (z0 : Value) (z1 : Value) (u0 : ((ksl k_api_Node).V p1).holds ok w0 z0) (u1 : ((ksl (karr 32 (kint .u8))).V p2).holds ok w0 z1) :
    GivesX Try.prog 54 [z0, z1] ok w0 [] (fun g : Value => resFact [is g, (kint .i64).V r.2]) (fun g : Value => [RowF (g) 3 (kint .i64) r.1]) := by
  unfold graph_Past at h0
  refine enterX (N := 14) Try.func54 rfl rfl (of_decide_eq_true rfl) (.cons u0 (.cons u1 .nil)) List.nodup_nil (fun _ h => by cases h) (fun _ h => by cases h) fun a1 s1 => ?_
  refine wp_seq_k fun K1 hK1 => ?_
  refine wp_region_lit ?_
  refine seq_op s1 rfl rfl (of_decide_eq_true rfl) (ob_assign rfl opd_is) fun a2 w2 s2 => ?_; clear s1
  have s3 := St.adopt s2 (G := RowF (nilRow 27) 3 (kint .i64) []) rfl (rowNilN _ _ _ _ _); clear s2
  refine seq_op s3 rfl rfl (of_decide_eq_true rfl) (ob_assign rfl (opd_int rfl)) fun a4 w4 s4 => ?_; clear s3
  refine wpList_nil ?_
  refine then_normal ?_
  refine hK1 _ _ ?_
  have s5 := s4.sub (.cons (t := 0) rfl (.cons (t := 1) rfl .nil)); clear s4
  have s6 := St.drop (A := []) s5; clear s5
  refine wp_seq_k fun K2 hK2 => ?_
  refine wp_seq_k fun K3 hK3 => ?_
  refine wp_region_lit ?_
  refine seq_op s6 rfl rfl (of_decide_eq_true rfl) (ob_move rfl (.tmp rfl)) fun a7 w7 s7 => ?_; clear s6
  obtain ⟨x1, e_x1, h1⟩ := bind_some h0; clear h0
  refine seq_op s7 rfl rfl (of_decide_eq_true rfl) (ob_callD (args := [_]) rfl .direct hb24 (fun a w s fs gs hf hg => by obtain rfl := hf.unnil; obtain rfl := hg.unnil; exact c_graph_Right k _ _ e_x1 _ _ _ (s.arg (.tmp rfl)))) fun a8 w8 s8 => ?_; clear s7
  refine seq_op s8 rfl rfl (of_decide_eq_true rfl) (ob_not rfl (.tmp rfl)) fun a9 w9 s9 => ?_; clear s8
  refine wpList_nil ?_
  refine then_normal ?_
  refine hK3 _ _ ?_
  have s10 := s9.sub (.cons (t := 0) rfl (.cons (t := 1) rfl (.cons (t := 8) rfl .nil))); clear s9
  refine cond_split s10 (.tmp rfl) (fun hc1 => ?_) (fun hc1 => ?_)
  · replace h1 := ite_t hc1 h1
    have h2 := h1; clear h1
    refine wp_seq_k fun K4 hK4 => ?_
    refine wp_region_lit ?_
    refine seq_op s10 rfl rfl (of_decide_eq_true rfl) (ob_assign rfl opd_is) fun a11 w11 s11 => ?_; clear s10
    have s12 := St.adopt s11 (G := RowF (nilRow 28) 3 (kint .i64) []) rfl (rowNilN _ _ _ _ _); clear s11
    refine seq_op s12 rfl rfl (of_decide_eq_true rfl) (ob_assign rfl (opd_int rfl)) fun a13 w13 s13 => ?_; clear s12
    refine wpList_nil ?_
    refine then_normal ?_
    refine hK4 _ _ ?_
    have s14 := s13.sub (.cons (t := 4) rfl (.cons (t := 5) rfl .nil)); clear s13
    refine wp_ret ?_
    obtain rfl := Option.some.inj h2
    exact leaveXD (D := []) (nilRow 28) s14 rfl (.inl rfl) rfl (.cons (.tmp rfl) (.cons (.tmp rfl) .nil)) rfl
  · replace h1 := ite_f hc1 h1
    have h3 := h1; clear h1
    refine wp_skip ?_
    refine then_normal ?_
    refine hK2 _ _ ?_
    have s15 := s10.sub (.cons (t := 0) rfl (.cons (t := 1) rfl .nil)); clear s10
    refine wp_seq_k fun K5 hK5 => ?_
    refine wp_region_lit ?_
    refine seq_op s15 rfl rfl (of_decide_eq_true rfl) (ob_move rfl (.tmp rfl)) fun a16 w16 s16 => ?_; clear s15
    refine seq_op s16 rfl rfl (of_decide_eq_true rfl) (ob_move rfl (.tmp rfl)) fun a17 w17 s17 => ?_; clear s16
    obtain ⟨x2, e_x2, h4⟩ := bind_some h3; clear h3
    refine seq_opx (B' := (fun v1 : Value => [RowF v1 3 (kint .i64) x2.1])) s17 rfl rfl (of_decide_eq_true rfl) (ob_callL (args := [_, _]) (L := []) rfl .direct hb92 (List.Perm.refl _) (fun a w s fs gs hf hg => by obtain rfl := hf.unnil; obtain rfl := hg.unnil; exact c_graph_past k _ _ _ e_x2 _ _ _ _ (s.arg (.tmp rfl)) (s.arg (.tmp rfl))) (by exact fun _ => rfl)) fun v1 a18 w18 s18 => ?_; clear s17
    refine seq_op s18 rfl rfl (of_decide_eq_true rfl) (ob_extract rfl (.tmp rfl) rfl) fun a19 w19 s19 => ?_; clear s18
    refine seq_op s19 rfl rfl (of_decide_eq_true rfl) (ob_extract rfl (.tmp rfl) rfl) fun a20 w20 s20 => ?_; clear s19
    refine seq_op s20 rfl rfl (of_decide_eq_true rfl) (ob_assign rfl (.tmp rfl)) fun a21 w21 s21 => ?_; clear s20
    refine seq_op s21 rfl rfl (of_decide_eq_true rfl) (ob_assign rfl (.tmp rfl)) fun a22 w22 s22 => ?_; clear s21
    refine wpList_nil ?_
    refine then_normal ?_
    refine hK5 _ _ ?_
    have s23 := s22.sub (.cons (t := 4) rfl (.cons (t := 5) rfl .nil)); clear s22
    refine wp_ret ?_
    obtain rfl := Option.some.inj h4
    exact leaveXD (D := []) v1 s23 rfl (.inl rfl) rfl (.cons (.tmp rfl) (.cons (.tmp rfl) .nil)) rfl

end Go.Proofs.Ytdlnfgpcnfbjiaa
