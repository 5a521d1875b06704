/- Each function's code comes to what its plain function answers. No condition. -/
import Derived.Test.YtdlnfgpcnfbjiaaIWalk1
namespace Go.Proofs.Ytdlnfgpcnfbjiaa
open Go Go.RowKit Go.Proofs.Kit Go.Proofs.Pure
set_option linter.unusedVariables false
set_option linter.unusedSimpArgs false
set_option maxRecDepth 100000
set_option maxHeartbeats 2000000

/- 143 slices.Clone[[]cabal/api.Box,cabal/api.Box] -/
theorem c_slices_Clone_api_Box_api_Box (k : Nat) (p1 : (List api_Box)) (r : (List api_Box)) (h0 : slices_Clone_api_Box_api_Box k p1 = some r) (ok : Ok) (w0 : World) (z0 : Value) (u0 : ((ksl k_api_Box).V p1).holds ok w0 z0) :
    GivesX Try.prog 143 [z0] ok w0 [] (fun g : Value => resFact [is g]) (fun g : Value => [RowF (g) 78 k_api_Box r]) := by
  unfold slices_Clone_api_Box_api_Box at h0
  refine enterX (N := 8) Try.func143 rfl rfl (of_decide_eq_true rfl) (.cons u0 .nil) List.nodup_nil (fun _ h => by cases h) (fun _ h => by cases h) fun a1 s1 => ?_
  refine wp_seq_k fun K1 hK1 => ?_
  refine wp_region_lit ?_
  refine seq_op s1 rfl rfl (of_decide_eq_true rfl) (ob_assign rfl opd_is) fun a2 w2 s2 => ?_; clear s1
  have s3 := St.adopt s2 (G := RowF (nilRow 15) 78 k_api_Box []) rfl (rowNilN _ _ _ _ _); clear s2
  refine wpList_nil ?_
  refine then_normal ?_
  refine hK1 _ _ ?_
  have s4 := s3.sub (.cons (t := 0) rfl .nil); clear s3
  have s5 := St.drop (A := []) s4; clear s4
  refine wp_seq_k fun K2 hK2 => ?_
  refine wp_seq_k fun K3 hK3 => ?_
  refine wp_region_lit ?_
  refine seq_op s5 rfl rfl (of_decide_eq_true rfl) (ob_move rfl (.tmp rfl)) fun a6 w6 s6 => ?_; clear s5
  refine seq_op s6 rfl rfl (of_decide_eq_true rfl) (ob_slNil rfl Try.underlying42 (.tmp rfl)) fun a7 w7 s7 => ?_; clear s6
  refine wpList_nil ?_
  refine then_normal ?_
  refine hK3 _ _ ?_
  have s8 := s7.sub (.cons (t := 0) rfl (.cons (t := 4) rfl .nil)); clear s7
  refine cond_nil s8 (.tmp rfl) (fun hnil => ?_) ?_
  · subst hnil
    have h1 : some ([] : (List api_Box)) = some r := by first | exact h0 | simpa using h0
    refine wp_seq_k fun K4 hK4 => ?_
    refine wp_region_lit ?_
    refine seq_op s8 rfl rfl (of_decide_eq_true rfl) (ob_assign rfl opd_is) fun a9 w9 s9 => ?_; clear s8
    have s10 := St.adopt s9 (G := RowF (nilRow 16) 78 k_api_Box []) rfl (rowNilN _ _ _ _ _); clear s9
    refine wpList_nil ?_
    refine then_normal ?_
    refine hK4 _ _ ?_
    have s11 := s10.sub (.cons (t := 2) rfl .nil); clear s10
    refine wp_ret ?_
    obtain rfl := Option.some.inj h1
    exact leaveXD (D := []) (nilRow 16) s11 rfl (.inl rfl) rfl (.cons (.tmp rfl) .nil) rfl
  ·
    refine wp_skip ?_
    refine then_normal ?_
    refine hK2 _ _ ?_
    have s12 := s8.sub (.cons (t := 0) rfl .nil); clear s8
    refine wp_seq_k fun K5 hK5 => ?_
    refine wp_region_lit ?_
    refine seq_opx (B' := (fun v1 : Value => [RowF v1 78 k_api_Box ([] : List api_Box)])) s12 rfl rfl (of_decide_eq_true rfl) (ob_emptyRow (k := k_api_Box) rfl Try.underlying42 sz78) fun v1 a13 w13 s13 => ?_; clear s12
    refine seq_op s13 rfl rfl (of_decide_eq_true rfl) (ob_move rfl (.tmp rfl)) fun a14 w14 s14 => ?_; clear s13
    obtain ⟨g1, h2⟩ := guard_some h0; clear h0
    refine seq_opx (B' := (fun v2 : Value => [RowF v2 78 k_api_Box (([] : List api_Box) ++ p1)])) s14 rfl rfl (of_decide_eq_true rfl) (ob_appendL2 (A := []) rfl Try.underlying42 ap78 (Zr.iso (f := t_api_Box) (x := (⟨(0 : Int), (⟨(List.replicate 32 (0 : Int)), (0 : Int), (0 : Int)⟩ : api_Head), []⟩ : api_Box)) (Zr.pair (Zr.int .i64) (Zr.pair (Zr.iso (f := t_api_Head) (x := (⟨(List.replicate 32 (0 : Int)), (0 : Int), (0 : Int)⟩ : api_Head)) (Zr.pair (Zr.arr 32 (Zr.int .u8)) (Zr.pair (Zr.int .u32) (Zr.pair (Zr.int .u32) Zr.nil)))) (Zr.pair Zr.str Zr.nil)))) (by decide) (.tmp rfl) (.tmp rfl) rfl g1) fun v2 a15 w15 s15 => ?_; clear s14
    refine seq_op s15 rfl rfl (of_decide_eq_true rfl) (ob_assign rfl (.tmp rfl)) fun a16 w16 s16 => ?_; clear s15
    refine wpList_nil ?_
    refine then_normal ?_
    refine hK5 _ _ ?_
    have s17 := s16.sub (.cons (t := 2) rfl .nil); clear s16
    refine wp_ret ?_
    obtain rfl := Option.some.inj h2
    exact leaveXD (D := []) v2 s17 rfl (.inl rfl) rfl (.cons (.tmp rfl) .nil) rfl

/- 94 cabal/graph.clone -/
theorem c_graph_clone (k : Nat) (p1 : api_Op) (r : api_Op) (h0 : graph_clone k p1 = some r) (ok : Ok) (w0 : World) (z0 : Value) (u0 : (k_api_Op.V p1).holds ok w0 z0) :
    Gives Try.prog 94 [z0] ok w0 (resFact [k_api_Op.V r]) := by
  unfold graph_clone at h0
  refine enter (N := 16) Try.func94 rfl rfl (of_decide_eq_true rfl) (.cons u0 .nil) fun a1 s1 => ?_
  refine wp_seq_k fun K1 hK1 => ?_
  refine wp_region_lit ?_
  refine seq_opx (B' := (fun b1 : Nat => [BF b1 44 k_api_Op p1])) s1 rfl rfl (of_decide_eq_true rfl) (ob_box rfl (.tmp rfl)) fun b1 a2 w2 s2 => ?_; clear s1
  refine seq_opx (B' := (fun b2 : Nat => [BF b2 44 k_api_Op (⟨(0 : Int), (0 : Int), [], (0 : Int), [], (List.replicate 32 (0 : Int)), (List.replicate 32 (0 : Int)), [], []⟩ : api_Op), BF b1 44 k_api_Op p1])) s2 rfl rfl (of_decide_eq_true rfl) (ob_new (k := k_api_Op) rfl zz44 (Zr.iso (f := t_api_Op) (x := (⟨(0 : Int), (0 : Int), [], (0 : Int), [], (List.replicate 32 (0 : Int)), (List.replicate 32 (0 : Int)), [], []⟩ : api_Op)) (Zr.pair (Zr.int .i64) (Zr.pair (Zr.int .u32) (Zr.pair (Zr.sl _) (Zr.pair (Zr.int .i64) (Zr.pair (Zr.sl _) (Zr.pair (Zr.arr 32 (Zr.int .u8)) (Zr.pair (Zr.arr 32 (Zr.int .u8)) (Zr.pair Zr.str (Zr.pair (Zr.sl _) Zr.nil))))))))))) fun b2 a3 w3 s3 => ?_; clear s2
  refine wpList_nil ?_
  refine then_normal ?_
  refine hK1 _ _ ?_
  have s4 := s3.sub (.cons (t := 1) rfl (.cons (t := 2) rfl .nil)); clear s3
  refine wp_seq_k fun K2 hK2 => ?_
  obtain ⟨x1, e_x1, h1⟩ := bind_some h0; clear h0
  obtain ⟨x2, e_x2, h2⟩ := bind_some h1; clear h1
  obtain ⟨x3, e_x3, h3⟩ := bind_some h2; clear h2
  refine wp_goes (Fs := [(ptrB b1 2), ((ksl (karr 32 (kint .u8))).V p1.Parents), ((ksl (karr 32 (kint .u8))).V x1), (ptrB b1 4), ((ksl (kint .i64)).V p1.Who), ((ksl (kint .i64)).V x2), (ptrB b1 70), ((ksl k_api_Box).V p1.Boxes), ((ksl k_api_Box).V x3), (ptrB b1 2)]) (bits := [0, 1, 3, 0, 8, 31, 0, 64, 255, 223, 1023, 2047, 4095, 8191, 16383]) (m := 10) (todo := 0) mx s4 ?_; clear s4
  refine goes_last (by kernel_rfl) rfl (opsS_cons (.plain _ (Av.old (t := 1) rfl rfl Av.nil) rfl rfl (ob_fieldAddr (off' := 2) rfl Try.underlying44 rfl sz40 (by decide) (.tmp rfl) rfl)) (opsS_cons (.plain _ (Av.new (j := 0) rfl rfl rfl Av.nil) rfl rfl (ob_load rfl tk40 (.tmp rfl) (.tail _ (.head _)) (lg_api_Op_Parents p1))) (opsS_cons (.plain _ (Av.new (j := 1) rfl rfl rfl Av.nil) rfl rfl ((ObF.ob (ob_callF (F := resFact [((ksl (karr 32 (kint .u8))).V x1)]) (args := [_]) rfl .direct hb142 (fun a w s fs gs hf hg => by obtain rfl := hf.unnil; obtain rfl := hg.unnil; exact c_slices_Clone_api_Key_api_Key k _ _ e_x1 _ _ _ (s.arg (.tmp rfl))) (by exact fun g => ResF.all (.row (.head _) (KFlat.arr (KFlat.int _)) .nil)))))) (opsS_cons (.plain _ (Av.old (t := 1) rfl rfl Av.nil) rfl rfl (ob_fieldAddr (off' := 4) rfl Try.underlying44 rfl sz41 (by decide) (.tmp rfl) rfl)) (opsS_cons (.plain _ (Av.new (j := 3) rfl rfl rfl Av.nil) rfl rfl (ob_load rfl tk41 (.tmp rfl) (.tail _ (.head _)) (lg_api_Op_Who p1))) (opsS_cons (.plain _ (Av.new (j := 4) rfl rfl rfl Av.nil) rfl rfl ((ObF.ob (ob_callF (F := resFact [((ksl (kint .i64)).V x2)]) (args := [_]) rfl .direct hb80 (fun a w s fs gs hf hg => by obtain rfl := hf.unnil; obtain rfl := hg.unnil; exact c_slices_Clone_int_int k _ _ e_x2 _ _ _ (s.arg (.tmp rfl))) (by exact fun g => ResF.all (.row (.head _) (KFlat.int _) .nil)))))) (opsS_cons (.plain _ (Av.old (t := 1) rfl rfl Av.nil) rfl rfl (ob_fieldAddr (off' := 70) rfl Try.underlying44 rfl sz42 (by decide) (.tmp rfl) rfl)) (opsS_cons (.plain _ (Av.new (j := 6) rfl rfl rfl Av.nil) rfl rfl (ob_load rfl tk42 (.tmp rfl) (.tail _ (.head _)) (lg_api_Op_Boxes p1))) (opsS_cons (.plain _ (Av.new (j := 7) rfl rfl rfl Av.nil) rfl rfl ((ObF.ob (ob_callF (F := resFact [((ksl k_api_Box).V x3)]) (args := [_]) rfl .direct hb143 (fun a w s fs gs hf hg => by obtain rfl := hf.unnil; obtain rfl := hg.unnil; exact c_slices_Clone_api_Box_api_Box k _ _ e_x3 _ _ _ (s.arg (.tmp rfl))) (by exact fun g => ResF.all (.row (.head _) kf_api_Box .nil)))))) (opsS_cons (.plain _ (Av.old (t := 1) rfl rfl Av.nil) rfl rfl (ob_fieldAddr (off' := 2) rfl Try.underlying44 rfl sz40 (by decide) (.tmp rfl) rfl)) opsS_nil)))))))))) (out_old (t := 1) rfl rfl (out_old (t := 2) rfl rfl (out_new (i := 2) (by decide) rfl rfl (out_new (i := 5) (by decide) rfl rfl (out_new (i := 8) (by decide) rfl rfl (out_new (i := 9) (by decide) rfl rfl out_nil)))))) fun a5 w5 s5 => ?_
  refine seq_opx0 (B' := (fun _ : Unit => [BF b2 44 k_api_Op (⟨(0 : Int), (0 : Int), [], (0 : Int), [], (List.replicate 32 (0 : Int)), (List.replicate 32 (0 : Int)), [], []⟩ : api_Op), BF b1 44 k_api_Op ({ p1 with Parents := x1 })])) s5 rfl rfl (ob_store (A := [_]) rfl tk40 (.tmp rfl) (.tmp rfl) rfl (ls_api_Op_Parents p1 x1) rfl) fun _ a6 w6 s6 => ?_; clear s5
  refine seq_op s6 rfl rfl (of_decide_eq_true rfl) (ob_fieldAddr (off' := 4) rfl Try.underlying44 rfl sz41 (by decide) (.tmp rfl) rfl) fun a7 w7 s7 => ?_; clear s6
  refine seq_opx0 (B' := (fun _ : Unit => [BF b2 44 k_api_Op (⟨(0 : Int), (0 : Int), [], (0 : Int), [], (List.replicate 32 (0 : Int)), (List.replicate 32 (0 : Int)), [], []⟩ : api_Op), BF b1 44 k_api_Op ({ { p1 with Parents := x1 } with Who := x2 })])) s7 rfl rfl (ob_store (A := [_]) rfl tk41 (.tmp rfl) (.tmp rfl) rfl (ls_api_Op_Who ({ p1 with Parents := x1 }) x2) rfl) fun _ a8 w8 s8 => ?_; clear s7
  refine seq_op s8 rfl rfl (of_decide_eq_true rfl) (ob_fieldAddr (off' := 70) rfl Try.underlying44 rfl sz42 (by decide) (.tmp rfl) rfl) fun a9 w9 s9 => ?_; clear s8
  obtain ⟨x4, e_x4, h4⟩ := bind_some h3; clear h3; replace e_x4 := Option.some.inj e_x4
  refine seq_opx0 (B' := (fun _ : Unit => [BF b2 44 k_api_Op (⟨(0 : Int), (0 : Int), [], (0 : Int), [], (List.replicate 32 (0 : Int)), (List.replicate 32 (0 : Int)), [], []⟩ : api_Op), BF b1 44 k_api_Op x4])) s9 rfl rfl (ob_store (A := [_]) rfl tk42 (.tmp rfl) (.tmp rfl) rfl (LS.to (ls_api_Op_Boxes ({ { p1 with Parents := x1 } with Who := x2 }) x3) e_x4) rfl) fun _ a10 w10 s10 => ?_; clear s9
  refine wpList_nil ?_
  refine then_normal ?_
  refine hK2 _ _ ?_
  have s11 := s10.sub (.cons (t := 1) rfl (.cons (t := 2) rfl .nil)); clear s10
  refine wp_seq_k fun K3 hK3 => ?_
  refine wp_region_lit ?_
  refine seq_op s11 rfl rfl (of_decide_eq_true rfl) (ob_load rfl tk44 (.tmp rfl) (.tail _ (.head _)) (LG.refl _ _)) fun a12 w12 s12 => ?_; clear s11
  refine seq_opx0 (B' := (fun _ : Unit => [BF b2 44 k_api_Op x4, BF b1 44 k_api_Op x4])) s12 rfl rfl (ob_store (A := []) rfl tk44 (.tmp rfl) (.tmp rfl) rfl (LS.refl _ _ _) rfl) fun _ a13 w13 s13 => ?_; clear s12
  refine wpList_nil ?_
  refine then_normal ?_
  refine hK3 _ _ ?_
  have s14 := s13.sub (.cons (t := 2) rfl .nil); clear s13
  have s15 := St.drop (A := [_]) s14; clear s14
  refine wp_ret ?_
  obtain rfl := Option.some.inj h4
  exact leave s15 (.inl rfl) rfl (.cons (.cell rfl tk44 (.head _) (LG.refl _ _)) .nil)

/- 43 cabal/graph.Add -/
theorem c_graph_Add (k : Nat) (p1 : (List api_Node)) (p2 : (List Int)) (p3 : api_Op) (r : ((List api_Node) × Int)) (h0 : graph_Add k p1 p2 p3 = some r) (ok : Ok) (w0 : World) (z0 : Value) (z1 : Value) (z2 : Value) (u0 : ((ksl k_api_Node).V p1).holds ok w0 z0) (u1 : ((karr 32 (kint .u8)).V p2).holds ok w0 z1) (u2 : (k_api_Op.V p3).holds ok w0 z2) :
    GivesX Try.prog 43 [z0, z1, z2] ok w0 [] (fun g : Value => resFact [is g, (kint .i64).V r.2]) (fun g : Value => [RowF (g) 46 k_api_Node r.1]) := by
  unfold graph_Add at h0
  refine enterX (N := 74) Try.func43 rfl rfl (of_decide_eq_true rfl) (.cons u0 (.cons u1 (.cons u2 .nil))) List.nodup_nil (fun _ h => by cases h) (fun _ h => by cases h) fun a1 s1 => ?_
  refine wp_seq_k fun K1 hK1 => ?_
  refine wp_region_lit ?_
  refine seq_opx (B' := (fun b1 : Nat => [BF b1 39 (karr 32 (kint .u8)) p2])) s1 rfl rfl (of_decide_eq_true rfl) (ob_box rfl (.tmp rfl)) fun b1 a2 w2 s2 => ?_; clear s1
  refine seq_opx (B' := (fun b2 : Nat => [BF b2 44 k_api_Op p3, BF b1 39 (karr 32 (kint .u8)) p2])) s2 rfl rfl (of_decide_eq_true rfl) (ob_box rfl (.tmp rfl)) fun b2 a3 w3 s3 => ?_; clear s2
  refine seq_op s3 rfl rfl (of_decide_eq_true rfl) (ob_assign rfl opd_is) fun a4 w4 s4 => ?_; clear s3
  have s5 := St.adopt s4 (G := RowF (nilRow 1) 46 k_api_Node []) rfl (rowNilN _ _ _ _ _); clear s4
  refine seq_op s5 rfl rfl (of_decide_eq_true rfl) (ob_assign rfl (opd_int rfl)) fun a6 w6 s6 => ?_; clear s5
  refine wpList_nil ?_
  refine then_normal ?_
  refine hK1 _ _ ?_
  have s7 := s6.sub (.cons (t := 0) rfl (.cons (t := 4) rfl (.cons (t := 5) rfl .nil))); clear s6
  have s8 := St.drop (A := []) s7; clear s7
  refine wp_seq_k fun K2 hK2 => ?_
  refine wp_seq_k fun K3 hK3 => ?_
  refine wp_region_lit ?_
  refine seq_op s8 rfl rfl (of_decide_eq_true rfl) (ob_move rfl (.tmp rfl)) fun a9 w9 s9 => ?_; clear s8
  obtain ⟨x1, e_x1, h1⟩ := bind_some h0; clear h0
  refine seq_op s9 rfl rfl (of_decide_eq_true rfl) (ob_callD (args := [_]) rfl .direct hb24 (fun a w s fs gs hf hg => by obtain rfl := hf.unnil; obtain rfl := hg.unnil; exact c_graph_Right k _ _ e_x1 _ _ _ (s.arg (.tmp rfl)))) fun a10 w10 s10 => ?_; clear s9
  refine seq_op s10 rfl rfl (of_decide_eq_true rfl) (ob_not rfl (.tmp rfl)) fun a11 w11 s11 => ?_; clear s10
  refine seq_op s11 rfl rfl (of_decide_eq_true rfl) (ob_move rfl (.tmp rfl)) fun a12 w12 s12 => ?_; clear s11
  refine seq_opg s12 rfl rfl rfl rfl (of_decide_eq_true rfl) (fun hb => ob_load rfl tk44 (.tmp rfl) (.head _) (LG.refl _ _)) fun a13 w13 s13 => ?_; clear s12
  obtain ⟨x2, e_x2, h2⟩ := bind_some h1; clear h1
  refine seq_opg s13 rfl rfl rfl rfl (of_decide_eq_true rfl) (fun hb => (Ob.uncond (t := 17) hb rfl (ob_callD (args := [_]) rfl .direct hb91 (fun a w s fs gs hf hg => by obtain rfl := hf.unnil; obtain rfl := hg.unnil; exact c_frame_Right k _ _ (ite_t hb e_x2) _ _ _ (s.arg (.tmp rfl)))))) fun a14 w14 s14 => ?_; clear s13
  refine seq_opg s14 rfl rfl rfl rfl (of_decide_eq_true rfl) (fun hb => (Ob.uncond (t := 18) hb rfl (ob_not rfl (.tmp rfl)))) fun a15 w15 s15 => ?_; clear s14
  refine seq_op s15 rfl rfl (of_decide_eq_true rfl) (ob_or2 rfl (.tmp rfl) opd_bool (.tmp rfl)) fun a16 w16 s16 => ?_; clear s15
  refine wpList_nil ?_
  refine then_normal ?_
  refine hK3 _ _ ?_
  have s17 := s16.sub (.cons (t := 0) rfl (.cons (t := 4) rfl (.cons (t := 5) rfl (.cons (t := 20) rfl .nil)))); clear s16
  refine cond_split s17 (.tmp rfl) (fun hc1 => ?_) (fun hc1 => ?_)
  · replace h2 := ite_t hc1 h2
    have h3 := h2; clear h2
    refine wp_seq_k fun K4 hK4 => ?_
    refine wp_region_lit ?_
    refine seq_op s17 rfl rfl (of_decide_eq_true rfl) (ob_assign rfl opd_is) fun a18 w18 s18 => ?_; clear s17
    have s19 := St.adopt s18 (G := RowF (nilRow 5) 46 k_api_Node []) rfl (rowNilN _ _ _ _ _); clear s18
    refine seq_op s19 rfl rfl (of_decide_eq_true rfl) (ob_assign rfl (opd_int rfl)) fun a20 w20 s20 => ?_; clear s19
    refine wpList_nil ?_
    refine then_normal ?_
    refine hK4 _ _ ?_
    have s21 := s20.sub (.cons (t := 6) rfl (.cons (t := 7) rfl .nil)); clear s20
    have s22 := St.drop (A := [_]) s21; clear s21
    have s23 := St.drop (A := [_]) s22; clear s22
    refine wp_ret ?_
    obtain rfl := Option.some.inj h3
    exact leaveXD (D := []) (nilRow 5) s23 rfl (.inl rfl) rfl (.cons (.tmp rfl) (.cons (.tmp rfl) .nil)) rfl
  · replace h2 := ite_f hc1 h2
    have h4 := h2; clear h2
    refine wp_skip ?_
    refine then_normal ?_
    refine hK2 _ _ ?_
    have s24 := s17.sub (.cons (t := 0) rfl (.cons (t := 4) rfl (.cons (t := 5) rfl .nil))); clear s17
    refine wp_seq_k fun K5 hK5 => ?_
    refine wp_block ?_
    refine wp_seq_k fun K6 hK6 => ?_
    refine wp_region_lit ?_
    refine seq_op s24 rfl rfl (of_decide_eq_true rfl) (ob_move rfl (.tmp rfl)) fun a25 w25 s25 => ?_; clear s24
    refine seq_op s25 rfl rfl (of_decide_eq_true rfl) (ob_load rfl tk39 (.tmp rfl) (.tail _ (.head _)) (LG.refl _ _)) fun a26 w26 s26 => ?_; clear s25
    obtain ⟨x3, e_x3, h5⟩ := bind_some h4; clear h4
    refine seq_op s26 rfl rfl (of_decide_eq_true rfl) (ob_callD (args := [_, _]) rfl .direct hb48 (fun a w s fs gs hf hg => by obtain rfl := hf.unnil; obtain rfl := hg.unnil; exact c_graph_Find k _ _ _ e_x3 _ _ _ _ (s.arg (.tmp rfl)) (s.arg (.tmp rfl)))) fun a27 w27 s27 => ?_; clear s26
    refine seq_op s27 rfl rfl (of_decide_eq_true rfl) (ob_geq rfl (.tmp rfl) (opd_int rfl)) fun a28 w28 s28 => ?_; clear s27
    refine seq_op s28 rfl rfl (of_decide_eq_true rfl) (ob_assign rfl (.tmp rfl)) fun a29 w29 s29 => ?_; clear s28
    refine wpList_nil ?_
    refine then_normal ?_
    refine hK6 _ _ ?_
    have s30 := s29.sub (.cons (t := 0) rfl (.cons (t := 4) rfl (.cons (t := 5) rfl (.cons (t := 21) rfl .nil)))); clear s29
    refine cond_split s30 (.tmp rfl) (fun hc2 => ?_) (fun hc2 => ?_)
    · replace h5 := ite_t hc2 h5
      have h6 := h5; clear h5
      refine wp_seq_k fun K7 hK7 => ?_
      refine wp_region_lit ?_
      refine seq_op s30 rfl rfl (of_decide_eq_true rfl) (ob_assign rfl opd_is) fun a31 w31 s31 => ?_; clear s30
      have s32 := St.adopt s31 (G := RowF (nilRow 6) 46 k_api_Node []) rfl (rowNilN _ _ _ _ _); clear s31
      refine seq_op s32 rfl rfl (of_decide_eq_true rfl) (ob_assign rfl (opd_int rfl)) fun a33 w33 s33 => ?_; clear s32
      refine wpList_nil ?_
      refine then_normal ?_
      refine hK7 _ _ ?_
      have s34 := s33.sub (.cons (t := 6) rfl (.cons (t := 7) rfl .nil)); clear s33
      have s35 := St.drop (A := [_]) s34; clear s34
      have s36 := St.drop (A := [_]) s35; clear s35
      refine wp_ret ?_
      obtain rfl := Option.some.inj h6
      exact leaveXD (D := []) (nilRow 6) s36 rfl (.inl rfl) rfl (.cons (.tmp rfl) (.cons (.tmp rfl) .nil)) rfl
    · replace h5 := ite_f hc2 h5
      have h7 := h5; clear h5
      refine wp_seq_k fun K8 hK8 => ?_
      refine wp_region_lit ?_
      refine seq_op s30 rfl rfl (of_decide_eq_true rfl) (ob_move rfl (.tmp rfl)) fun a37 w37 s37 => ?_; clear s30
      refine seq_op s37 rfl rfl (of_decide_eq_true rfl) (ob_lens rfl Try.underlying22 (.tmp rfl)) fun a38 w38 s38 => ?_; clear s37
      refine seq_op s38 rfl rfl (of_decide_eq_true rfl) (ob_eql rfl (.tmp rfl) (opd_int rfl)) fun a39 w39 s39 => ?_; clear s38
      refine seq_op s39 rfl rfl (of_decide_eq_true rfl) (ob_assign rfl (.tmp rfl)) fun a40 w40 s40 => ?_; clear s39
      refine wpList_nil ?_
      refine then_normal ?_
      refine hK8 _ _ ?_
      have s41 := s40.sub (.cons (t := 0) rfl (.cons (t := 4) rfl (.cons (t := 5) rfl (.cons (t := 26) rfl .nil)))); clear s40
      refine cond_split s41 (.tmp rfl) (fun hc3 => ?_) (fun hc3 => ?_)
      · replace h7 := ite_t hc3 h7
        have h8 := h7; clear h7
        refine wp_seq_k fun K9 hK9 => ?_
        refine wp_region_lit ?_
        refine seq_op s41 rfl rfl (of_decide_eq_true rfl) (ob_assign rfl opd_is) fun a42 w42 s42 => ?_; clear s41
        have s43 := St.adopt s42 (G := RowF (nilRow 7) 46 k_api_Node []) rfl (rowNilN _ _ _ _ _); clear s42
        refine seq_op s43 rfl rfl (of_decide_eq_true rfl) (ob_assign rfl (opd_int rfl)) fun a44 w44 s44 => ?_; clear s43
        refine wpList_nil ?_
        refine then_normal ?_
        refine hK9 _ _ ?_
        have s45 := s44.sub (.cons (t := 6) rfl (.cons (t := 7) rfl .nil)); clear s44
        have s46 := St.drop (A := [_]) s45; clear s45
        have s47 := St.drop (A := [_]) s46; clear s46
        refine wp_ret ?_
        obtain rfl := Option.some.inj h8
        exact leaveXD (D := []) (nilRow 7) s47 rfl (.inl rfl) rfl (.cons (.tmp rfl) (.cons (.tmp rfl) .nil)) rfl
      · replace h7 := ite_f hc3 h7
        have h9 := h7; clear h7
        refine wp_skip ?_
        refine in_normal ?_
        refine then_normal ?_
        refine hK5 _ _ ?_
        have s48 := s41.sub (.cons (t := 0) rfl (.cons (t := 4) rfl (.cons (t := 5) rfl .nil))); clear s41
        refine wp_seq_k fun K10 hK10 => ?_
        refine wp_region_lit ?_
        refine seq_op s48 rfl rfl (of_decide_eq_true rfl) (ob_move rfl (.tmp rfl)) fun a49 w49 s49 => ?_; clear s48
        refine seq_op s49 rfl rfl (of_decide_eq_true rfl) (ob_fieldAddr (off' := 2) rfl Try.underlying44 rfl sz40 (by decide) (.tmp rfl) rfl) fun a50 w50 s50 => ?_; clear s49
        refine seq_op s50 rfl rfl (of_decide_eq_true rfl) (ob_load rfl tk40 (.tmp rfl) (.head _) (lg_api_Op_Parents p3)) fun a51 w51 s51 => ?_; clear s50
        obtain ⟨x4, e_x4, h10⟩ := bind_some h9; clear h9
        refine seq_opx (B' := (fun v1 : Value => [RowF v1 3 (kint .i64) x4.1, BF b2 44 k_api_Op p3, BF b1 39 (karr 32 (kint .u8)) p2])) s51 rfl rfl (of_decide_eq_true rfl) (ob_callL (args := [_, _]) (L := []) rfl .direct hb92 (List.Perm.refl _) (fun a w s fs gs hf hg => by obtain rfl := hf.unnil; obtain rfl := hg.unnil; exact c_graph_past k _ _ _ e_x4 _ _ _ _ (s.arg (.tmp rfl)) (s.arg (.tmp rfl))) (by exact fun _ => rfl)) fun v1 a52 w52 s52 => ?_; clear s51
        refine seq_op s52 rfl rfl (of_decide_eq_true rfl) (ob_move rfl (.tmp rfl)) fun a53 w53 s53 => ?_; clear s52
        refine seq_op s53 rfl rfl (of_decide_eq_true rfl) (ob_extract rfl (.tmp rfl) rfl) fun a54 w54 s54 => ?_; clear s53
        refine seq_op s54 rfl rfl (of_decide_eq_true rfl) (ob_extract rfl (.tmp rfl) rfl) fun a55 w55 s55 => ?_; clear s54
        refine seq_op s55 rfl rfl (of_decide_eq_true rfl) (ob_assign rfl (.tmp rfl)) fun a56 w56 s56 => ?_; clear s55
        refine seq_op s56 rfl rfl (of_decide_eq_true rfl) (ob_assign rfl (.tmp rfl)) fun a57 w57 s57 => ?_; clear s56
        refine wpList_nil ?_
        refine then_normal ?_
        refine hK10 _ _ ?_
        have s58 := s57.sub (.cons (t := 0) rfl (.cons (t := 4) rfl (.cons (t := 5) rfl (.cons (t := 8) rfl (.cons (t := 9) rfl .nil))))); clear s57
        refine wp_seq_k fun K11 hK11 => ?_
        refine wp_block ?_
        refine wp_seq_k fun K12 hK12 => ?_
        refine wp_region_lit ?_
        refine seq_op s58 rfl rfl (of_decide_eq_true rfl) (ob_move rfl (.tmp rfl)) fun a59 w59 s59 => ?_; clear s58
        refine seq_op s59 rfl rfl (of_decide_eq_true rfl) (ob_neq rfl (.tmp rfl) (opd_int rfl)) fun a60 w60 s60 => ?_; clear s59
        refine seq_op s60 rfl rfl (of_decide_eq_true rfl) (ob_assign rfl (.tmp rfl)) fun a61 w61 s61 => ?_; clear s60
        refine wpList_nil ?_
        refine then_normal ?_
        refine hK12 _ _ ?_
        have s62 := s61.sub (.cons (t := 0) rfl (.cons (t := 4) rfl (.cons (t := 5) rfl (.cons (t := 8) rfl (.cons (t := 9) rfl (.cons (t := 37) rfl .nil)))))); clear s61
        refine cond_split s62 (.tmp rfl) (fun hc4 => ?_) (fun hc4 => ?_)
        · replace h10 := ite_t hc4 h10
          have h11 := h10; clear h10
          refine wp_seq_k fun K13 hK13 => ?_
          refine wp_region_lit ?_
          refine seq_op s62 rfl rfl (of_decide_eq_true rfl) (ob_move rfl (.tmp rfl)) fun a63 w63 s63 => ?_; clear s62
          refine seq_op s63 rfl rfl (of_decide_eq_true rfl) (ob_assign rfl opd_is) fun a64 w64 s64 => ?_; clear s63
          have s65 := St.adopt s64 (G := RowF (nilRow 8) 46 k_api_Node []) rfl (rowNilN _ _ _ _ _); clear s64
          refine seq_op s65 rfl rfl (of_decide_eq_true rfl) (ob_assign rfl (.tmp rfl)) fun a66 w66 s66 => ?_; clear s65
          refine wpList_nil ?_
          refine then_normal ?_
          refine hK13 _ _ ?_
          have s67 := s66.sub (.cons (t := 6) rfl (.cons (t := 7) rfl .nil)); clear s66
          have s68 := St.drop (A := [_]) s67; clear s67
          have s69 := St.drop (A := [_]) s68; clear s68
          have s70 := St.drop (A := [_]) s69; clear s69
          refine wp_ret ?_
          obtain rfl := Option.some.inj h11
          exact leaveXD (D := []) (nilRow 8) s70 rfl (.inl rfl) rfl (.cons (.tmp rfl) (.cons (.tmp rfl) .nil)) rfl
        · replace h10 := ite_f hc4 h10
          have h12 := h10; clear h10
          refine wp_seq_k fun K14 hK14 => ?_
          refine wp_region_lit ?_
          refine seq_op s62 rfl rfl (of_decide_eq_true rfl) (ob_move rfl (.tmp rfl)) fun a71 w71 s71 => ?_; clear s62
          refine seq_op s71 rfl rfl (of_decide_eq_true rfl) (ob_load rfl tk44 (.tmp rfl) (.tail _ (.head _)) (LG.refl _ _)) fun a72 w72 s72 => ?_; clear s71
          refine seq_op s72 rfl rfl (of_decide_eq_true rfl) (ob_move rfl (.tmp rfl)) fun a73 w73 s73 => ?_; clear s72
          obtain ⟨x5, e_x5, h13⟩ := bind_some h12; clear h12
          refine seq_op s73 rfl rfl (of_decide_eq_true rfl) ((ob_lendG (L := [_]) (List.Perm.refl _) (.cons (t := 44) rfl (lendRow (.head _)) .nil) (Flat.res1 (Flat.V KFlat.bool)) (fun _ => ob_callD (args := [_, _, _]) rfl .direct hb93 (fun a w s fs gs hf hg => by obtain rfl := hf.unnil; obtain rfl := hg.unnil; exact c_graph_turn k _ _ _ _ e_x5 _ _ _ _ _ (s.arg (.tmp rfl)) (s.arg (.tmp rfl)) (s.arg (.tmp rfl)))))) fun a74 w74 s74 => ?_; clear s73
          refine seq_op s74 rfl rfl (of_decide_eq_true rfl) (ob_not rfl (.tmp rfl)) fun a75 w75 s75 => ?_; clear s74
          refine seq_op s75 rfl rfl (of_decide_eq_true rfl) (ob_assign rfl (.tmp rfl)) fun a76 w76 s76 => ?_; clear s75
          refine wpList_nil ?_
          refine then_normal ?_
          refine hK14 _ _ ?_
          have s77 := s76.sub (.cons (t := 0) rfl (.cons (t := 4) rfl (.cons (t := 5) rfl (.cons (t := 8) rfl (.cons (t := 41) rfl .nil))))); clear s76
          refine cond_split s77 (.tmp rfl) (fun hc5 => ?_) (fun hc5 => ?_)
          · replace h13 := ite_t hc5 h13
            have h14 := h13; clear h13
            refine wp_seq_k fun K15 hK15 => ?_
            refine wp_region_lit ?_
            refine seq_op s77 rfl rfl (of_decide_eq_true rfl) (ob_assign rfl opd_is) fun a78 w78 s78 => ?_; clear s77
            have s79 := St.adopt s78 (G := RowF (nilRow 9) 46 k_api_Node []) rfl (rowNilN _ _ _ _ _); clear s78
            refine seq_op s79 rfl rfl (of_decide_eq_true rfl) (ob_assign rfl (opd_int rfl)) fun a80 w80 s80 => ?_; clear s79
            refine wpList_nil ?_
            refine then_normal ?_
            refine hK15 _ _ ?_
            have s81 := s80.sub (.cons (t := 6) rfl (.cons (t := 7) rfl .nil)); clear s80
            have s82 := St.drop (A := [_]) s81; clear s81
            have s83 := St.drop (A := [_]) s82; clear s82
            have s84 := St.drop (A := [_]) s83; clear s83
            refine wp_ret ?_
            obtain rfl := Option.some.inj h14
            exact leaveXD (D := []) (nilRow 9) s84 rfl (.inl rfl) rfl (.cons (.tmp rfl) (.cons (.tmp rfl) .nil)) rfl
          · replace h13 := ite_f hc5 h13
            have h15 := h13; clear h13
            refine wp_skip ?_
            refine in_normal ?_
            refine then_normal ?_
            refine hK11 _ _ ?_
            have s85 := s77.sub (.cons (t := 0) rfl (.cons (t := 4) rfl (.cons (t := 5) rfl (.cons (t := 8) rfl .nil)))); clear s77
            refine wp_seq_k fun K16 hK16 => ?_
            refine wp_region_lit ?_
            refine seq_op s85 rfl rfl (of_decide_eq_true rfl) (ob_assign rfl opd_is) fun a86 w86 s86 => ?_; clear s85
            have s87 := St.adopt s86 (G := RowF (nilRow 10) 46 k_api_Node []) rfl (rowNilN _ _ _ _ _); clear s86
            refine wpList_nil ?_
            refine then_normal ?_
            refine hK16 _ _ ?_
            have s88 := s87.sub (.cons (t := 0) rfl (.cons (t := 4) rfl (.cons (t := 5) rfl (.cons (t := 8) rfl (.cons (t := 10) rfl .nil))))); clear s87
            refine wp_seq_k fun K17 hK17 => ?_
            refine wp_seq_k fun K18 hK18 => ?_
            refine wp_region_lit ?_
            refine seq_op s88 rfl rfl (of_decide_eq_true rfl) (ob_move rfl (.tmp rfl)) fun a89 w89 s89 => ?_; clear s88
            refine seq_op s89 rfl rfl (of_decide_eq_true rfl) (ob_lens rfl Try.underlying22 (.tmp rfl)) fun a90 w90 s90 => ?_; clear s89
            refine seq_op s90 rfl rfl (of_decide_eq_true rfl) (ob_move rfl (opd_int rfl)) fun a91 w91 s91 => ?_; clear s90
            refine wpList_nil ?_
            refine then_normal ?_
            refine hK18 _ _ ?_
            have s92 := s91.sub (.cons (t := 4) rfl (.cons (t := 5) rfl (.cons (t := 8) rfl (.cons (t := 10) rfl (.cons (t := 47) rfl (.cons (t := 48) rfl (.cons (t := 49) rfl .nil))))))); clear s91
            have hj1 : ∀ (y1 : (List api_Node)) (v2 : Value) (a : Act) (w : World), (graph_Add.j1 k p3 p2 x4) y1 = some r → St ⟨74, w0, ok, (idsOf [])⟩ [BF b1 39 (karr 32 (kint .u8)) p2, BF b2 44 k_api_Op p3, RowF v1 3 (kint .i64) x4.1, RowF v2 46 k_api_Node y1] [(4, (ptrB b1 0)), (5, (ptrB b2 0)), (8, (is v1)), (10, (is v2))] a w → K17 a w := by
              intro y1 v2 a93 w93 h16 s93
              unfold graph_Add.j1 at h16
              refine hK17 _ _ ?_
              refine wp_seq_k fun K19 hK19 => ?_
              have s94 := St.freezeAllM (A := [_, _]) s93 (ts := [8]) (.cons rfl .nil); clear s93
              obtain ⟨x6, e_x6, h17⟩ := bind_some h16; clear h16
              refine wp_goes (Fs := [(is v2), ((karr 32 (kint .u8)).V p2), (k_api_Op.V p3), (k_api_Op.V x6), ((ksl (kint .i64)).V x4.1), (k_api_Node.V (⟨p2, x6, x4.1⟩ : api_Node)), ((ksl k_api_Node).V ([(⟨p2, x6, x4.1⟩ : api_Node)] : (List api_Node)))]) (bits := [0, 0, 0, 4, 0, 30, 62, 127, 255, 511]) (m := 7) (todo := 0) mx s94 ?_; clear s94
              refine goes_last (by kernel_rfl) rfl (opsS_cons (.plain _ (Av.old (t := 10) rfl rfl Av.nil) rfl rfl (ob_move rfl (.tmp rfl))) (opsS_cons (.plain _ (Av.old (t := 4) rfl rfl Av.nil) rfl rfl (ob_load rfl tk39 (.tmp rfl) (.head _) (LG.refl _ _))) (opsS_cons (.plain _ (Av.old (t := 5) rfl rfl Av.nil) rfl rfl (ob_load rfl tk44 (.tmp rfl) (.tail _ (.head _)) (LG.refl _ _))) (opsS_cons (.plain _ (Av.new (j := 2) rfl rfl rfl Av.nil) rfl rfl (ob_callD (args := [_]) rfl .direct hb94 (fun a w s fs gs hf hg => by obtain rfl := hf.unnil; obtain rfl := hg.unnil; exact c_graph_clone k _ _ e_x6 _ _ _ (s.arg (.tmp rfl))))) (opsS_cons (.plain _ (Av.old (t := 8) rfl rfl Av.nil) rfl rfl (ob_move rfl (.tmp rfl))) (opsS_cons (.plain _ (Av.new (j := 1) rfl rfl rfl (Av.new (j := 3) rfl rfl rfl (Av.new (j := 4) rfl rfl rfl Av.nil))) rfl rfl (ob_mkStruct (K := k_api_Node) (X0 := (⟨(List.replicate 32 (0 : Int)), (⟨(0 : Int), (0 : Int), [], (0 : Int), [], (List.replicate 32 (0 : Int)), (List.replicate 32 (0 : Int)), [], []⟩ : api_Op), []⟩ : api_Node)) rfl Try.underlying46 zz46 rfl pl46 (Zr.iso (f := t_api_Node) (x := (⟨(List.replicate 32 (0 : Int)), (⟨(0 : Int), (0 : Int), [], (0 : Int), [], (List.replicate 32 (0 : Int)), (List.replicate 32 (0 : Int)), [], []⟩ : api_Op), []⟩ : api_Node)) (Zr.pair (Zr.arr 32 (Zr.int .u8)) (Zr.pair (Zr.iso (f := t_api_Op) (x := (⟨(0 : Int), (0 : Int), [], (0 : Int), [], (List.replicate 32 (0 : Int)), (List.replicate 32 (0 : Int)), [], []⟩ : api_Op)) (Zr.pair (Zr.int .i64) (Zr.pair (Zr.int .u32) (Zr.pair (Zr.sl _) (Zr.pair (Zr.int .i64) (Zr.pair (Zr.sl _) (Zr.pair (Zr.arr 32 (Zr.int .u8)) (Zr.pair (Zr.arr 32 (Zr.int .u8)) (Zr.pair Zr.str (Zr.pair (Zr.sl _) Zr.nil)))))))))) (Zr.pair (Zr.sl _) Zr.nil)))) (.cons (.tmp rfl) rfl (ls_api_Node_Id (⟨(List.replicate 32 (0 : Int)), (⟨(0 : Int), (0 : Int), [], (0 : Int), [], (List.replicate 32 (0 : Int)), (List.replicate 32 (0 : Int)), [], []⟩ : api_Op), []⟩ : api_Node) p2) (.cons (.tmp rfl) rfl (ls_api_Node_Op (⟨p2, (⟨(0 : Int), (0 : Int), [], (0 : Int), [], (List.replicate 32 (0 : Int)), (List.replicate 32 (0 : Int)), [], []⟩ : api_Op), []⟩ : api_Node) x6) (.cons (.tmp rfl) rfl (ls_api_Node_Past (⟨p2, x6, []⟩ : api_Node) x4.1) (.nil _)))))) (opsS_cons (.plain _ (Av.new (j := 5) rfl rfl rfl Av.nil) rfl rfl (ob_mkSlice (k := k_api_Node) (xs := ([(⟨p2, x6, x4.1⟩ : api_Node)] : (List api_Node))) rfl Try.underlying22 zz46 sz46 (Zr.iso (f := t_api_Node) (x := (⟨(List.replicate 32 (0 : Int)), (⟨(0 : Int), (0 : Int), [], (0 : Int), [], (List.replicate 32 (0 : Int)), (List.replicate 32 (0 : Int)), [], []⟩ : api_Op), []⟩ : api_Node)) (Zr.pair (Zr.arr 32 (Zr.int .u8)) (Zr.pair (Zr.iso (f := t_api_Op) (x := (⟨(0 : Int), (0 : Int), [], (0 : Int), [], (List.replicate 32 (0 : Int)), (List.replicate 32 (0 : Int)), [], []⟩ : api_Op)) (Zr.pair (Zr.int .i64) (Zr.pair (Zr.int .u32) (Zr.pair (Zr.sl _) (Zr.pair (Zr.int .i64) (Zr.pair (Zr.sl _) (Zr.pair (Zr.arr 32 (Zr.int .u8)) (Zr.pair (Zr.arr 32 (Zr.int .u8)) (Zr.pair Zr.str (Zr.pair (Zr.sl _) Zr.nil)))))))))) (Zr.pair (Zr.sl _) Zr.nil)))) (by decide) (by decide) (.cons (.tmp rfl) rfl (LS.arr' (i := 0) (ys := ([(⟨p2, x6, x4.1⟩ : api_Node)] : (List api_Node))) (by simp) (by rfl)) (.nil _)))) opsS_nil))))))) (out_new (i := 0) (by decide) rfl rfl (out_new (i := 6) (by decide) rfl rfl out_nil)) fun a95 w95 s95 => ?_
              obtain ⟨g1, h18⟩ := guard_some h17; clear h17
              refine seq_opx (B' := (fun v3 : Value => [BF b1 39 (karr 32 (kint .u8)) p2, BF b2 44 k_api_Op p3, RowF v3 46 k_api_Node (y1 ++ ([(⟨p2, x6, x4.1⟩ : api_Node)] : (List api_Node)))])) s95 rfl rfl (of_decide_eq_true rfl) (ob_appendL2 (A := [_, _]) rfl Try.underlying22 ap46 (Zr.iso (f := t_api_Node) (x := (⟨(List.replicate 32 (0 : Int)), (⟨(0 : Int), (0 : Int), [], (0 : Int), [], (List.replicate 32 (0 : Int)), (List.replicate 32 (0 : Int)), [], []⟩ : api_Op), []⟩ : api_Node)) (Zr.pair (Zr.arr 32 (Zr.int .u8)) (Zr.pair (Zr.iso (f := t_api_Op) (x := (⟨(0 : Int), (0 : Int), [], (0 : Int), [], (List.replicate 32 (0 : Int)), (List.replicate 32 (0 : Int)), [], []⟩ : api_Op)) (Zr.pair (Zr.int .i64) (Zr.pair (Zr.int .u32) (Zr.pair (Zr.sl _) (Zr.pair (Zr.int .i64) (Zr.pair (Zr.sl _) (Zr.pair (Zr.arr 32 (Zr.int .u8)) (Zr.pair (Zr.arr 32 (Zr.int .u8)) (Zr.pair Zr.str (Zr.pair (Zr.sl _) Zr.nil)))))))))) (Zr.pair (Zr.sl _) Zr.nil)))) (by decide) (.tmp rfl) (.tmp rfl) rfl g1) fun v3 a96 w96 s96 => ?_; clear s95
              refine seq_op s96 rfl rfl (of_decide_eq_true rfl) (ob_assign rfl (.tmp rfl)) fun a97 w97 s97 => ?_; clear s96
              refine seq_op s97 rfl rfl (of_decide_eq_true rfl) (ob_assign rfl (opd_int rfl)) fun a98 w98 s98 => ?_; clear s97
              refine wpList_nil ?_
              refine then_normal ?_
              refine hK19 _ _ ?_
              have s99 := s98.sub (.cons (t := 6) rfl (.cons (t := 7) rfl .nil)); clear s98
              have s100 := St.drop (A := []) s99; clear s99
              have s101 := St.drop (A := []) s100; clear s100
              refine wp_ret ?_
              obtain rfl := Option.some.inj h18
              exact leaveXD (D := []) v3 s101 rfl (.inl rfl) rfl (.cons (.tmp rfl) (.cons (.tmp rfl) .nil)) rfl
            refine wp_block ?_
            have s102 := s92.perm (toFront [_, _, _] (toFront [_, _] (toFront [_] (toFront [] (List.Perm.refl _))))); clear s92
            refine wp_loop_fuel (fun m (q : Int × (List api_Node)) => graph_Add.l1 k p1 p3 p2 x4 m q.1 q.2) r (fun _ => rfl) (fun q a w => ∃ (v4 : Value), St ⟨74, w0, ok, (idsOf [])⟩ [BF b1 39 (karr 32 (kint .u8)) p2, BF b2 44 k_api_Op p3, RowF v1 3 (kint .i64) x4.1, RowF v4 46 k_api_Node q.2] [(4, (ptrB b1 0)), (5, (ptrB b2 0)), (8, (is v1)), (10, (is v4)), (47, ((ksl k_api_Node).V p1)), (48, ((kint .i64).V (p1.length : Int))), (49, ((kint .i64).V q.1))] a w) ?_ k ((0 : Int), ([] : (List api_Node))) _ _ h15 ⟨(nilRow 10), (s102.sub (.cons rfl (.cons rfl (.cons rfl (.cons rfl (.cons rfl (.cons rfl (.cons rfl .nil))))))))⟩
            rintro n1 ⟨y2, y3⟩ a103 w103 h19 ⟨v4, s103⟩ K20 hK20
            replace h19 : graph_Add.l1 k p1 p3 p2 x4 (n1 + 1) y2 y3 = some r := h19; rw [graph_Add.l1] at h19
            have h20 := h19; clear h19
            refine wp_seq_k fun K21 hK21 => ?_
            refine wp_region_lit ?_
            refine seq_op s103 rfl rfl (of_decide_eq_true rfl) (ob_lss rfl (.tmp rfl) (.tmp rfl)) fun a104 w104 s104 => ?_; clear s103
            refine wpList_nil ?_
            refine then_normal ?_
            refine hK21 _ _ ?_
            have s105 := s104.sub (.cons (t := 4) rfl (.cons (t := 5) rfl (.cons (t := 8) rfl (.cons (t := 10) rfl (.cons (t := 47) rfl (.cons (t := 48) rfl (.cons (t := 49) rfl (.cons (t := 50) rfl .nil)))))))); clear s104
            refine wp_seq_k fun K22 hK22 => ?_
            refine cond_split s105 (.tmp rfl) (fun hc6 => ?_) (fun hc6 => ?_)
            · replace h20 := ite_t hc6 h20
              have h21 := h20; clear h20
              refine wp_skip ?_
              refine then_normal ?_
              refine hK22 _ _ ?_
              have s106 := s105.sub (.cons (t := 4) rfl (.cons (t := 5) rfl (.cons (t := 8) rfl (.cons (t := 10) rfl (.cons (t := 47) rfl (.cons (t := 48) rfl (.cons (t := 49) rfl .nil))))))); clear s105
              refine wp_seq_k fun K23 hK23 => ?_
              refine wp_block ?_
              refine wp_seq_k fun K24 hK24 => ?_
              refine wp_region_lit ?_
              obtain ⟨x7, e_x7, h22⟩ := bind_some h21; clear h21
              refine seq_op s106 rfl rfl (of_decide_eq_true rfl) (ob_indexAddrs rfl Try.underlying22 sz46 (.tmp rfl) (.tmp rfl) e_x7) fun a107 w107 s107 => ?_; clear s106
              refine seq_op s107 rfl rfl (of_decide_eq_true rfl) (ob_loadr rfl tk46 (.tmp rfl)) fun a108 w108 s108 => ?_; clear s107
              refine seq_opx (B' := (fun b3 : Nat => [BF b3 46 k_api_Node (⟨(List.replicate 32 (0 : Int)), (⟨(0 : Int), (0 : Int), [], (0 : Int), [], (List.replicate 32 (0 : Int)), (List.replicate 32 (0 : Int)), [], []⟩ : api_Op), []⟩ : api_Node), BF b1 39 (karr 32 (kint .u8)) p2, BF b2 44 k_api_Op p3, RowF v1 3 (kint .i64) x4.1, RowF v4 46 k_api_Node y3])) s108 rfl rfl (of_decide_eq_true rfl) (ob_new (k := k_api_Node) rfl zz46 (Zr.iso (f := t_api_Node) (x := (⟨(List.replicate 32 (0 : Int)), (⟨(0 : Int), (0 : Int), [], (0 : Int), [], (List.replicate 32 (0 : Int)), (List.replicate 32 (0 : Int)), [], []⟩ : api_Op), []⟩ : api_Node)) (Zr.pair (Zr.arr 32 (Zr.int .u8)) (Zr.pair (Zr.iso (f := t_api_Op) (x := (⟨(0 : Int), (0 : Int), [], (0 : Int), [], (List.replicate 32 (0 : Int)), (List.replicate 32 (0 : Int)), [], []⟩ : api_Op)) (Zr.pair (Zr.int .i64) (Zr.pair (Zr.int .u32) (Zr.pair (Zr.sl _) (Zr.pair (Zr.int .i64) (Zr.pair (Zr.sl _) (Zr.pair (Zr.arr 32 (Zr.int .u8)) (Zr.pair (Zr.arr 32 (Zr.int .u8)) (Zr.pair Zr.str (Zr.pair (Zr.sl _) Zr.nil)))))))))) (Zr.pair (Zr.sl _) Zr.nil))))) fun b3 a109 w109 s109 => ?_; clear s108
              refine seq_opx0 (B' := (fun _ : Unit => [BF b3 46 k_api_Node x7, BF b1 39 (karr 32 (kint .u8)) p2, BF b2 44 k_api_Op p3, RowF v1 3 (kint .i64) x4.1, RowF v4 46 k_api_Node y3])) s109 rfl rfl (ob_store (A := []) rfl tk46 (.tmp rfl) (.tmp rfl) rfl (LS.refl _ _ _) rfl) fun _ a110 w110 s110 => ?_; clear s109
              refine wpList_nil ?_
              refine then_normal ?_
              refine hK24 _ _ ?_
              have s111 := s110.sub (.cons (t := 4) rfl (.cons (t := 5) rfl (.cons (t := 8) rfl (.cons (t := 10) rfl (.cons (t := 12) rfl (.cons (t := 47) rfl (.cons (t := 48) rfl (.cons (t := 49) rfl .nil)))))))); clear s110
              obtain ⟨x8, e_x8, h23⟩ := bind_some h22; clear h22
              obtain ⟨x9, e_x9, h24⟩ := bind_some h23; clear h23
              refine wp_goes (Fs := [(is v4), (ptrB b3 0), ((karr 32 (kint .u8)).V x7.Id), (ptrB b3 32), (k_api_Op.V x7.Op), (k_api_Op.V x8), (ptrB b3 103), ((ksl (kint .i64)).V x7.Past), ((ksl (kint .i64)).V x9), (k_api_Node.V (⟨x7.Id, x8, x9⟩ : api_Node)), ((ksl k_api_Node).V ([(⟨x7.Id, x8, x9⟩ : api_Node)] : (List api_Node)))]) (bits := [0, 0, 2, 0, 8, 24, 0, 64, 248, 510, 1022, 2047, 4095]) (m := 11) (todo := 0) mx s111 ?_; clear s111
              refine goes_last (by kernel_rfl) rfl (opsS_cons (.plain _ (Av.old (t := 10) rfl rfl Av.nil) rfl rfl (ob_move rfl (.tmp rfl))) (opsS_cons (.plain _ (Av.old (t := 12) rfl rfl Av.nil) rfl rfl (ob_fieldAddr (off' := 0) rfl Try.underlying46 rfl sz39 (by decide) (.tmp rfl) rfl)) (opsS_cons (.plain _ (Av.new (j := 1) rfl rfl rfl Av.nil) rfl rfl (ob_load rfl tk39 (.tmp rfl) (.head _) (lg_api_Node_Id x7))) (opsS_cons (.plain _ (Av.old (t := 12) rfl rfl Av.nil) rfl rfl (ob_fieldAddr (off' := 32) rfl Try.underlying46 rfl sz44 (by decide) (.tmp rfl) rfl)) (opsS_cons (.plain _ (Av.new (j := 3) rfl rfl rfl Av.nil) rfl rfl (ob_load rfl tk44 (.tmp rfl) (.head _) (lg_api_Node_Op x7))) (opsS_cons (.plain _ (Av.new (j := 4) rfl rfl rfl Av.nil) rfl rfl (ob_callD (args := [_]) rfl .direct hb94 (fun a w s fs gs hf hg => by obtain rfl := hf.unnil; obtain rfl := hg.unnil; exact c_graph_clone k _ _ e_x8 _ _ _ (s.arg (.tmp rfl))))) (opsS_cons (.plain _ (Av.old (t := 12) rfl rfl Av.nil) rfl rfl (ob_fieldAddr (off' := 103) rfl Try.underlying46 rfl sz41 (by decide) (.tmp rfl) rfl)) (opsS_cons (.plain _ (Av.new (j := 6) rfl rfl rfl Av.nil) rfl rfl (ob_load rfl tk41 (.tmp rfl) (.head _) (lg_api_Node_Past x7))) (opsS_cons (.plain _ (Av.new (j := 7) rfl rfl rfl Av.nil) rfl rfl ((ObF.ob (ob_callF (F := resFact [((ksl (kint .i64)).V x9)]) (args := [_]) rfl .direct hb80 (fun a w s fs gs hf hg => by obtain rfl := hf.unnil; obtain rfl := hg.unnil; exact c_slices_Clone_int_int k _ _ e_x9 _ _ _ (s.arg (.tmp rfl))) (by exact fun g => ResF.all (.row (.head _) (KFlat.int _) .nil)))))) (opsS_cons (.plain _ (Av.new (j := 2) rfl rfl rfl (Av.new (j := 5) rfl rfl rfl (Av.new (j := 8) rfl rfl rfl Av.nil))) rfl rfl (ob_mkStruct (K := k_api_Node) (X0 := (⟨(List.replicate 32 (0 : Int)), (⟨(0 : Int), (0 : Int), [], (0 : Int), [], (List.replicate 32 (0 : Int)), (List.replicate 32 (0 : Int)), [], []⟩ : api_Op), []⟩ : api_Node)) rfl Try.underlying46 zz46 rfl pl46 (Zr.iso (f := t_api_Node) (x := (⟨(List.replicate 32 (0 : Int)), (⟨(0 : Int), (0 : Int), [], (0 : Int), [], (List.replicate 32 (0 : Int)), (List.replicate 32 (0 : Int)), [], []⟩ : api_Op), []⟩ : api_Node)) (Zr.pair (Zr.arr 32 (Zr.int .u8)) (Zr.pair (Zr.iso (f := t_api_Op) (x := (⟨(0 : Int), (0 : Int), [], (0 : Int), [], (List.replicate 32 (0 : Int)), (List.replicate 32 (0 : Int)), [], []⟩ : api_Op)) (Zr.pair (Zr.int .i64) (Zr.pair (Zr.int .u32) (Zr.pair (Zr.sl _) (Zr.pair (Zr.int .i64) (Zr.pair (Zr.sl _) (Zr.pair (Zr.arr 32 (Zr.int .u8)) (Zr.pair (Zr.arr 32 (Zr.int .u8)) (Zr.pair Zr.str (Zr.pair (Zr.sl _) Zr.nil)))))))))) (Zr.pair (Zr.sl _) Zr.nil)))) (.cons (.tmp rfl) rfl (ls_api_Node_Id (⟨(List.replicate 32 (0 : Int)), (⟨(0 : Int), (0 : Int), [], (0 : Int), [], (List.replicate 32 (0 : Int)), (List.replicate 32 (0 : Int)), [], []⟩ : api_Op), []⟩ : api_Node) x7.Id) (.cons (.tmp rfl) rfl (ls_api_Node_Op (⟨x7.Id, (⟨(0 : Int), (0 : Int), [], (0 : Int), [], (List.replicate 32 (0 : Int)), (List.replicate 32 (0 : Int)), [], []⟩ : api_Op), []⟩ : api_Node) x8) (.cons (.tmp rfl) rfl (ls_api_Node_Past (⟨x7.Id, x8, []⟩ : api_Node) x9) (.nil _)))))) (opsS_cons (.plain _ (Av.new (j := 9) rfl rfl rfl Av.nil) rfl rfl (ob_mkSlice (k := k_api_Node) (xs := ([(⟨x7.Id, x8, x9⟩ : api_Node)] : (List api_Node))) rfl Try.underlying22 zz46 sz46 (Zr.iso (f := t_api_Node) (x := (⟨(List.replicate 32 (0 : Int)), (⟨(0 : Int), (0 : Int), [], (0 : Int), [], (List.replicate 32 (0 : Int)), (List.replicate 32 (0 : Int)), [], []⟩ : api_Op), []⟩ : api_Node)) (Zr.pair (Zr.arr 32 (Zr.int .u8)) (Zr.pair (Zr.iso (f := t_api_Op) (x := (⟨(0 : Int), (0 : Int), [], (0 : Int), [], (List.replicate 32 (0 : Int)), (List.replicate 32 (0 : Int)), [], []⟩ : api_Op)) (Zr.pair (Zr.int .i64) (Zr.pair (Zr.int .u32) (Zr.pair (Zr.sl _) (Zr.pair (Zr.int .i64) (Zr.pair (Zr.sl _) (Zr.pair (Zr.arr 32 (Zr.int .u8)) (Zr.pair (Zr.arr 32 (Zr.int .u8)) (Zr.pair Zr.str (Zr.pair (Zr.sl _) Zr.nil)))))))))) (Zr.pair (Zr.sl _) Zr.nil)))) (by decide) (by decide) (.cons (.tmp rfl) rfl (LS.arr' (i := 0) (ys := ([(⟨x7.Id, x8, x9⟩ : api_Node)] : (List api_Node))) (by simp) (by rfl)) (.nil _)))) opsS_nil))))))))))) (out_old (t := 4) rfl rfl (out_old (t := 5) rfl rfl (out_old (t := 8) rfl rfl (out_old (t := 10) rfl rfl (out_old (t := 47) rfl rfl (out_old (t := 48) rfl rfl (out_old (t := 49) rfl rfl (out_new (i := 0) (by decide) rfl rfl (out_new (i := 10) (by decide) rfl rfl out_nil))))))))) fun a112 w112 s112 => ?_
              obtain ⟨g2, h25⟩ := guard_some h24; clear h24
              refine seq_opx (B' := (fun v5 : Value => [BF b3 46 k_api_Node x7, BF b1 39 (karr 32 (kint .u8)) p2, BF b2 44 k_api_Op p3, RowF v1 3 (kint .i64) x4.1, RowF v5 46 k_api_Node (y3 ++ ([(⟨x7.Id, x8, x9⟩ : api_Node)] : (List api_Node)))])) s112 rfl rfl (of_decide_eq_true rfl) (ob_appendL2 (A := [_, _, _, _]) rfl Try.underlying22 ap46 (Zr.iso (f := t_api_Node) (x := (⟨(List.replicate 32 (0 : Int)), (⟨(0 : Int), (0 : Int), [], (0 : Int), [], (List.replicate 32 (0 : Int)), (List.replicate 32 (0 : Int)), [], []⟩ : api_Op), []⟩ : api_Node)) (Zr.pair (Zr.arr 32 (Zr.int .u8)) (Zr.pair (Zr.iso (f := t_api_Op) (x := (⟨(0 : Int), (0 : Int), [], (0 : Int), [], (List.replicate 32 (0 : Int)), (List.replicate 32 (0 : Int)), [], []⟩ : api_Op)) (Zr.pair (Zr.int .i64) (Zr.pair (Zr.int .u32) (Zr.pair (Zr.sl _) (Zr.pair (Zr.int .i64) (Zr.pair (Zr.sl _) (Zr.pair (Zr.arr 32 (Zr.int .u8)) (Zr.pair (Zr.arr 32 (Zr.int .u8)) (Zr.pair Zr.str (Zr.pair (Zr.sl _) Zr.nil)))))))))) (Zr.pair (Zr.sl _) Zr.nil)))) (by decide) (.tmp rfl) (.tmp rfl) rfl g2) fun v5 a113 w113 s113 => ?_; clear s112
              refine seq_op s113 rfl rfl (of_decide_eq_true rfl) (ob_assign rfl (.tmp rfl)) fun a114 w114 s114 => ?_; clear s113
              refine wpList_nil ?_
              refine in_normal ?_
              refine then_normal ?_
              refine hK23 _ _ ?_
              have s115 := s114.sub (.cons (t := 4) rfl (.cons (t := 5) rfl (.cons (t := 8) rfl (.cons (t := 10) rfl (.cons (t := 47) rfl (.cons (t := 48) rfl (.cons (t := 49) rfl .nil))))))); clear s114
              have s116 := St.drop (A := []) s115; clear s115
              refine wp_region_lit ?_
              refine seq_op s116 rfl rfl (of_decide_eq_true rfl) (ob_add rfl (.tmp rfl) (opd_int rfl)) fun a117 w117 s117 => ?_; clear s116
              refine seq_op s117 rfl rfl (of_decide_eq_true rfl) (ob_move rfl (.tmp rfl)) fun a118 w118 s118 => ?_; clear s117
              refine wpList_nil ?_
              refine then_normal ?_
              exact hK20 ((iadd .i64 y2 (1 : Int)), (y3 ++ ([(⟨x7.Id, x8, x9⟩ : api_Node)] : (List api_Node)))) _ _ h25 ⟨v5, (s118.sub (.cons rfl (.cons rfl (.cons rfl (.cons rfl (.cons rfl (.cons rfl (.cons rfl .nil))))))))⟩
            · replace h20 := ite_f hc6 h20
              have h26 := h20; clear h20
              refine wp_exit ?_
              refine (then_exit (then_exit (in_here ?_)))
              refine then_normal ?_
              exact hj1 y3 v4 _ _ h26 (s105.sub (.cons rfl (.cons rfl (.cons rfl (.cons rfl .nil)))))

/- 97 cabal/caballaw15.update -/
theorem c_caballaw15_update (k : Nat) (p1 : Int) (p2 : Int) (p3 : (List (List Int))) (r : api_Op) (h0 : caballaw15_update k p1 p2 p3 = some r) (ok : Ok) (w0 : World) (z0 : Value) (z1 : Value) (z2 : Value) (u0 : ((kint .i64).V p1).holds ok w0 z0) (u1 : ((kint .u32).V p2).holds ok w0 z1) (u2 : ((ksl (karr 32 (kint .u8))).V p3).holds ok w0 z2) :
    Gives Try.prog 97 [z0, z1, z2] ok w0 (resFact [k_api_Op.V r]) := by
  unfold caballaw15_update at h0
  refine enter (N := 12) Try.func97 rfl rfl (of_decide_eq_true rfl) (.cons u0 (.cons u1 (.cons u2 .nil))) fun a1 s1 => ?_
  refine wp_seq_k fun K1 hK1 => ?_
  refine wp_region_lit ?_
  refine seq_opx (B' := (fun b1 : Nat => [BF b1 44 k_api_Op (⟨(0 : Int), (0 : Int), [], (0 : Int), [], (List.replicate 32 (0 : Int)), (List.replicate 32 (0 : Int)), [], []⟩ : api_Op)])) s1 rfl rfl (of_decide_eq_true rfl) (ob_new (k := k_api_Op) rfl zz44 (Zr.iso (f := t_api_Op) (x := (⟨(0 : Int), (0 : Int), [], (0 : Int), [], (List.replicate 32 (0 : Int)), (List.replicate 32 (0 : Int)), [], []⟩ : api_Op)) (Zr.pair (Zr.int .i64) (Zr.pair (Zr.int .u32) (Zr.pair (Zr.sl _) (Zr.pair (Zr.int .i64) (Zr.pair (Zr.sl _) (Zr.pair (Zr.arr 32 (Zr.int .u8)) (Zr.pair (Zr.arr 32 (Zr.int .u8)) (Zr.pair Zr.str (Zr.pair (Zr.sl _) Zr.nil))))))))))) fun b1 a2 w2 s2 => ?_; clear s1
  refine wpList_nil ?_
  refine then_normal ?_
  refine hK1 _ _ ?_
  have s3 := s2.sub (.cons (t := 0) rfl (.cons (t := 1) rfl (.cons (t := 2) rfl (.cons (t := 6) rfl .nil)))); clear s2
  refine wp_seq_k fun K2 hK2 => ?_
  refine wp_region_lit ?_
  refine seq_op s3 rfl rfl (of_decide_eq_true rfl) (ob_move rfl (.tmp rfl)) fun a4 w4 s4 => ?_; clear s3
  refine seq_op s4 rfl rfl (of_decide_eq_true rfl) (ob_move rfl (.tmp rfl)) fun a5 w5 s5 => ?_; clear s4
  refine seq_op s5 rfl rfl (of_decide_eq_true rfl) (ob_move rfl (.tmp rfl)) fun a6 w6 s6 => ?_; clear s5
  obtain ⟨x1, e_x1, h1⟩ := bind_some h0; clear h0; replace e_x1 := Option.some.inj e_x1
  refine seq_op s6 rfl rfl (of_decide_eq_true rfl) (((ob_mkArr (k := (kint .u8)) rfl Try.underlying39 zz39 sz5 (Zr.arr 32 (Zr.int .u8)) (.cons (opd_int rfl) rfl (LS.arr' (i := 0) (ys := ([(1 : Int), (0 : Int), (0 : Int), (0 : Int), (0 : Int), (0 : Int), (0 : Int), (0 : Int), (0 : Int), (0 : Int), (0 : Int), (0 : Int), (0 : Int), (0 : Int), (0 : Int), (0 : Int), (0 : Int), (0 : Int), (0 : Int), (0 : Int), (0 : Int), (0 : Int), (0 : Int), (0 : Int), (0 : Int), (0 : Int), (0 : Int), (0 : Int), (0 : Int), (0 : Int), (0 : Int), (0 : Int)] : (List Int))) (by simp) (by rfl)) (.nil _)) : Ob _ _ _ _ _ ((karr 32 (kint .u8)).V ([(1 : Int), (0 : Int), (0 : Int), (0 : Int), (0 : Int), (0 : Int), (0 : Int), (0 : Int), (0 : Int), (0 : Int), (0 : Int), (0 : Int), (0 : Int), (0 : Int), (0 : Int), (0 : Int), (0 : Int), (0 : Int), (0 : Int), (0 : Int), (0 : Int), (0 : Int), (0 : Int), (0 : Int), (0 : Int), (0 : Int), (0 : Int), (0 : Int), (0 : Int), (0 : Int), (0 : Int), (0 : Int)] : (List Int))))).nm e_x1) fun a7 w7 s7 => ?_; clear s6
  obtain ⟨x2, e_x2, h2⟩ := bind_some h1; clear h1; replace e_x2 := Option.some.inj e_x2
  refine seq_op s7 rfl rfl (of_decide_eq_true rfl) ((ob_mkStruct (K := k_api_Op) (X0 := (⟨(0 : Int), (0 : Int), [], (0 : Int), [], (List.replicate 32 (0 : Int)), (List.replicate 32 (0 : Int)), [], []⟩ : api_Op)) rfl Try.underlying44 zz44 rfl pl44 (Zr.iso (f := t_api_Op) (x := (⟨(0 : Int), (0 : Int), [], (0 : Int), [], (List.replicate 32 (0 : Int)), (List.replicate 32 (0 : Int)), [], []⟩ : api_Op)) (Zr.pair (Zr.int .i64) (Zr.pair (Zr.int .u32) (Zr.pair (Zr.sl _) (Zr.pair (Zr.int .i64) (Zr.pair (Zr.sl _) (Zr.pair (Zr.arr 32 (Zr.int .u8)) (Zr.pair (Zr.arr 32 (Zr.int .u8)) (Zr.pair Zr.str (Zr.pair (Zr.sl _) Zr.nil)))))))))) (.cons (.tmp rfl) rfl (ls_api_Op_Author (⟨(0 : Int), (0 : Int), [], (0 : Int), [], (List.replicate 32 (0 : Int)), (List.replicate 32 (0 : Int)), [], []⟩ : api_Op) p1) (.cons (.tmp rfl) rfl (ls_api_Op_Seq (⟨p1, (0 : Int), [], (0 : Int), [], (List.replicate 32 (0 : Int)), (List.replicate 32 (0 : Int)), [], []⟩ : api_Op) p2) (.cons (opd_int rfl) rfl (ls_api_Op_Kind (⟨p1, p2, [], (0 : Int), [], (List.replicate 32 (0 : Int)), (List.replicate 32 (0 : Int)), [], []⟩ : api_Op) (4 : Int)) (.cons (.tmp rfl) rfl (ls_api_Op_Parents (⟨p1, p2, [], (4 : Int), [], (List.replicate 32 (0 : Int)), (List.replicate 32 (0 : Int)), [], []⟩ : api_Op) p3) (.cons (.tmp rfl) rfl (ls_api_Op_Check (⟨p1, p2, p3, (4 : Int), [], (List.replicate 32 (0 : Int)), (List.replicate 32 (0 : Int)), [], []⟩ : api_Op) x1) (.nil _))))))).nm e_x2) fun a8 w8 s8 => ?_; clear s7
  refine seq_opx0 (B' := (fun _ : Unit => [BF b1 44 k_api_Op x2])) s8 rfl rfl (ob_store (A := []) rfl tk44 (.tmp rfl) (.tmp rfl) rfl (LS.refl _ _ _) rfl) fun _ a9 w9 s9 => ?_; clear s8
  refine wpList_nil ?_
  refine then_normal ?_
  refine hK2 _ _ ?_
  have s10 := s9.sub (.cons (t := 6) rfl .nil); clear s9
  refine wp_ret ?_
  obtain rfl := Option.some.inj h2
  exact leave s10 (.inl rfl) rfl (.cons (.cell rfl tk44 (.head _) (LG.refl _ _)) .nil)

/- 174 math/bits.Len64 -/
theorem c_math_bits_Len64 (k : Nat) (p1 : Int) (r : Int) (h0 : math_bits_Len64 k p1 = some r) (ok : Ok) (w0 : World) (z0 : Value) (u0 : ((kint .u64).V p1).holds ok w0 z0) :
    Gives Try.prog 174 [z0] ok w0 (resFact [(kint .i64).V r]) := by
  unfold math_bits_Len64 at h0
  refine enter (N := 25) Try.func174 rfl rfl (of_decide_eq_true rfl) (.cons u0 .nil) fun a1 s1 => ?_
  refine wp_seq_k fun K1 hK1 => ?_
  refine wp_region_lit ?_
  refine seq_op s1 rfl rfl (of_decide_eq_true rfl) (ob_assign rfl (opd_int rfl)) fun a2 w2 s2 => ?_; clear s1
  refine wpList_nil ?_
  refine then_normal ?_
  refine hK1 _ _ ?_
  have s3 := s2.sub (.cons (t := 0) rfl (.cons (t := 2) rfl .nil)); clear s2
  refine wp_seq_k fun K2 hK2 => ?_
  refine wp_seq_k fun K3 hK3 => ?_
  refine wp_region_lit ?_
  refine seq_op s3 rfl rfl (of_decide_eq_true rfl) (ob_move rfl (.tmp rfl)) fun a4 w4 s4 => ?_; clear s3
  refine seq_op s4 rfl rfl (of_decide_eq_true rfl) (ob_geq rfl (.tmp rfl) (opd_int rfl)) fun a5 w5 s5 => ?_; clear s4
  refine wpList_nil ?_
  refine then_normal ?_
  refine hK3 _ _ ?_
  have s6 := s5.sub (.cons (t := 0) rfl (.cons (t := 2) rfl (.cons (t := 4) rfl .nil))); clear s5
  have hj1 : ∀ (y1 : Int) (y2 : Int) (a : Act) (w : World), (math_bits_Len64.j1 k) y1 y2 = some r → St ⟨25, w0, ok, []⟩ [] [(0, ((kint .u64).V y1)), (2, ((kint .i64).V y2))] a w → K2 a w := by
    intro y1 y2 a7 w7 h1 s7
    unfold math_bits_Len64.j1 at h1
    refine hK2 _ _ ?_
    refine wp_seq_k fun K4 hK4 => ?_
    refine wp_seq_k fun K5 hK5 => ?_
    refine wp_region_lit ?_
    refine seq_op s7 rfl rfl (of_decide_eq_true rfl) (ob_move rfl (.tmp rfl)) fun a8 w8 s8 => ?_; clear s7
    refine seq_op s8 rfl rfl (of_decide_eq_true rfl) (ob_geq rfl (.tmp rfl) (opd_int rfl)) fun a9 w9 s9 => ?_; clear s8
    refine wpList_nil ?_
    refine then_normal ?_
    refine hK5 _ _ ?_
    have s10 := s9.sub (.cons (t := 0) rfl (.cons (t := 2) rfl (.cons (t := 8) rfl .nil))); clear s9
    have hj2 : ∀ (y3 : Int) (y4 : Int) (a : Act) (w : World), (math_bits_Len64.j2 k) y3 y4 = some r → St ⟨25, w0, ok, []⟩ [] [(0, ((kint .u64).V y3)), (2, ((kint .i64).V y4))] a w → K4 a w := by
      intro y3 y4 a11 w11 h2 s11
      unfold math_bits_Len64.j2 at h2
      refine hK4 _ _ ?_
      refine wp_seq_k fun K6 hK6 => ?_
      refine wp_seq_k fun K7 hK7 => ?_
      refine wp_region_lit ?_
      refine seq_op s11 rfl rfl (of_decide_eq_true rfl) (ob_move rfl (.tmp rfl)) fun a12 w12 s12 => ?_; clear s11
      refine seq_op s12 rfl rfl (of_decide_eq_true rfl) (ob_geq rfl (.tmp rfl) (opd_int rfl)) fun a13 w13 s13 => ?_; clear s12
      refine wpList_nil ?_
      refine then_normal ?_
      refine hK7 _ _ ?_
      have s14 := s13.sub (.cons (t := 0) rfl (.cons (t := 2) rfl (.cons (t := 14) rfl .nil))); clear s13
      have hj3 : ∀ (y5 : Int) (y6 : Int) (a : Act) (w : World), (math_bits_Len64.j3 k) y5 y6 = some r → St ⟨25, w0, ok, []⟩ [] [(0, ((kint .u64).V y5)), (2, ((kint .i64).V y6))] a w → K6 a w := by
        intro y5 y6 a15 w15 h3 s15
        unfold math_bits_Len64.j3 at h3
        refine hK6 _ _ ?_
        refine wp_seq_k fun K8 hK8 => ?_
        refine wp_region_lit ?_
        refine seq_op s15 rfl rfl (of_decide_eq_true rfl) (ob_move rfl (.tmp rfl)) fun a16 w16 s16 => ?_; clear s15
        refine seq_op s16 rfl rfl (of_decide_eq_true rfl) (ob_move rfl (.tmp rfl)) fun a17 w17 s17 => ?_; clear s16
        refine seq_op s17 rfl rfl (of_decide_eq_true rfl) (ob_conv rfl _ Try.underlying185 Try.underlying5 (.tmp rfl)) fun a18 w18 s18 => ?_; clear s17
        obtain ⟨x1, e_x1, h4⟩ := bind_some h3; clear h3
        refine seq_op s18 rfl rfl (of_decide_eq_true rfl) (ob_indexStr rfl Try.underlying9 (opd_str (by rfl) (by decide)) (.tmp rfl) e_x1) fun a19 w19 s19 => ?_; clear s18
        refine seq_op s19 rfl rfl (of_decide_eq_true rfl) (ob_conv rfl _ Try.underlying5 Try.underlying3 (.tmp rfl)) fun a20 w20 s20 => ?_; clear s19
        refine seq_op s20 rfl rfl (of_decide_eq_true rfl) (ob_add rfl (.tmp rfl) (.tmp rfl)) fun a21 w21 s21 => ?_; clear s20
        refine seq_op s21 rfl rfl (of_decide_eq_true rfl) (ob_assign rfl (.tmp rfl)) fun a22 w22 s22 => ?_; clear s21
        refine wpList_nil ?_
        refine then_normal ?_
        refine hK8 _ _ ?_
        have s23 := s22.sub (.cons (t := 2) rfl .nil); clear s22
        refine wp_ret ?_
        obtain rfl := Option.some.inj h4
        exact leave s23 (.inl rfl) rfl (.cons (.tmp rfl) .nil)
      refine cond_split s14 (.tmp rfl) (fun hc1 => ?_) (fun hc1 => ?_)
      · replace h2 := ite_t hc1 h2
        have h5 := h2; clear h2
        refine wp_seq_k fun K9 hK9 => ?_
        refine wp_region_lit ?_
        refine seq_op s14 rfl rfl (of_decide_eq_true rfl) (ob_move rfl (.tmp rfl)) fun a24 w24 s24 => ?_; clear s14
        refine seq_op s24 rfl rfl (of_decide_eq_true rfl) (ob_shr rfl (.tmp rfl) (opd_int rfl) (by decide)) fun a25 w25 s25 => ?_; clear s24
        refine seq_op s25 rfl rfl (of_decide_eq_true rfl) (ob_assign rfl (.tmp rfl)) fun a26 w26 s26 => ?_; clear s25
        refine wpList_nil ?_
        refine then_normal ?_
        refine hK9 _ _ ?_
        have s27 := s26.sub (.cons (t := 0) rfl (.cons (t := 2) rfl .nil)); clear s26
        refine wp_region_lit ?_
        refine seq_op s27 rfl rfl (of_decide_eq_true rfl) (ob_move rfl (.tmp rfl)) fun a28 w28 s28 => ?_; clear s27
        refine seq_op s28 rfl rfl (of_decide_eq_true rfl) (ob_add rfl (.tmp rfl) (opd_int rfl)) fun a29 w29 s29 => ?_; clear s28
        refine seq_op s29 rfl rfl (of_decide_eq_true rfl) (ob_assign rfl (.tmp rfl)) fun a30 w30 s30 => ?_; clear s29
        refine wpList_nil ?_
        refine then_normal ?_
        exact hj3 (ishr .u64 y3 (8 : Int)) (iadd .i64 y4 (8 : Int)) _ _ h5 (s30.sub (.cons rfl (.cons rfl .nil)))
      · replace h2 := ite_f hc1 h2
        have h6 := h2; clear h2
        refine wp_skip ?_
        refine then_normal ?_
        exact hj3 y3 y4 _ _ h6 (s14.sub (.cons rfl (.cons rfl .nil)))
    refine cond_split s10 (.tmp rfl) (fun hc2 => ?_) (fun hc2 => ?_)
    · replace h1 := ite_t hc2 h1
      have h7 := h1; clear h1
      refine wp_seq_k fun K10 hK10 => ?_
      refine wp_region_lit ?_
      refine seq_op s10 rfl rfl (of_decide_eq_true rfl) (ob_move rfl (.tmp rfl)) fun a31 w31 s31 => ?_; clear s10
      refine seq_op s31 rfl rfl (of_decide_eq_true rfl) (ob_shr rfl (.tmp rfl) (opd_int rfl) (by decide)) fun a32 w32 s32 => ?_; clear s31
      refine seq_op s32 rfl rfl (of_decide_eq_true rfl) (ob_assign rfl (.tmp rfl)) fun a33 w33 s33 => ?_; clear s32
      refine wpList_nil ?_
      refine then_normal ?_
      refine hK10 _ _ ?_
      have s34 := s33.sub (.cons (t := 0) rfl (.cons (t := 2) rfl .nil)); clear s33
      refine wp_region_lit ?_
      refine seq_op s34 rfl rfl (of_decide_eq_true rfl) (ob_move rfl (.tmp rfl)) fun a35 w35 s35 => ?_; clear s34
      refine seq_op s35 rfl rfl (of_decide_eq_true rfl) (ob_add rfl (.tmp rfl) (opd_int rfl)) fun a36 w36 s36 => ?_; clear s35
      refine seq_op s36 rfl rfl (of_decide_eq_true rfl) (ob_assign rfl (.tmp rfl)) fun a37 w37 s37 => ?_; clear s36
      refine wpList_nil ?_
      refine then_normal ?_
      exact hj2 (ishr .u64 y1 (16 : Int)) (iadd .i64 y2 (16 : Int)) _ _ h7 (s37.sub (.cons rfl (.cons rfl .nil)))
    · replace h1 := ite_f hc2 h1
      have h8 := h1; clear h1
      refine wp_skip ?_
      refine then_normal ?_
      exact hj2 y1 y2 _ _ h8 (s10.sub (.cons rfl (.cons rfl .nil)))
  refine cond_split s6 (.tmp rfl) (fun hc3 => ?_) (fun hc3 => ?_)
  · replace h0 := ite_t hc3 h0
    have h9 := h0; clear h0
    refine wp_seq_k fun K11 hK11 => ?_
    refine wp_region_lit ?_
    refine seq_op s6 rfl rfl (of_decide_eq_true rfl) (ob_move rfl (.tmp rfl)) fun a38 w38 s38 => ?_; clear s6
    refine seq_op s38 rfl rfl (of_decide_eq_true rfl) (ob_shr rfl (.tmp rfl) (opd_int rfl) (by decide)) fun a39 w39 s39 => ?_; clear s38
    refine seq_op s39 rfl rfl (of_decide_eq_true rfl) (ob_assign rfl (.tmp rfl)) fun a40 w40 s40 => ?_; clear s39
    refine wpList_nil ?_
    refine then_normal ?_
    refine hK11 _ _ ?_
    have s41 := s40.sub (.cons (t := 0) rfl .nil); clear s40
    refine wp_region_lit ?_
    refine seq_op s41 rfl rfl (of_decide_eq_true rfl) (ob_assign rfl (opd_int rfl)) fun a42 w42 s42 => ?_; clear s41
    refine wpList_nil ?_
    refine then_normal ?_
    exact hj1 (ishr .u64 p1 (32 : Int)) (32 : Int) _ _ h9 (s42.sub (.cons rfl (.cons rfl .nil)))
  · replace h0 := ite_f hc3 h0
    have h10 := h0; clear h0
    refine wp_skip ?_
    refine then_normal ?_
    exact hj1 p1 (0 : Int) _ _ h10 (s6.sub (.cons rfl (.cons rfl .nil)))

/- 146 math/bits.Len -/
theorem c_math_bits_Len (k : Nat) (p1 : Int) (r : Int) (h0 : math_bits_Len k p1 = some r) (ok : Ok) (w0 : World) (z0 : Value) (u0 : ((kint .u64).V p1).holds ok w0 z0) :
    Gives Try.prog 146 [z0] ok w0 (resFact [(kint .i64).V r]) := by
  unfold math_bits_Len at h0
  refine enter (N := 8) Try.func146 rfl rfl (of_decide_eq_true rfl) (.cons u0 .nil) fun a1 s1 => ?_
  refine wp_seq_k fun K1 hK1 => ?_
  refine wp_region_lit ?_
  refine seq_op s1 rfl rfl (of_decide_eq_true rfl) (ob_assign rfl (opd_int rfl)) fun a2 w2 s2 => ?_; clear s1
  refine wpList_nil ?_
  refine then_normal ?_
  refine hK1 _ _ ?_
  have s3 := s2.sub (.cons (t := 0) rfl .nil); clear s2
  refine wp_seq_k fun K2 hK2 => ?_
  refine cond_f s3 opd_bool ?_
  refine wp_skip ?_
  refine then_normal ?_
  refine hK2 _ _ ?_
  have s4 := s3.sub (.cons (t := 0) rfl .nil); clear s3
  refine wp_seq_k fun K3 hK3 => ?_
  refine wp_region_lit ?_
  refine seq_op s4 rfl rfl (of_decide_eq_true rfl) (ob_move rfl (.tmp rfl)) fun a5 w5 s5 => ?_; clear s4
  obtain ⟨x1, e_x1, h1⟩ := bind_some h0; clear h0
  refine seq_op s5 rfl rfl (of_decide_eq_true rfl) (ob_callD (args := [_]) rfl .direct hb174 (fun a w s fs gs hf hg => by obtain rfl := hf.unnil; obtain rfl := hg.unnil; exact c_math_bits_Len64 k _ _ e_x1 _ _ _ (s.arg (.tmp rfl)))) fun a6 w6 s6 => ?_; clear s5
  refine seq_op s6 rfl rfl (of_decide_eq_true rfl) (ob_assign rfl (.tmp rfl)) fun a7 w7 s7 => ?_; clear s6
  refine wpList_nil ?_
  refine then_normal ?_
  refine hK3 _ _ ?_
  have s8 := s7.sub (.cons (t := 2) rfl .nil); clear s7
  refine wp_ret ?_
  obtain rfl := Option.some.inj h1
  exact leave s8 (.inl rfl) rfl (.cons (.tmp rfl) .nil)

/- 101 cabal/graph.Heads$1 -/
theorem c_graph_Heads_1 (k : Nat) (p1 : (List Int)) (p2 : (List Int)) (r : Int) (h0 : graph_Heads_1 k p1 p2 = some r) (ok : Ok) (w0 : World) (z0 : Value) (z1 : Value) (u0 : ((karr 32 (kint .u8)).V p1).holds ok w0 z0) (u1 : ((karr 32 (kint .u8)).V p2).holds ok w0 z1) :
    Gives Try.prog 101 [z0, z1] ok w0 (resFact [(kint .i64).V r]) := by
  unfold graph_Heads_1 at h0
  refine enter (N := 8) Try.func101 rfl rfl (of_decide_eq_true rfl) (.cons u0 (.cons u1 .nil)) fun a1 s1 => ?_
  refine wp_seq_k fun K1 hK1 => ?_
  refine wp_region_lit ?_
  refine seq_opx (B' := (fun b1 : Nat => [BF b1 39 (karr 32 (kint .u8)) p1])) s1 rfl rfl (of_decide_eq_true rfl) (ob_box rfl (.tmp rfl)) fun b1 a2 w2 s2 => ?_; clear s1
  refine seq_opx (B' := (fun b2 : Nat => [BF b2 39 (karr 32 (kint .u8)) p2, BF b1 39 (karr 32 (kint .u8)) p1])) s2 rfl rfl (of_decide_eq_true rfl) (ob_box rfl (.tmp rfl)) fun b2 a3 w3 s3 => ?_; clear s2
  refine seq_op s3 rfl rfl (of_decide_eq_true rfl) (ob_assign rfl (opd_int rfl)) fun a4 w4 s4 => ?_; clear s3
  refine wpList_nil ?_
  refine then_normal ?_
  refine hK1 _ _ ?_
  have s5 := s4.sub (.cons (t := 2) rfl (.cons (t := 3) rfl .nil)); clear s4
  refine wp_seq_k fun K2 hK2 => ?_
  refine wp_goes (Fs := [(is (.slice (some ⟨b1, soff 32 0 (0 : Int).toNat 1, none⟩) ((32 : Int).toNat - (0 : Int).toNat) (32 - (0 : Int).toNat))), (is (.slice (some ⟨b2, soff 32 0 (0 : Int).toNat 1, none⟩) ((32 : Int).toNat - (0 : Int).toNat) (32 - (0 : Int).toNat)))]) (bits := [0, 0, 3, 7]) (m := 2) (todo := 0) mx s5 ?_; clear s5
  refine goes_last (by kernel_rfl) rfl (opsS_cons (.plain _ (Av.old (t := 2) rfl rfl Av.nil) rfl rfl (ob_sliceArr rfl Try.underlying39 sz5 (.tmp rfl) .none .none (show (0 : Int) ≤ (0 : Int) ∧ (0 : Int) ≤ (32 : Int) ∧ (32 : Int) ≤ ((32 : Nat) : Int) by decide))) (opsS_cons (.plain _ (Av.old (t := 3) rfl rfl Av.nil) rfl rfl (ob_sliceArr rfl Try.underlying39 sz5 (.tmp rfl) .none .none (show (0 : Int) ≤ (0 : Int) ∧ (0 : Int) ≤ (32 : Int) ∧ (32 : Int) ≤ ((32 : Nat) : Int) by decide))) opsS_nil)) (out_new (i := 0) (by decide) rfl rfl (out_new (i := 1) (by decide) rfl rfl out_nil)) fun a6 w6 s6 => ?_
  obtain ⟨x1, e_x1, h1⟩ := bind_some h0; clear h0
  obtain ⟨x2, e_x2, h2⟩ := bind_some h1; clear h1
  obtain ⟨x3, e_x3, h3⟩ := bind_some h2; clear h2
  refine seq_op s6 rfl rfl (of_decide_eq_true rfl) ((ob_lendG (L := [_, _]) (toFront [_] (toFront [] (List.Perm.refl _))) (.cons (t := 5) rfl (lendSlB (.head _) (LG.refl _ _) e_x1 rfl (cut_len e_x1) (cut_cap e_x1 (show (0 : Int) ≤ (0 : Int) ∧ (0 : Int) ≤ (32 : Int) ∧ (32 : Int) ≤ ((32 : Nat) : Int) by decide) (by decide))) (.cons (t := 6) rfl (lendSlB (.tail _ (.head _)) (LG.refl _ _) e_x2 rfl (cut_len e_x2) (cut_cap e_x2 (show (0 : Int) ≤ (0 : Int) ∧ (0 : Int) ≤ (32 : Int) ∧ (32 : Int) ≤ ((32 : Nat) : Int) by decide) (by decide))) .nil)) (Flat.res1 (Flat.V (KFlat.int _))) (fun _ => ob_callD (args := [_, _]) rfl .direct hb102 (fun a w s fs gs hf hg => by obtain rfl := hf.unnil; obtain rfl := hg.unnil; exact c_bytes_Compare k _ _ _ e_x3 _ _ _ _ (s.arg (.tmp rfl)) (s.arg (.tmp rfl)))))) fun a7 w7 s7 => ?_; clear s6
  refine seq_op s7 rfl rfl (of_decide_eq_true rfl) (ob_assign rfl (.tmp rfl)) fun a8 w8 s8 => ?_; clear s7
  refine wpList_nil ?_
  refine then_normal ?_
  refine hK2 _ _ ?_
  have s9 := s8.sub (.cons (t := 4) rfl .nil); clear s8
  have s10 := St.drop (A := []) s9; clear s9
  have s11 := St.drop (A := []) s10; clear s10
  refine wp_ret ?_
  obtain rfl := Option.some.inj h3
  exact leave s11 (.inl rfl) rfl (.cons (.tmp rfl) .nil)

/- 165 slices.insertionSortCmpFunc[cabal/api.Key] -/
theorem c_slices_insertionSortCmpFunc_api_Key_graph_Heads_1 (k : Nat) (p1 : (List (List Int))) (p2 : Int) (p3 : Int) (r : (List (List Int))) (h0 : slices_insertionSortCmpFunc_api_Key_graph_Heads_1 k p1 p2 p3 = some r) (ok : Ok) (w0 : World) (z0 : Value) (z1 : Value) (z2 : Value) (z3 : Value) (wr0 : Value) (l0 : ∀ q, q ∈ [RowF wr0 39 (karr 32 (kint .u8)) p1] → q.holds ok w0) (d0 : ∀ c, c ∈ idsOf [RowF wr0 39 (karr 32 (kint .u8)) p1] → ¬ ok c) (nd : (idsOf [RowF wr0 39 (karr 32 (kint .u8)) p1]).Nodup) (u0 : (is wr0).holds ok w0 z0) (u1 : ((kint .i64).V p2).holds ok w0 z1) (u2 : ((kint .i64).V p3).holds ok w0 z2) (u3 : (is (.func (.func 101) #[] #[])).holds ok w0 z3) :
    GivesX Try.prog 165 [z0, z1, z2, z3] ok w0 [RowF wr0 39 (karr 32 (kint .u8)) p1] (fun g : Unit => resFact []) (fun g : Unit => [RowF wr0 39 (karr 32 (kint .u8)) r]) := by
  unfold slices_insertionSortCmpFunc_api_Key_graph_Heads_1 at h0
  refine enterX (N := 53) Try.func165 rfl rfl (of_decide_eq_true rfl) (.cons u0 (.cons u1 (.cons u2 (.cons u3 .nil)))) nd l0 d0 fun a1 s1 => ?_
  refine wp_seq_k fun K1 hK1 => ?_
  refine wp_region_lit ?_
  refine seq_op s1 rfl rfl (of_decide_eq_true rfl) (ob_move rfl (.tmp rfl)) fun a2 w2 s2 => ?_; clear s1
  refine seq_op s2 rfl rfl (of_decide_eq_true rfl) (ob_add rfl (.tmp rfl) (opd_int rfl)) fun a3 w3 s3 => ?_; clear s2
  refine seq_op s3 rfl rfl (of_decide_eq_true rfl) (ob_assign rfl (.tmp rfl)) fun a4 w4 s4 => ?_; clear s3
  refine wpList_nil ?_
  refine then_normal ?_
  refine hK1 _ _ ?_
  have s5 := s4.sub (.cons (t := 0) rfl (.cons (t := 1) rfl (.cons (t := 2) rfl (.cons (t := 3) rfl (.cons (t := 8) rfl .nil))))); clear s4
  refine wp_block ?_
  refine wp_loop_fuel (fun m (q : Int × (List (List Int))) => slices_insertionSortCmpFunc_api_Key_graph_Heads_1.l1 k p3 p2 m q.1 q.2) r (fun _ => rfl) (fun q a w => St ⟨53, w0, ok, (idsOf [RowF wr0 39 (karr 32 (kint .u8)) p1])⟩ [RowF wr0 39 (karr 32 (kint .u8)) q.2] [(0, (is wr0)), (1, ((kint .i64).V p2)), (2, ((kint .i64).V p3)), (3, (is (.func (.func 101) #[] #[]))), (8, ((kint .i64).V q.1))] a w) ?_ k ((iadd .i64 p2 (1 : Int)), p1) _ _ h0 (s5.sub (.cons rfl (.cons rfl (.cons rfl (.cons rfl (.cons rfl .nil))))))
  rintro n1 ⟨y1, y2⟩ a6 w6 h1 s6 K2 hK2
  replace h1 : slices_insertionSortCmpFunc_api_Key_graph_Heads_1.l1 k p3 p2 (n1 + 1) y1 y2 = some r := h1; rw [slices_insertionSortCmpFunc_api_Key_graph_Heads_1.l1] at h1
  have h2 := h1; clear h1
  refine wp_seq_k fun K3 hK3 => ?_
  refine wp_seq_k fun K4 hK4 => ?_
  refine wp_region_lit ?_
  refine seq_op s6 rfl rfl (of_decide_eq_true rfl) (ob_move rfl (.tmp rfl)) fun a7 w7 s7 => ?_; clear s6
  refine seq_op s7 rfl rfl (of_decide_eq_true rfl) (ob_move rfl (.tmp rfl)) fun a8 w8 s8 => ?_; clear s7
  refine seq_op s8 rfl rfl (of_decide_eq_true rfl) (ob_lss rfl (.tmp rfl) (.tmp rfl)) fun a9 w9 s9 => ?_; clear s8
  refine wpList_nil ?_
  refine then_normal ?_
  refine hK4 _ _ ?_
  have s10 := s9.sub (.cons (t := 0) rfl (.cons (t := 1) rfl (.cons (t := 2) rfl (.cons (t := 3) rfl (.cons (t := 8) rfl (.cons (t := 14) rfl .nil)))))); clear s9
  refine cond_split s10 (.tmp rfl) (fun hc1 => ?_) (fun hc1 => ?_)
  · replace h2 := ite_t hc1 h2
    have h3 := h2; clear h2
    refine wp_skip ?_
    refine then_normal ?_
    refine hK3 _ _ ?_
    have s11 := s10.sub (.cons (t := 0) rfl (.cons (t := 1) rfl (.cons (t := 2) rfl (.cons (t := 3) rfl (.cons (t := 8) rfl .nil))))); clear s10
    refine wp_seq_k fun K5 hK5 => ?_
    have hj1 : ∀ (y3 : (List (List Int))) (a : Act) (w : World), (slices_insertionSortCmpFunc_api_Key_graph_Heads_1.j1 k y1 (slices_insertionSortCmpFunc_api_Key_graph_Heads_1.l1 k p3 p2 n1)) y3 = some r → St ⟨53, w0, ok, (idsOf [RowF wr0 39 (karr 32 (kint .u8)) p1])⟩ [RowF wr0 39 (karr 32 (kint .u8)) y3] [(0, (is wr0)), (1, ((kint .i64).V p2)), (2, ((kint .i64).V p3)), (3, (is (.func (.func 101) #[] #[]))), (8, ((kint .i64).V y1))] a w → K5 a w := by
      intro y3 a12 w12 h4 s12
      unfold slices_insertionSortCmpFunc_api_Key_graph_Heads_1.j1 at h4
      refine hK5 _ _ ?_
      refine wp_region_lit ?_
      refine seq_op s12 rfl rfl (of_decide_eq_true rfl) (ob_move rfl (.tmp rfl)) fun a13 w13 s13 => ?_; clear s12
      refine seq_op s13 rfl rfl (of_decide_eq_true rfl) (ob_add rfl (.tmp rfl) (opd_int rfl)) fun a14 w14 s14 => ?_; clear s13
      refine seq_op s14 rfl rfl (of_decide_eq_true rfl) (ob_assign rfl (.tmp rfl)) fun a15 w15 s15 => ?_; clear s14
      refine wpList_nil ?_
      refine then_normal ?_
      exact hK2 ((iadd .i64 y1 (1 : Int)), y3) _ _ h4 (s15.sub (.cons rfl (.cons rfl (.cons rfl (.cons rfl (.cons rfl .nil))))))
    refine wp_block ?_
    refine wp_seq_k fun K6 hK6 => ?_
    refine wp_region_lit ?_
    refine seq_op s11 rfl rfl (of_decide_eq_true rfl) (ob_move rfl (.tmp rfl)) fun a16 w16 s16 => ?_; clear s11
    refine seq_op s16 rfl rfl (of_decide_eq_true rfl) (ob_assign rfl (.tmp rfl)) fun a17 w17 s17 => ?_; clear s16
    refine wpList_nil ?_
    refine then_normal ?_
    refine hK6 _ _ ?_
    have s18 := s17.sub (.cons (t := 0) rfl (.cons (t := 1) rfl (.cons (t := 2) rfl (.cons (t := 3) rfl (.cons (t := 8) rfl (.cons (t := 9) rfl .nil)))))); clear s17
    refine wp_block ?_
    refine wp_loop_fuel (fun m (q : Int × (List (List Int))) => slices_insertionSortCmpFunc_api_Key_graph_Heads_1.l2 k p2 y1 (slices_insertionSortCmpFunc_api_Key_graph_Heads_1.l1 k p3 p2 n1) m q.1 q.2) r (fun _ => rfl) (fun q a w => St ⟨53, w0, ok, (idsOf [RowF wr0 39 (karr 32 (kint .u8)) p1])⟩ [RowF wr0 39 (karr 32 (kint .u8)) q.2] [(0, (is wr0)), (1, ((kint .i64).V p2)), (2, ((kint .i64).V p3)), (3, (is (.func (.func 101) #[] #[]))), (8, ((kint .i64).V y1)), (9, ((kint .i64).V q.1))] a w) ?_ k (y1, y2) _ _ h3 (s18.sub (.cons rfl (.cons rfl (.cons rfl (.cons rfl (.cons rfl (.cons rfl .nil)))))))
    rintro n2 ⟨y4, y5⟩ a19 w19 h5 s19 K7 hK7
    replace h5 : slices_insertionSortCmpFunc_api_Key_graph_Heads_1.l2 k p2 y1 (slices_insertionSortCmpFunc_api_Key_graph_Heads_1.l1 k p3 p2 n1) (n2 + 1) y4 y5 = some r := h5; rw [slices_insertionSortCmpFunc_api_Key_graph_Heads_1.l2] at h5
    have h6 := h5; clear h5
    refine wp_seq_k fun K8 hK8 => ?_
    refine wp_seq_k fun K9 hK9 => ?_
    obtain ⟨g1, h7⟩ := guard_some h6; clear h6
    obtain ⟨x1, e_x1, h8⟩ := bind_some h7; clear h7
    obtain ⟨g2, h9⟩ := guard_some h8; clear h8
    obtain ⟨x2, e_x2, h10⟩ := bind_some h9; clear h9
    refine wp_goes (Fs := [((kint .i64).V y4), ((kint .i64).V p2), (kbool.V (decide (y4 > p2))), (kbool.V (decide (y4 > p2))), (Fact.when ((decide (y4 > p2)) == true) (is (.func (.func 101) #[] #[]))), (Fact.when ((decide (y4 > p2)) == true) (is wr0)), (Fact.when ((decide (y4 > p2)) == true) ((kint .i64).V y4)), (Fact.when ((decide (y4 > p2)) == true) (ptrR wr0 (y4.toNat * 32))), (Fact.when ((decide (y4 > p2)) == true) ((karr 32 (kint .u8)).V x1)), (Fact.when ((decide (y4 > p2)) == true) (is wr0)), (Fact.when ((decide (y4 > p2)) == true) ((kint .i64).V y4)), (Fact.when ((decide (y4 > p2)) == true) ((kint .i64).V (isub .i64 y4 (1 : Int)))), (Fact.when ((decide (y4 > p2)) == true) (ptrR wr0 ((isub .i64 y4 (1 : Int)).toNat * 32))), (Fact.when ((decide (y4 > p2)) == true) ((karr 32 (kint .u8)).V x2))]) (bits := [0, 0, 3, 7, 15, 15, 15, 111, 239, 15, 15, 1039, 3599, 7695, 16383, 32767, 65535]) (m := 14) (todo := 0) mx s19 ?_; clear s19
    refine goes_last (by kernel_rfl) rfl (opsS_cons (.plain _ (Av.old (t := 9) rfl rfl Av.nil) rfl rfl (ob_move rfl (.tmp rfl))) (opsS_cons (.plain _ (Av.old (t := 1) rfl rfl Av.nil) rfl rfl (ob_move rfl (.tmp rfl))) (opsS_cons (.plain _ (Av.new (j := 0) rfl rfl rfl (Av.new (j := 1) rfl rfl rfl Av.nil)) rfl rfl (ob_gtr rfl (.tmp rfl) (.tmp rfl))) (opsS_cons (.plain _ (Av.new (j := 2) rfl rfl rfl Av.nil) rfl rfl (ob_move rfl (.tmp rfl))) (opsS_cons (.guarded _ (Av.old (t := 3) rfl rfl (Av.new (j := 3) rfl rfl rfl Av.nil)) rfl rfl rfl rfl (fun hb => ob_move rfl (.tmp rfl))) (opsS_cons (.guarded _ (Av.old (t := 0) rfl rfl (Av.new (j := 3) rfl rfl rfl Av.nil)) rfl rfl rfl rfl (fun hb => ob_move rfl (.tmp rfl))) (opsS_cons (.guarded _ (Av.old (t := 9) rfl rfl (Av.new (j := 3) rfl rfl rfl Av.nil)) rfl rfl rfl rfl (fun hb => ob_move rfl (.tmp rfl))) (opsS_cons (.guarded _ (Av.new (j := 3) rfl rfl rfl (Av.new (j := 5) rfl rfl rfl (Av.new (j := 6) rfl rfl rfl Av.nil))) rfl rfl rfl rfl (fun hb => (Ob.uncond (t := 24) hb rfl ((Ob.uncond (t := 23) hb rfl (ob_rowAt rfl Try.underlying40 sz39 (.tmp rfl) (.head _) (.tmp rfl) (g1 hb))))))) (opsS_cons (.guarded _ (Av.new (j := 3) rfl rfl rfl (Av.new (j := 7) rfl rfl rfl Av.nil)) rfl rfl rfl rfl (fun hb => (Ob.uncond (t := 25) hb rfl (ob_rowLoad rfl tk39 (.tmp rfl) (.head _) (LG.arrA (ite_t hb e_x1)))))) (opsS_cons (.guarded _ (Av.old (t := 0) rfl rfl (Av.new (j := 3) rfl rfl rfl Av.nil)) rfl rfl rfl rfl (fun hb => ob_move rfl (.tmp rfl))) (opsS_cons (.guarded _ (Av.old (t := 9) rfl rfl (Av.new (j := 3) rfl rfl rfl Av.nil)) rfl rfl rfl rfl (fun hb => ob_move rfl (.tmp rfl))) (opsS_cons (.guarded _ (Av.new (j := 3) rfl rfl rfl (Av.new (j := 10) rfl rfl rfl Av.nil)) rfl rfl rfl rfl (fun hb => (Ob.uncond (t := 28) hb rfl (ob_sub rfl (.tmp rfl) (opd_int rfl))))) (opsS_cons (.guarded _ (Av.new (j := 3) rfl rfl rfl (Av.new (j := 9) rfl rfl rfl (Av.new (j := 11) rfl rfl rfl Av.nil))) rfl rfl rfl rfl (fun hb => (Ob.uncond (t := 29) hb rfl ((Ob.uncond (t := 27) hb rfl (ob_rowAt rfl Try.underlying40 sz39 (.tmp rfl) (.head _) (.tmp rfl) (g2 hb))))))) (opsS_cons (.guarded _ (Av.new (j := 3) rfl rfl rfl (Av.new (j := 12) rfl rfl rfl Av.nil)) rfl rfl rfl rfl (fun hb => (Ob.uncond (t := 30) hb rfl (ob_rowLoad rfl tk39 (.tmp rfl) (.head _) (LG.arrA (ite_t hb e_x2)))))) opsS_nil)))))))))))))) (out_old (t := 0) rfl rfl (out_old (t := 1) rfl rfl (out_old (t := 2) rfl rfl (out_old (t := 3) rfl rfl (out_old (t := 8) rfl rfl (out_old (t := 9) rfl rfl (out_new (i := 3) (by decide) rfl rfl (out_new (i := 4) (by decide) rfl rfl (out_new (i := 8) (by decide) rfl rfl (out_new (i := 13) (by decide) rfl rfl out_nil)))))))))) fun a20 w20 s20 => ?_
    obtain ⟨x3, e_x3, h11⟩ := bind_some h10; clear h10
    refine seq_opg s20 rfl rfl rfl rfl (of_decide_eq_true rfl) (fun hb => (Ob.uncond (t := 31) hb rfl ((Ob.uncond (t := 26) hb rfl ((Ob.uncond (t := 22) hb rfl (ob_callD (args := [_, _]) rfl (.fn (.tmp rfl)) hb101 (fun a w s fs gs hf hg => by obtain rfl := hf.unnil; obtain rfl := hg.unnil; exact c_graph_Heads_1 k _ _ _ (ite_t hb e_x3) _ _ _ _ (s.arg (.tmp rfl)) (s.arg (.tmp rfl)))))))))) fun a21 w21 s21 => ?_; clear s20
    refine seq_opg s21 rfl rfl rfl rfl (of_decide_eq_true rfl) (fun hb => (Ob.uncond (t := 32) hb rfl (ob_lss rfl (.tmp rfl) (opd_int rfl)))) fun a22 w22 s22 => ?_; clear s21
    refine seq_op s22 rfl rfl (of_decide_eq_true rfl) (ob_and2 rfl (.tmp rfl) (.tmp rfl) opd_bool) fun a23 w23 s23 => ?_; clear s22
    refine wpList_nil ?_
    refine then_normal ?_
    refine hK9 _ _ ?_
    have s24 := s23.sub (.cons (t := 0) rfl (.cons (t := 1) rfl (.cons (t := 2) rfl (.cons (t := 3) rfl (.cons (t := 8) rfl (.cons (t := 9) rfl (.cons (t := 34) rfl .nil))))))); clear s23
    refine cond_split s24 (.tmp rfl) (fun hc2 => ?_) (fun hc2 => ?_)
    · replace h11 := ite_t hc2 h11
      have h12 := h11; clear h11
      refine wp_skip ?_
      refine then_normal ?_
      refine hK8 _ _ ?_
      have s25 := s24.sub (.cons (t := 0) rfl (.cons (t := 1) rfl (.cons (t := 2) rfl (.cons (t := 3) rfl (.cons (t := 8) rfl (.cons (t := 9) rfl .nil)))))); clear s24
      refine wp_seq_k fun K10 hK10 => ?_
      refine wp_block ?_
      obtain ⟨g3, h13⟩ := guard_some h12; clear h12
      obtain ⟨x4, e_x4, h14⟩ := bind_some h13; clear h13
      obtain ⟨g4, h15⟩ := guard_some h14; clear h14
      obtain ⟨x5, e_x5, h16⟩ := bind_some h15; clear h15
      obtain ⟨g5, h17⟩ := guard_some h16; clear h16
      obtain ⟨x6, e_x6, h18⟩ := bind_some h17; clear h17
      refine wp_goes (Fs := [(is wr0), ((kint .i64).V y4), (is wr0), ((kint .i64).V y4), ((kint .i64).V (isub .i64 y4 (1 : Int))), (is wr0), ((kint .i64).V y4), ((kint .i64).V (isub .i64 y4 (1 : Int))), (ptrR wr0 ((isub .i64 y4 (1 : Int)).toNat * 32)), ((karr 32 (kint .u8)).V x4), (is wr0), ((kint .i64).V y4), (ptrR wr0 (y4.toNat * 32)), ((karr 32 (kint .u8)).V x5), (ptrR wr0 (y4.toNat * 32)), nofact]) (bits := [0, 0, 0, 0, 8, 0, 0, 64, 224, 480, 0, 0, 3072, 7168, 16355, 32739, 65535, 131071]) (m := 16) (todo := 32768) mx s25 ?_; clear s25
      refine goes_turn (B' := (fun _ : Unit => [RowF wr0 39 (karr 32 (kint .u8)) x6])) (Fs' := (fun _ : Unit => setAll ([(is wr0), ((kint .i64).V y4), (is wr0), ((kint .i64).V y4), ((kint .i64).V (isub .i64 y4 (1 : Int))), (is wr0), ((kint .i64).V y4), ((kint .i64).V (isub .i64 y4 (1 : Int))), (ptrR wr0 ((isub .i64 y4 (1 : Int)).toNat * 32)), ((karr 32 (kint .u8)).V x4), (is wr0), ((kint .i64).V y4), (ptrR wr0 (y4.toNat * 32)), ((karr 32 (kint .u8)).V x5), (ptrR wr0 (y4.toNat * 32)), nofact]) [(15, nofact)])) 15 32768 65507 0 (by kernel_rfl) rfl rfl rfl (opsS_cons (.plain _ (Av.old (t := 0) rfl rfl Av.nil) rfl rfl (ob_move rfl (.tmp rfl))) (opsS_cons (.plain _ (Av.old (t := 9) rfl rfl Av.nil) rfl rfl (ob_move rfl (.tmp rfl))) (opsS_cons (.plain _ (Av.old (t := 0) rfl rfl Av.nil) rfl rfl (ob_move rfl (.tmp rfl))) (opsS_cons (.plain _ (Av.old (t := 9) rfl rfl Av.nil) rfl rfl (ob_move rfl (.tmp rfl))) (opsS_cons (.plain _ (Av.new (j := 3) rfl rfl rfl Av.nil) rfl rfl (ob_sub rfl (.tmp rfl) (opd_int rfl))) (opsS_cons (.plain _ (Av.old (t := 0) rfl rfl Av.nil) rfl rfl (ob_move rfl (.tmp rfl))) (opsS_cons (.plain _ (Av.old (t := 9) rfl rfl Av.nil) rfl rfl (ob_move rfl (.tmp rfl))) (opsS_cons (.plain _ (Av.new (j := 6) rfl rfl rfl Av.nil) rfl rfl (ob_sub rfl (.tmp rfl) (opd_int rfl))) (opsS_cons (.plain _ (Av.new (j := 5) rfl rfl rfl (Av.new (j := 7) rfl rfl rfl Av.nil)) rfl rfl (ob_rowAt rfl Try.underlying40 sz39 (.tmp rfl) (.head _) (.tmp rfl) g3)) (opsS_cons (.plain _ (Av.new (j := 8) rfl rfl rfl Av.nil) rfl rfl (ob_rowLoad rfl tk39 (.tmp rfl) (.head _) (LG.arrA e_x4))) (opsS_cons (.plain _ (Av.old (t := 0) rfl rfl Av.nil) rfl rfl (ob_move rfl (.tmp rfl))) (opsS_cons (.plain _ (Av.old (t := 9) rfl rfl Av.nil) rfl rfl (ob_move rfl (.tmp rfl))) (opsS_cons (.plain _ (Av.new (j := 10) rfl rfl rfl (Av.new (j := 11) rfl rfl rfl Av.nil)) rfl rfl (ob_rowAt rfl Try.underlying40 sz39 (.tmp rfl) (.head _) (.tmp rfl) g4)) (opsS_cons (.plain _ (Av.new (j := 12) rfl rfl rfl Av.nil) rfl rfl (ob_rowLoad rfl tk39 (.tmp rfl) (.head _) (LG.arrA e_x5))) (opsS_cons (.plain _ (Av.new (j := 0) rfl rfl rfl (Av.new (j := 1) rfl rfl rfl Av.nil)) rfl rfl (ob_rowAt rfl Try.underlying40 sz39 (.tmp rfl) (.head _) (.tmp rfl) g5)) (opsS_skip (by rfl) opsS_nil)))))))))))))))) (.plain _ (Av.new (j := 9) rfl rfl rfl (Av.new (j := 14) rfl rfl rfl Av.nil)) rfl (fun _ => rfl) (fun R => ob_rowStore (A := []) rfl tk39 (.tmp rfl) (.tmp rfl) rfl (LS.arrS e_x6) rfl)) (setAll_same (us := (fun _ : Unit => [(15, nofact)])) fun _ => by kernel_rfl) fun _ => ?_
      refine goes_last (by kernel_rfl) rfl (opsS_skip (by rfl) (opsS_skip (by rfl) (opsS_cons (.plain _ (Av.old (t := 0) rfl rfl Av.nil) rfl rfl (ob_move rfl (.tmp rfl))) (opsS_cons (.plain _ (Av.old (t := 9) rfl rfl Av.nil) rfl rfl (ob_move rfl (.tmp rfl))) (opsS_cons (.plain _ (Av.new (j := 3) rfl rfl rfl Av.nil) rfl rfl (ob_sub rfl (.tmp rfl) (opd_int rfl))) (opsS_skip (by rfl) (opsS_skip (by rfl) (opsS_skip (by rfl) (opsS_skip (by rfl) (opsS_skip (by rfl) (opsS_skip (by rfl) (opsS_skip (by rfl) (opsS_skip (by rfl) (opsS_skip (by rfl) (opsS_skip (by rfl) (opsS_skip (by rfl) opsS_nil)))))))))))))))) (out_old (t := 0) rfl rfl (out_old (t := 1) rfl rfl (out_old (t := 2) rfl rfl (out_old (t := 3) rfl rfl (out_old (t := 8) rfl rfl (out_old (t := 9) rfl rfl (out_new (i := 2) (by decide) rfl rfl (out_new (i := 4) (by decide) rfl rfl (out_new (i := 13) (by decide) rfl rfl out_nil))))))))) fun a26 w26 s26 => ?_
      obtain ⟨g6, h19⟩ := guard_some h18; clear h18
      refine seq_op s26 rfl rfl (of_decide_eq_true rfl) (ob_rowAt rfl Try.underlying40 sz39 (.tmp rfl) (.head _) (.tmp rfl) g6) fun a27 w27 s27 => ?_; clear s26
      obtain ⟨x7, e_x7, h20⟩ := bind_some h19; clear h19
      refine seq_opx0 (B' := (fun _ : Unit => [RowF wr0 39 (karr 32 (kint .u8)) x7])) s27 rfl rfl (ob_rowStore (A := []) rfl tk39 (.tmp rfl) (.tmp rfl) rfl (LS.arrS e_x7) rfl) fun _ a28 w28 s28 => ?_; clear s27
      refine wpList_nil ?_
      refine in_normal ?_
      refine then_normal ?_
      refine hK10 _ _ ?_
      have s29 := s28.sub (.cons (t := 0) rfl (.cons (t := 1) rfl (.cons (t := 2) rfl (.cons (t := 3) rfl (.cons (t := 8) rfl (.cons (t := 9) rfl .nil)))))); clear s28
      refine wp_region_lit ?_
      refine seq_op s29 rfl rfl (of_decide_eq_true rfl) (ob_move rfl (.tmp rfl)) fun a30 w30 s30 => ?_; clear s29
      refine seq_op s30 rfl rfl (of_decide_eq_true rfl) (ob_sub rfl (.tmp rfl) (opd_int rfl)) fun a31 w31 s31 => ?_; clear s30
      refine seq_op s31 rfl rfl (of_decide_eq_true rfl) (ob_assign rfl (.tmp rfl)) fun a32 w32 s32 => ?_; clear s31
      refine wpList_nil ?_
      refine then_normal ?_
      exact hK7 ((isub .i64 y4 (1 : Int)), x7) _ _ h20 (s32.sub (.cons rfl (.cons rfl (.cons rfl (.cons rfl (.cons rfl (.cons rfl .nil)))))))
    · replace h11 := ite_f hc2 h11
      have h21 := h11; clear h11
      refine wp_exit ?_
      refine (then_exit (then_exit (in_here ?_)))
      refine in_normal ?_
      refine then_normal ?_
      exact hj1 y5 _ _ h21 (s24.sub (.cons rfl (.cons rfl (.cons rfl (.cons rfl (.cons rfl .nil))))))
  · replace h2 := ite_f hc1 h2
    have h22 := h2; clear h2
    refine wp_exit ?_
    refine (then_exit (then_exit (in_here ?_)))
    obtain rfl := Option.some.inj h22
    exact leaveXD (D := []) () s10 rfl (.inr rfl) rfl .nil rfl

/- 145 slices.pdqsortCmpFunc[cabal/api.Key] -/
theorem c_slices_pdqsortCmpFunc_api_Key_graph_Heads_1 (k : Nat) (p1 : (List (List Int))) (p2 : Int) (p3 : Int) (p4 : Int) (r : (List (List Int))) (h0 : slices_pdqsortCmpFunc_api_Key_graph_Heads_1 k p1 p2 p3 p4 = some r) (ok : Ok) (w0 : World) (z0 : Value) (z1 : Value) (z2 : Value) (z3 : Value) (z4 : Value) (wr0 : Value) (l0 : ∀ q, q ∈ [RowF wr0 39 (karr 32 (kint .u8)) p1] → q.holds ok w0) (d0 : ∀ c, c ∈ idsOf [RowF wr0 39 (karr 32 (kint .u8)) p1] → ¬ ok c) (nd : (idsOf [RowF wr0 39 (karr 32 (kint .u8)) p1]).Nodup) (u0 : (is wr0).holds ok w0 z0) (u1 : ((kint .i64).V p2).holds ok w0 z1) (u2 : ((kint .i64).V p3).holds ok w0 z2) (u3 : ((kint .i64).V p4).holds ok w0 z3) (u4 : (is (.func (.func 101) #[] #[])).holds ok w0 z4) :
    GivesX Try.prog 145 [z0, z1, z2, z3, z4] ok w0 [RowF wr0 39 (karr 32 (kint .u8)) p1] (fun g : Unit => resFact []) (fun g : Unit => [RowF wr0 39 (karr 32 (kint .u8)) r]) := by
  unfold slices_pdqsortCmpFunc_api_Key_graph_Heads_1 at h0
  refine enterX (N := 148) Try.func145 rfl rfl (of_decide_eq_true rfl) (.cons u0 (.cons u1 (.cons u2 (.cons u3 (.cons u4 .nil))))) nd l0 d0 fun a1 s1 => ?_
  refine wp_seq_k fun K1 hK1 => ?_
  refine wp_region_lit ?_
  refine seq_op s1 rfl rfl (of_decide_eq_true rfl) (ob_assign rfl opd_bool) fun a2 w2 s2 => ?_; clear s1
  refine wpList_nil ?_
  refine then_normal ?_
  refine hK1 _ _ ?_
  have s3 := s2.sub (.cons (t := 0) rfl (.cons (t := 1) rfl (.cons (t := 2) rfl (.cons (t := 3) rfl (.cons (t := 4) rfl (.cons (t := 10) rfl .nil)))))); clear s2
  refine wp_seq_k fun K2 hK2 => ?_
  refine wp_region_lit ?_
  refine seq_op s3 rfl rfl (of_decide_eq_true rfl) (ob_assign rfl opd_bool) fun a4 w4 s4 => ?_; clear s3
  refine wpList_nil ?_
  refine then_normal ?_
  refine hK2 _ _ ?_
  have s5 := s4.sub (.cons (t := 0) rfl (.cons (t := 1) rfl (.cons (t := 2) rfl (.cons (t := 3) rfl (.cons (t := 4) rfl (.cons (t := 10) rfl (.cons (t := 11) rfl .nil))))))); clear s4
  refine wp_block ?_
  refine wp_loop_fuel (fun m (q : Unit) => slices_pdqsortCmpFunc_api_Key_graph_Heads_1.l1 k p3 p2 p1 p4 m) r (fun _ => rfl) (fun q a w => St ⟨148, w0, ok, (idsOf [RowF wr0 39 (karr 32 (kint .u8)) p1])⟩ [RowF wr0 39 (karr 32 (kint .u8)) p1] [(0, (is wr0)), (1, ((kint .i64).V p2)), (2, ((kint .i64).V p3)), (3, ((kint .i64).V p4)), (4, (is (.func (.func 101) #[] #[]))), (10, (kbool.V true)), (11, (kbool.V true))] a w) ?_ k () _ _ h0 (s5.sub (.cons rfl (.cons rfl (.cons rfl (.cons rfl (.cons rfl (.cons rfl (.cons rfl .nil))))))))
  rintro n1 _ a6 w6 h1 s6 K3 hK3
  replace h1 : slices_pdqsortCmpFunc_api_Key_graph_Heads_1.l1 k p3 p2 p1 p4 (n1 + 1) = some r := h1; rw [slices_pdqsortCmpFunc_api_Key_graph_Heads_1.l1] at h1
  have h2 := h1; clear h1
  refine wp_block ?_
  refine wp_seq_k fun K4 hK4 => ?_
  refine wp_region_lit ?_
  refine seq_op s6 rfl rfl (of_decide_eq_true rfl) (ob_move rfl (.tmp rfl)) fun a7 w7 s7 => ?_; clear s6
  refine seq_op s7 rfl rfl (of_decide_eq_true rfl) (ob_move rfl (.tmp rfl)) fun a8 w8 s8 => ?_; clear s7
  refine seq_op s8 rfl rfl (of_decide_eq_true rfl) (ob_sub rfl (.tmp rfl) (.tmp rfl)) fun a9 w9 s9 => ?_; clear s8
  refine seq_op s9 rfl rfl (of_decide_eq_true rfl) (ob_assign rfl (.tmp rfl)) fun a10 w10 s10 => ?_; clear s9
  refine wpList_nil ?_
  refine then_normal ?_
  refine hK4 _ _ ?_
  have s11 := s10.sub (.cons (t := 0) rfl (.cons (t := 1) rfl (.cons (t := 2) rfl (.cons (t := 3) rfl (.cons (t := 4) rfl (.cons (t := 10) rfl (.cons (t := 11) rfl (.cons (t := 12) rfl .nil)))))))); clear s10
  refine wp_seq_k fun K5 hK5 => ?_
  refine wp_seq_k fun K6 hK6 => ?_
  refine wp_region_lit ?_
  refine seq_op s11 rfl rfl (of_decide_eq_true rfl) (ob_move rfl (.tmp rfl)) fun a12 w12 s12 => ?_; clear s11
  refine seq_op s12 rfl rfl (of_decide_eq_true rfl) (ob_leq rfl (.tmp rfl) (opd_int rfl)) fun a13 w13 s13 => ?_; clear s12
  refine wpList_nil ?_
  refine then_normal ?_
  refine hK6 _ _ ?_
  have s14 := s13.sub (.cons (t := 0) rfl (.cons (t := 1) rfl (.cons (t := 2) rfl (.cons (t := 3) rfl (.cons (t := 4) rfl (.cons (t := 10) rfl (.cons (t := 11) rfl (.cons (t := 12) rfl (.cons (t := 25) rfl .nil))))))))); clear s13
  refine cond_split s14 (.tmp rfl) (fun hc1 => ?_) (fun hc1 => ?_)
  · replace h2 := ite_t hc1 h2
    have h3 := h2; clear h2
    refine wp_seq_k fun K7 hK7 => ?_
    refine wp_region_lit ?_
    refine seq_op s14 rfl rfl (of_decide_eq_true rfl) (ob_move rfl (.tmp rfl)) fun a15 w15 s15 => ?_; clear s14
    refine seq_op s15 rfl rfl (of_decide_eq_true rfl) (ob_move rfl (.tmp rfl)) fun a16 w16 s16 => ?_; clear s15
    refine seq_op s16 rfl rfl (of_decide_eq_true rfl) (ob_move rfl (.tmp rfl)) fun a17 w17 s17 => ?_; clear s16
    refine seq_op s17 rfl rfl (of_decide_eq_true rfl) (ob_move rfl (.tmp rfl)) fun a18 w18 s18 => ?_; clear s17
    obtain ⟨x1, e_x1, h4⟩ := bind_some h3; clear h3
    refine seq_opx (B' := (fun _ : Unit => [RowF wr0 39 (karr 32 (kint .u8)) x1])) s18 rfl rfl (of_decide_eq_true rfl) (ob_callL (args := [_, _, _, _]) (L := [_]) rfl .direct hb165 (List.Perm.refl _) (fun a w s fs gs hf hg => by obtain rfl := hf.unnil; obtain rfl := hg.unnil; exact c_slices_insertionSortCmpFunc_api_Key_graph_Heads_1 k _ _ _ _ e_x1 _ _ _ _ _ _ _ (ownL s) (disL s) (nodL s) (s.arg (.tmp rfl)) (s.arg (.tmp rfl)) (s.arg (.tmp rfl)) (s.arg (.tmp rfl))) (by exact fun _ => rfl)) fun _ a19 w19 s19 => ?_; clear s18
    refine wpList_nil ?_
    refine then_normal ?_
    refine hK7 _ _ ?_
    have s20 := s19.sub .nil; clear s19
    refine wp_ret ?_
    obtain rfl := Option.some.inj h4
    exact leaveXD (D := []) () s20 rfl (.inl rfl) rfl .nil rfl
  · replace h2 := ite_f hc1 h2
    have h5 := h2; clear h2
    refine wp_skip ?_
    refine then_normal ?_
    refine hK5 _ _ ?_
    have s21 := s14.sub (.cons (t := 0) rfl (.cons (t := 1) rfl (.cons (t := 2) rfl (.cons (t := 3) rfl (.cons (t := 4) rfl (.cons (t := 10) rfl (.cons (t := 11) rfl (.cons (t := 12) rfl .nil)))))))); clear s14
    refine wp_seq_k fun K8 hK8 => ?_
    refine wp_seq_k fun K9 hK9 => ?_
    refine wp_region_lit ?_
    refine seq_op s21 rfl rfl (of_decide_eq_true rfl) (ob_move rfl (.tmp rfl)) fun a22 w22 s22 => ?_; clear s21
    refine seq_op s22 rfl rfl (of_decide_eq_true rfl) (ob_eql rfl (.tmp rfl) (opd_int rfl)) fun a23 w23 s23 => ?_; clear s22
    refine wpList_nil ?_
    refine then_normal ?_
    refine hK9 _ _ ?_
    have s24 := s23.sub (.cons (t := 0) rfl (.cons (t := 1) rfl (.cons (t := 2) rfl (.cons (t := 3) rfl (.cons (t := 4) rfl (.cons (t := 10) rfl (.cons (t := 11) rfl (.cons (t := 12) rfl (.cons (t := 32) rfl .nil))))))))); clear s23
    refine cond_split s24 (.tmp rfl) (fun hc2 => ?_) (fun hc2 => ?_)
    · replace h5 := ite_t hc2 h5
      have h6 := h5; clear h5
      refine wp_seq_k fun K10 hK10 => ?_
      refine wp_region_lit ?_
      refine seq_op s24 rfl rfl (of_decide_eq_true rfl) (ob_move rfl (.tmp rfl)) fun a25 w25 s25 => ?_; clear s24
      refine seq_op s25 rfl rfl (of_decide_eq_true rfl) (ob_move rfl (.tmp rfl)) fun a26 w26 s26 => ?_; clear s25
      refine seq_op s26 rfl rfl (of_decide_eq_true rfl) (ob_move rfl (.tmp rfl)) fun a27 w27 s27 => ?_; clear s26
      refine seq_op s27 rfl rfl (of_decide_eq_true rfl) (ob_move rfl (.tmp rfl)) fun a28 w28 s28 => ?_; clear s27
      cases h6
    · replace h5 := ite_f hc2 h5
      have h7 := h5; clear h5
      refine wp_skip ?_
      refine then_normal ?_
      refine hK8 _ _ ?_
      have s29 := s24.sub (.cons (t := 0) rfl (.cons (t := 1) rfl (.cons (t := 2) rfl (.cons (t := 3) rfl (.cons (t := 4) rfl (.cons (t := 10) rfl (.cons (t := 11) rfl (.cons (t := 12) rfl .nil)))))))); clear s24
      refine wp_seq_k fun K11 hK11 => ?_
      refine wp_seq_k fun K12 hK12 => ?_
      refine wp_region_lit ?_
      refine seq_op s29 rfl rfl (of_decide_eq_true rfl) (ob_move rfl (.tmp rfl)) fun a30 w30 s30 => ?_; clear s29
      refine seq_op s30 rfl rfl (of_decide_eq_true rfl) (ob_not rfl (.tmp rfl)) fun a31 w31 s31 => ?_; clear s30
      refine wpList_nil ?_
      refine then_normal ?_
      refine hK12 _ _ ?_
      have s32 := s31.sub (.cons (t := 0) rfl (.cons (t := 1) rfl (.cons (t := 2) rfl (.cons (t := 3) rfl (.cons (t := 4) rfl (.cons (t := 10) rfl (.cons (t := 11) rfl (.cons (t := 12) rfl (.cons (t := 39) rfl .nil))))))))); clear s31
      refine cond_split s32 (.tmp rfl) (fun hc3 => ?_) (fun hc3 => ?_)
      · replace h7 := ite_t hc3 h7
        have h8 := h7; clear h7
        refine wp_seq_k fun K13 hK13 => ?_
        refine wp_region_lit ?_
        refine seq_op s32 rfl rfl (of_decide_eq_true rfl) (ob_move rfl (.tmp rfl)) fun a33 w33 s33 => ?_; clear s32
        refine seq_op s33 rfl rfl (of_decide_eq_true rfl) (ob_move rfl (.tmp rfl)) fun a34 w34 s34 => ?_; clear s33
        refine seq_op s34 rfl rfl (of_decide_eq_true rfl) (ob_move rfl (.tmp rfl)) fun a35 w35 s35 => ?_; clear s34
        refine seq_op s35 rfl rfl (of_decide_eq_true rfl) (ob_move rfl (.tmp rfl)) fun a36 w36 s36 => ?_; clear s35
        cases h8
      · replace h7 := ite_f hc3 h7
        have h9 := h7; clear h7
        refine wp_skip ?_
        refine then_normal ?_
        refine hK11 _ _ ?_
        have s37 := s32.sub (.cons (t := 0) rfl (.cons (t := 1) rfl (.cons (t := 2) rfl (.cons (t := 3) rfl (.cons (t := 4) rfl (.cons (t := 10) rfl (.cons (t := 11) rfl (.cons (t := 12) rfl .nil)))))))); clear s32
        refine wp_seq_k fun K14 hK14 => ?_
        refine wp_region_lit ?_
        refine seq_op s37 rfl rfl (of_decide_eq_true rfl) (ob_move rfl (.tmp rfl)) fun a38 w38 s38 => ?_; clear s37
        refine seq_op s38 rfl rfl (of_decide_eq_true rfl) (ob_move rfl (.tmp rfl)) fun a39 w39 s39 => ?_; clear s38
        refine seq_op s39 rfl rfl (of_decide_eq_true rfl) (ob_move rfl (.tmp rfl)) fun a40 w40 s40 => ?_; clear s39
        refine seq_op s40 rfl rfl (of_decide_eq_true rfl) (ob_move rfl (.tmp rfl)) fun a41 w41 s41 => ?_; clear s40
        cases h9

/- 100 slices.SortFunc[[]cabal/api.Key,cabal/api.Key] -/
theorem c_slices_SortFunc_api_Key_api_Key_graph_Heads_1 (k : Nat) (p1 : (List (List Int))) (r : (List (List Int))) (h0 : slices_SortFunc_api_Key_api_Key_graph_Heads_1 k p1 = some r) (ok : Ok) (w0 : World) (z0 : Value) (z1 : Value) (wr0 : Value) (l0 : ∀ q, q ∈ [RowF wr0 39 (karr 32 (kint .u8)) p1] → q.holds ok w0) (d0 : ∀ c, c ∈ idsOf [RowF wr0 39 (karr 32 (kint .u8)) p1] → ¬ ok c) (nd : (idsOf [RowF wr0 39 (karr 32 (kint .u8)) p1]).Nodup) (u0 : (is wr0).holds ok w0 z0) (u1 : (is (.func (.func 101) #[] #[])).holds ok w0 z1) :
    GivesX Try.prog 100 [z0, z1] ok w0 [RowF wr0 39 (karr 32 (kint .u8)) p1] (fun g : Unit => resFact []) (fun g : Unit => [RowF wr0 39 (karr 32 (kint .u8)) r]) := by
  unfold slices_SortFunc_api_Key_api_Key_graph_Heads_1 at h0
  refine enterX (N := 14) Try.func100 rfl rfl (of_decide_eq_true rfl) (.cons u0 (.cons u1 .nil)) nd l0 d0 fun a1 s1 => ?_
  refine wp_seq_k fun K1 hK1 => ?_
  refine wp_region_lit ?_
  refine seq_op s1 rfl rfl (of_decide_eq_true rfl) (ob_move rfl (.tmp rfl)) fun a2 w2 s2 => ?_; clear s1
  refine seq_op s2 rfl rfl (of_decide_eq_true rfl) (ob_lenRow rfl Try.underlying40 (.tmp rfl) (.head _)) fun a3 w3 s3 => ?_; clear s2
  refine seq_op s3 rfl rfl (of_decide_eq_true rfl) (ob_assign rfl (.tmp rfl)) fun a4 w4 s4 => ?_; clear s3
  refine wpList_nil ?_
  refine then_normal ?_
  refine hK1 _ _ ?_
  have s5 := s4.sub (.cons (t := 0) rfl (.cons (t := 1) rfl (.cons (t := 4) rfl .nil))); clear s4
  refine wp_region_lit ?_
  refine seq_op s5 rfl rfl (of_decide_eq_true rfl) (ob_move rfl (.tmp rfl)) fun a6 w6 s6 => ?_; clear s5
  refine seq_op s6 rfl rfl (of_decide_eq_true rfl) (ob_move rfl (.tmp rfl)) fun a7 w7 s7 => ?_; clear s6
  refine seq_op s7 rfl rfl (of_decide_eq_true rfl) (ob_move rfl (.tmp rfl)) fun a8 w8 s8 => ?_; clear s7
  refine seq_op s8 rfl rfl (of_decide_eq_true rfl) (ob_conv rfl _ Try.underlying3 Try.underlying37 (.tmp rfl)) fun a9 w9 s9 => ?_; clear s8
  obtain ⟨x1, e_x1, h1⟩ := bind_some h0; clear h0
  refine seq_op s9 rfl rfl (of_decide_eq_true rfl) (ob_callD (args := [_]) rfl .direct hb146 (fun a w s fs gs hf hg => by obtain rfl := hf.unnil; obtain rfl := hg.unnil; exact c_math_bits_Len k _ _ e_x1 _ _ _ (s.arg (.tmp rfl)))) fun a10 w10 s10 => ?_; clear s9
  refine seq_op s10 rfl rfl (of_decide_eq_true rfl) (ob_move rfl (.tmp rfl)) fun a11 w11 s11 => ?_; clear s10
  obtain ⟨x2, e_x2, h2⟩ := bind_some h1; clear h1
  refine seq_opx (B' := (fun _ : Unit => [RowF wr0 39 (karr 32 (kint .u8)) x2])) s11 rfl rfl (of_decide_eq_true rfl) (ob_callL (args := [_, _, _, _, _]) (L := [_]) rfl .direct hb145 (List.Perm.refl _) (fun a w s fs gs hf hg => by obtain rfl := hf.unnil; obtain rfl := hg.unnil; exact c_slices_pdqsortCmpFunc_api_Key_graph_Heads_1 k _ _ _ _ _ e_x2 _ _ _ _ _ _ _ _ (ownL s) (disL s) (nodL s) (s.arg (.tmp rfl)) (s.arg (opd_int rfl)) (s.arg (.tmp rfl)) (s.arg (.tmp rfl)) (s.arg (.tmp rfl))) (by exact fun _ => rfl)) fun _ a12 w12 s12 => ?_; clear s11
  refine wpList_nil ?_
  obtain rfl := Option.some.inj h2
  exact leaveXD (D := []) () s12 rfl (.inr rfl) rfl .nil rfl

/- 50 cabal/graph.Heads -/
theorem c_graph_Heads (k : Nat) (p1 : (List api_Node)) (r : (List (List Int))) (h0 : graph_Heads k p1 = some r) (ok : Ok) (w0 : World) (z0 : Value) (u0 : ((ksl k_api_Node).V p1).holds ok w0 z0) :
    GivesX Try.prog 50 [z0] ok w0 [] (fun g : Value => resFact [is g]) (fun g : Value => [RowF (g) 39 (karr 32 (kint .u8)) r]) := by
  unfold graph_Heads at h0
  refine enterX (N := 52) Try.func50 rfl rfl (of_decide_eq_true rfl) (.cons u0 .nil) List.nodup_nil (fun _ h => by cases h) (fun _ h => by cases h) fun a1 s1 => ?_
  refine wp_seq_k fun K1 hK1 => ?_
  refine wp_region_lit ?_
  refine seq_op s1 rfl rfl (of_decide_eq_true rfl) (ob_assign rfl opd_is) fun a2 w2 s2 => ?_; clear s1
  have s3 := St.adopt s2 (G := RowF (nilRow 17) 39 (karr 32 (kint .u8)) []) rfl (rowNilN _ _ _ _ _); clear s2
  refine wpList_nil ?_
  refine then_normal ?_
  refine hK1 _ _ ?_
  have s4 := s3.sub (.cons (t := 0) rfl .nil); clear s3
  have s5 := St.drop (A := []) s4; clear s4
  refine wp_seq_k fun K2 hK2 => ?_
  refine wp_seq_k fun K3 hK3 => ?_
  refine wp_region_lit ?_
  refine seq_op s5 rfl rfl (of_decide_eq_true rfl) (ob_move rfl (.tmp rfl)) fun a6 w6 s6 => ?_; clear s5
  obtain ⟨x1, e_x1, h1⟩ := bind_some h0; clear h0
  refine seq_op s6 rfl rfl (of_decide_eq_true rfl) (ob_callD (args := [_]) rfl .direct hb24 (fun a w s fs gs hf hg => by obtain rfl := hf.unnil; obtain rfl := hg.unnil; exact c_graph_Right k _ _ e_x1 _ _ _ (s.arg (.tmp rfl)))) fun a7 w7 s7 => ?_; clear s6
  refine seq_op s7 rfl rfl (of_decide_eq_true rfl) (ob_not rfl (.tmp rfl)) fun a8 w8 s8 => ?_; clear s7
  refine wpList_nil ?_
  refine then_normal ?_
  refine hK3 _ _ ?_
  have s9 := s8.sub (.cons (t := 0) rfl (.cons (t := 13) rfl .nil)); clear s8
  refine cond_split s9 (.tmp rfl) (fun hc1 => ?_) (fun hc1 => ?_)
  · replace h1 := ite_t hc1 h1
    have h2 := h1; clear h1
    refine wp_seq_k fun K4 hK4 => ?_
    refine wp_region_lit ?_
    refine seq_op s9 rfl rfl (of_decide_eq_true rfl) (ob_assign rfl opd_is) fun a10 w10 s10 => ?_; clear s9
    have s11 := St.adopt s10 (G := RowF (nilRow 18) 39 (karr 32 (kint .u8)) []) rfl (rowNilN _ _ _ _ _); clear s10
    refine wpList_nil ?_
    refine then_normal ?_
    refine hK4 _ _ ?_
    have s12 := s11.sub (.cons (t := 2) rfl .nil); clear s11
    refine wp_ret ?_
    obtain rfl := Option.some.inj h2
    exact leaveXD (D := []) (nilRow 18) s12 rfl (.inl rfl) rfl (.cons (.tmp rfl) .nil) rfl
  · replace h1 := ite_f hc1 h1
    have h3 := h1; clear h1
    refine wp_skip ?_
    refine then_normal ?_
    refine hK2 _ _ ?_
    have s13 := s9.sub (.cons (t := 0) rfl .nil); clear s9
    refine wp_seq_k fun K5 hK5 => ?_
    refine wp_region_lit ?_
    refine seq_opx (B' := (fun b1 : Nat => [MapF b1 .i64 ([] : List (Int × Bool))])) s13 rfl rfl (of_decide_eq_true rfl) (ob_makeMap (ik := .i64) rfl) fun b1 a14 w14 s14 => ?_; clear s13
    refine seq_op s14 rfl rfl (of_decide_eq_true rfl) (ob_assign rfl (.tmp rfl)) fun a15 w15 s15 => ?_; clear s14
    refine wpList_nil ?_
    refine then_normal ?_
    refine hK5 _ _ ?_
    have s16 := s15.sub (.cons (t := 0) rfl (.cons (t := 3) rfl .nil)); clear s15
    refine wp_seq_k fun K6 hK6 => ?_
    refine wp_seq_k fun K7 hK7 => ?_
    refine wp_region_lit ?_
    refine seq_op s16 rfl rfl (of_decide_eq_true rfl) (ob_move rfl (.tmp rfl)) fun a17 w17 s17 => ?_; clear s16
    refine seq_op s17 rfl rfl (of_decide_eq_true rfl) (ob_lens rfl Try.underlying22 (.tmp rfl)) fun a18 w18 s18 => ?_; clear s17
    refine seq_op s18 rfl rfl (of_decide_eq_true rfl) (ob_move rfl (opd_int rfl)) fun a19 w19 s19 => ?_; clear s18
    refine wpList_nil ?_
    refine then_normal ?_
    refine hK7 _ _ ?_
    have s20 := s19.sub (.cons (t := 0) rfl (.cons (t := 3) rfl (.cons (t := 15) rfl (.cons (t := 16) rfl (.cons (t := 17) rfl .nil))))); clear s19
    have hj1 : ∀ (y1 : (List (Int × Bool))) (a : Act) (w : World), (graph_Heads.j1 k p1) y1 = some r → St ⟨52, w0, ok, (idsOf [])⟩ [MapF b1 .i64 y1] [(0, ((ksl k_api_Node).V p1)), (3, (is (.map (some b1))))] a w → K6 a w := by
      intro y1 a21 w21 h4 s21
      unfold graph_Heads.j1 at h4
      refine hK6 _ _ ?_
      refine wp_seq_k fun K8 hK8 => ?_
      refine wp_region_lit ?_
      refine seq_op s21 rfl rfl (of_decide_eq_true rfl) (ob_assign rfl opd_is) fun a22 w22 s22 => ?_; clear s21
      have s23 := St.adopt s22 (G := RowF (nilRow 19) 39 (karr 32 (kint .u8)) []) rfl (rowNilN _ _ _ _ _); clear s22
      refine wpList_nil ?_
      refine then_normal ?_
      refine hK8 _ _ ?_
      have s24 := s23.sub (.cons (t := 0) rfl (.cons (t := 3) rfl (.cons (t := 8) rfl .nil))); clear s23
      refine wp_seq_k fun K9 hK9 => ?_
      refine wp_seq_k fun K10 hK10 => ?_
      refine wp_region_lit ?_
      refine seq_op s24 rfl rfl (of_decide_eq_true rfl) (ob_move rfl (.tmp rfl)) fun a25 w25 s25 => ?_; clear s24
      refine seq_op s25 rfl rfl (of_decide_eq_true rfl) (ob_lens rfl Try.underlying22 (.tmp rfl)) fun a26 w26 s26 => ?_; clear s25
      refine seq_op s26 rfl rfl (of_decide_eq_true rfl) (ob_move rfl (opd_int rfl)) fun a27 w27 s27 => ?_; clear s26
      refine wpList_nil ?_
      refine then_normal ?_
      refine hK10 _ _ ?_
      have s28 := s27.sub (.cons (t := 3) rfl (.cons (t := 8) rfl (.cons (t := 32) rfl (.cons (t := 33) rfl (.cons (t := 34) rfl .nil))))); clear s27
      have hj2 : ∀ (y2 : (List (List Int))) (v1 : Value) (a : Act) (w : World), (graph_Heads.j2 k) y2 = some r → St ⟨52, w0, ok, (idsOf [])⟩ [RowF v1 39 (karr 32 (kint .u8)) y2] [(8, (is v1))] a w → K9 a w := by
        intro y2 v1 a29 w29 h5 s29
        unfold graph_Heads.j2 at h5
        refine hK9 _ _ ?_
        refine wp_seq_k fun K11 hK11 => ?_
        refine wp_region_lit ?_
        refine seq_op s29 rfl rfl (of_decide_eq_true rfl) (ob_move rfl (.tmp rfl)) fun a30 w30 s30 => ?_; clear s29
        obtain ⟨x2, e_x2, h6⟩ := bind_some h5; clear h5
        refine seq_opx (B' := (fun _ : Unit => [RowF v1 39 (karr 32 (kint .u8)) x2])) s30 rfl rfl (of_decide_eq_true rfl) (ob_callL (args := [_, _]) (L := [_]) rfl .direct hb100 (List.Perm.refl _) (fun a w s fs gs hf hg => by obtain rfl := hf.unnil; obtain rfl := hg.unnil; exact c_slices_SortFunc_api_Key_api_Key_graph_Heads_1 k _ _ e_x2 _ _ _ _ _ (ownL s) (disL s) (nodL s) (s.arg (.tmp rfl)) (s.arg .func)) (by exact fun _ => rfl)) fun _ a31 w31 s31 => ?_; clear s30
        refine wpList_nil ?_
        refine then_normal ?_
        refine hK11 _ _ ?_
        have s32 := s31.sub (.cons (t := 8) rfl .nil); clear s31
        refine wp_seq_k fun K12 hK12 => ?_
        refine wp_region_lit ?_
        refine seq_op s32 rfl rfl (of_decide_eq_true rfl) (ob_move rfl (.tmp rfl)) fun a33 w33 s33 => ?_; clear s32
        refine seq_op s33 rfl rfl (of_decide_eq_true rfl) (ob_assign rfl (.tmp rfl)) fun a34 w34 s34 => ?_; clear s33
        refine wpList_nil ?_
        refine then_normal ?_
        refine hK12 _ _ ?_
        have s35 := s34.sub (.cons (t := 2) rfl .nil); clear s34
        refine wp_ret ?_
        obtain rfl := Option.some.inj h6
        exact leaveXD (D := []) v1 s35 rfl (.inl rfl) rfl (.cons (.tmp rfl) .nil) rfl
      refine wp_block ?_
      have s36 := s28.perm (toFront [_] (toFront [] (List.Perm.refl _))); clear s28
      refine wp_loop_fuel (fun m (q : Int × (List (List Int))) => graph_Heads.l1 k p1 y1 m q.1 q.2) r (fun _ => rfl) (fun q a w => ∃ (v2 : Value), St ⟨52, w0, ok, (idsOf [])⟩ [MapF b1 .i64 y1, RowF v2 39 (karr 32 (kint .u8)) q.2] [(3, (is (.map (some b1)))), (8, (is v2)), (32, ((ksl k_api_Node).V p1)), (33, ((kint .i64).V (p1.length : Int))), (34, ((kint .i64).V q.1))] a w) ?_ k ((0 : Int), ([] : (List (List Int)))) _ _ h4 ⟨(nilRow 19), (s36.sub (.cons rfl (.cons rfl (.cons rfl (.cons rfl (.cons rfl .nil))))))⟩
      rintro n1 ⟨y3, y4⟩ a37 w37 h7 ⟨v2, s37⟩ K13 hK13
      replace h7 : graph_Heads.l1 k p1 y1 (n1 + 1) y3 y4 = some r := h7; rw [graph_Heads.l1] at h7
      have h8 := h7; clear h7
      refine wp_seq_k fun K14 hK14 => ?_
      refine wp_region_lit ?_
      refine seq_op s37 rfl rfl (of_decide_eq_true rfl) (ob_lss rfl (.tmp rfl) (.tmp rfl)) fun a38 w38 s38 => ?_; clear s37
      refine wpList_nil ?_
      refine then_normal ?_
      refine hK14 _ _ ?_
      have s39 := s38.sub (.cons (t := 3) rfl (.cons (t := 8) rfl (.cons (t := 32) rfl (.cons (t := 33) rfl (.cons (t := 34) rfl (.cons (t := 35) rfl .nil)))))); clear s38
      refine wp_seq_k fun K15 hK15 => ?_
      refine cond_split s39 (.tmp rfl) (fun hc2 => ?_) (fun hc2 => ?_)
      · replace h8 := ite_t hc2 h8
        have h9 := h8; clear h8
        refine wp_skip ?_
        refine then_normal ?_
        refine hK15 _ _ ?_
        have s40 := s39.sub (.cons (t := 3) rfl (.cons (t := 8) rfl (.cons (t := 32) rfl (.cons (t := 33) rfl (.cons (t := 34) rfl .nil))))); clear s39
        refine wp_seq_k fun K16 hK16 => ?_
        have hj3 : ∀ (y5 : (List (List Int))) (v3 : Value) (a : Act) (w : World), (graph_Heads.j3 k y3 (graph_Heads.l1 k p1 y1 n1)) y5 = some r → St ⟨52, w0, ok, (idsOf [])⟩ [MapF b1 .i64 y1, RowF v3 39 (karr 32 (kint .u8)) y5] [(3, (is (.map (some b1)))), (8, (is v3)), (32, ((ksl k_api_Node).V p1)), (33, ((kint .i64).V (p1.length : Int))), (34, ((kint .i64).V y3))] a w → K16 a w := by
          intro y5 v3 a41 w41 h10 s41
          unfold graph_Heads.j3 at h10
          refine hK16 _ _ ?_
          refine wp_region_lit ?_
          refine seq_op s41 rfl rfl (of_decide_eq_true rfl) (ob_add rfl (.tmp rfl) (opd_int rfl)) fun a42 w42 s42 => ?_; clear s41
          refine seq_op s42 rfl rfl (of_decide_eq_true rfl) (ob_move rfl (.tmp rfl)) fun a43 w43 s43 => ?_; clear s42
          refine wpList_nil ?_
          refine then_normal ?_
          exact hK13 ((iadd .i64 y3 (1 : Int)), y5) _ _ h10 ⟨v3, (s43.sub (.cons rfl (.cons rfl (.cons rfl (.cons rfl (.cons rfl .nil))))))⟩
        refine wp_block ?_
        refine wp_seq_k fun K17 hK17 => ?_
        refine wp_region_lit ?_
        refine seq_op s40 rfl rfl (of_decide_eq_true rfl) (ob_move rfl (.tmp rfl)) fun a44 w44 s44 => ?_; clear s40
        obtain ⟨x3, e_x3, h11⟩ := bind_some h9; clear h9
        refine seq_op s44 rfl rfl (of_decide_eq_true rfl) (ob_indexAddrs rfl Try.underlying22 sz46 (.tmp rfl) (.tmp rfl) e_x3) fun a45 w45 s45 => ?_; clear s44
        refine seq_op s45 rfl rfl (of_decide_eq_true rfl) (ob_loadr rfl tk46 (.tmp rfl)) fun a46 w46 s46 => ?_; clear s45
        refine seq_opx (B' := (fun b2 : Nat => [BF b2 46 k_api_Node (⟨(List.replicate 32 (0 : Int)), (⟨(0 : Int), (0 : Int), [], (0 : Int), [], (List.replicate 32 (0 : Int)), (List.replicate 32 (0 : Int)), [], []⟩ : api_Op), []⟩ : api_Node), MapF b1 .i64 y1, RowF v2 39 (karr 32 (kint .u8)) y4])) s46 rfl rfl (of_decide_eq_true rfl) (ob_new (k := k_api_Node) rfl zz46 (Zr.iso (f := t_api_Node) (x := (⟨(List.replicate 32 (0 : Int)), (⟨(0 : Int), (0 : Int), [], (0 : Int), [], (List.replicate 32 (0 : Int)), (List.replicate 32 (0 : Int)), [], []⟩ : api_Op), []⟩ : api_Node)) (Zr.pair (Zr.arr 32 (Zr.int .u8)) (Zr.pair (Zr.iso (f := t_api_Op) (x := (⟨(0 : Int), (0 : Int), [], (0 : Int), [], (List.replicate 32 (0 : Int)), (List.replicate 32 (0 : Int)), [], []⟩ : api_Op)) (Zr.pair (Zr.int .i64) (Zr.pair (Zr.int .u32) (Zr.pair (Zr.sl _) (Zr.pair (Zr.int .i64) (Zr.pair (Zr.sl _) (Zr.pair (Zr.arr 32 (Zr.int .u8)) (Zr.pair (Zr.arr 32 (Zr.int .u8)) (Zr.pair Zr.str (Zr.pair (Zr.sl _) Zr.nil)))))))))) (Zr.pair (Zr.sl _) Zr.nil))))) fun b2 a47 w47 s47 => ?_; clear s46
        refine seq_op s47 rfl rfl (of_decide_eq_true rfl) (ob_assign rfl (.tmp rfl)) fun a48 w48 s48 => ?_; clear s47
        refine seq_opx0 (B' := (fun _ : Unit => [BF b2 46 k_api_Node x3, MapF b1 .i64 y1, RowF v2 39 (karr 32 (kint .u8)) y4])) s48 rfl rfl (ob_store (A := []) rfl tk46 (.tmp rfl) (.tmp rfl) rfl (LS.refl _ _ _) rfl) fun _ a49 w49 s49 => ?_; clear s48
        refine wpList_nil ?_
        refine then_normal ?_
        refine hK17 _ _ ?_
        have s50 := s49.sub (.cons (t := 3) rfl (.cons (t := 8) rfl (.cons (t := 9) rfl (.cons (t := 10) rfl (.cons (t := 32) rfl (.cons (t := 33) rfl (.cons (t := 34) rfl .nil))))))); clear s49
        refine wp_seq_k fun K18 hK18 => ?_
        refine wp_region_lit ?_
        refine seq_op s50 rfl rfl (of_decide_eq_true rfl) (ob_move rfl (.tmp rfl)) fun a51 w51 s51 => ?_; clear s50
        refine seq_op s51 rfl rfl (of_decide_eq_true rfl) (ob_move rfl (.tmp rfl)) fun a52 w52 s52 => ?_; clear s51
        refine seq_op s52 rfl rfl (of_decide_eq_true rfl) (ob_lookup rfl Try.underlying122 Try.underlying3 zz4 (.tmp rfl) (.tmp rfl) (.tail _ (.head _))) fun a53 w53 s53 => ?_; clear s52
        refine seq_op s53 rfl rfl (of_decide_eq_true rfl) (ob_not rfl (.tmp rfl)) fun a54 w54 s54 => ?_; clear s53
        refine wpList_nil ?_
        refine then_normal ?_
        refine hK18 _ _ ?_
        have s55 := s54.sub (.cons (t := 3) rfl (.cons (t := 8) rfl (.cons (t := 10) rfl (.cons (t := 32) rfl (.cons (t := 33) rfl (.cons (t := 34) rfl (.cons (t := 42) rfl .nil))))))); clear s54
        refine cond_split s55 (.tmp rfl) (fun hc3 => ?_) (fun hc3 => ?_)
        · replace h11 := ite_t hc3 h11
          have h12 := h11; clear h11
          refine wp_region_lit ?_
          refine seq_op s55 rfl rfl (of_decide_eq_true rfl) (ob_move rfl (.tmp rfl)) fun a56 w56 s56 => ?_; clear s55
          refine seq_op s56 rfl rfl (of_decide_eq_true rfl) (ob_fieldAddr (off' := 0) rfl Try.underlying46 rfl sz39 (by decide) (.tmp rfl) rfl) fun a57 w57 s57 => ?_; clear s56
          refine seq_op s57 rfl rfl (of_decide_eq_true rfl) (ob_load rfl tk39 (.tmp rfl) (.head _) (lg_api_Node_Id x3)) fun a58 w58 s58 => ?_; clear s57
          refine seq_op s58 rfl rfl (of_decide_eq_true rfl) (ob_mkSlice (k := (karr 32 (kint .u8))) (xs := ([x3.Id] : (List (List Int)))) rfl Try.underlying40 zz39 sz39 (Zr.arr 32 (Zr.int .u8)) (by decide) (by decide) (.cons (.tmp rfl) rfl (LS.arr' (i := 0) (ys := ([x3.Id] : (List (List Int)))) (by simp) (by rfl)) (.nil _))) fun a59 w59 s59 => ?_; clear s58
          obtain ⟨g1, h13⟩ := guard_some h12; clear h12
          refine seq_opx (B' := (fun v4 : Value => [BF b2 46 k_api_Node x3, MapF b1 .i64 y1, RowF v4 39 (karr 32 (kint .u8)) (y4 ++ ([x3.Id] : (List (List Int))))])) s59 rfl rfl (of_decide_eq_true rfl) (ob_appendL2 (A := [_, _]) rfl Try.underlying40 ap39 (Zr.arr 32 (Zr.int .u8)) (by decide) (.tmp rfl) (.tmp rfl) rfl g1) fun v4 a60 w60 s60 => ?_; clear s59
          refine seq_op s60 rfl rfl (of_decide_eq_true rfl) (ob_assign rfl (.tmp rfl)) fun a61 w61 s61 => ?_; clear s60
          refine wpList_nil ?_
          refine in_normal ?_
          refine then_normal ?_
          have s62 := St.drop (A := []) s61; clear s61
          exact hj3 (y4 ++ ([x3.Id] : (List (List Int)))) v4 _ _ h13 (s62.sub (.cons rfl (.cons rfl (.cons rfl (.cons rfl (.cons rfl .nil))))))
        · replace h11 := ite_f hc3 h11
          have h14 := h11; clear h11
          refine wp_skip ?_
          refine in_normal ?_
          refine then_normal ?_
          have s63 := St.drop (A := []) s55; clear s55
          exact hj3 y4 v2 _ _ h14 (s63.sub (.cons rfl (.cons rfl (.cons rfl (.cons rfl (.cons rfl .nil))))))
      · replace h8 := ite_f hc2 h8
        have h15 := h8; clear h8
        refine wp_exit ?_
        refine (then_exit (then_exit (in_here ?_)))
        refine then_normal ?_
        have s64 := St.drop (A := []) s39; clear s39
        exact hj2 y4 v2 _ _ h15 (s64.sub (.cons rfl .nil))
    refine wp_block ?_
    refine wp_loop_fuel (fun m (q : Int × (List (Int × Bool))) => graph_Heads.l2 k p1 m q.1 q.2) r (fun _ => rfl) (fun q a w => St ⟨52, w0, ok, (idsOf [])⟩ [MapF b1 .i64 q.2] [(0, ((ksl k_api_Node).V p1)), (3, (is (.map (some b1)))), (15, ((ksl k_api_Node).V p1)), (16, ((kint .i64).V (p1.length : Int))), (17, ((kint .i64).V q.1))] a w) ?_ k ((0 : Int), ([] : List (Int × Bool))) _ _ h3 (s20.sub (.cons rfl (.cons rfl (.cons rfl (.cons rfl (.cons rfl .nil))))))
    rintro n2 ⟨y6, y7⟩ a65 w65 h16 s65 K19 hK19
    replace h16 : graph_Heads.l2 k p1 (n2 + 1) y6 y7 = some r := h16; rw [graph_Heads.l2] at h16
    have h17 := h16; clear h16
    refine wp_seq_k fun K20 hK20 => ?_
    refine wp_region_lit ?_
    refine seq_op s65 rfl rfl (of_decide_eq_true rfl) (ob_lss rfl (.tmp rfl) (.tmp rfl)) fun a66 w66 s66 => ?_; clear s65
    refine wpList_nil ?_
    refine then_normal ?_
    refine hK20 _ _ ?_
    have s67 := s66.sub (.cons (t := 0) rfl (.cons (t := 3) rfl (.cons (t := 15) rfl (.cons (t := 16) rfl (.cons (t := 17) rfl (.cons (t := 18) rfl .nil)))))); clear s66
    refine wp_seq_k fun K21 hK21 => ?_
    refine cond_split s67 (.tmp rfl) (fun hc4 => ?_) (fun hc4 => ?_)
    · replace h17 := ite_t hc4 h17
      have h18 := h17; clear h17
      refine wp_skip ?_
      refine then_normal ?_
      refine hK21 _ _ ?_
      have s68 := s67.sub (.cons (t := 0) rfl (.cons (t := 3) rfl (.cons (t := 15) rfl (.cons (t := 16) rfl (.cons (t := 17) rfl .nil))))); clear s67
      refine wp_seq_k fun K22 hK22 => ?_
      have hj4 : ∀ (y8 : (List (Int × Bool))) (a : Act) (w : World), (graph_Heads.j4 k y6 (graph_Heads.l2 k p1 n2)) y8 = some r → St ⟨52, w0, ok, (idsOf [])⟩ [MapF b1 .i64 y8] [(0, ((ksl k_api_Node).V p1)), (3, (is (.map (some b1)))), (15, ((ksl k_api_Node).V p1)), (16, ((kint .i64).V (p1.length : Int))), (17, ((kint .i64).V y6))] a w → K22 a w := by
        intro y8 a69 w69 h19 s69
        unfold graph_Heads.j4 at h19
        refine hK22 _ _ ?_
        refine wp_region_lit ?_
        refine seq_op s69 rfl rfl (of_decide_eq_true rfl) (ob_add rfl (.tmp rfl) (opd_int rfl)) fun a70 w70 s70 => ?_; clear s69
        refine seq_op s70 rfl rfl (of_decide_eq_true rfl) (ob_move rfl (.tmp rfl)) fun a71 w71 s71 => ?_; clear s70
        refine wpList_nil ?_
        refine then_normal ?_
        exact hK19 ((iadd .i64 y6 (1 : Int)), y8) _ _ h19 (s71.sub (.cons rfl (.cons rfl (.cons rfl (.cons rfl (.cons rfl .nil))))))
      refine wp_block ?_
      refine wp_seq_k fun K23 hK23 => ?_
      refine wp_region_lit ?_
      obtain ⟨x4, e_x4, h20⟩ := bind_some h18; clear h18
      refine seq_op s68 rfl rfl (of_decide_eq_true rfl) (ob_indexAddrs rfl Try.underlying22 sz46 (.tmp rfl) (.tmp rfl) e_x4) fun a72 w72 s72 => ?_; clear s68
      refine seq_op s72 rfl rfl (of_decide_eq_true rfl) (ob_loadr rfl tk46 (.tmp rfl)) fun a73 w73 s73 => ?_; clear s72
      refine seq_opx (B' := (fun b3 : Nat => [BF b3 46 k_api_Node (⟨(List.replicate 32 (0 : Int)), (⟨(0 : Int), (0 : Int), [], (0 : Int), [], (List.replicate 32 (0 : Int)), (List.replicate 32 (0 : Int)), [], []⟩ : api_Op), []⟩ : api_Node), MapF b1 .i64 y7])) s73 rfl rfl (of_decide_eq_true rfl) (ob_new (k := k_api_Node) rfl zz46 (Zr.iso (f := t_api_Node) (x := (⟨(List.replicate 32 (0 : Int)), (⟨(0 : Int), (0 : Int), [], (0 : Int), [], (List.replicate 32 (0 : Int)), (List.replicate 32 (0 : Int)), [], []⟩ : api_Op), []⟩ : api_Node)) (Zr.pair (Zr.arr 32 (Zr.int .u8)) (Zr.pair (Zr.iso (f := t_api_Op) (x := (⟨(0 : Int), (0 : Int), [], (0 : Int), [], (List.replicate 32 (0 : Int)), (List.replicate 32 (0 : Int)), [], []⟩ : api_Op)) (Zr.pair (Zr.int .i64) (Zr.pair (Zr.int .u32) (Zr.pair (Zr.sl _) (Zr.pair (Zr.int .i64) (Zr.pair (Zr.sl _) (Zr.pair (Zr.arr 32 (Zr.int .u8)) (Zr.pair (Zr.arr 32 (Zr.int .u8)) (Zr.pair Zr.str (Zr.pair (Zr.sl _) Zr.nil)))))))))) (Zr.pair (Zr.sl _) Zr.nil))))) fun b3 a74 w74 s74 => ?_; clear s73
      refine seq_opx0 (B' := (fun _ : Unit => [BF b3 46 k_api_Node x4, MapF b1 .i64 y7])) s74 rfl rfl (ob_store (A := []) rfl tk46 (.tmp rfl) (.tmp rfl) rfl (LS.refl _ _ _) rfl) fun _ a75 w75 s75 => ?_; clear s74
      refine wpList_nil ?_
      refine then_normal ?_
      refine hK23 _ _ ?_
      have s76 := s75.sub (.cons (t := 0) rfl (.cons (t := 3) rfl (.cons (t := 5) rfl (.cons (t := 15) rfl (.cons (t := 16) rfl (.cons (t := 17) rfl .nil)))))); clear s75
      refine wp_seq_k fun K24 hK24 => ?_
      refine wp_region_lit ?_
      refine seq_op s76 rfl rfl (of_decide_eq_true rfl) (ob_fieldAddr (off' := 103) rfl Try.underlying46 rfl sz41 (by decide) (.tmp rfl) rfl) fun a77 w77 s77 => ?_; clear s76
      refine seq_op s77 rfl rfl (of_decide_eq_true rfl) (ob_load rfl tk41 (.tmp rfl) (.head _) (lg_api_Node_Past x4)) fun a78 w78 s78 => ?_; clear s77
      refine seq_op s78 rfl rfl (of_decide_eq_true rfl) (ob_lens rfl Try.underlying41 (.tmp rfl)) fun a79 w79 s79 => ?_; clear s78
      refine seq_op s79 rfl rfl (of_decide_eq_true rfl) (ob_move rfl (opd_int rfl)) fun a80 w80 s80 => ?_; clear s79
      refine wpList_nil ?_
      refine then_normal ?_
      refine hK24 _ _ ?_
      have s81 := s80.sub (.cons (t := 0) rfl (.cons (t := 3) rfl (.cons (t := 15) rfl (.cons (t := 16) rfl (.cons (t := 17) rfl (.cons (t := 22) rfl (.cons (t := 23) rfl (.cons (t := 24) rfl .nil)))))))); clear s80
      have s82 := St.drop (A := []) s81; clear s81
      refine wp_block ?_
      refine wp_loop_fuel (fun m (q : Int × (List (Int × Bool))) => graph_Heads.l3 k x4 y6 (graph_Heads.l2 k p1 n2) m q.1 q.2) r (fun _ => rfl) (fun q a w => St ⟨52, w0, ok, (idsOf [])⟩ [MapF b1 .i64 q.2] [(0, ((ksl k_api_Node).V p1)), (3, (is (.map (some b1)))), (15, ((ksl k_api_Node).V p1)), (16, ((kint .i64).V (p1.length : Int))), (17, ((kint .i64).V y6)), (22, ((ksl (kint .i64)).V x4.Past)), (23, ((kint .i64).V (x4.Past.length : Int))), (24, ((kint .i64).V q.1))] a w) ?_ k ((0 : Int), y7) _ _ h20 (s82.sub (.cons rfl (.cons rfl (.cons rfl (.cons rfl (.cons rfl (.cons rfl (.cons rfl (.cons rfl .nil)))))))))
      rintro n3 ⟨y9, y10⟩ a83 w83 h21 s83 K25 hK25
      replace h21 : graph_Heads.l3 k x4 y6 (graph_Heads.l2 k p1 n2) (n3 + 1) y9 y10 = some r := h21; rw [graph_Heads.l3] at h21
      have h22 := h21; clear h21
      refine wp_seq_k fun K26 hK26 => ?_
      refine wp_region_lit ?_
      refine seq_op s83 rfl rfl (of_decide_eq_true rfl) (ob_lss rfl (.tmp rfl) (.tmp rfl)) fun a84 w84 s84 => ?_; clear s83
      refine wpList_nil ?_
      refine then_normal ?_
      refine hK26 _ _ ?_
      have s85 := s84.sub (.cons (t := 0) rfl (.cons (t := 3) rfl (.cons (t := 15) rfl (.cons (t := 16) rfl (.cons (t := 17) rfl (.cons (t := 22) rfl (.cons (t := 23) rfl (.cons (t := 24) rfl (.cons (t := 25) rfl .nil))))))))); clear s84
      refine wp_seq_k fun K27 hK27 => ?_
      refine cond_split s85 (.tmp rfl) (fun hc5 => ?_) (fun hc5 => ?_)
      · replace h22 := ite_t hc5 h22
        have h23 := h22; clear h22
        refine wp_skip ?_
        refine then_normal ?_
        refine hK27 _ _ ?_
        have s86 := s85.sub (.cons (t := 0) rfl (.cons (t := 3) rfl (.cons (t := 15) rfl (.cons (t := 16) rfl (.cons (t := 17) rfl (.cons (t := 22) rfl (.cons (t := 23) rfl (.cons (t := 24) rfl .nil)))))))); clear s85
        refine wp_seq_k fun K28 hK28 => ?_
        refine wp_block ?_
        refine wp_seq_k fun K29 hK29 => ?_
        refine wp_region_lit ?_
        obtain ⟨x5, e_x5, h24⟩ := bind_some h23; clear h23
        refine seq_op s86 rfl rfl (of_decide_eq_true rfl) (ob_indexAddrs rfl Try.underlying41 sz3 (.tmp rfl) (.tmp rfl) e_x5) fun a87 w87 s87 => ?_; clear s86
        refine seq_op s87 rfl rfl (of_decide_eq_true rfl) (ob_loadr rfl tk3 (.tmp rfl)) fun a88 w88 s88 => ?_; clear s87
        refine seq_op s88 rfl rfl (of_decide_eq_true rfl) (ob_assign rfl (.tmp rfl)) fun a89 w89 s89 => ?_; clear s88
        refine wpList_nil ?_
        refine then_normal ?_
        refine hK29 _ _ ?_
        have s90 := s89.sub (.cons (t := 0) rfl (.cons (t := 3) rfl (.cons (t := 7) rfl (.cons (t := 15) rfl (.cons (t := 16) rfl (.cons (t := 17) rfl (.cons (t := 22) rfl (.cons (t := 23) rfl (.cons (t := 24) rfl .nil))))))))); clear s89
        refine wp_region_lit ?_
        refine seq_op s90 rfl rfl (of_decide_eq_true rfl) (ob_move rfl (.tmp rfl)) fun a91 w91 s91 => ?_; clear s90
        refine seq_op s91 rfl rfl (of_decide_eq_true rfl) (ob_move rfl (.tmp rfl)) fun a92 w92 s92 => ?_; clear s91
        refine seq_opx0 (B' := (fun _ : Unit => [MapF b1 .i64 (mput y10 x5 true)])) s92 rfl rfl (ob_mapUpdate (A := []) rfl Try.underlying122 Try.underlying3 (.tmp rfl) (.tmp rfl) opd_bool rfl rfl) fun _ a93 w93 s93 => ?_; clear s92
        refine wpList_nil ?_
        refine in_normal ?_
        refine then_normal ?_
        refine hK28 _ _ ?_
        have s94 := s93.sub (.cons (t := 0) rfl (.cons (t := 3) rfl (.cons (t := 15) rfl (.cons (t := 16) rfl (.cons (t := 17) rfl (.cons (t := 22) rfl (.cons (t := 23) rfl (.cons (t := 24) rfl .nil)))))))); clear s93
        refine wp_region_lit ?_
        refine seq_op s94 rfl rfl (of_decide_eq_true rfl) (ob_add rfl (.tmp rfl) (opd_int rfl)) fun a95 w95 s95 => ?_; clear s94
        refine seq_op s95 rfl rfl (of_decide_eq_true rfl) (ob_move rfl (.tmp rfl)) fun a96 w96 s96 => ?_; clear s95
        refine wpList_nil ?_
        refine then_normal ?_
        exact hK25 ((iadd .i64 y9 (1 : Int)), (mput y10 x5 true)) _ _ h24 (s96.sub (.cons rfl (.cons rfl (.cons rfl (.cons rfl (.cons rfl (.cons rfl (.cons rfl (.cons rfl .nil)))))))))
      · replace h22 := ite_f hc5 h22
        have h25 := h22; clear h22
        refine wp_exit ?_
        refine (then_exit (then_exit (in_here ?_)))
        refine in_normal ?_
        refine then_normal ?_
        exact hj4 y10 _ _ h25 (s85.sub (.cons rfl (.cons rfl (.cons rfl (.cons rfl (.cons rfl .nil))))))
    · replace h17 := ite_f hc4 h17
      have h26 := h17; clear h17
      refine wp_exit ?_
      refine (then_exit (then_exit (in_here ?_)))
      refine then_normal ?_
      exact hj1 y7 _ _ h26 (s67.sub (.cons rfl (.cons rfl .nil)))

/- 82 cabal/graph.has -/
theorem c_graph_has (k : Nat) (p1 : (List api_Node)) (p2 : Int) (p3 : Int) (r : Bool) (h0 : graph_has k p1 p2 p3 = some r) (ok : Ok) (w0 : World) (z0 : Value) (z1 : Value) (z2 : Value) (u0 : ((ksl k_api_Node).V p1).holds ok w0 z0) (u1 : ((kint .i64).V p2).holds ok w0 z1) (u2 : ((kint .i64).V p3).holds ok w0 z2) :
    Gives Try.prog 82 [z0, z1, z2] ok w0 (resFact [kbool.V r]) := by
  unfold graph_has at h0
  refine enter (N := 29) Try.func82 rfl rfl (of_decide_eq_true rfl) (.cons u0 (.cons u1 (.cons u2 .nil))) fun a1 s1 => ?_
  refine wp_seq_k fun K1 hK1 => ?_
  refine wp_region_lit ?_
  refine seq_op s1 rfl rfl (of_decide_eq_true rfl) (ob_assign rfl opd_bool) fun a2 w2 s2 => ?_; clear s1
  refine wpList_nil ?_
  refine then_normal ?_
  refine hK1 _ _ ?_
  have s3 := s2.sub (.cons (t := 0) rfl (.cons (t := 1) rfl (.cons (t := 2) rfl .nil))); clear s2
  refine wp_seq_k fun K2 hK2 => ?_
  refine wp_region_lit ?_
  refine seq_op s3 rfl rfl (of_decide_eq_true rfl) (ob_move rfl (.tmp rfl)) fun a4 w4 s4 => ?_; clear s3
  refine seq_op s4 rfl rfl (of_decide_eq_true rfl) (ob_geq rfl (.tmp rfl) (opd_int rfl)) fun a5 w5 s5 => ?_; clear s4
  refine seq_op s5 rfl rfl (of_decide_eq_true rfl) (ob_move rfl (.tmp rfl)) fun a6 w6 s6 => ?_; clear s5
  refine seq_opg s6 rfl rfl rfl rfl (of_decide_eq_true rfl) (fun hb => ob_move rfl (.tmp rfl)) fun a7 w7 s7 => ?_; clear s6
  refine seq_opg s7 rfl rfl rfl rfl (of_decide_eq_true rfl) (fun hb => (Ob.uncond (t := 10) hb rfl (ob_geq rfl (.tmp rfl) (opd_int rfl)))) fun a8 w8 s8 => ?_; clear s7
  obtain ⟨x1, e_x1, h1⟩ := bind_some h0; clear h0; replace e_x1 := Option.some.inj e_x1
  refine seq_op s8 rfl rfl (of_decide_eq_true rfl) ((ob_and2 rfl (.tmp rfl) (.tmp rfl) opd_bool).nm e_x1) fun a9 w9 s9 => ?_; clear s8
  refine seq_op s9 rfl rfl (of_decide_eq_true rfl) (ob_move rfl (.tmp rfl)) fun a10 w10 s10 => ?_; clear s9
  refine seq_opg s10 rfl rfl rfl rfl (of_decide_eq_true rfl) (fun hb => ob_move rfl (.tmp rfl)) fun a11 w11 s11 => ?_; clear s10
  refine seq_opg s11 rfl rfl rfl rfl (of_decide_eq_true rfl) (fun hb => ob_move rfl (.tmp rfl)) fun a12 w12 s12 => ?_; clear s11
  refine seq_opg s12 rfl rfl rfl rfl (of_decide_eq_true rfl) (fun hb => (Ob.uncond (t := 15) hb rfl (ob_lens rfl Try.underlying22 (.tmp rfl)))) fun a13 w13 s13 => ?_; clear s12
  refine seq_opg s13 rfl rfl rfl rfl (of_decide_eq_true rfl) (fun hb => (Ob.uncond (t := 16) hb rfl ((Ob.uncond (t := 14) hb rfl (ob_lss rfl (.tmp rfl) (.tmp rfl)))))) fun a14 w14 s14 => ?_; clear s13
  refine seq_op s14 rfl rfl (of_decide_eq_true rfl) (ob_and2 rfl (.tmp rfl) (.tmp rfl) opd_bool) fun a15 w15 s15 => ?_; clear s14
  refine seq_op s15 rfl rfl (of_decide_eq_true rfl) (ob_move rfl (.tmp rfl)) fun a16 w16 s16 => ?_; clear s15
  refine seq_opg s16 rfl rfl rfl rfl (of_decide_eq_true rfl) (fun hb => ob_move rfl (.tmp rfl)) fun a17 w17 s17 => ?_; clear s16
  refine seq_opg s17 rfl rfl rfl rfl (of_decide_eq_true rfl) (fun hb => ob_move rfl (.tmp rfl)) fun a18 w18 s18 => ?_; clear s17
  refine seq_opg s18 rfl rfl rfl rfl (of_decide_eq_true rfl) (fun hb => (Ob.uncond (t := 21) hb rfl (ob_lens rfl Try.underlying22 (.tmp rfl)))) fun a19 w19 s19 => ?_; clear s18
  refine seq_opg s19 rfl rfl rfl rfl (of_decide_eq_true rfl) (fun hb => (Ob.uncond (t := 22) hb rfl ((Ob.uncond (t := 20) hb rfl (ob_lss rfl (.tmp rfl) (.tmp rfl)))))) fun a20 w20 s20 => ?_; clear s19
  obtain ⟨x2, e_x2, h2⟩ := bind_some h1; clear h1; replace e_x2 := Option.some.inj e_x2
  refine seq_op s20 rfl rfl (of_decide_eq_true rfl) ((ob_and2 rfl (.tmp rfl) (.tmp rfl) opd_bool).nm e_x2) fun a21 w21 s21 => ?_; clear s20
  refine seq_op s21 rfl rfl (of_decide_eq_true rfl) (ob_move rfl (.tmp rfl)) fun a22 w22 s22 => ?_; clear s21
  refine seq_opg s22 rfl rfl rfl rfl (of_decide_eq_true rfl) (fun hb => ob_move rfl (.tmp rfl)) fun a23 w23 s23 => ?_; clear s22
  obtain ⟨x3, e_x3, h3⟩ := bind_some h2; clear h2
  refine seq_opg s23 rfl rfl rfl rfl (of_decide_eq_true rfl) (fun hb => (Ob.uncond (t := 26) hb rfl (ob_callD (args := [_]) rfl .direct hb24 (fun a w s fs gs hf hg => by obtain rfl := hf.unnil; obtain rfl := hg.unnil; exact c_graph_Right k _ _ (ite_t hb e_x3) _ _ _ (s.arg (.tmp rfl)))))) fun a24 w24 s24 => ?_; clear s23
  refine seq_op s24 rfl rfl (of_decide_eq_true rfl) (ob_and2 rfl (.tmp rfl) (.tmp rfl) opd_bool) fun a25 w25 s25 => ?_; clear s24
  refine seq_op s25 rfl rfl (of_decide_eq_true rfl) (ob_assign rfl (.tmp rfl)) fun a26 w26 s26 => ?_; clear s25
  refine wpList_nil ?_
  refine then_normal ?_
  refine hK2 _ _ ?_
  have s27 := s26.sub (.cons (t := 6) rfl .nil); clear s26
  refine wp_ret ?_
  obtain rfl := Option.some.inj h3
  exact leave s27 (.inl rfl) rfl (.cons (.tmp rfl) .nil)

/- 28 cabal/graph.Apart -/
theorem c_graph_Apart (k : Nat) (p1 : (List api_Node)) (p2 : Int) (p3 : Int) (r : Bool) (h0 : graph_Apart k p1 p2 p3 = some r) (ok : Ok) (w0 : World) (z0 : Value) (z1 : Value) (z2 : Value) (u0 : ((ksl k_api_Node).V p1).holds ok w0 z0) (u1 : ((kint .i64).V p2).holds ok w0 z1) (u2 : ((kint .i64).V p3).holds ok w0 z2) :
    Gives Try.prog 28 [z0, z1, z2] ok w0 (resFact [kbool.V r]) := by
  unfold graph_Apart at h0
  refine enter (N := 36) Try.func28 rfl rfl (of_decide_eq_true rfl) (.cons u0 (.cons u1 (.cons u2 .nil))) fun a1 s1 => ?_
  refine wp_seq_k fun K1 hK1 => ?_
  refine wp_region_lit ?_
  refine seq_op s1 rfl rfl (of_decide_eq_true rfl) (ob_assign rfl opd_bool) fun a2 w2 s2 => ?_; clear s1
  refine wpList_nil ?_
  refine then_normal ?_
  refine hK1 _ _ ?_
  have s3 := s2.sub (.cons (t := 0) rfl (.cons (t := 1) rfl (.cons (t := 2) rfl .nil))); clear s2
  refine wp_seq_k fun K2 hK2 => ?_
  refine wp_region_lit ?_
  refine seq_op s3 rfl rfl (of_decide_eq_true rfl) (ob_move rfl (.tmp rfl)) fun a4 w4 s4 => ?_; clear s3
  refine seq_op s4 rfl rfl (of_decide_eq_true rfl) (ob_move rfl (.tmp rfl)) fun a5 w5 s5 => ?_; clear s4
  refine seq_op s5 rfl rfl (of_decide_eq_true rfl) (ob_move rfl (.tmp rfl)) fun a6 w6 s6 => ?_; clear s5
  obtain ⟨x1, e_x1, h1⟩ := bind_some h0; clear h0
  refine seq_op s6 rfl rfl (of_decide_eq_true rfl) (ob_callD (args := [_, _, _]) rfl .direct hb82 (fun a w s fs gs hf hg => by obtain rfl := hf.unnil; obtain rfl := hg.unnil; exact c_graph_has k _ _ _ _ e_x1 _ _ _ _ _ (s.arg (.tmp rfl)) (s.arg (.tmp rfl)) (s.arg (.tmp rfl)))) fun a7 w7 s7 => ?_; clear s6
  refine seq_op s7 rfl rfl (of_decide_eq_true rfl) (ob_move rfl (.tmp rfl)) fun a8 w8 s8 => ?_; clear s7
  refine seq_opg s8 rfl rfl rfl rfl (of_decide_eq_true rfl) (fun hb => ob_move rfl (.tmp rfl)) fun a9 w9 s9 => ?_; clear s8
  refine seq_opg s9 rfl rfl rfl rfl (of_decide_eq_true rfl) (fun hb => ob_move rfl (.tmp rfl)) fun a10 w10 s10 => ?_; clear s9
  refine seq_opg s10 rfl rfl rfl rfl (of_decide_eq_true rfl) (fun hb => (Ob.uncond (t := 13) hb rfl ((Ob.uncond (t := 12) hb rfl (ob_neq rfl (.tmp rfl) (.tmp rfl)))))) fun a11 w11 s11 => ?_; clear s10
  refine seq_op s11 rfl rfl (of_decide_eq_true rfl) (ob_and2 rfl (.tmp rfl) (.tmp rfl) opd_bool) fun a12 w12 s12 => ?_; clear s11
  refine seq_op s12 rfl rfl (of_decide_eq_true rfl) (ob_move rfl (.tmp rfl)) fun a13 w13 s13 => ?_; clear s12
  refine seq_opg s13 rfl rfl rfl rfl (of_decide_eq_true rfl) (fun hb => ob_move rfl (.tmp rfl)) fun a14 w14 s14 => ?_; clear s13
  refine seq_opg s14 rfl rfl rfl rfl (of_decide_eq_true rfl) (fun hb => ob_move rfl (.tmp rfl)) fun a15 w15 s15 => ?_; clear s14
  obtain ⟨x2, e_x2, h2⟩ := bind_some h1; clear h1
  refine seq_opg s15 rfl rfl rfl rfl (of_decide_eq_true rfl) (fun hb => (Ob.uncond (t := 18) hb rfl ((Ob.uncond (t := 17) hb rfl (ob_indexAddrs rfl Try.underlying22 sz46 (.tmp rfl) (.tmp rfl) (ite_t hb e_x2)))))) fun a16 w16 s16 => ?_; clear s15
  refine seq_opg s16 rfl rfl rfl rfl (of_decide_eq_true rfl) (fun hb => (Ob.uncond (t := 19) hb rfl (ob_fieldAddrr rfl Try.underlying46 rfl sz41 (by decide) (.tmp rfl) (lg_api_Node_Past x2)))) fun a17 w17 s17 => ?_; clear s16
  refine seq_opg s17 rfl rfl rfl rfl (of_decide_eq_true rfl) (fun hb => (Ob.uncond (t := 20) hb rfl (ob_loadr rfl tk41 (.tmp rfl)))) fun a18 w18 s18 => ?_; clear s17
  refine seq_opg s18 rfl rfl rfl rfl (of_decide_eq_true rfl) (fun hb => ob_move rfl (.tmp rfl)) fun a19 w19 s19 => ?_; clear s18
  obtain ⟨x3, e_x3, h3⟩ := bind_some h2; clear h2
  refine seq_opg s19 rfl rfl rfl rfl (of_decide_eq_true rfl) (fun hb => (Ob.uncond (t := 22) hb rfl ((Ob.uncond (t := 21) hb rfl (ob_callD (args := [_, _]) rfl .direct hb83 (fun a w s fs gs hf hg => by obtain rfl := hf.unnil; obtain rfl := hg.unnil; exact c_slices_Contains_int_int k _ _ _ (ite_t hb e_x3) _ _ _ _ (s.arg (.tmp rfl)) (s.arg (.tmp rfl)))))))) fun a20 w20 s20 => ?_; clear s19
  refine seq_opg s20 rfl rfl rfl rfl (of_decide_eq_true rfl) (fun hb => (Ob.uncond (t := 23) hb rfl (ob_not rfl (.tmp rfl)))) fun a21 w21 s21 => ?_; clear s20
  refine seq_op s21 rfl rfl (of_decide_eq_true rfl) (ob_and2 rfl (.tmp rfl) (.tmp rfl) opd_bool) fun a22 w22 s22 => ?_; clear s21
  refine seq_op s22 rfl rfl (of_decide_eq_true rfl) (ob_move rfl (.tmp rfl)) fun a23 w23 s23 => ?_; clear s22
  refine seq_opg s23 rfl rfl rfl rfl (of_decide_eq_true rfl) (fun hb => ob_move rfl (.tmp rfl)) fun a24 w24 s24 => ?_; clear s23
  refine seq_opg s24 rfl rfl rfl rfl (of_decide_eq_true rfl) (fun hb => ob_move rfl (.tmp rfl)) fun a25 w25 s25 => ?_; clear s24
  obtain ⟨x4, e_x4, h4⟩ := bind_some h3; clear h3
  refine seq_opg s25 rfl rfl rfl rfl (of_decide_eq_true rfl) (fun hb => (Ob.uncond (t := 28) hb rfl ((Ob.uncond (t := 27) hb rfl (ob_indexAddrs rfl Try.underlying22 sz46 (.tmp rfl) (.tmp rfl) (ite_t hb e_x4)))))) fun a26 w26 s26 => ?_; clear s25
  refine seq_opg s26 rfl rfl rfl rfl (of_decide_eq_true rfl) (fun hb => (Ob.uncond (t := 29) hb rfl (ob_fieldAddrr rfl Try.underlying46 rfl sz41 (by decide) (.tmp rfl) (lg_api_Node_Past x4)))) fun a27 w27 s27 => ?_; clear s26
  refine seq_opg s27 rfl rfl rfl rfl (of_decide_eq_true rfl) (fun hb => (Ob.uncond (t := 30) hb rfl (ob_loadr rfl tk41 (.tmp rfl)))) fun a28 w28 s28 => ?_; clear s27
  refine seq_opg s28 rfl rfl rfl rfl (of_decide_eq_true rfl) (fun hb => ob_move rfl (.tmp rfl)) fun a29 w29 s29 => ?_; clear s28
  obtain ⟨x5, e_x5, h5⟩ := bind_some h4; clear h4
  refine seq_opg s29 rfl rfl rfl rfl (of_decide_eq_true rfl) (fun hb => (Ob.uncond (t := 32) hb rfl ((Ob.uncond (t := 31) hb rfl (ob_callD (args := [_, _]) rfl .direct hb83 (fun a w s fs gs hf hg => by obtain rfl := hf.unnil; obtain rfl := hg.unnil; exact c_slices_Contains_int_int k _ _ _ (ite_t hb e_x5) _ _ _ _ (s.arg (.tmp rfl)) (s.arg (.tmp rfl)))))))) fun a30 w30 s30 => ?_; clear s29
  refine seq_opg s30 rfl rfl rfl rfl (of_decide_eq_true rfl) (fun hb => (Ob.uncond (t := 33) hb rfl (ob_not rfl (.tmp rfl)))) fun a31 w31 s31 => ?_; clear s30
  obtain ⟨x6, e_x6, h6⟩ := bind_some h5; clear h5; replace e_x6 := Option.some.inj e_x6
  refine seq_op s31 rfl rfl (of_decide_eq_true rfl) ((ob_and2 rfl (.tmp rfl) (.tmp rfl) opd_bool).nm e_x6) fun a32 w32 s32 => ?_; clear s31
  refine seq_op s32 rfl rfl (of_decide_eq_true rfl) (ob_assign rfl (.tmp rfl)) fun a33 w33 s33 => ?_; clear s32
  refine wpList_nil ?_
  refine then_normal ?_
  refine hK2 _ _ ?_
  have s34 := s33.sub (.cons (t := 6) rfl .nil); clear s33
  refine wp_ret ?_
  obtain rfl := Option.some.inj h6
  exact leave s34 (.inl rfl) rfl (.cons (.tmp rfl) .nil)

/- 27 cabal/graph.Ahead -/
theorem c_graph_Ahead (k : Nat) (p1 : (List api_Node)) (p2 : Int) (p3 : Int) (r : Bool) (h0 : graph_Ahead k p1 p2 p3 = some r) (ok : Ok) (w0 : World) (z0 : Value) (z1 : Value) (z2 : Value) (u0 : ((ksl k_api_Node).V p1).holds ok w0 z0) (u1 : ((kint .i64).V p2).holds ok w0 z1) (u2 : ((kint .i64).V p3).holds ok w0 z2) :
    Gives Try.prog 27 [z0, z1, z2] ok w0 (resFact [kbool.V r]) := by
  unfold graph_Ahead at h0
  refine enter (N := 20) Try.func27 rfl rfl (of_decide_eq_true rfl) (.cons u0 (.cons u1 (.cons u2 .nil))) fun a1 s1 => ?_
  refine wp_seq_k fun K1 hK1 => ?_
  refine wp_region_lit ?_
  refine seq_op s1 rfl rfl (of_decide_eq_true rfl) (ob_assign rfl opd_bool) fun a2 w2 s2 => ?_; clear s1
  refine wpList_nil ?_
  refine then_normal ?_
  refine hK1 _ _ ?_
  have s3 := s2.sub (.cons (t := 0) rfl (.cons (t := 1) rfl (.cons (t := 2) rfl .nil))); clear s2
  refine wp_seq_k fun K2 hK2 => ?_
  refine wp_region_lit ?_
  refine seq_op s3 rfl rfl (of_decide_eq_true rfl) (ob_move rfl (.tmp rfl)) fun a4 w4 s4 => ?_; clear s3
  refine seq_op s4 rfl rfl (of_decide_eq_true rfl) (ob_move rfl (.tmp rfl)) fun a5 w5 s5 => ?_; clear s4
  refine seq_op s5 rfl rfl (of_decide_eq_true rfl) (ob_move rfl (.tmp rfl)) fun a6 w6 s6 => ?_; clear s5
  obtain ⟨x1, e_x1, h1⟩ := bind_some h0; clear h0
  refine seq_op s6 rfl rfl (of_decide_eq_true rfl) (ob_callD (args := [_, _, _]) rfl .direct hb82 (fun a w s fs gs hf hg => by obtain rfl := hf.unnil; obtain rfl := hg.unnil; exact c_graph_has k _ _ _ _ e_x1 _ _ _ _ _ (s.arg (.tmp rfl)) (s.arg (.tmp rfl)) (s.arg (.tmp rfl)))) fun a7 w7 s7 => ?_; clear s6
  refine seq_op s7 rfl rfl (of_decide_eq_true rfl) (ob_move rfl (.tmp rfl)) fun a8 w8 s8 => ?_; clear s7
  refine seq_opg s8 rfl rfl rfl rfl (of_decide_eq_true rfl) (fun hb => ob_move rfl (.tmp rfl)) fun a9 w9 s9 => ?_; clear s8
  refine seq_opg s9 rfl rfl rfl rfl (of_decide_eq_true rfl) (fun hb => ob_move rfl (.tmp rfl)) fun a10 w10 s10 => ?_; clear s9
  obtain ⟨x2, e_x2, h2⟩ := bind_some h1; clear h1
  refine seq_opg s10 rfl rfl rfl rfl (of_decide_eq_true rfl) (fun hb => (Ob.uncond (t := 13) hb rfl ((Ob.uncond (t := 12) hb rfl (ob_indexAddrs rfl Try.underlying22 sz46 (.tmp rfl) (.tmp rfl) (ite_t hb e_x2)))))) fun a11 w11 s11 => ?_; clear s10
  refine seq_opg s11 rfl rfl rfl rfl (of_decide_eq_true rfl) (fun hb => (Ob.uncond (t := 14) hb rfl (ob_fieldAddrr rfl Try.underlying46 rfl sz41 (by decide) (.tmp rfl) (lg_api_Node_Past x2)))) fun a12 w12 s12 => ?_; clear s11
  refine seq_opg s12 rfl rfl rfl rfl (of_decide_eq_true rfl) (fun hb => (Ob.uncond (t := 15) hb rfl (ob_loadr rfl tk41 (.tmp rfl)))) fun a13 w13 s13 => ?_; clear s12
  refine seq_opg s13 rfl rfl rfl rfl (of_decide_eq_true rfl) (fun hb => ob_move rfl (.tmp rfl)) fun a14 w14 s14 => ?_; clear s13
  obtain ⟨x3, e_x3, h3⟩ := bind_some h2; clear h2
  refine seq_opg s14 rfl rfl rfl rfl (of_decide_eq_true rfl) (fun hb => (Ob.uncond (t := 17) hb rfl ((Ob.uncond (t := 16) hb rfl (ob_callD (args := [_, _]) rfl .direct hb83 (fun a w s fs gs hf hg => by obtain rfl := hf.unnil; obtain rfl := hg.unnil; exact c_slices_Contains_int_int k _ _ _ (ite_t hb e_x3) _ _ _ _ (s.arg (.tmp rfl)) (s.arg (.tmp rfl)))))))) fun a15 w15 s15 => ?_; clear s14
  refine seq_op s15 rfl rfl (of_decide_eq_true rfl) (ob_and2 rfl (.tmp rfl) (.tmp rfl) opd_bool) fun a16 w16 s16 => ?_; clear s15
  refine seq_op s16 rfl rfl (of_decide_eq_true rfl) (ob_assign rfl (.tmp rfl)) fun a17 w17 s17 => ?_; clear s16
  refine wpList_nil ?_
  refine then_normal ?_
  refine hK2 _ _ ?_
  have s18 := s17.sub (.cons (t := 6) rfl .nil); clear s17
  refine wp_ret ?_
  obtain rfl := Option.some.inj h3
  exact leave s18 (.inl rfl) rfl (.cons (.tmp rfl) .nil)

/- 47 cabal/caballaw15.alive -/
theorem c_caballaw15_alive (k : Nat) (r : Bool) (h0 : caballaw15_alive k = some r) (ok : Ok) (w0 : World) :
    Gives Try.prog 47 [] ok w0 (resFact [kbool.V r]) := by
  unfold caballaw15_alive at h0
  refine enter (N := 74) Try.func47 rfl rfl (of_decide_eq_true rfl) .nil fun a1 s1 => ?_
  refine wp_seq_k fun K1 hK1 => ?_
  refine wp_region_lit ?_
  refine seq_op s1 rfl rfl (of_decide_eq_true rfl) (ob_assign rfl opd_bool) fun a2 w2 s2 => ?_; clear s1
  refine wpList_nil ?_
  refine then_normal ?_
  refine hK1 _ _ ?_
  have s3 := s2.sub .nil; clear s2
  refine wp_seq_k fun K2 hK2 => ?_
  refine wp_region_lit ?_
  obtain ⟨x1, e_x1, h1⟩ := bind_some h0; clear h0; replace e_x1 := Option.some.inj e_x1
  refine seq_op s3 rfl rfl (of_decide_eq_true rfl) (((ob_mkArr (k := (kint .u8)) rfl Try.underlying39 zz39 sz5 (Zr.arr 32 (Zr.int .u8)) (.cons (opd_int rfl) rfl (LS.arr' (i := 0) (ys := ([(1 : Int), (0 : Int), (0 : Int), (0 : Int), (0 : Int), (0 : Int), (0 : Int), (0 : Int), (0 : Int), (0 : Int), (0 : Int), (0 : Int), (0 : Int), (0 : Int), (0 : Int), (0 : Int), (0 : Int), (0 : Int), (0 : Int), (0 : Int), (0 : Int), (0 : Int), (0 : Int), (0 : Int), (0 : Int), (0 : Int), (0 : Int), (0 : Int), (0 : Int), (0 : Int), (0 : Int), (0 : Int)] : (List Int))) (by simp) (by rfl)) (.nil _)) : Ob _ _ _ _ _ ((karr 32 (kint .u8)).V ([(1 : Int), (0 : Int), (0 : Int), (0 : Int), (0 : Int), (0 : Int), (0 : Int), (0 : Int), (0 : Int), (0 : Int), (0 : Int), (0 : Int), (0 : Int), (0 : Int), (0 : Int), (0 : Int), (0 : Int), (0 : Int), (0 : Int), (0 : Int), (0 : Int), (0 : Int), (0 : Int), (0 : Int), (0 : Int), (0 : Int), (0 : Int), (0 : Int), (0 : Int), (0 : Int), (0 : Int), (0 : Int)] : (List Int))))).nm e_x1) fun a4 w4 s4 => ?_; clear s3
  refine seq_op s4 rfl rfl (of_decide_eq_true rfl) (ob_mkSlice (k := (kint .i64)) (xs := ([(0 : Int), (1 : Int)] : (List Int))) rfl Try.underlying41 zz3 sz3 (Zr.int .i64) (by decide) (by decide) (.cons (opd_int rfl) rfl (LS.arr' (i := 0) (ys := ([(0 : Int), (0 : Int)] : (List Int))) (by simp) (by rfl)) (.cons (opd_int rfl) rfl (LS.arr' (i := 1) (ys := ([(0 : Int), (1 : Int)] : (List Int))) (by simp) (by rfl)) (.nil _)))) fun a5 w5 s5 => ?_; clear s4
  obtain ⟨x2, e_x2, h2⟩ := bind_some h1; clear h1
  refine seq_op s5 rfl rfl (of_decide_eq_true rfl) (ob_callD (args := [_]) rfl .direct hb96 (fun a w s fs gs hf hg => by obtain rfl := hf.unnil; obtain rfl := hg.unnil; exact c_caballaw15_create k _ _ e_x2 _ _ _ (s.arg (.tmp rfl)))) fun a6 w6 s6 => ?_; clear s5
  obtain ⟨x3, e_x3, h3⟩ := bind_some h2; clear h2
  refine seq_opx (B' := (fun v1 : Value => [RowF v1 46 k_api_Node x3.1])) s6 rfl rfl (of_decide_eq_true rfl) (ob_callL (args := [_, _, _]) (L := []) rfl .direct hb43 (List.Perm.refl _) (fun a w s fs gs hf hg => by obtain rfl := hf.unnil; obtain rfl := hg.unnil; exact c_graph_Add k _ _ _ _ e_x3 _ _ _ _ _ (s.arg opd_nil) (s.arg (.tmp rfl)) (s.arg (.tmp rfl))) (by exact fun _ => rfl)) fun v1 a7 w7 s7 => ?_; clear s6
  refine seq_op s7 rfl rfl (of_decide_eq_true rfl) (ob_move rfl (.tmp rfl)) fun a8 w8 s8 => ?_; clear s7
  refine seq_op s8 rfl rfl (of_decide_eq_true rfl) (ob_extract rfl (.tmp rfl) rfl) fun a9 w9 s9 => ?_; clear s8
  refine seq_op s9 rfl rfl (of_decide_eq_true rfl) (ob_extract rfl (.tmp rfl) rfl) fun a10 w10 s10 => ?_; clear s9
  refine seq_op s10 rfl rfl (of_decide_eq_true rfl) (ob_assign rfl (.tmp rfl)) fun a11 w11 s11 => ?_; clear s10
  refine seq_op s11 rfl rfl (of_decide_eq_true rfl) (ob_assign rfl (.tmp rfl)) fun a12 w12 s12 => ?_; clear s11
  refine wpList_nil ?_
  refine then_normal ?_
  refine hK2 _ _ ?_
  have s13 := s12.sub (.cons (t := 1) rfl (.cons (t := 2) rfl .nil)); clear s12
  refine wp_seq_k fun K3 hK3 => ?_
  refine wp_region_lit ?_
  refine seq_op s13 rfl rfl (of_decide_eq_true rfl) (ob_move rfl (.tmp rfl)) fun a14 w14 s14 => ?_; clear s13
  obtain ⟨x4, e_x4, h4⟩ := bind_some h3; clear h3; replace e_x4 := Option.some.inj e_x4
  refine seq_op s14 rfl rfl (of_decide_eq_true rfl) (((ob_mkArr (k := (kint .u8)) rfl Try.underlying39 zz39 sz5 (Zr.arr 32 (Zr.int .u8)) (.cons (opd_int rfl) rfl (LS.arr' (i := 0) (ys := ([(2 : Int), (0 : Int), (0 : Int), (0 : Int), (0 : Int), (0 : Int), (0 : Int), (0 : Int), (0 : Int), (0 : Int), (0 : Int), (0 : Int), (0 : Int), (0 : Int), (0 : Int), (0 : Int), (0 : Int), (0 : Int), (0 : Int), (0 : Int), (0 : Int), (0 : Int), (0 : Int), (0 : Int), (0 : Int), (0 : Int), (0 : Int), (0 : Int), (0 : Int), (0 : Int), (0 : Int), (0 : Int)] : (List Int))) (by simp) (by rfl)) (.nil _)) : Ob _ _ _ _ _ ((karr 32 (kint .u8)).V ([(2 : Int), (0 : Int), (0 : Int), (0 : Int), (0 : Int), (0 : Int), (0 : Int), (0 : Int), (0 : Int), (0 : Int), (0 : Int), (0 : Int), (0 : Int), (0 : Int), (0 : Int), (0 : Int), (0 : Int), (0 : Int), (0 : Int), (0 : Int), (0 : Int), (0 : Int), (0 : Int), (0 : Int), (0 : Int), (0 : Int), (0 : Int), (0 : Int), (0 : Int), (0 : Int), (0 : Int), (0 : Int)] : (List Int))))).nm e_x4) fun a15 w15 s15 => ?_; clear s14
  obtain ⟨x5, e_x5, h5⟩ := bind_some h4; clear h4; replace e_x5 := Option.some.inj e_x5
  refine seq_op s15 rfl rfl (of_decide_eq_true rfl) (((ob_mkArr (k := (kint .u8)) rfl Try.underlying39 zz39 sz5 (Zr.arr 32 (Zr.int .u8)) (.cons (opd_int rfl) rfl (LS.arr' (i := 0) (ys := ([(1 : Int), (0 : Int), (0 : Int), (0 : Int), (0 : Int), (0 : Int), (0 : Int), (0 : Int), (0 : Int), (0 : Int), (0 : Int), (0 : Int), (0 : Int), (0 : Int), (0 : Int), (0 : Int), (0 : Int), (0 : Int), (0 : Int), (0 : Int), (0 : Int), (0 : Int), (0 : Int), (0 : Int), (0 : Int), (0 : Int), (0 : Int), (0 : Int), (0 : Int), (0 : Int), (0 : Int), (0 : Int)] : (List Int))) (by simp) (by rfl)) (.nil _)) : Ob _ _ _ _ _ ((karr 32 (kint .u8)).V ([(1 : Int), (0 : Int), (0 : Int), (0 : Int), (0 : Int), (0 : Int), (0 : Int), (0 : Int), (0 : Int), (0 : Int), (0 : Int), (0 : Int), (0 : Int), (0 : Int), (0 : Int), (0 : Int), (0 : Int), (0 : Int), (0 : Int), (0 : Int), (0 : Int), (0 : Int), (0 : Int), (0 : Int), (0 : Int), (0 : Int), (0 : Int), (0 : Int), (0 : Int), (0 : Int), (0 : Int), (0 : Int)] : (List Int))))).nm e_x5) fun a16 w16 s16 => ?_; clear s15
  refine seq_op s16 rfl rfl (of_decide_eq_true rfl) (ob_mkSlice (k := (karr 32 (kint .u8))) (xs := ([x5] : (List (List Int)))) rfl Try.underlying40 zz39 sz39 (Zr.arr 32 (Zr.int .u8)) (by decide) (by decide) (.cons (.tmp rfl) rfl (LS.arr' (i := 0) (ys := ([x5] : (List (List Int)))) (by simp) (by rfl)) (.nil _))) fun a17 w17 s17 => ?_; clear s16
  obtain ⟨x6, e_x6, h6⟩ := bind_some h5; clear h5
  refine seq_op s17 rfl rfl (of_decide_eq_true rfl) (ob_callD (args := [_, _, _]) rfl .direct hb97 (fun a w s fs gs hf hg => by obtain rfl := hf.unnil; obtain rfl := hg.unnil; exact c_caballaw15_update k _ _ _ _ e_x6 _ _ _ _ _ (s.arg (opd_int rfl)) (s.arg (opd_int rfl)) (s.arg (.tmp rfl)))) fun a18 w18 s18 => ?_; clear s17
  have s19 := St.freezeAllM (A := []) s18 (ts := [1, 16]) (.cons rfl (.cons rfl .nil)); clear s18
  obtain ⟨x7, e_x7, h7⟩ := bind_some h6; clear h6
  refine seq_opx (B' := (fun v2 : Value => [RowF v2 46 k_api_Node x7.1])) s19 rfl rfl (of_decide_eq_true rfl) (ob_callL (args := [_, _, _]) (L := []) rfl .direct hb43 (List.Perm.refl _) (fun a w s fs gs hf hg => by obtain rfl := hf.unnil; obtain rfl := hg.unnil; exact c_graph_Add k _ _ _ _ e_x7 _ _ _ _ _ (s.arg (.tmp rfl)) (s.arg (.tmp rfl)) (s.arg (.tmp rfl))) (by exact fun _ => rfl)) fun v2 a20 w20 s20 => ?_; clear s19
  refine seq_op s20 rfl rfl (of_decide_eq_true rfl) (ob_move rfl (.tmp rfl)) fun a21 w21 s21 => ?_; clear s20
  refine seq_op s21 rfl rfl (of_decide_eq_true rfl) (ob_extract rfl (.tmp rfl) rfl) fun a22 w22 s22 => ?_; clear s21
  refine seq_op s22 rfl rfl (of_decide_eq_true rfl) (ob_extract rfl (.tmp rfl) rfl) fun a23 w23 s23 => ?_; clear s22
  refine seq_op s23 rfl rfl (of_decide_eq_true rfl) (ob_assign rfl (.tmp rfl)) fun a24 w24 s24 => ?_; clear s23
  refine seq_op s24 rfl rfl (of_decide_eq_true rfl) (ob_assign rfl (.tmp rfl)) fun a25 w25 s25 => ?_; clear s24
  refine wpList_nil ?_
  refine then_normal ?_
  refine hK3 _ _ ?_
  have s26 := s25.sub (.cons (t := 2) rfl (.cons (t := 3) rfl (.cons (t := 4) rfl .nil))); clear s25
  refine wp_seq_k fun K4 hK4 => ?_
  refine wp_region_lit ?_
  refine seq_op s26 rfl rfl (of_decide_eq_true rfl) (ob_move rfl (.tmp rfl)) fun a27 w27 s27 => ?_; clear s26
  obtain ⟨x8, e_x8, h8⟩ := bind_some h7; clear h7; replace e_x8 := Option.some.inj e_x8
  refine seq_op s27 rfl rfl (of_decide_eq_true rfl) (((ob_mkArr (k := (kint .u8)) rfl Try.underlying39 zz39 sz5 (Zr.arr 32 (Zr.int .u8)) (.cons (opd_int rfl) rfl (LS.arr' (i := 0) (ys := ([(3 : Int), (0 : Int), (0 : Int), (0 : Int), (0 : Int), (0 : Int), (0 : Int), (0 : Int), (0 : Int), (0 : Int), (0 : Int), (0 : Int), (0 : Int), (0 : Int), (0 : Int), (0 : Int), (0 : Int), (0 : Int), (0 : Int), (0 : Int), (0 : Int), (0 : Int), (0 : Int), (0 : Int), (0 : Int), (0 : Int), (0 : Int), (0 : Int), (0 : Int), (0 : Int), (0 : Int), (0 : Int)] : (List Int))) (by simp) (by rfl)) (.nil _)) : Ob _ _ _ _ _ ((karr 32 (kint .u8)).V ([(3 : Int), (0 : Int), (0 : Int), (0 : Int), (0 : Int), (0 : Int), (0 : Int), (0 : Int), (0 : Int), (0 : Int), (0 : Int), (0 : Int), (0 : Int), (0 : Int), (0 : Int), (0 : Int), (0 : Int), (0 : Int), (0 : Int), (0 : Int), (0 : Int), (0 : Int), (0 : Int), (0 : Int), (0 : Int), (0 : Int), (0 : Int), (0 : Int), (0 : Int), (0 : Int), (0 : Int), (0 : Int)] : (List Int))))).nm e_x8) fun a28 w28 s28 => ?_; clear s27
  obtain ⟨x9, e_x9, h9⟩ := bind_some h8; clear h8; replace e_x9 := Option.some.inj e_x9
  refine seq_op s28 rfl rfl (of_decide_eq_true rfl) (((ob_mkArr (k := (kint .u8)) rfl Try.underlying39 zz39 sz5 (Zr.arr 32 (Zr.int .u8)) (.cons (opd_int rfl) rfl (LS.arr' (i := 0) (ys := ([(1 : Int), (0 : Int), (0 : Int), (0 : Int), (0 : Int), (0 : Int), (0 : Int), (0 : Int), (0 : Int), (0 : Int), (0 : Int), (0 : Int), (0 : Int), (0 : Int), (0 : Int), (0 : Int), (0 : Int), (0 : Int), (0 : Int), (0 : Int), (0 : Int), (0 : Int), (0 : Int), (0 : Int), (0 : Int), (0 : Int), (0 : Int), (0 : Int), (0 : Int), (0 : Int), (0 : Int), (0 : Int)] : (List Int))) (by simp) (by rfl)) (.nil _)) : Ob _ _ _ _ _ ((karr 32 (kint .u8)).V ([(1 : Int), (0 : Int), (0 : Int), (0 : Int), (0 : Int), (0 : Int), (0 : Int), (0 : Int), (0 : Int), (0 : Int), (0 : Int), (0 : Int), (0 : Int), (0 : Int), (0 : Int), (0 : Int), (0 : Int), (0 : Int), (0 : Int), (0 : Int), (0 : Int), (0 : Int), (0 : Int), (0 : Int), (0 : Int), (0 : Int), (0 : Int), (0 : Int), (0 : Int), (0 : Int), (0 : Int), (0 : Int)] : (List Int))))).nm e_x9) fun a29 w29 s29 => ?_; clear s28
  refine seq_op s29 rfl rfl (of_decide_eq_true rfl) (ob_mkSlice (k := (karr 32 (kint .u8))) (xs := ([x9] : (List (List Int)))) rfl Try.underlying40 zz39 sz39 (Zr.arr 32 (Zr.int .u8)) (by decide) (by decide) (.cons (.tmp rfl) rfl (LS.arr' (i := 0) (ys := ([x9] : (List (List Int)))) (by simp) (by rfl)) (.nil _))) fun a30 w30 s30 => ?_; clear s29
  obtain ⟨x10, e_x10, h10⟩ := bind_some h9; clear h9
  refine seq_op s30 rfl rfl (of_decide_eq_true rfl) (ob_callD (args := [_, _, _]) rfl .direct hb97 (fun a w s fs gs hf hg => by obtain rfl := hf.unnil; obtain rfl := hg.unnil; exact c_caballaw15_update k _ _ _ _ e_x10 _ _ _ _ _ (s.arg (opd_int rfl)) (s.arg (opd_int rfl)) (s.arg (.tmp rfl)))) fun a31 w31 s31 => ?_; clear s30
  have s32 := St.freezeAllM (A := []) s31 (ts := [3, 25]) (.cons rfl (.cons rfl .nil)); clear s31
  obtain ⟨x11, e_x11, h11⟩ := bind_some h10; clear h10
  refine seq_opx (B' := (fun v3 : Value => [RowF v3 46 k_api_Node x11.1])) s32 rfl rfl (of_decide_eq_true rfl) (ob_callL (args := [_, _, _]) (L := []) rfl .direct hb43 (List.Perm.refl _) (fun a w s fs gs hf hg => by obtain rfl := hf.unnil; obtain rfl := hg.unnil; exact c_graph_Add k _ _ _ _ e_x11 _ _ _ _ _ (s.arg (.tmp rfl)) (s.arg (.tmp rfl)) (s.arg (.tmp rfl))) (by exact fun _ => rfl)) fun v3 a33 w33 s33 => ?_; clear s32
  refine seq_op s33 rfl rfl (of_decide_eq_true rfl) (ob_move rfl (.tmp rfl)) fun a34 w34 s34 => ?_; clear s33
  refine seq_op s34 rfl rfl (of_decide_eq_true rfl) (ob_extract rfl (.tmp rfl) rfl) fun a35 w35 s35 => ?_; clear s34
  refine seq_op s35 rfl rfl (of_decide_eq_true rfl) (ob_extract rfl (.tmp rfl) rfl) fun a36 w36 s36 => ?_; clear s35
  refine seq_op s36 rfl rfl (of_decide_eq_true rfl) (ob_assign rfl (.tmp rfl)) fun a37 w37 s37 => ?_; clear s36
  refine seq_op s37 rfl rfl (of_decide_eq_true rfl) (ob_assign rfl (.tmp rfl)) fun a38 w38 s38 => ?_; clear s37
  refine wpList_nil ?_
  refine then_normal ?_
  refine hK4 _ _ ?_
  have s39 := s38.sub (.cons (t := 2) rfl (.cons (t := 4) rfl (.cons (t := 5) rfl (.cons (t := 6) rfl .nil)))); clear s38
  refine wp_seq_k fun K5 hK5 => ?_
  refine wp_region_lit ?_
  refine seq_op s39 rfl rfl (of_decide_eq_true rfl) (ob_move rfl (.tmp rfl)) fun a40 w40 s40 => ?_; clear s39
  obtain ⟨x12, e_x12, h12⟩ := bind_some h11; clear h11
  refine seq_opx (B' := (fun v4 : Value => [RowF v3 46 k_api_Node x11.1, RowF v4 39 (karr 32 (kint .u8)) x12])) s40 rfl rfl (of_decide_eq_true rfl) ((ob_lendX (L := [_]) (List.Perm.refl _) (.cons (t := 33) rfl (lendRow (.head _)) .nil) (fun _ => (Flat.res1 Flat.is)) (fun _ => (.cons (FlatO.row (KFlat.arr (KFlat.int _))) FlatL.nil)) (fun _ _ => ob_callL (args := [_]) (L := []) (D := []) rfl .direct hb50 (List.Perm.refl _) (fun a w s fs gs hf hg => by obtain rfl := hf.unnil; obtain rfl := hg.unnil; exact c_graph_Heads k _ _ e_x12 _ _ _ (s.arg (.tmp rfl))) (by exact fun _ => rfl)))) fun v4 a41 w41 s41 => ?_; clear s40
  refine seq_op s41 rfl rfl (of_decide_eq_true rfl) (ob_assign rfl (.tmp rfl)) fun a42 w42 s42 => ?_; clear s41
  refine wpList_nil ?_
  refine then_normal ?_
  refine hK5 _ _ ?_
  have s43 := s42.sub (.cons (t := 2) rfl (.cons (t := 4) rfl (.cons (t := 5) rfl (.cons (t := 6) rfl (.cons (t := 7) rfl .nil))))); clear s42
  refine wp_seq_k fun K6 hK6 => ?_
  refine wp_region_lit ?_
  refine seq_op s43 rfl rfl (of_decide_eq_true rfl) (ob_move rfl (.tmp rfl)) fun a44 w44 s44 => ?_; clear s43
  refine seq_op s44 rfl rfl (of_decide_eq_true rfl) (ob_eql rfl (.tmp rfl) (opd_int rfl)) fun a45 w45 s45 => ?_; clear s44
  refine seq_op s45 rfl rfl (of_decide_eq_true rfl) (ob_move rfl (.tmp rfl)) fun a46 w46 s46 => ?_; clear s45
  refine seq_opg s46 rfl rfl rfl rfl (of_decide_eq_true rfl) (fun hb => ob_move rfl (.tmp rfl)) fun a47 w47 s47 => ?_; clear s46
  refine seq_opg s47 rfl rfl rfl rfl (of_decide_eq_true rfl) (fun hb => (Ob.uncond (t := 38) hb rfl (ob_eql rfl (.tmp rfl) (opd_int rfl)))) fun a48 w48 s48 => ?_; clear s47
  refine seq_op s48 rfl rfl (of_decide_eq_true rfl) (ob_and2 rfl (.tmp rfl) (.tmp rfl) opd_bool) fun a49 w49 s49 => ?_; clear s48
  refine seq_op s49 rfl rfl (of_decide_eq_true rfl) (ob_move rfl (.tmp rfl)) fun a50 w50 s50 => ?_; clear s49
  refine seq_opg s50 rfl rfl rfl rfl (of_decide_eq_true rfl) (fun hb => ob_move rfl (.tmp rfl)) fun a51 w51 s51 => ?_; clear s50
  refine seq_opg s51 rfl rfl rfl rfl (of_decide_eq_true rfl) (fun hb => (Ob.uncond (t := 42) hb rfl (ob_eql rfl (.tmp rfl) (opd_int rfl)))) fun a52 w52 s52 => ?_; clear s51
  obtain ⟨x13, e_x13, h13⟩ := bind_some h12; clear h12; replace e_x13 := Option.some.inj e_x13
  refine seq_op s52 rfl rfl (of_decide_eq_true rfl) ((ob_and2 rfl (.tmp rfl) (.tmp rfl) opd_bool).nm e_x13) fun a53 w53 s53 => ?_; clear s52
  refine seq_op s53 rfl rfl (of_decide_eq_true rfl) (ob_move rfl (.tmp rfl)) fun a54 w54 s54 => ?_; clear s53
  refine seq_opg s54 rfl rfl rfl rfl (of_decide_eq_true rfl) (fun hb => ob_move rfl (.tmp rfl)) fun a55 w55 s55 => ?_; clear s54
  refine seq_opg s55 rfl rfl rfl rfl (of_decide_eq_true rfl) (fun hb => (Ob.uncond (t := 46) hb rfl (ob_lenRow rfl Try.underlying22 (.tmp rfl) (.head _)))) fun a56 w56 s56 => ?_; clear s55
  refine seq_opg s56 rfl rfl rfl rfl (of_decide_eq_true rfl) (fun hb => (Ob.uncond (t := 47) hb rfl (ob_eql rfl (.tmp rfl) (opd_int rfl)))) fun a57 w57 s57 => ?_; clear s56
  refine seq_op s57 rfl rfl (of_decide_eq_true rfl) (ob_and2 rfl (.tmp rfl) (.tmp rfl) opd_bool) fun a58 w58 s58 => ?_; clear s57
  refine seq_op s58 rfl rfl (of_decide_eq_true rfl) (ob_move rfl (.tmp rfl)) fun a59 w59 s59 => ?_; clear s58
  refine seq_opg s59 rfl rfl rfl rfl (of_decide_eq_true rfl) (fun hb => ob_move rfl (.tmp rfl)) fun a60 w60 s60 => ?_; clear s59
  obtain ⟨x14, e_x14, h14⟩ := bind_some h13; clear h13
  refine seq_opg s60 rfl rfl rfl rfl (of_decide_eq_true rfl) (fun hb => (Ob.uncond (t := 51) hb rfl ((ob_lendG (L := [_]) (List.Perm.refl _) (.cons (t := 51) rfl (lendRow (.head _)) .nil) (Flat.res1 (Flat.V KFlat.bool)) (fun _ => ob_callD (args := [_, _, _]) rfl .direct hb28 (fun a w s fs gs hf hg => by obtain rfl := hf.unnil; obtain rfl := hg.unnil; exact c_graph_Apart k _ _ _ _ (ite_t hb e_x14) _ _ _ _ _ (s.arg (.tmp rfl)) (s.arg (opd_int rfl)) (s.arg (opd_int rfl)))))))) fun a61 w61 s61 => ?_; clear s60
  obtain ⟨x15, e_x15, h15⟩ := bind_some h14; clear h14; replace e_x15 := Option.some.inj e_x15
  refine seq_op s61 rfl rfl (of_decide_eq_true rfl) ((ob_and2 rfl (.tmp rfl) (.tmp rfl) opd_bool).nm e_x15) fun a62 w62 s62 => ?_; clear s61
  refine seq_op s62 rfl rfl (of_decide_eq_true rfl) (ob_move rfl (.tmp rfl)) fun a63 w63 s63 => ?_; clear s62
  refine seq_opg s63 rfl rfl rfl rfl (of_decide_eq_true rfl) (fun hb => ob_move rfl (.tmp rfl)) fun a64 w64 s64 => ?_; clear s63
  obtain ⟨x16, e_x16, h16⟩ := bind_some h15; clear h15
  refine seq_opg s64 rfl rfl rfl rfl (of_decide_eq_true rfl) (fun hb => (Ob.uncond (t := 55) hb rfl ((ob_lendG (L := [_]) (List.Perm.refl _) (.cons (t := 55) rfl (lendRow (.head _)) .nil) (Flat.res1 (Flat.V KFlat.bool)) (fun _ => ob_callD (args := [_, _, _]) rfl .direct hb27 (fun a w s fs gs hf hg => by obtain rfl := hf.unnil; obtain rfl := hg.unnil; exact c_graph_Ahead k _ _ _ _ (ite_t hb e_x16) _ _ _ _ _ (s.arg (.tmp rfl)) (s.arg (opd_int rfl)) (s.arg (opd_int rfl)))))))) fun a65 w65 s65 => ?_; clear s64
  refine seq_op s65 rfl rfl (of_decide_eq_true rfl) (ob_and2 rfl (.tmp rfl) (.tmp rfl) opd_bool) fun a66 w66 s66 => ?_; clear s65
  refine seq_op s66 rfl rfl (of_decide_eq_true rfl) (ob_move rfl (.tmp rfl)) fun a67 w67 s67 => ?_; clear s66
  refine seq_opg s67 rfl rfl rfl rfl (of_decide_eq_true rfl) (fun hb => ob_move rfl (.tmp rfl)) fun a68 w68 s68 => ?_; clear s67
  refine seq_opg s68 rfl rfl rfl rfl (of_decide_eq_true rfl) (fun hb => (Ob.uncond (t := 59) hb rfl (ob_lenRow rfl Try.underlying40 (.tmp rfl) (.tail _ (.head _))))) fun a69 w69 s69 => ?_; clear s68
  refine seq_opg s69 rfl rfl rfl rfl (of_decide_eq_true rfl) (fun hb => (Ob.uncond (t := 60) hb rfl (ob_eql rfl (.tmp rfl) (opd_int rfl)))) fun a70 w70 s70 => ?_; clear s69
  obtain ⟨x17, e_x17, h17⟩ := bind_some h16; clear h16; replace e_x17 := Option.some.inj e_x17
  refine seq_op s70 rfl rfl (of_decide_eq_true rfl) ((ob_and2 rfl (.tmp rfl) (.tmp rfl) opd_bool).nm e_x17) fun a71 w71 s71 => ?_; clear s70
  refine seq_op s71 rfl rfl (of_decide_eq_true rfl) (ob_move rfl (.tmp rfl)) fun a72 w72 s72 => ?_; clear s71
  refine seq_opg s72 rfl rfl rfl rfl (of_decide_eq_true rfl) (fun hb => ob_move rfl (.tmp rfl)) fun a73 w73 s73 => ?_; clear s72
  obtain ⟨g1, h18⟩ := guard_some h17; clear h17
  refine seq_opg s73 rfl rfl rfl rfl (of_decide_eq_true rfl) (fun hb => (Ob.uncond (t := 64) hb rfl (ob_rowAt rfl Try.underlying40 sz39 (.tmp rfl) (.tail _ (.head _)) (opd_int rfl) (g1 hb)))) fun a74 w74 s74 => ?_; clear s73
  obtain ⟨x18, e_x18, h19⟩ := bind_some h18; clear h18
  refine seq_opg s74 rfl rfl rfl rfl (of_decide_eq_true rfl) (fun hb => (Ob.uncond (t := 65) hb rfl (ob_rowLoad rfl tk39 (.tmp rfl) (.tail _ (.head _)) (LG.arrA (ite_t hb e_x18))))) fun a75 w75 s75 => ?_; clear s74
  obtain ⟨x19, e_x19, h20⟩ := bind_some h19; clear h19; replace e_x19 := Option.some.inj e_x19
  refine seq_opg s75 rfl rfl rfl rfl (of_decide_eq_true rfl) (fun hb => ((ob_mkArr (k := (kint .u8)) rfl Try.underlying39 zz39 sz5 (Zr.arr 32 (Zr.int .u8)) (.cons (opd_int rfl) rfl (LS.arr' (i := 0) (ys := ([(3 : Int), (0 : Int), (0 : Int), (0 : Int), (0 : Int), (0 : Int), (0 : Int), (0 : Int), (0 : Int), (0 : Int), (0 : Int), (0 : Int), (0 : Int), (0 : Int), (0 : Int), (0 : Int), (0 : Int), (0 : Int), (0 : Int), (0 : Int), (0 : Int), (0 : Int), (0 : Int), (0 : Int), (0 : Int), (0 : Int), (0 : Int), (0 : Int), (0 : Int), (0 : Int), (0 : Int), (0 : Int)] : (List Int))) (by simp) (by rfl)) (.nil _)) : Ob _ _ _ _ _ ((karr 32 (kint .u8)).V ([(3 : Int), (0 : Int), (0 : Int), (0 : Int), (0 : Int), (0 : Int), (0 : Int), (0 : Int), (0 : Int), (0 : Int), (0 : Int), (0 : Int), (0 : Int), (0 : Int), (0 : Int), (0 : Int), (0 : Int), (0 : Int), (0 : Int), (0 : Int), (0 : Int), (0 : Int), (0 : Int), (0 : Int), (0 : Int), (0 : Int), (0 : Int), (0 : Int), (0 : Int), (0 : Int), (0 : Int), (0 : Int)] : (List Int))))).nm e_x19) fun a76 w76 s76 => ?_; clear s75
  refine seq_opg s76 rfl rfl rfl rfl (of_decide_eq_true rfl) (fun hb => (Ob.uncond (t := 67) hb rfl ((Ob.uncond (t := 66) hb rfl (ob_eqAgg rfl rfl (by kernel_rfl) eq39 (by decide) (.tmp rfl) (.tmp rfl)))))) fun a77 w77 s77 => ?_; clear s76
  refine seq_op s77 rfl rfl (of_decide_eq_true rfl) (ob_and2 rfl (.tmp rfl) (.tmp rfl) opd_bool) fun a78 w78 s78 => ?_; clear s77
  refine seq_op s78 rfl rfl (of_decide_eq_true rfl) (ob_move rfl (.tmp rfl)) fun a79 w79 s79 => ?_; clear s78
  refine seq_opg s79 rfl rfl rfl rfl (of_decide_eq_true rfl) (fun hb => ob_move rfl (.tmp rfl)) fun a80 w80 s80 => ?_; clear s79
  obtain ⟨x20, e_x20, h21⟩ := bind_some h20; clear h20
  refine seq_opg s80 rfl rfl rfl rfl (of_decide_eq_true rfl) (fun hb => (Ob.uncond (t := 71) hb rfl ((ob_lendG (L := [_]) (List.Perm.refl _) (.cons (t := 71) rfl (lendRow (.head _)) .nil) (Flat.res1 (Flat.V KFlat.bool)) (fun _ => ob_callD (args := [_]) rfl .direct hb24 (fun a w s fs gs hf hg => by obtain rfl := hf.unnil; obtain rfl := hg.unnil; exact c_graph_Right k _ _ (ite_t hb e_x20) _ _ _ (s.arg (.tmp rfl)))))))) fun a81 w81 s81 => ?_; clear s80
  refine seq_op s81 rfl rfl (of_decide_eq_true rfl) (ob_and2 rfl (.tmp rfl) (.tmp rfl) opd_bool) fun a82 w82 s82 => ?_; clear s81
  refine seq_op s82 rfl rfl (of_decide_eq_true rfl) (ob_assign rfl (.tmp rfl)) fun a83 w83 s83 => ?_; clear s82
  refine wpList_nil ?_
  refine then_normal ?_
  refine hK6 _ _ ?_
  have s84 := s83.sub (.cons (t := 0) rfl .nil); clear s83
  have s85 := St.drop (A := []) s84; clear s84
  have s86 := St.drop (A := []) s85; clear s85
  refine wp_ret ?_
  obtain rfl := Option.some.inj h21
  exact leave s86 (.inl rfl) rfl (.cons (.tmp rfl) .nil)

/- 51 cabal/cabalref11.Great -/
theorem c_cabalref11_Great (k : Nat) (p1 : api_Op) (r : Bool) (h0 : cabalref11_Great k p1 = some r) (ok : Ok) (w0 : World) (z0 : Value) (u0 : (k_api_Op.V p1).holds ok w0 z0) :
    Gives Try.prog 51 [z0] ok w0 (resFact [kbool.V r]) := by
  unfold cabalref11_Great at h0
  refine enter (N := 41) Try.func51 rfl rfl (of_decide_eq_true rfl) (.cons u0 .nil) fun a1 s1 => ?_
  refine wp_seq_k fun K1 hK1 => ?_
  refine wp_region_lit ?_
  refine seq_opx (B' := (fun b1 : Nat => [BF b1 44 k_api_Op p1])) s1 rfl rfl (of_decide_eq_true rfl) (ob_box rfl (.tmp rfl)) fun b1 a2 w2 s2 => ?_; clear s1
  refine seq_op s2 rfl rfl (of_decide_eq_true rfl) (ob_assign rfl opd_bool) fun a3 w3 s3 => ?_; clear s2
  refine wpList_nil ?_
  refine then_normal ?_
  refine hK1 _ _ ?_
  have s4 := s3.sub (.cons (t := 1) rfl .nil); clear s3
  refine wp_seq_k fun K2 hK2 => ?_
  refine wp_seq_k fun K3 hK3 => ?_
  refine wp_region_lit ?_
  refine seq_op s4 rfl rfl (of_decide_eq_true rfl) (ob_fieldAddr (off' := 2) rfl Try.underlying44 rfl sz40 (by decide) (.tmp rfl) rfl) fun a5 w5 s5 => ?_; clear s4
  refine seq_op s5 rfl rfl (of_decide_eq_true rfl) (ob_load rfl tk40 (.tmp rfl) (.head _) (lg_api_Op_Parents p1)) fun a6 w6 s6 => ?_; clear s5
  refine seq_op s6 rfl rfl (of_decide_eq_true rfl) (ob_lens rfl Try.underlying40 (.tmp rfl)) fun a7 w7 s7 => ?_; clear s6
  refine seq_op s7 rfl rfl (of_decide_eq_true rfl) (ob_gtr rfl (.tmp rfl) (opd_int rfl)) fun a8 w8 s8 => ?_; clear s7
  refine seq_op s8 rfl rfl (of_decide_eq_true rfl) (ob_move rfl (.tmp rfl)) fun a9 w9 s9 => ?_; clear s8
  refine seq_opg s9 rfl rfl rfl rfl (of_decide_eq_true rfl) (fun hb => ob_fieldAddr (off' := 4) rfl Try.underlying44 rfl sz41 (by decide) (.tmp rfl) rfl) fun a10 w10 s10 => ?_; clear s9
  refine seq_opg s10 rfl rfl rfl rfl (of_decide_eq_true rfl) (fun hb => (Ob.uncond (t := 9) hb rfl (ob_load rfl tk41 (.tmp rfl) (.head _) (lg_api_Op_Who p1)))) fun a11 w11 s11 => ?_; clear s10
  refine seq_opg s11 rfl rfl rfl rfl (of_decide_eq_true rfl) (fun hb => (Ob.uncond (t := 10) hb rfl (ob_lens rfl Try.underlying41 (.tmp rfl)))) fun a12 w12 s12 => ?_; clear s11
  refine seq_opg s12 rfl rfl rfl rfl (of_decide_eq_true rfl) (fun hb => (Ob.uncond (t := 11) hb rfl (ob_gtr rfl (.tmp rfl) (opd_int rfl)))) fun a13 w13 s13 => ?_; clear s12
  obtain ⟨x1, e_x1, h1⟩ := bind_some h0; clear h0; replace e_x1 := Option.some.inj e_x1
  refine seq_op s13 rfl rfl (of_decide_eq_true rfl) ((ob_or2 rfl (.tmp rfl) opd_bool (.tmp rfl)).nm e_x1) fun a14 w14 s14 => ?_; clear s13
  refine seq_op s14 rfl rfl (of_decide_eq_true rfl) (ob_move rfl (.tmp rfl)) fun a15 w15 s15 => ?_; clear s14
  refine seq_opg s15 rfl rfl rfl rfl (of_decide_eq_true rfl) (fun hb => ob_fieldAddr (off' := 70) rfl Try.underlying44 rfl sz42 (by decide) (.tmp rfl) rfl) fun a16 w16 s16 => ?_; clear s15
  refine seq_opg s16 rfl rfl rfl rfl (of_decide_eq_true rfl) (fun hb => (Ob.uncond (t := 15) hb rfl (ob_load rfl tk42 (.tmp rfl) (.head _) (lg_api_Op_Boxes p1)))) fun a17 w17 s17 => ?_; clear s16
  refine seq_opg s17 rfl rfl rfl rfl (of_decide_eq_true rfl) (fun hb => (Ob.uncond (t := 16) hb rfl (ob_lens rfl Try.underlying42 (.tmp rfl)))) fun a18 w18 s18 => ?_; clear s17
  refine seq_opg s18 rfl rfl rfl rfl (of_decide_eq_true rfl) (fun hb => (Ob.uncond (t := 17) hb rfl (ob_gtr rfl (.tmp rfl) (opd_int rfl)))) fun a19 w19 s19 => ?_; clear s18
  refine seq_op s19 rfl rfl (of_decide_eq_true rfl) (ob_or2 rfl (.tmp rfl) opd_bool (.tmp rfl)) fun a20 w20 s20 => ?_; clear s19
  refine seq_op s20 rfl rfl (of_decide_eq_true rfl) (ob_move rfl (.tmp rfl)) fun a21 w21 s21 => ?_; clear s20
  refine seq_opg s21 rfl rfl rfl rfl (of_decide_eq_true rfl) (fun hb => ob_fieldAddr (off' := 69) rfl Try.underlying44 rfl sz9 (by decide) (.tmp rfl) rfl) fun a22 w22 s22 => ?_; clear s21
  refine seq_opg s22 rfl rfl rfl rfl (of_decide_eq_true rfl) (fun hb => (Ob.uncond (t := 21) hb rfl (ob_load rfl tk9 (.tmp rfl) (.head _) (lg_api_Op_Text p1)))) fun a23 w23 s23 => ?_; clear s22
  refine seq_opg s23 rfl rfl rfl rfl (of_decide_eq_true rfl) (fun hb => (Ob.uncond (t := 22) hb rfl (ob_lenStr rfl Try.underlying9 (.tmp rfl)))) fun a24 w24 s24 => ?_; clear s23
  refine seq_opg s24 rfl rfl rfl rfl (of_decide_eq_true rfl) (fun hb => (Ob.uncond (t := 23) hb rfl (ob_gtr rfl (.tmp rfl) (opd_int rfl)))) fun a25 w25 s25 => ?_; clear s24
  obtain ⟨x2, e_x2, h2⟩ := bind_some h1; clear h1; replace e_x2 := Option.some.inj e_x2
  refine seq_op s25 rfl rfl (of_decide_eq_true rfl) ((ob_or2 rfl (.tmp rfl) opd_bool (.tmp rfl)).nm e_x2) fun a26 w26 s26 => ?_; clear s25
  refine wpList_nil ?_
  refine then_normal ?_
  refine hK3 _ _ ?_
  have s27 := s26.sub (.cons (t := 1) rfl (.cons (t := 25) rfl .nil)); clear s26
  refine cond_split s27 (.tmp rfl) (fun hc1 => ?_) (fun hc1 => ?_)
  · replace h2 := ite_t hc1 h2
    have h3 := h2; clear h2
    refine wp_seq_k fun K4 hK4 => ?_
    refine wp_region_lit ?_
    refine seq_op s27 rfl rfl (of_decide_eq_true rfl) (ob_assign rfl opd_bool) fun a28 w28 s28 => ?_; clear s27
    refine wpList_nil ?_
    refine then_normal ?_
    refine hK4 _ _ ?_
    have s29 := s28.sub (.cons (t := 2) rfl .nil); clear s28
    have s30 := St.drop (A := []) s29; clear s29
    refine wp_ret ?_
    obtain rfl := Option.some.inj h3
    exact leave s30 (.inl rfl) rfl (.cons (.tmp rfl) .nil)
  · replace h2 := ite_f hc1 h2
    have h4 := h2; clear h2
    refine wp_skip ?_
    refine then_normal ?_
    refine hK2 _ _ ?_
    have s31 := s27.sub (.cons (t := 1) rfl .nil); clear s27
    refine wp_seq_k fun K5 hK5 => ?_
    refine wp_seq_k fun K6 hK6 => ?_
    refine wp_region_lit ?_
    refine seq_op s31 rfl rfl (of_decide_eq_true rfl) (ob_assign rfl (opd_int rfl)) fun a32 w32 s32 => ?_; clear s31
    refine wpList_nil ?_
    refine then_normal ?_
    refine hK6 _ _ ?_
    have s33 := s32.sub (.cons (t := 1) rfl (.cons (t := 3) rfl .nil)); clear s32
    have hj1 : ∀ (a : Act) (w : World), (cabalref11_Great.j1 k) = some r → St ⟨41, w0, ok, []⟩ [] [] a w → K5 a w := by
      intro a34 w34 h5 s34
      unfold cabalref11_Great.j1 at h5
      refine hK5 _ _ ?_
      refine wp_seq_k fun K7 hK7 => ?_
      refine wp_region_lit ?_
      refine seq_op s34 rfl rfl (of_decide_eq_true rfl) (ob_assign rfl opd_bool) fun a35 w35 s35 => ?_; clear s34
      refine wpList_nil ?_
      refine then_normal ?_
      refine hK7 _ _ ?_
      have s36 := s35.sub (.cons (t := 2) rfl .nil); clear s35
      refine wp_ret ?_
      obtain rfl := Option.some.inj h5
      exact leave s36 (.inl rfl) rfl (.cons (.tmp rfl) .nil)
    refine wp_block ?_
    refine wp_loop_fuel (fun m (q : Int) => cabalref11_Great.l1 k p1 m q) r (fun _ => rfl) (fun q a w => St ⟨41, w0, ok, []⟩ [BF b1 44 k_api_Op p1] [(1, (ptrB b1 0)), (3, ((kint .i64).V q))] a w) ?_ k (0 : Int) _ _ h4 (s33.sub (.cons rfl (.cons rfl .nil)))
    rintro n1 y1 a37 w37 h6 s37 K8 hK8
    replace h6 : cabalref11_Great.l1 k p1 (n1 + 1) y1 = some r := h6; rw [cabalref11_Great.l1] at h6
    have h7 := h6; clear h6
    refine wp_seq_k fun K9 hK9 => ?_
    refine wp_seq_k fun K10 hK10 => ?_
    refine wp_region_lit ?_
    refine seq_op s37 rfl rfl (of_decide_eq_true rfl) (ob_move rfl (.tmp rfl)) fun a38 w38 s38 => ?_; clear s37
    refine seq_op s38 rfl rfl (of_decide_eq_true rfl) (ob_fieldAddr (off' := 70) rfl Try.underlying44 rfl sz42 (by decide) (.tmp rfl) rfl) fun a39 w39 s39 => ?_; clear s38
    refine seq_op s39 rfl rfl (of_decide_eq_true rfl) (ob_load rfl tk42 (.tmp rfl) (.head _) (lg_api_Op_Boxes p1)) fun a40 w40 s40 => ?_; clear s39
    refine seq_op s40 rfl rfl (of_decide_eq_true rfl) (ob_lens rfl Try.underlying42 (.tmp rfl)) fun a41 w41 s41 => ?_; clear s40
    refine seq_op s41 rfl rfl (of_decide_eq_true rfl) (ob_lss rfl (.tmp rfl) (.tmp rfl)) fun a42 w42 s42 => ?_; clear s41
    refine wpList_nil ?_
    refine then_normal ?_
    refine hK10 _ _ ?_
    have s43 := s42.sub (.cons (t := 1) rfl (.cons (t := 3) rfl (.cons (t := 30) rfl .nil))); clear s42
    refine cond_split s43 (.tmp rfl) (fun hc2 => ?_) (fun hc2 => ?_)
    · replace h7 := ite_t hc2 h7
      have h8 := h7; clear h7
      refine wp_skip ?_
      refine then_normal ?_
      refine hK9 _ _ ?_
      have s44 := s43.sub (.cons (t := 1) rfl (.cons (t := 3) rfl .nil)); clear s43
      refine wp_seq_k fun K11 hK11 => ?_
      refine wp_block ?_
      refine wp_seq_k fun K12 hK12 => ?_
      refine wp_region_lit ?_
      refine seq_op s44 rfl rfl (of_decide_eq_true rfl) (ob_fieldAddr (off' := 70) rfl Try.underlying44 rfl sz42 (by decide) (.tmp rfl) rfl) fun a45 w45 s45 => ?_; clear s44
      refine seq_op s45 rfl rfl (of_decide_eq_true rfl) (ob_load rfl tk42 (.tmp rfl) (.head _) (lg_api_Op_Boxes p1)) fun a46 w46 s46 => ?_; clear s45
      refine seq_op s46 rfl rfl (of_decide_eq_true rfl) (ob_move rfl (.tmp rfl)) fun a47 w47 s47 => ?_; clear s46
      obtain ⟨x3, e_x3, h9⟩ := bind_some h8; clear h8
      refine seq_op s47 rfl rfl (of_decide_eq_true rfl) (ob_indexAddrs rfl Try.underlying42 sz78 (.tmp rfl) (.tmp rfl) e_x3) fun a48 w48 s48 => ?_; clear s47
      refine seq_op s48 rfl rfl (of_decide_eq_true rfl) (ob_fieldAddrr rfl Try.underlying78 rfl sz9 (by decide) (.tmp rfl) (lg_api_Box_Body x3)) fun a49 w49 s49 => ?_; clear s48
      refine seq_op s49 rfl rfl (of_decide_eq_true rfl) (ob_loadr rfl tk9 (.tmp rfl)) fun a50 w50 s50 => ?_; clear s49
      refine seq_op s50 rfl rfl (of_decide_eq_true rfl) (ob_lenStr rfl Try.underlying9 (.tmp rfl)) fun a51 w51 s51 => ?_; clear s50
      refine seq_op s51 rfl rfl (of_decide_eq_true rfl) (ob_gtr rfl (.tmp rfl) (opd_int rfl)) fun a52 w52 s52 => ?_; clear s51
      refine wpList_nil ?_
      refine then_normal ?_
      refine hK12 _ _ ?_
      have s53 := s52.sub (.cons (t := 1) rfl (.cons (t := 3) rfl (.cons (t := 40) rfl .nil))); clear s52
      refine cond_split s53 (.tmp rfl) (fun hc3 => ?_) (fun hc3 => ?_)
      · replace h9 := ite_t hc3 h9
        have h10 := h9; clear h9
        refine wp_seq_k fun K13 hK13 => ?_
        refine wp_region_lit ?_
        refine seq_op s53 rfl rfl (of_decide_eq_true rfl) (ob_assign rfl opd_bool) fun a54 w54 s54 => ?_; clear s53
        refine wpList_nil ?_
        refine then_normal ?_
        refine hK13 _ _ ?_
        have s55 := s54.sub (.cons (t := 2) rfl .nil); clear s54
        have s56 := St.drop (A := []) s55; clear s55
        refine wp_ret ?_
        obtain rfl := Option.some.inj h10
        exact leave s56 (.inl rfl) rfl (.cons (.tmp rfl) .nil)
      · replace h9 := ite_f hc3 h9
        have h11 := h9; clear h9
        refine wp_skip ?_
        refine in_normal ?_
        refine then_normal ?_
        refine hK11 _ _ ?_
        have s57 := s53.sub (.cons (t := 1) rfl (.cons (t := 3) rfl .nil)); clear s53
        refine wp_region_lit ?_
        refine seq_op s57 rfl rfl (of_decide_eq_true rfl) (ob_move rfl (.tmp rfl)) fun a58 w58 s58 => ?_; clear s57
        refine seq_op s58 rfl rfl (of_decide_eq_true rfl) (ob_add rfl (.tmp rfl) (opd_int rfl)) fun a59 w59 s59 => ?_; clear s58
        refine seq_op s59 rfl rfl (of_decide_eq_true rfl) (ob_assign rfl (.tmp rfl)) fun a60 w60 s60 => ?_; clear s59
        refine wpList_nil ?_
        refine then_normal ?_
        exact hK8 (iadd .i64 y1 (1 : Int)) _ _ h11 (s60.sub (.cons rfl (.cons rfl .nil)))
    · replace h7 := ite_f hc2 h7
      have h12 := h7; clear h7
      refine wp_exit ?_
      refine (then_exit (then_exit (in_here ?_)))
      refine then_normal ?_
      have s61 := St.drop (A := []) s43; clear s43
      exact hj1 _ _ h12 (s61.sub .nil)

/- 23 cabal/cabalref15.Great -/
theorem c_cabalref15_Great (k : Nat) (p1 : (List api_Node)) (r : Bool) (h0 : cabalref15_Great k p1 = some r) (ok : Ok) (w0 : World) (z0 : Value) (u0 : ((ksl k_api_Node).V p1).holds ok w0 z0) :
    Gives Try.prog 23 [z0] ok w0 (resFact [kbool.V r]) := by
  unfold cabalref15_Great at h0
  refine enter (N := 28) Try.func23 rfl rfl (of_decide_eq_true rfl) (.cons u0 .nil) fun a1 s1 => ?_
  refine wp_seq_k fun K1 hK1 => ?_
  refine wp_region_lit ?_
  refine seq_op s1 rfl rfl (of_decide_eq_true rfl) (ob_assign rfl opd_bool) fun a2 w2 s2 => ?_; clear s1
  refine wpList_nil ?_
  refine then_normal ?_
  refine hK1 _ _ ?_
  have s3 := s2.sub (.cons (t := 0) rfl .nil); clear s2
  refine wp_seq_k fun K2 hK2 => ?_
  refine wp_seq_k fun K3 hK3 => ?_
  refine wp_region_lit ?_
  refine seq_op s3 rfl rfl (of_decide_eq_true rfl) (ob_move rfl (.tmp rfl)) fun a4 w4 s4 => ?_; clear s3
  refine seq_op s4 rfl rfl (of_decide_eq_true rfl) (ob_lens rfl Try.underlying22 (.tmp rfl)) fun a5 w5 s5 => ?_; clear s4
  refine seq_op s5 rfl rfl (of_decide_eq_true rfl) (ob_gtr rfl (.tmp rfl) (opd_int rfl)) fun a6 w6 s6 => ?_; clear s5
  refine wpList_nil ?_
  refine then_normal ?_
  refine hK3 _ _ ?_
  have s7 := s6.sub (.cons (t := 0) rfl (.cons (t := 6) rfl .nil)); clear s6
  refine cond_split s7 (.tmp rfl) (fun hc1 => ?_) (fun hc1 => ?_)
  · replace h0 := ite_t hc1 h0
    have h1 := h0; clear h0
    refine wp_seq_k fun K4 hK4 => ?_
    refine wp_region_lit ?_
    refine seq_op s7 rfl rfl (of_decide_eq_true rfl) (ob_assign rfl opd_bool) fun a8 w8 s8 => ?_; clear s7
    refine wpList_nil ?_
    refine then_normal ?_
    refine hK4 _ _ ?_
    have s9 := s8.sub (.cons (t := 2) rfl .nil); clear s8
    refine wp_ret ?_
    obtain rfl := Option.some.inj h1
    exact leave s9 (.inl rfl) rfl (.cons (.tmp rfl) .nil)
  · replace h0 := ite_f hc1 h0
    have h2 := h0; clear h0
    refine wp_skip ?_
    refine then_normal ?_
    refine hK2 _ _ ?_
    have s10 := s7.sub (.cons (t := 0) rfl .nil); clear s7
    refine wp_seq_k fun K5 hK5 => ?_
    refine wp_seq_k fun K6 hK6 => ?_
    refine wp_region_lit ?_
    refine seq_op s10 rfl rfl (of_decide_eq_true rfl) (ob_assign rfl (opd_int rfl)) fun a11 w11 s11 => ?_; clear s10
    refine wpList_nil ?_
    refine then_normal ?_
    refine hK6 _ _ ?_
    have s12 := s11.sub (.cons (t := 0) rfl (.cons (t := 3) rfl .nil)); clear s11
    have hj1 : ∀ (a : Act) (w : World), (cabalref15_Great.j1 k) = some r → St ⟨28, w0, ok, []⟩ [] [] a w → K5 a w := by
      intro a13 w13 h3 s13
      unfold cabalref15_Great.j1 at h3
      refine hK5 _ _ ?_
      refine wp_seq_k fun K7 hK7 => ?_
      refine wp_region_lit ?_
      refine seq_op s13 rfl rfl (of_decide_eq_true rfl) (ob_assign rfl opd_bool) fun a14 w14 s14 => ?_; clear s13
      refine wpList_nil ?_
      refine then_normal ?_
      refine hK7 _ _ ?_
      have s15 := s14.sub (.cons (t := 2) rfl .nil); clear s14
      refine wp_ret ?_
      obtain rfl := Option.some.inj h3
      exact leave s15 (.inl rfl) rfl (.cons (.tmp rfl) .nil)
    refine wp_block ?_
    refine wp_loop_fuel (fun m (q : Int) => cabalref15_Great.l1 k p1 m q) r (fun _ => rfl) (fun q a w => St ⟨28, w0, ok, []⟩ [] [(0, ((ksl k_api_Node).V p1)), (3, ((kint .i64).V q))] a w) ?_ k (0 : Int) _ _ h2 (s12.sub (.cons rfl (.cons rfl .nil)))
    rintro n1 y1 a16 w16 h4 s16 K8 hK8
    replace h4 : cabalref15_Great.l1 k p1 (n1 + 1) y1 = some r := h4; rw [cabalref15_Great.l1] at h4
    have h5 := h4; clear h4
    refine wp_seq_k fun K9 hK9 => ?_
    refine wp_seq_k fun K10 hK10 => ?_
    refine wp_region_lit ?_
    refine seq_op s16 rfl rfl (of_decide_eq_true rfl) (ob_move rfl (.tmp rfl)) fun a17 w17 s17 => ?_; clear s16
    refine seq_op s17 rfl rfl (of_decide_eq_true rfl) (ob_move rfl (.tmp rfl)) fun a18 w18 s18 => ?_; clear s17
    refine seq_op s18 rfl rfl (of_decide_eq_true rfl) (ob_lens rfl Try.underlying22 (.tmp rfl)) fun a19 w19 s19 => ?_; clear s18
    refine seq_op s19 rfl rfl (of_decide_eq_true rfl) (ob_lss rfl (.tmp rfl) (.tmp rfl)) fun a20 w20 s20 => ?_; clear s19
    refine wpList_nil ?_
    refine then_normal ?_
    refine hK10 _ _ ?_
    have s21 := s20.sub (.cons (t := 0) rfl (.cons (t := 3) rfl (.cons (t := 10) rfl .nil))); clear s20
    refine cond_split s21 (.tmp rfl) (fun hc2 => ?_) (fun hc2 => ?_)
    · replace h5 := ite_t hc2 h5
      have h6 := h5; clear h5
      refine wp_skip ?_
      refine then_normal ?_
      refine hK9 _ _ ?_
      have s22 := s21.sub (.cons (t := 0) rfl (.cons (t := 3) rfl .nil)); clear s21
      refine wp_seq_k fun K11 hK11 => ?_
      refine wp_block ?_
      refine wp_seq_k fun K12 hK12 => ?_
      refine wp_region_lit ?_
      refine seq_op s22 rfl rfl (of_decide_eq_true rfl) (ob_move rfl (.tmp rfl)) fun a23 w23 s23 => ?_; clear s22
      refine seq_op s23 rfl rfl (of_decide_eq_true rfl) (ob_move rfl (.tmp rfl)) fun a24 w24 s24 => ?_; clear s23
      obtain ⟨x1, e_x1, h7⟩ := bind_some h6; clear h6
      refine seq_op s24 rfl rfl (of_decide_eq_true rfl) (ob_indexAddrs rfl Try.underlying22 sz46 (.tmp rfl) (.tmp rfl) e_x1) fun a25 w25 s25 => ?_; clear s24
      refine seq_op s25 rfl rfl (of_decide_eq_true rfl) (ob_fieldAddrr rfl Try.underlying46 rfl sz44 (by decide) (.tmp rfl) (lg_api_Node_Op x1)) fun a26 w26 s26 => ?_; clear s25
      refine seq_op s26 rfl rfl (of_decide_eq_true rfl) (ob_loadr rfl tk44 (.tmp rfl)) fun a27 w27 s27 => ?_; clear s26
      obtain ⟨x2, e_x2, h8⟩ := bind_some h7; clear h7
      refine seq_op s27 rfl rfl (of_decide_eq_true rfl) (ob_callD (args := [_]) rfl .direct hb51 (fun a w s fs gs hf hg => by obtain rfl := hf.unnil; obtain rfl := hg.unnil; exact c_cabalref11_Great k _ _ e_x2 _ _ _ (s.arg (.tmp rfl)))) fun a28 w28 s28 => ?_; clear s27
      refine seq_op s28 rfl rfl (of_decide_eq_true rfl) (ob_move rfl (.tmp rfl)) fun a29 w29 s29 => ?_; clear s28
      refine seq_opg s29 rfl rfl rfl rfl (of_decide_eq_true rfl) (fun hb => ob_move rfl (.tmp rfl)) fun a30 w30 s30 => ?_; clear s29
      refine seq_opg s30 rfl rfl rfl rfl (of_decide_eq_true rfl) (fun hb => ob_move rfl (.tmp rfl)) fun a31 w31 s31 => ?_; clear s30
      obtain ⟨x3, e_x3, h9⟩ := bind_some h8; clear h8
      refine seq_opg s31 rfl rfl rfl rfl (of_decide_eq_true rfl) (fun hb => (Ob.uncond (t := 21) hb rfl ((Ob.uncond (t := 20) hb rfl (ob_indexAddrs rfl Try.underlying22 sz46 (.tmp rfl) (.tmp rfl) (ite_t hb e_x3)))))) fun a32 w32 s32 => ?_; clear s31
      refine seq_opg s32 rfl rfl rfl rfl (of_decide_eq_true rfl) (fun hb => (Ob.uncond (t := 22) hb rfl (ob_fieldAddrr rfl Try.underlying46 rfl sz41 (by decide) (.tmp rfl) (lg_api_Node_Past x3)))) fun a33 w33 s33 => ?_; clear s32
      refine seq_opg s33 rfl rfl rfl rfl (of_decide_eq_true rfl) (fun hb => (Ob.uncond (t := 23) hb rfl (ob_loadr rfl tk41 (.tmp rfl)))) fun a34 w34 s34 => ?_; clear s33
      refine seq_opg s34 rfl rfl rfl rfl (of_decide_eq_true rfl) (fun hb => (Ob.uncond (t := 24) hb rfl (ob_lens rfl Try.underlying41 (.tmp rfl)))) fun a35 w35 s35 => ?_; clear s34
      refine seq_opg s35 rfl rfl rfl rfl (of_decide_eq_true rfl) (fun hb => (Ob.uncond (t := 25) hb rfl (ob_gtr rfl (.tmp rfl) (opd_int rfl)))) fun a36 w36 s36 => ?_; clear s35
      refine seq_op s36 rfl rfl (of_decide_eq_true rfl) (ob_or2 rfl (.tmp rfl) opd_bool (.tmp rfl)) fun a37 w37 s37 => ?_; clear s36
      refine wpList_nil ?_
      refine then_normal ?_
      refine hK12 _ _ ?_
      have s38 := s37.sub (.cons (t := 0) rfl (.cons (t := 3) rfl (.cons (t := 27) rfl .nil))); clear s37
      refine cond_split s38 (.tmp rfl) (fun hc3 => ?_) (fun hc3 => ?_)
      · replace h9 := ite_t hc3 h9
        have h10 := h9; clear h9
        refine wp_seq_k fun K13 hK13 => ?_
        refine wp_region_lit ?_
        refine seq_op s38 rfl rfl (of_decide_eq_true rfl) (ob_assign rfl opd_bool) fun a39 w39 s39 => ?_; clear s38
        refine wpList_nil ?_
        refine then_normal ?_
        refine hK13 _ _ ?_
        have s40 := s39.sub (.cons (t := 2) rfl .nil); clear s39
        refine wp_ret ?_
        obtain rfl := Option.some.inj h10
        exact leave s40 (.inl rfl) rfl (.cons (.tmp rfl) .nil)
      · replace h9 := ite_f hc3 h9
        have h11 := h9; clear h9
        refine wp_skip ?_
        refine in_normal ?_
        refine then_normal ?_
        refine hK11 _ _ ?_
        have s41 := s38.sub (.cons (t := 0) rfl (.cons (t := 3) rfl .nil)); clear s38
        refine wp_region_lit ?_
        refine seq_op s41 rfl rfl (of_decide_eq_true rfl) (ob_move rfl (.tmp rfl)) fun a42 w42 s42 => ?_; clear s41
        refine seq_op s42 rfl rfl (of_decide_eq_true rfl) (ob_add rfl (.tmp rfl) (opd_int rfl)) fun a43 w43 s43 => ?_; clear s42
        refine seq_op s43 rfl rfl (of_decide_eq_true rfl) (ob_assign rfl (.tmp rfl)) fun a44 w44 s44 => ?_; clear s43
        refine wpList_nil ?_
        refine then_normal ?_
        exact hK8 (iadd .i64 y1 (1 : Int)) _ _ h11 (s44.sub (.cons rfl (.cons rfl .nil)))
    · replace h5 := ite_f hc2 h5
      have h12 := h5; clear h5
      refine wp_exit ?_
      refine (then_exit (then_exit (in_here ?_)))
      refine then_normal ?_
      exact hj1 _ _ h12 (s21.sub .nil)

/- 56 cabal/cabalref15.Find -/
theorem c_cabalref15_Find (k : Nat) (p1 : (List api_Node)) (p2 : (List Int)) (r : Int) (h0 : cabalref15_Find k p1 p2 = some r) (ok : Ok) (w0 : World) (z0 : Value) (z1 : Value) (u0 : ((ksl k_api_Node).V p1).holds ok w0 z0) (u1 : ((karr 32 (kint .u8)).V p2).holds ok w0 z1) :
    Gives Try.prog 56 [z0, z1] ok w0 (resFact [(kint .i64).V r]) := by
  unfold cabalref15_Find at h0
  refine enter (N := 20) Try.func56 rfl rfl (of_decide_eq_true rfl) (.cons u0 (.cons u1 .nil)) fun a1 s1 => ?_
  refine wp_seq_k fun K1 hK1 => ?_
  refine wp_region_lit ?_
  refine seq_opx (B' := (fun b1 : Nat => [BF b1 39 (karr 32 (kint .u8)) p2])) s1 rfl rfl (of_decide_eq_true rfl) (ob_box rfl (.tmp rfl)) fun b1 a2 w2 s2 => ?_; clear s1
  refine seq_op s2 rfl rfl (of_decide_eq_true rfl) (ob_assign rfl (opd_int rfl)) fun a3 w3 s3 => ?_; clear s2
  refine wpList_nil ?_
  refine then_normal ?_
  refine hK1 _ _ ?_
  have s4 := s3.sub (.cons (t := 0) rfl (.cons (t := 3) rfl .nil)); clear s3
  refine wp_seq_k fun K2 hK2 => ?_
  refine wp_seq_k fun K3 hK3 => ?_
  refine wp_region_lit ?_
  refine seq_op s4 rfl rfl (of_decide_eq_true rfl) (ob_assign rfl (opd_int rfl)) fun a5 w5 s5 => ?_; clear s4
  refine wpList_nil ?_
  refine then_normal ?_
  refine hK3 _ _ ?_
  have s6 := s5.sub (.cons (t := 0) rfl (.cons (t := 3) rfl (.cons (t := 5) rfl .nil))); clear s5
  have hj1 : ∀ (a : Act) (w : World), (cabalref15_Find.j1 k) = some r → St ⟨20, w0, ok, []⟩ [] [] a w → K2 a w := by
    intro a7 w7 h1 s7
    unfold cabalref15_Find.j1 at h1
    refine hK2 _ _ ?_
    refine wp_seq_k fun K4 hK4 => ?_
    refine wp_region_lit ?_
    refine seq_op s7 rfl rfl (of_decide_eq_true rfl) (ob_assign rfl (opd_int rfl)) fun a8 w8 s8 => ?_; clear s7
    refine wpList_nil ?_
    refine then_normal ?_
    refine hK4 _ _ ?_
    have s9 := s8.sub (.cons (t := 4) rfl .nil); clear s8
    refine wp_ret ?_
    obtain rfl := Option.some.inj h1
    exact leave s9 (.inl rfl) rfl (.cons (.tmp rfl) .nil)
  refine wp_block ?_
  refine wp_loop_fuel (fun m (q : Int) => cabalref15_Find.l1 k p1 p2 m q) r (fun _ => rfl) (fun q a w => St ⟨20, w0, ok, []⟩ [BF b1 39 (karr 32 (kint .u8)) p2] [(0, ((ksl k_api_Node).V p1)), (3, (ptrB b1 0)), (5, ((kint .i64).V q))] a w) ?_ k (0 : Int) _ _ h0 (s6.sub (.cons rfl (.cons rfl (.cons rfl .nil))))
  rintro n1 y1 a10 w10 h2 s10 K5 hK5
  replace h2 : cabalref15_Find.l1 k p1 p2 (n1 + 1) y1 = some r := h2; rw [cabalref15_Find.l1] at h2
  have h3 := h2; clear h2
  refine wp_seq_k fun K6 hK6 => ?_
  refine wp_seq_k fun K7 hK7 => ?_
  refine wp_region_lit ?_
  refine seq_op s10 rfl rfl (of_decide_eq_true rfl) (ob_move rfl (.tmp rfl)) fun a11 w11 s11 => ?_; clear s10
  refine seq_op s11 rfl rfl (of_decide_eq_true rfl) (ob_move rfl (.tmp rfl)) fun a12 w12 s12 => ?_; clear s11
  refine seq_op s12 rfl rfl (of_decide_eq_true rfl) (ob_lens rfl Try.underlying22 (.tmp rfl)) fun a13 w13 s13 => ?_; clear s12
  refine seq_op s13 rfl rfl (of_decide_eq_true rfl) (ob_lss rfl (.tmp rfl) (.tmp rfl)) fun a14 w14 s14 => ?_; clear s13
  refine wpList_nil ?_
  refine then_normal ?_
  refine hK7 _ _ ?_
  have s15 := s14.sub (.cons (t := 0) rfl (.cons (t := 3) rfl (.cons (t := 5) rfl (.cons (t := 9) rfl .nil)))); clear s14
  refine cond_split s15 (.tmp rfl) (fun hc1 => ?_) (fun hc1 => ?_)
  · replace h3 := ite_t hc1 h3
    have h4 := h3; clear h3
    refine wp_skip ?_
    refine then_normal ?_
    refine hK6 _ _ ?_
    have s16 := s15.sub (.cons (t := 0) rfl (.cons (t := 3) rfl (.cons (t := 5) rfl .nil))); clear s15
    refine wp_seq_k fun K8 hK8 => ?_
    refine wp_block ?_
    refine wp_seq_k fun K9 hK9 => ?_
    obtain ⟨x1, e_x1, h5⟩ := bind_some h4; clear h4
    refine wp_goes (Fs := [((ksl k_api_Node).V p1), ((kint .i64).V y1), (ptrTo k_api_Node x1), (ptrTo (karr 32 (kint .u8)) x1.Id), ((karr 32 (kint .u8)).V x1.Id), ((karr 32 (kint .u8)).V p2)]) (bits := [0, 0, 3, 7, 15, 0, 63]) (m := 6) (todo := 0) mx s16 ?_; clear s16
    refine goes_last (by kernel_rfl) rfl (opsS_cons (.plain _ (Av.old (t := 0) rfl rfl Av.nil) rfl rfl (ob_move rfl (.tmp rfl))) (opsS_cons (.plain _ (Av.old (t := 5) rfl rfl Av.nil) rfl rfl (ob_move rfl (.tmp rfl))) (opsS_cons (.plain _ (Av.new (j := 0) rfl rfl rfl (Av.new (j := 1) rfl rfl rfl Av.nil)) rfl rfl (ob_indexAddrs rfl Try.underlying22 sz46 (.tmp rfl) (.tmp rfl) e_x1)) (opsS_cons (.plain _ (Av.new (j := 2) rfl rfl rfl Av.nil) rfl rfl (ob_fieldAddrr rfl Try.underlying46 rfl sz39 (by decide) (.tmp rfl) (lg_api_Node_Id x1))) (opsS_cons (.plain _ (Av.new (j := 3) rfl rfl rfl Av.nil) rfl rfl (ob_loadr rfl tk39 (.tmp rfl))) (opsS_cons (.plain _ (Av.old (t := 3) rfl rfl Av.nil) rfl rfl (ob_load rfl tk39 (.tmp rfl) (.head _) (LG.refl _ _))) opsS_nil)))))) (out_old (t := 0) rfl rfl (out_old (t := 3) rfl rfl (out_old (t := 5) rfl rfl (out_new (i := 4) (by decide) rfl rfl (out_new (i := 5) (by decide) rfl rfl out_nil))))) fun a17 w17 s17 => ?_
    refine seq_op s17 rfl rfl (of_decide_eq_true rfl) (ob_eqAgg rfl rfl (by kernel_rfl) eq39 (by decide) (.tmp rfl) (.tmp rfl)) fun a18 w18 s18 => ?_; clear s17
    refine wpList_nil ?_
    refine then_normal ?_
    refine hK9 _ _ ?_
    have s19 := s18.sub (.cons (t := 0) rfl (.cons (t := 3) rfl (.cons (t := 5) rfl (.cons (t := 18) rfl .nil)))); clear s18
    refine cond_split s19 (.tmp rfl) (fun hc2 => ?_) (fun hc2 => ?_)
    · replace h5 := ite_t hc2 h5
      have h6 := h5; clear h5
      refine wp_seq_k fun K10 hK10 => ?_
      refine wp_region_lit ?_
      refine seq_op s19 rfl rfl (of_decide_eq_true rfl) (ob_move rfl (.tmp rfl)) fun a20 w20 s20 => ?_; clear s19
      refine seq_op s20 rfl rfl (of_decide_eq_true rfl) (ob_assign rfl (.tmp rfl)) fun a21 w21 s21 => ?_; clear s20
      refine wpList_nil ?_
      refine then_normal ?_
      refine hK10 _ _ ?_
      have s22 := s21.sub (.cons (t := 4) rfl .nil); clear s21
      have s23 := St.drop (A := []) s22; clear s22
      refine wp_ret ?_
      obtain rfl := Option.some.inj h6
      exact leave s23 (.inl rfl) rfl (.cons (.tmp rfl) .nil)
    · replace h5 := ite_f hc2 h5
      have h7 := h5; clear h5
      refine wp_skip ?_
      refine in_normal ?_
      refine then_normal ?_
      refine hK8 _ _ ?_
      have s24 := s19.sub (.cons (t := 0) rfl (.cons (t := 3) rfl (.cons (t := 5) rfl .nil))); clear s19
      refine wp_region_lit ?_
      refine seq_op s24 rfl rfl (of_decide_eq_true rfl) (ob_move rfl (.tmp rfl)) fun a25 w25 s25 => ?_; clear s24
      refine seq_op s25 rfl rfl (of_decide_eq_true rfl) (ob_add rfl (.tmp rfl) (opd_int rfl)) fun a26 w26 s26 => ?_; clear s25
      refine seq_op s26 rfl rfl (of_decide_eq_true rfl) (ob_assign rfl (.tmp rfl)) fun a27 w27 s27 => ?_; clear s26
      refine wpList_nil ?_
      refine then_normal ?_
      exact hK5 (iadd .i64 y1 (1 : Int)) _ _ h7 (s27.sub (.cons rfl (.cons rfl (.cons rfl .nil))))
  · replace h3 := ite_f hc1 h3
    have h8 := h3; clear h3
    refine wp_exit ?_
    refine (then_exit (then_exit (in_here ?_)))
    refine then_normal ?_
    have s28 := St.drop (A := []) s15; clear s15
    exact hj1 _ _ h8 (s28.sub .nil)

/- 44 cabal/cabalref15.In -/
theorem c_cabalref15_In (k : Nat) (p1 : (List Int)) (p2 : Int) (r : Bool) (h0 : cabalref15_In k p1 p2 = some r) (ok : Ok) (w0 : World) (z0 : Value) (z1 : Value) (u0 : ((ksl (kint .i64)).V p1).holds ok w0 z0) (u1 : ((kint .i64).V p2).holds ok w0 z1) :
    Gives Try.prog 44 [z0, z1] ok w0 (resFact [kbool.V r]) := by
  unfold cabalref15_In at h0
  refine enter (N := 18) Try.func44 rfl rfl (of_decide_eq_true rfl) (.cons u0 (.cons u1 .nil)) fun a1 s1 => ?_
  refine wp_seq_k fun K1 hK1 => ?_
  refine wp_region_lit ?_
  refine seq_op s1 rfl rfl (of_decide_eq_true rfl) (ob_assign rfl opd_bool) fun a2 w2 s2 => ?_; clear s1
  refine wpList_nil ?_
  refine then_normal ?_
  refine hK1 _ _ ?_
  have s3 := s2.sub (.cons (t := 0) rfl (.cons (t := 1) rfl .nil)); clear s2
  refine wp_seq_k fun K2 hK2 => ?_
  refine wp_seq_k fun K3 hK3 => ?_
  refine wp_region_lit ?_
  refine seq_op s3 rfl rfl (of_decide_eq_true rfl) (ob_assign rfl (opd_int rfl)) fun a4 w4 s4 => ?_; clear s3
  refine wpList_nil ?_
  refine then_normal ?_
  refine hK3 _ _ ?_
  have s5 := s4.sub (.cons (t := 0) rfl (.cons (t := 1) rfl (.cons (t := 5) rfl .nil))); clear s4
  have hj1 : ∀ (a : Act) (w : World), (cabalref15_In.j1 k) = some r → St ⟨18, w0, ok, []⟩ [] [] a w → K2 a w := by
    intro a6 w6 h1 s6
    unfold cabalref15_In.j1 at h1
    refine hK2 _ _ ?_
    refine wp_seq_k fun K4 hK4 => ?_
    refine wp_region_lit ?_
    refine seq_op s6 rfl rfl (of_decide_eq_true rfl) (ob_assign rfl opd_bool) fun a7 w7 s7 => ?_; clear s6
    refine wpList_nil ?_
    refine then_normal ?_
    refine hK4 _ _ ?_
    have s8 := s7.sub (.cons (t := 4) rfl .nil); clear s7
    refine wp_ret ?_
    obtain rfl := Option.some.inj h1
    exact leave s8 (.inl rfl) rfl (.cons (.tmp rfl) .nil)
  refine wp_block ?_
  refine wp_loop_fuel (fun m (q : Int) => cabalref15_In.l1 k p1 p2 m q) r (fun _ => rfl) (fun q a w => St ⟨18, w0, ok, []⟩ [] [(0, ((ksl (kint .i64)).V p1)), (1, ((kint .i64).V p2)), (5, ((kint .i64).V q))] a w) ?_ k (0 : Int) _ _ h0 (s5.sub (.cons rfl (.cons rfl (.cons rfl .nil))))
  rintro n1 y1 a9 w9 h2 s9 K5 hK5
  replace h2 : cabalref15_In.l1 k p1 p2 (n1 + 1) y1 = some r := h2; rw [cabalref15_In.l1] at h2
  have h3 := h2; clear h2
  refine wp_seq_k fun K6 hK6 => ?_
  refine wp_seq_k fun K7 hK7 => ?_
  refine wp_region_lit ?_
  refine seq_op s9 rfl rfl (of_decide_eq_true rfl) (ob_move rfl (.tmp rfl)) fun a10 w10 s10 => ?_; clear s9
  refine seq_op s10 rfl rfl (of_decide_eq_true rfl) (ob_move rfl (.tmp rfl)) fun a11 w11 s11 => ?_; clear s10
  refine seq_op s11 rfl rfl (of_decide_eq_true rfl) (ob_lens rfl Try.underlying41 (.tmp rfl)) fun a12 w12 s12 => ?_; clear s11
  refine seq_op s12 rfl rfl (of_decide_eq_true rfl) (ob_lss rfl (.tmp rfl) (.tmp rfl)) fun a13 w13 s13 => ?_; clear s12
  refine wpList_nil ?_
  refine then_normal ?_
  refine hK7 _ _ ?_
  have s14 := s13.sub (.cons (t := 0) rfl (.cons (t := 1) rfl (.cons (t := 5) rfl (.cons (t := 9) rfl .nil)))); clear s13
  refine cond_split s14 (.tmp rfl) (fun hc1 => ?_) (fun hc1 => ?_)
  · replace h3 := ite_t hc1 h3
    have h4 := h3; clear h3
    refine wp_skip ?_
    refine then_normal ?_
    refine hK6 _ _ ?_
    have s15 := s14.sub (.cons (t := 0) rfl (.cons (t := 1) rfl (.cons (t := 5) rfl .nil))); clear s14
    refine wp_seq_k fun K8 hK8 => ?_
    refine wp_block ?_
    refine wp_seq_k fun K9 hK9 => ?_
    refine wp_region_lit ?_
    refine seq_op s15 rfl rfl (of_decide_eq_true rfl) (ob_move rfl (.tmp rfl)) fun a16 w16 s16 => ?_; clear s15
    refine seq_op s16 rfl rfl (of_decide_eq_true rfl) (ob_move rfl (.tmp rfl)) fun a17 w17 s17 => ?_; clear s16
    obtain ⟨x1, e_x1, h5⟩ := bind_some h4; clear h4
    refine seq_op s17 rfl rfl (of_decide_eq_true rfl) (ob_indexAddrs rfl Try.underlying41 sz3 (.tmp rfl) (.tmp rfl) e_x1) fun a18 w18 s18 => ?_; clear s17
    refine seq_op s18 rfl rfl (of_decide_eq_true rfl) (ob_loadr rfl tk3 (.tmp rfl)) fun a19 w19 s19 => ?_; clear s18
    refine seq_op s19 rfl rfl (of_decide_eq_true rfl) (ob_move rfl (.tmp rfl)) fun a20 w20 s20 => ?_; clear s19
    refine seq_op s20 rfl rfl (of_decide_eq_true rfl) (ob_eql rfl (.tmp rfl) (.tmp rfl)) fun a21 w21 s21 => ?_; clear s20
    refine wpList_nil ?_
    refine then_normal ?_
    refine hK9 _ _ ?_
    have s22 := s21.sub (.cons (t := 0) rfl (.cons (t := 1) rfl (.cons (t := 5) rfl (.cons (t := 17) rfl .nil)))); clear s21
    refine cond_split s22 (.tmp rfl) (fun hc2 => ?_) (fun hc2 => ?_)
    · replace h5 := ite_t hc2 h5
      have h6 := h5; clear h5
      refine wp_seq_k fun K10 hK10 => ?_
      refine wp_region_lit ?_
      refine seq_op s22 rfl rfl (of_decide_eq_true rfl) (ob_assign rfl opd_bool) fun a23 w23 s23 => ?_; clear s22
      refine wpList_nil ?_
      refine then_normal ?_
      refine hK10 _ _ ?_
      have s24 := s23.sub (.cons (t := 4) rfl .nil); clear s23
      refine wp_ret ?_
      obtain rfl := Option.some.inj h6
      exact leave s24 (.inl rfl) rfl (.cons (.tmp rfl) .nil)
    · replace h5 := ite_f hc2 h5
      have h7 := h5; clear h5
      refine wp_skip ?_
      refine in_normal ?_
      refine then_normal ?_
      refine hK8 _ _ ?_
      have s25 := s22.sub (.cons (t := 0) rfl (.cons (t := 1) rfl (.cons (t := 5) rfl .nil))); clear s22
      refine wp_region_lit ?_
      refine seq_op s25 rfl rfl (of_decide_eq_true rfl) (ob_move rfl (.tmp rfl)) fun a26 w26 s26 => ?_; clear s25
      refine seq_op s26 rfl rfl (of_decide_eq_true rfl) (ob_add rfl (.tmp rfl) (opd_int rfl)) fun a27 w27 s27 => ?_; clear s26
      refine seq_op s27 rfl rfl (of_decide_eq_true rfl) (ob_assign rfl (.tmp rfl)) fun a28 w28 s28 => ?_; clear s27
      refine wpList_nil ?_
      refine then_normal ?_
      exact hK5 (iadd .i64 y1 (1 : Int)) _ _ h7 (s28.sub (.cons rfl (.cons rfl (.cons rfl .nil))))
  · replace h3 := ite_f hc1 h3
    have h8 := h3; clear h3
    refine wp_exit ?_
    refine (then_exit (then_exit (in_here ?_)))
    refine then_normal ?_
    exact hj1 _ _ h8 (s14.sub .nil)

/- 55 cabal/cabalref15.Past -/
theorem c_cabalref15_Past (k : Nat) (p1 : (List api_Node)) (p2 : (List (List Int))) (r : ((List Int) × Bool)) (h0 : cabalref15_Past k p1 p2 = some r) (ok : Ok) (w0 : World) (z0 : Value) (z1 : Value) (u0 : ((ksl k_api_Node).V p1).holds ok w0 z0) (u1 : ((ksl (karr 32 (kint .u8))).V p2).holds ok w0 z1) :
    GivesX Try.prog 55 [z0, z1] ok w0 [] (fun g : Value => resFact [is g, kbool.V r.2]) (fun g : Value => [RowF (g) 3 (kint .i64) r.1]) := by
  unfold cabalref15_Past at h0
  refine enterX (N := 64) Try.func55 rfl rfl (of_decide_eq_true rfl) (.cons u0 (.cons u1 .nil)) List.nodup_nil (fun _ h => by cases h) (fun _ h => by cases h) fun a1 s1 => ?_
  refine wp_seq_k fun K1 hK1 => ?_
  refine wp_region_lit ?_
  refine seq_op s1 rfl rfl (of_decide_eq_true rfl) (ob_assign rfl opd_is) fun a2 w2 s2 => ?_; clear s1
  have s3 := St.adopt s2 (G := RowF (nilRow 20) 3 (kint .i64) []) rfl (rowNilN _ _ _ _ _); clear s2
  refine seq_op s3 rfl rfl (of_decide_eq_true rfl) (ob_assign rfl opd_bool) fun a4 w4 s4 => ?_; clear s3
  refine wpList_nil ?_
  refine then_normal ?_
  refine hK1 _ _ ?_
  have s5 := s4.sub (.cons (t := 0) rfl (.cons (t := 1) rfl .nil)); clear s4
  have s6 := St.drop (A := []) s5; clear s5
  refine wp_seq_k fun K2 hK2 => ?_
  refine wp_seq_k fun K3 hK3 => ?_
  refine wp_region_lit ?_
  refine seq_op s6 rfl rfl (of_decide_eq_true rfl) (ob_assign rfl (opd_int rfl)) fun a7 w7 s7 => ?_; clear s6
  refine wpList_nil ?_
  refine then_normal ?_
  refine hK3 _ _ ?_
  have s8 := s7.sub (.cons (t := 0) rfl (.cons (t := 1) rfl (.cons (t := 6) rfl .nil))); clear s7
  have hj1 : ∀ (a : Act) (w : World), (cabalref15_Past.j1 k p1 p2) = some r → St ⟨64, w0, ok, (idsOf [])⟩ [] [(0, ((ksl k_api_Node).V p1)), (1, ((ksl (karr 32 (kint .u8))).V p2))] a w → K2 a w := by
    intro a9 w9 h1 s9
    unfold cabalref15_Past.j1 at h1
    refine hK2 _ _ ?_
    refine wp_seq_k fun K4 hK4 => ?_
    refine wp_region_lit ?_
    refine seq_op s9 rfl rfl (of_decide_eq_true rfl) (ob_assign rfl opd_is) fun a10 w10 s10 => ?_; clear s9
    have s11 := St.adopt s10 (G := RowF (nilRow 22) 3 (kint .i64) []) rfl (rowNilN _ _ _ _ _); clear s10
    refine wpList_nil ?_
    refine then_normal ?_
    refine hK4 _ _ ?_
    have s12 := s11.sub (.cons (t := 0) rfl (.cons (t := 1) rfl (.cons (t := 7) rfl .nil))); clear s11
    refine wp_seq_k fun K5 hK5 => ?_
    refine wp_seq_k fun K6 hK6 => ?_
    refine wp_region_lit ?_
    refine seq_op s12 rfl rfl (of_decide_eq_true rfl) (ob_assign rfl (opd_int rfl)) fun a13 w13 s13 => ?_; clear s12
    refine wpList_nil ?_
    refine then_normal ?_
    refine hK6 _ _ ?_
    have s14 := s13.sub (.cons (t := 0) rfl (.cons (t := 1) rfl (.cons (t := 7) rfl (.cons (t := 8) rfl .nil)))); clear s13
    have hj2 : ∀ (y1 : (List Int)) (v1 : Value) (a : Act) (w : World), (cabalref15_Past.j2 k) y1 = some r → St ⟨64, w0, ok, (idsOf [])⟩ [RowF v1 3 (kint .i64) y1] [(7, (is v1))] a w → K5 a w := by
      intro y1 v1 a15 w15 h2 s15
      unfold cabalref15_Past.j2 at h2
      refine hK5 _ _ ?_
      refine wp_seq_k fun K7 hK7 => ?_
      refine wp_region_lit ?_
      refine seq_op s15 rfl rfl (of_decide_eq_true rfl) (ob_move rfl (.tmp rfl)) fun a16 w16 s16 => ?_; clear s15
      refine seq_op s16 rfl rfl (of_decide_eq_true rfl) (ob_assign rfl (.tmp rfl)) fun a17 w17 s17 => ?_; clear s16
      refine seq_op s17 rfl rfl (of_decide_eq_true rfl) (ob_assign rfl opd_bool) fun a18 w18 s18 => ?_; clear s17
      refine wpList_nil ?_
      refine then_normal ?_
      refine hK7 _ _ ?_
      have s19 := s18.sub (.cons (t := 4) rfl (.cons (t := 5) rfl .nil)); clear s18
      refine wp_ret ?_
      obtain rfl := Option.some.inj h2
      exact leaveXD (D := []) v1 s19 rfl (.inl rfl) rfl (.cons (.tmp rfl) (.cons (.tmp rfl) .nil)) rfl
    refine wp_block ?_
    refine wp_loop_fuel (fun m (q : Int × (List Int)) => cabalref15_Past.l1 k p1 p2 m q.1 q.2) r (fun _ => rfl) (fun q a w => ∃ (v2 : Value), St ⟨64, w0, ok, (idsOf [])⟩ [RowF v2 3 (kint .i64) q.2] [(0, ((ksl k_api_Node).V p1)), (1, ((ksl (karr 32 (kint .u8))).V p2)), (7, (is v2)), (8, ((kint .i64).V q.1))] a w) ?_ k ((0 : Int), ([] : (List Int))) _ _ h1 ⟨(nilRow 22), (s14.sub (.cons rfl (.cons rfl (.cons rfl (.cons rfl .nil)))))⟩
    rintro n1 ⟨y2, y3⟩ a20 w20 h3 ⟨v2, s20⟩ K8 hK8
    replace h3 : cabalref15_Past.l1 k p1 p2 (n1 + 1) y2 y3 = some r := h3; rw [cabalref15_Past.l1] at h3
    have h4 := h3; clear h3
    refine wp_seq_k fun K9 hK9 => ?_
    refine wp_seq_k fun K10 hK10 => ?_
    refine wp_region_lit ?_
    refine seq_op s20 rfl rfl (of_decide_eq_true rfl) (ob_move rfl (.tmp rfl)) fun a21 w21 s21 => ?_; clear s20
    refine seq_op s21 rfl rfl (of_decide_eq_true rfl) (ob_move rfl (.tmp rfl)) fun a22 w22 s22 => ?_; clear s21
    refine seq_op s22 rfl rfl (of_decide_eq_true rfl) (ob_lens rfl Try.underlying22 (.tmp rfl)) fun a23 w23 s23 => ?_; clear s22
    refine seq_op s23 rfl rfl (of_decide_eq_true rfl) (ob_lss rfl (.tmp rfl) (.tmp rfl)) fun a24 w24 s24 => ?_; clear s23
    refine wpList_nil ?_
    refine then_normal ?_
    refine hK10 _ _ ?_
    have s25 := s24.sub (.cons (t := 0) rfl (.cons (t := 1) rfl (.cons (t := 7) rfl (.cons (t := 8) rfl (.cons (t := 28) rfl .nil))))); clear s24
    refine cond_split s25 (.tmp rfl) (fun hc1 => ?_) (fun hc1 => ?_)
    · replace h4 := ite_t hc1 h4
      have h5 := h4; clear h4
      refine wp_skip ?_
      refine then_normal ?_
      refine hK9 _ _ ?_
      have s26 := s25.sub (.cons (t := 0) rfl (.cons (t := 1) rfl (.cons (t := 7) rfl (.cons (t := 8) rfl .nil)))); clear s25
      refine wp_seq_k fun K11 hK11 => ?_
      have hj3 : ∀ (y4 : (List Int)) (v3 : Value) (a : Act) (w : World), (cabalref15_Past.j3 k y2 (cabalref15_Past.l1 k p1 p2 n1)) y4 = some r → St ⟨64, w0, ok, (idsOf [])⟩ [RowF v3 3 (kint .i64) y4] [(0, ((ksl k_api_Node).V p1)), (1, ((ksl (karr 32 (kint .u8))).V p2)), (7, (is v3)), (8, ((kint .i64).V y2))] a w → K11 a w := by
        intro y4 v3 a27 w27 h6 s27
        unfold cabalref15_Past.j3 at h6
        refine hK11 _ _ ?_
        refine wp_region_lit ?_
        refine seq_op s27 rfl rfl (of_decide_eq_true rfl) (ob_move rfl (.tmp rfl)) fun a28 w28 s28 => ?_; clear s27
        refine seq_op s28 rfl rfl (of_decide_eq_true rfl) (ob_add rfl (.tmp rfl) (opd_int rfl)) fun a29 w29 s29 => ?_; clear s28
        refine seq_op s29 rfl rfl (of_decide_eq_true rfl) (ob_assign rfl (.tmp rfl)) fun a30 w30 s30 => ?_; clear s29
        refine wpList_nil ?_
        refine then_normal ?_
        exact hK8 ((iadd .i64 y2 (1 : Int)), y4) _ _ h6 ⟨v3, (s30.sub (.cons rfl (.cons rfl (.cons rfl (.cons rfl .nil)))))⟩
      refine wp_block ?_
      refine wp_seq_k fun K12 hK12 => ?_
      refine wp_region_lit ?_
      refine seq_op s26 rfl rfl (of_decide_eq_true rfl) (ob_assign rfl opd_bool) fun a31 w31 s31 => ?_; clear s26
      refine wpList_nil ?_
      refine then_normal ?_
      refine hK12 _ _ ?_
      have s32 := s31.sub (.cons (t := 0) rfl (.cons (t := 1) rfl (.cons (t := 7) rfl (.cons (t := 8) rfl (.cons (t := 9) rfl .nil))))); clear s31
      refine wp_seq_k fun K13 hK13 => ?_
      refine wp_seq_k fun K14 hK14 => ?_
      refine wp_region_lit ?_
      refine seq_op s32 rfl rfl (of_decide_eq_true rfl) (ob_assign rfl (opd_int rfl)) fun a33 w33 s33 => ?_; clear s32
      refine wpList_nil ?_
      refine then_normal ?_
      refine hK14 _ _ ?_
      have s34 := s33.sub (.cons (t := 0) rfl (.cons (t := 1) rfl (.cons (t := 7) rfl (.cons (t := 8) rfl (.cons (t := 9) rfl (.cons (t := 10) rfl .nil)))))); clear s33
      have hj4 : ∀ (y5 : Bool) (a : Act) (w : World), (cabalref15_Past.j4 k y3 y2 (cabalref15_Past.l1 k p1 p2 n1)) y5 = some r → St ⟨64, w0, ok, (idsOf [])⟩ [RowF v2 3 (kint .i64) y3] [(0, ((ksl k_api_Node).V p1)), (1, ((ksl (karr 32 (kint .u8))).V p2)), (7, (is v2)), (8, ((kint .i64).V y2)), (9, (kbool.V y5))] a w → K13 a w := by
        intro y5 a35 w35 h7 s35
        unfold cabalref15_Past.j4 at h7
        refine hK13 _ _ ?_
        refine wp_seq_k fun K15 hK15 => ?_
        refine wp_region_lit ?_
        refine seq_op s35 rfl rfl (of_decide_eq_true rfl) (ob_move rfl (.tmp rfl)) fun a36 w36 s36 => ?_; clear s35
        refine wpList_nil ?_
        refine then_normal ?_
        refine hK15 _ _ ?_
        have s37 := s36.sub (.cons (t := 0) rfl (.cons (t := 1) rfl (.cons (t := 7) rfl (.cons (t := 8) rfl (.cons (t := 58) rfl .nil))))); clear s36
        refine cond_split s37 (.tmp rfl) (fun hc2 => ?_) (fun hc2 => ?_)
        · replace h7 := ite_t hc2 h7
          have h8 := h7; clear h7
          refine wp_region_lit ?_
          refine seq_op s37 rfl rfl (of_decide_eq_true rfl) (ob_move rfl (.tmp rfl)) fun a38 w38 s38 => ?_; clear s37
          refine seq_op s38 rfl rfl (of_decide_eq_true rfl) (ob_move rfl (.tmp rfl)) fun a39 w39 s39 => ?_; clear s38
          refine seq_op s39 rfl rfl (of_decide_eq_true rfl) (ob_mkSlice (k := (kint .i64)) (xs := ([y2] : (List Int))) rfl Try.underlying41 zz3 sz3 (Zr.int .i64) (by decide) (by decide) (.cons (.tmp rfl) rfl (LS.arr' (i := 0) (ys := ([y2] : (List Int))) (by simp) (by rfl)) (.nil _))) fun a40 w40 s40 => ?_; clear s39
          obtain ⟨g1, h9⟩ := guard_some h8; clear h8
          refine seq_opx (B' := (fun v4 : Value => [RowF v4 3 (kint .i64) (y3 ++ ([y2] : (List Int)))])) s40 rfl rfl (of_decide_eq_true rfl) (ob_appendL2 (A := []) rfl Try.underlying41 ap3 (Zr.int .i64) (by decide) (.tmp rfl) (.tmp rfl) rfl g1) fun v4 a41 w41 s41 => ?_; clear s40
          refine seq_op s41 rfl rfl (of_decide_eq_true rfl) (ob_assign rfl (.tmp rfl)) fun a42 w42 s42 => ?_; clear s41
          refine wpList_nil ?_
          refine in_normal ?_
          refine then_normal ?_
          exact hj3 (y3 ++ ([y2] : (List Int))) v4 _ _ h9 (s42.sub (.cons rfl (.cons rfl (.cons rfl (.cons rfl .nil)))))
        · replace h7 := ite_f hc2 h7
          have h10 := h7; clear h7
          refine wp_skip ?_
          refine in_normal ?_
          refine then_normal ?_
          exact hj3 y3 v2 _ _ h10 (s37.sub (.cons rfl (.cons rfl (.cons rfl (.cons rfl .nil)))))
      refine wp_block ?_
      refine wp_loop_fuel (fun m (q : Bool × Int) => cabalref15_Past.l2 k p2 p1 y2 y3 (cabalref15_Past.l1 k p1 p2 n1) m q.1 q.2) r (fun _ => rfl) (fun q a w => St ⟨64, w0, ok, (idsOf [])⟩ [RowF v2 3 (kint .i64) y3] [(0, ((ksl k_api_Node).V p1)), (1, ((ksl (karr 32 (kint .u8))).V p2)), (7, (is v2)), (8, ((kint .i64).V y2)), (9, (kbool.V q.1)), (10, ((kint .i64).V q.2))] a w) ?_ k (false, (0 : Int)) _ _ h5 (s34.sub (.cons rfl (.cons rfl (.cons rfl (.cons rfl (.cons rfl (.cons rfl .nil)))))))
      rintro n2 ⟨y6, y7⟩ a43 w43 h11 s43 K16 hK16
      replace h11 : cabalref15_Past.l2 k p2 p1 y2 y3 (cabalref15_Past.l1 k p1 p2 n1) (n2 + 1) y6 y7 = some r := h11; rw [cabalref15_Past.l2] at h11
      have h12 := h11; clear h11
      refine wp_seq_k fun K17 hK17 => ?_
      refine wp_seq_k fun K18 hK18 => ?_
      refine wp_region_lit ?_
      refine seq_op s43 rfl rfl (of_decide_eq_true rfl) (ob_move rfl (.tmp rfl)) fun a44 w44 s44 => ?_; clear s43
      refine seq_op s44 rfl rfl (of_decide_eq_true rfl) (ob_move rfl (.tmp rfl)) fun a45 w45 s45 => ?_; clear s44
      refine seq_op s45 rfl rfl (of_decide_eq_true rfl) (ob_lens rfl Try.underlying40 (.tmp rfl)) fun a46 w46 s46 => ?_; clear s45
      refine seq_op s46 rfl rfl (of_decide_eq_true rfl) (ob_lss rfl (.tmp rfl) (.tmp rfl)) fun a47 w47 s47 => ?_; clear s46
      refine wpList_nil ?_
      refine then_normal ?_
      refine hK18 _ _ ?_
      have s48 := s47.sub (.cons (t := 0) rfl (.cons (t := 1) rfl (.cons (t := 7) rfl (.cons (t := 8) rfl (.cons (t := 9) rfl (.cons (t := 10) rfl (.cons (t := 34) rfl .nil))))))); clear s47
      refine cond_split s48 (.tmp rfl) (fun hc3 => ?_) (fun hc3 => ?_)
      · replace h12 := ite_t hc3 h12
        have h13 := h12; clear h12
        refine wp_skip ?_
        refine then_normal ?_
        refine hK17 _ _ ?_
        have s49 := s48.sub (.cons (t := 0) rfl (.cons (t := 1) rfl (.cons (t := 7) rfl (.cons (t := 8) rfl (.cons (t := 9) rfl (.cons (t := 10) rfl .nil)))))); clear s48
        refine wp_seq_k fun K19 hK19 => ?_
        refine wp_block ?_
        refine wp_seq_k fun K20 hK20 => ?_
        refine wp_region_lit ?_
        refine seq_op s49 rfl rfl (of_decide_eq_true rfl) (ob_move rfl (.tmp rfl)) fun a50 w50 s50 => ?_; clear s49
        refine seq_op s50 rfl rfl (of_decide_eq_true rfl) (ob_move rfl (.tmp rfl)) fun a51 w51 s51 => ?_; clear s50
        refine seq_op s51 rfl rfl (of_decide_eq_true rfl) (ob_move rfl (.tmp rfl)) fun a52 w52 s52 => ?_; clear s51
        obtain ⟨x1, e_x1, h14⟩ := bind_some h13; clear h13
        refine seq_op s52 rfl rfl (of_decide_eq_true rfl) (ob_indexAddrs rfl Try.underlying40 sz39 (.tmp rfl) (.tmp rfl) e_x1) fun a53 w53 s53 => ?_; clear s52
        refine seq_op s53 rfl rfl (of_decide_eq_true rfl) (ob_loadr rfl tk39 (.tmp rfl)) fun a54 w54 s54 => ?_; clear s53
        obtain ⟨x2, e_x2, h15⟩ := bind_some h14; clear h14
        refine seq_op s54 rfl rfl (of_decide_eq_true rfl) (ob_callD (args := [_, _]) rfl .direct hb56 (fun a w s fs gs hf hg => by obtain rfl := hf.unnil; obtain rfl := hg.unnil; exact c_cabalref15_Find k _ _ _ e_x2 _ _ _ _ (s.arg (.tmp rfl)) (s.arg (.tmp rfl)))) fun a55 w55 s55 => ?_; clear s54
        refine seq_op s55 rfl rfl (of_decide_eq_true rfl) (ob_assign rfl (.tmp rfl)) fun a56 w56 s56 => ?_; clear s55
        refine wpList_nil ?_
        refine then_normal ?_
        refine hK20 _ _ ?_
        have s57 := s56.sub (.cons (t := 0) rfl (.cons (t := 1) rfl (.cons (t := 7) rfl (.cons (t := 8) rfl (.cons (t := 9) rfl (.cons (t := 10) rfl (.cons (t := 11) rfl .nil))))))); clear s56
        refine wp_region_lit ?_
        refine seq_op s57 rfl rfl (of_decide_eq_true rfl) (ob_move rfl (.tmp rfl)) fun a58 w58 s58 => ?_; clear s57
        refine seq_op s58 rfl rfl (of_decide_eq_true rfl) (ob_move rfl (.tmp rfl)) fun a59 w59 s59 => ?_; clear s58
        refine seq_opg s59 rfl rfl rfl rfl (of_decide_eq_true rfl) (fun hb => ob_move rfl (.tmp rfl)) fun a60 w60 s60 => ?_; clear s59
        refine seq_opg s60 rfl rfl rfl rfl (of_decide_eq_true rfl) (fun hb => ob_move rfl (.tmp rfl)) fun a61 w61 s61 => ?_; clear s60
        refine seq_opg s61 rfl rfl rfl rfl (of_decide_eq_true rfl) (fun hb => (Ob.uncond (t := 46) hb rfl ((Ob.uncond (t := 45) hb rfl (ob_eql rfl (.tmp rfl) (.tmp rfl)))))) fun a62 w62 s62 => ?_; clear s61
        refine seq_op s62 rfl rfl (of_decide_eq_true rfl) (ob_or2 rfl (.tmp rfl) opd_bool (.tmp rfl)) fun a63 w63 s63 => ?_; clear s62
        refine seq_op s63 rfl rfl (of_decide_eq_true rfl) (ob_move rfl (.tmp rfl)) fun a64 w64 s64 => ?_; clear s63
        refine seq_opg s64 rfl rfl rfl rfl (of_decide_eq_true rfl) (fun hb => ob_move rfl (.tmp rfl)) fun a65 w65 s65 => ?_; clear s64
        refine seq_opg s65 rfl rfl rfl rfl (of_decide_eq_true rfl) (fun hb => ob_move rfl (.tmp rfl)) fun a66 w66 s66 => ?_; clear s65
        obtain ⟨x3, e_x3, h16⟩ := bind_some h15; clear h15
        refine seq_opg s66 rfl rfl rfl rfl (of_decide_eq_true rfl) (fun hb => (Ob.uncond (t := 51) hb rfl ((Ob.uncond (t := 50) hb rfl (ob_indexAddrs rfl Try.underlying22 sz46 (.tmp rfl) (.tmp rfl) (ite_t hb e_x3)))))) fun a67 w67 s67 => ?_; clear s66
        refine seq_opg s67 rfl rfl rfl rfl (of_decide_eq_true rfl) (fun hb => (Ob.uncond (t := 52) hb rfl (ob_fieldAddrr rfl Try.underlying46 rfl sz41 (by decide) (.tmp rfl) (lg_api_Node_Past x3)))) fun a68 w68 s68 => ?_; clear s67
        refine seq_opg s68 rfl rfl rfl rfl (of_decide_eq_true rfl) (fun hb => (Ob.uncond (t := 53) hb rfl (ob_loadr rfl tk41 (.tmp rfl)))) fun a69 w69 s69 => ?_; clear s68
        refine seq_opg s69 rfl rfl rfl rfl (of_decide_eq_true rfl) (fun hb => ob_move rfl (.tmp rfl)) fun a70 w70 s70 => ?_; clear s69
        obtain ⟨x4, e_x4, h17⟩ := bind_some h16; clear h16
        refine seq_opg s70 rfl rfl rfl rfl (of_decide_eq_true rfl) (fun hb => (Ob.uncond (t := 55) hb rfl ((Ob.uncond (t := 54) hb rfl (ob_callD (args := [_, _]) rfl .direct hb44 (fun a w s fs gs hf hg => by obtain rfl := hf.unnil; obtain rfl := hg.unnil; exact c_cabalref15_In k _ _ _ (ite_t hb e_x4) _ _ _ _ (s.arg (.tmp rfl)) (s.arg (.tmp rfl)))))))) fun a71 w71 s71 => ?_; clear s70
        refine seq_op s71 rfl rfl (of_decide_eq_true rfl) (ob_or2 rfl (.tmp rfl) opd_bool (.tmp rfl)) fun a72 w72 s72 => ?_; clear s71
        refine seq_op s72 rfl rfl (of_decide_eq_true rfl) (ob_assign rfl (.tmp rfl)) fun a73 w73 s73 => ?_; clear s72
        refine wpList_nil ?_
        refine in_normal ?_
        refine then_normal ?_
        refine hK19 _ _ ?_
        have s74 := s73.sub (.cons (t := 0) rfl (.cons (t := 1) rfl (.cons (t := 7) rfl (.cons (t := 8) rfl (.cons (t := 9) rfl (.cons (t := 10) rfl .nil)))))); clear s73
        refine wp_region_lit ?_
        refine seq_op s74 rfl rfl (of_decide_eq_true rfl) (ob_move rfl (.tmp rfl)) fun a75 w75 s75 => ?_; clear s74
        refine seq_op s75 rfl rfl (of_decide_eq_true rfl) (ob_add rfl (.tmp rfl) (opd_int rfl)) fun a76 w76 s76 => ?_; clear s75
        refine seq_op s76 rfl rfl (of_decide_eq_true rfl) (ob_assign rfl (.tmp rfl)) fun a77 w77 s77 => ?_; clear s76
        refine wpList_nil ?_
        refine then_normal ?_
        exact hK16 ((if (if y6 then true else (x2 == y2)) then true else x4), (iadd .i64 y7 (1 : Int))) _ _ h17 (s77.sub (.cons rfl (.cons rfl (.cons rfl (.cons rfl (.cons rfl (.cons rfl .nil)))))))
      · replace h12 := ite_f hc3 h12
        have h18 := h12; clear h12
        refine wp_exit ?_
        refine (then_exit (then_exit (in_here ?_)))
        refine then_normal ?_
        exact hj4 y6 _ _ h18 (s48.sub (.cons rfl (.cons rfl (.cons rfl (.cons rfl (.cons rfl .nil))))))
    · replace h4 := ite_f hc1 h4
      have h19 := h4; clear h4
      refine wp_exit ?_
      refine (then_exit (then_exit (in_here ?_)))
      refine then_normal ?_
      exact hj2 y3 v2 _ _ h19 (s25.sub (.cons rfl .nil))
  refine wp_block ?_
  refine wp_loop_fuel (fun m (q : Int) => cabalref15_Past.l3 k p2 p1 m q) r (fun _ => rfl) (fun q a w => St ⟨64, w0, ok, (idsOf [])⟩ [] [(0, ((ksl k_api_Node).V p1)), (1, ((ksl (karr 32 (kint .u8))).V p2)), (6, ((kint .i64).V q))] a w) ?_ k (0 : Int) _ _ h0 (s8.sub (.cons rfl (.cons rfl (.cons rfl .nil))))
  rintro n3 y8 a78 w78 h20 s78 K21 hK21
  replace h20 : cabalref15_Past.l3 k p2 p1 (n3 + 1) y8 = some r := h20; rw [cabalref15_Past.l3] at h20
  have h21 := h20; clear h20
  refine wp_seq_k fun K22 hK22 => ?_
  refine wp_seq_k fun K23 hK23 => ?_
  refine wp_region_lit ?_
  refine seq_op s78 rfl rfl (of_decide_eq_true rfl) (ob_move rfl (.tmp rfl)) fun a79 w79 s79 => ?_; clear s78
  refine seq_op s79 rfl rfl (of_decide_eq_true rfl) (ob_move rfl (.tmp rfl)) fun a80 w80 s80 => ?_; clear s79
  refine seq_op s80 rfl rfl (of_decide_eq_true rfl) (ob_lens rfl Try.underlying40 (.tmp rfl)) fun a81 w81 s81 => ?_; clear s80
  refine seq_op s81 rfl rfl (of_decide_eq_true rfl) (ob_lss rfl (.tmp rfl) (.tmp rfl)) fun a82 w82 s82 => ?_; clear s81
  refine wpList_nil ?_
  refine then_normal ?_
  refine hK23 _ _ ?_
  have s83 := s82.sub (.cons (t := 0) rfl (.cons (t := 1) rfl (.cons (t := 6) rfl (.cons (t := 15) rfl .nil)))); clear s82
  refine cond_split s83 (.tmp rfl) (fun hc4 => ?_) (fun hc4 => ?_)
  · replace h21 := ite_t hc4 h21
    have h22 := h21; clear h21
    refine wp_skip ?_
    refine then_normal ?_
    refine hK22 _ _ ?_
    have s84 := s83.sub (.cons (t := 0) rfl (.cons (t := 1) rfl (.cons (t := 6) rfl .nil))); clear s83
    refine wp_seq_k fun K24 hK24 => ?_
    refine wp_block ?_
    refine wp_seq_k fun K25 hK25 => ?_
    refine wp_region_lit ?_
    refine seq_op s84 rfl rfl (of_decide_eq_true rfl) (ob_move rfl (.tmp rfl)) fun a85 w85 s85 => ?_; clear s84
    refine seq_op s85 rfl rfl (of_decide_eq_true rfl) (ob_move rfl (.tmp rfl)) fun a86 w86 s86 => ?_; clear s85
    refine seq_op s86 rfl rfl (of_decide_eq_true rfl) (ob_move rfl (.tmp rfl)) fun a87 w87 s87 => ?_; clear s86
    obtain ⟨x5, e_x5, h23⟩ := bind_some h22; clear h22
    refine seq_op s87 rfl rfl (of_decide_eq_true rfl) (ob_indexAddrs rfl Try.underlying40 sz39 (.tmp rfl) (.tmp rfl) e_x5) fun a88 w88 s88 => ?_; clear s87
    refine seq_op s88 rfl rfl (of_decide_eq_true rfl) (ob_loadr rfl tk39 (.tmp rfl)) fun a89 w89 s89 => ?_; clear s88
    obtain ⟨x6, e_x6, h24⟩ := bind_some h23; clear h23
    refine seq_op s89 rfl rfl (of_decide_eq_true rfl) (ob_callD (args := [_, _]) rfl .direct hb56 (fun a w s fs gs hf hg => by obtain rfl := hf.unnil; obtain rfl := hg.unnil; exact c_cabalref15_Find k _ _ _ e_x6 _ _ _ _ (s.arg (.tmp rfl)) (s.arg (.tmp rfl)))) fun a90 w90 s90 => ?_; clear s89
    refine seq_op s90 rfl rfl (of_decide_eq_true rfl) (ob_lss rfl (.tmp rfl) (opd_int rfl)) fun a91 w91 s91 => ?_; clear s90
    refine wpList_nil ?_
    refine then_normal ?_
    refine hK25 _ _ ?_
    have s92 := s91.sub (.cons (t := 0) rfl (.cons (t := 1) rfl (.cons (t := 6) rfl (.cons (t := 24) rfl .nil)))); clear s91
    refine cond_split s92 (.tmp rfl) (fun hc5 => ?_) (fun hc5 => ?_)
    · replace h24 := ite_t hc5 h24
      have h25 := h24; clear h24
      refine wp_seq_k fun K26 hK26 => ?_
      refine wp_region_lit ?_
      refine seq_op s92 rfl rfl (of_decide_eq_true rfl) (ob_assign rfl opd_is) fun a93 w93 s93 => ?_; clear s92
      have s94 := St.adopt s93 (G := RowF (nilRow 21) 3 (kint .i64) []) rfl (rowNilN _ _ _ _ _); clear s93
      refine seq_op s94 rfl rfl (of_decide_eq_true rfl) (ob_assign rfl opd_bool) fun a95 w95 s95 => ?_; clear s94
      refine wpList_nil ?_
      refine then_normal ?_
      refine hK26 _ _ ?_
      have s96 := s95.sub (.cons (t := 4) rfl (.cons (t := 5) rfl .nil)); clear s95
      refine wp_ret ?_
      obtain rfl := Option.some.inj h25
      exact leaveXD (D := []) (nilRow 21) s96 rfl (.inl rfl) rfl (.cons (.tmp rfl) (.cons (.tmp rfl) .nil)) rfl
    · replace h24 := ite_f hc5 h24
      have h26 := h24; clear h24
      refine wp_skip ?_
      refine in_normal ?_
      refine then_normal ?_
      refine hK24 _ _ ?_
      have s97 := s92.sub (.cons (t := 0) rfl (.cons (t := 1) rfl (.cons (t := 6) rfl .nil))); clear s92
      refine wp_region_lit ?_
      refine seq_op s97 rfl rfl (of_decide_eq_true rfl) (ob_move rfl (.tmp rfl)) fun a98 w98 s98 => ?_; clear s97
      refine seq_op s98 rfl rfl (of_decide_eq_true rfl) (ob_add rfl (.tmp rfl) (opd_int rfl)) fun a99 w99 s99 => ?_; clear s98
      refine seq_op s99 rfl rfl (of_decide_eq_true rfl) (ob_assign rfl (.tmp rfl)) fun a100 w100 s100 => ?_; clear s99
      refine wpList_nil ?_
      refine then_normal ?_
      exact hK21 (iadd .i64 y8 (1 : Int)) _ _ h26 (s100.sub (.cons rfl (.cons rfl (.cons rfl .nil))))
  · replace h21 := ite_f hc4 h21
    have h27 := h21; clear h21
    refine wp_exit ?_
    refine (then_exit (then_exit (in_here ?_)))
    refine then_normal ?_
    exact hj1 _ _ h27 (s83.sub (.cons rfl (.cons rfl .nil)))

/- 129 cabal/cabalref11.Member -/
theorem c_cabalref11_Member (k : Nat) (p1 : Int) (r : Bool) (h0 : cabalref11_Member k p1 = some r) (ok : Ok) (w0 : World) (z0 : Value) (u0 : ((kint .i64).V p1).holds ok w0 z0) :
    Gives Try.prog 129 [z0] ok w0 (resFact [kbool.V r]) := by
  unfold cabalref11_Member at h0
  refine enter (N := 9) Try.func129 rfl rfl (of_decide_eq_true rfl) (.cons u0 .nil) fun a1 s1 => ?_
  refine wp_seq_k fun K1 hK1 => ?_
  refine wp_region_lit ?_
  refine seq_op s1 rfl rfl (of_decide_eq_true rfl) (ob_assign rfl opd_bool) fun a2 w2 s2 => ?_; clear s1
  refine wpList_nil ?_
  refine then_normal ?_
  refine hK1 _ _ ?_
  have s3 := s2.sub (.cons (t := 0) rfl .nil); clear s2
  refine wp_seq_k fun K2 hK2 => ?_
  refine wp_region_lit ?_
  refine seq_op s3 rfl rfl (of_decide_eq_true rfl) (ob_move rfl (.tmp rfl)) fun a4 w4 s4 => ?_; clear s3
  refine seq_op s4 rfl rfl (of_decide_eq_true rfl) (ob_geq rfl (.tmp rfl) (opd_int rfl)) fun a5 w5 s5 => ?_; clear s4
  refine seq_op s5 rfl rfl (of_decide_eq_true rfl) (ob_move rfl (.tmp rfl)) fun a6 w6 s6 => ?_; clear s5
  refine seq_opg s6 rfl rfl rfl rfl (of_decide_eq_true rfl) (fun hb => ob_move rfl (.tmp rfl)) fun a7 w7 s7 => ?_; clear s6
  refine seq_opg s7 rfl rfl rfl rfl (of_decide_eq_true rfl) (fun hb => (Ob.uncond (t := 6) hb rfl (ob_leq rfl (.tmp rfl) (opd_int rfl)))) fun a8 w8 s8 => ?_; clear s7
  obtain ⟨x1, e_x1, h1⟩ := bind_some h0; clear h0; replace e_x1 := Option.some.inj e_x1
  refine seq_op s8 rfl rfl (of_decide_eq_true rfl) ((ob_and2 rfl (.tmp rfl) (.tmp rfl) opd_bool).nm e_x1) fun a9 w9 s9 => ?_; clear s8
  refine seq_op s9 rfl rfl (of_decide_eq_true rfl) (ob_assign rfl (.tmp rfl)) fun a10 w10 s10 => ?_; clear s9
  refine wpList_nil ?_
  refine then_normal ?_
  refine hK2 _ _ ?_
  have s11 := s10.sub (.cons (t := 2) rfl .nil); clear s10
  refine wp_ret ?_
  obtain rfl := Option.some.inj h1
  exact leave s11 (.inl rfl) rfl (.cons (.tmp rfl) .nil)

/- 108 cabal/cabalref11.Less -/
theorem c_cabalref11_Less (k : Nat) (p1 : (List Int)) (p2 : (List Int)) (r : Bool) (h0 : cabalref11_Less k p1 p2 = some r) (ok : Ok) (w0 : World) (z0 : Value) (z1 : Value) (u0 : ((karr 32 (kint .u8)).V p1).holds ok w0 z0) (u1 : ((karr 32 (kint .u8)).V p2).holds ok w0 z1) :
    Gives Try.prog 108 [z0, z1] ok w0 (resFact [kbool.V r]) := by
  unfold cabalref11_Less at h0
  refine enter (N := 24) Try.func108 rfl rfl (of_decide_eq_true rfl) (.cons u0 (.cons u1 .nil)) fun a1 s1 => ?_
  refine wp_seq_k fun K1 hK1 => ?_
  refine wp_region_lit ?_
  refine seq_opx (B' := (fun b1 : Nat => [BF b1 39 (karr 32 (kint .u8)) p1])) s1 rfl rfl (of_decide_eq_true rfl) (ob_box rfl (.tmp rfl)) fun b1 a2 w2 s2 => ?_; clear s1
  refine seq_opx (B' := (fun b2 : Nat => [BF b2 39 (karr 32 (kint .u8)) p2, BF b1 39 (karr 32 (kint .u8)) p1])) s2 rfl rfl (of_decide_eq_true rfl) (ob_box rfl (.tmp rfl)) fun b2 a3 w3 s3 => ?_; clear s2
  refine seq_op s3 rfl rfl (of_decide_eq_true rfl) (ob_assign rfl opd_bool) fun a4 w4 s4 => ?_; clear s3
  refine wpList_nil ?_
  refine then_normal ?_
  refine hK1 _ _ ?_
  have s5 := s4.sub (.cons (t := 2) rfl (.cons (t := 3) rfl .nil)); clear s4
  refine wp_seq_k fun K2 hK2 => ?_
  refine wp_seq_k fun K3 hK3 => ?_
  refine wp_region_lit ?_
  refine seq_op s5 rfl rfl (of_decide_eq_true rfl) (ob_assign rfl (opd_int rfl)) fun a6 w6 s6 => ?_; clear s5
  refine wpList_nil ?_
  refine then_normal ?_
  refine hK3 _ _ ?_
  have s7 := s6.sub (.cons (t := 2) rfl (.cons (t := 3) rfl (.cons (t := 5) rfl .nil))); clear s6
  have hj1 : ∀ (a : Act) (w : World), (cabalref11_Less.j1 k) = some r → St ⟨24, w0, ok, []⟩ [] [] a w → K2 a w := by
    intro a8 w8 h1 s8
    unfold cabalref11_Less.j1 at h1
    refine hK2 _ _ ?_
    refine wp_seq_k fun K4 hK4 => ?_
    refine wp_region_lit ?_
    refine seq_op s8 rfl rfl (of_decide_eq_true rfl) (ob_assign rfl opd_bool) fun a9 w9 s9 => ?_; clear s8
    refine wpList_nil ?_
    refine then_normal ?_
    refine hK4 _ _ ?_
    have s10 := s9.sub (.cons (t := 4) rfl .nil); clear s9
    refine wp_ret ?_
    obtain rfl := Option.some.inj h1
    exact leave s10 (.inl rfl) rfl (.cons (.tmp rfl) .nil)
  refine wp_block ?_
  have s11 := s7.perm (toFront [_] (toFront [] (List.Perm.refl _))); clear s7
  refine wp_loop_fuel (fun m (q : Int) => cabalref11_Less.l1 k p1 p2 m q) r (fun _ => rfl) (fun q a w => St ⟨24, w0, ok, []⟩ [BF b1 39 (karr 32 (kint .u8)) p1, BF b2 39 (karr 32 (kint .u8)) p2] [(2, (ptrB b1 0)), (3, (ptrB b2 0)), (5, ((kint .i64).V q))] a w) ?_ k (0 : Int) _ _ h0 (s11.sub (.cons rfl (.cons rfl (.cons rfl .nil))))
  rintro n1 y1 a12 w12 h2 s12 K5 hK5
  replace h2 : cabalref11_Less.l1 k p1 p2 (n1 + 1) y1 = some r := h2; rw [cabalref11_Less.l1] at h2
  have h3 := h2; clear h2
  refine wp_seq_k fun K6 hK6 => ?_
  refine wp_seq_k fun K7 hK7 => ?_
  refine wp_region_lit ?_
  refine seq_op s12 rfl rfl (of_decide_eq_true rfl) (ob_move rfl (.tmp rfl)) fun a13 w13 s13 => ?_; clear s12
  refine seq_op s13 rfl rfl (of_decide_eq_true rfl) (ob_lss rfl (.tmp rfl) (opd_int rfl)) fun a14 w14 s14 => ?_; clear s13
  refine wpList_nil ?_
  refine then_normal ?_
  refine hK7 _ _ ?_
  have s15 := s14.sub (.cons (t := 2) rfl (.cons (t := 3) rfl (.cons (t := 5) rfl (.cons (t := 7) rfl .nil)))); clear s14
  refine cond_split s15 (.tmp rfl) (fun hc1 => ?_) (fun hc1 => ?_)
  · replace h3 := ite_t hc1 h3
    have h4 := h3; clear h3
    refine wp_skip ?_
    refine then_normal ?_
    refine hK6 _ _ ?_
    have s16 := s15.sub (.cons (t := 2) rfl (.cons (t := 3) rfl (.cons (t := 5) rfl .nil))); clear s15
    refine wp_seq_k fun K8 hK8 => ?_
    refine wp_block ?_
    refine wp_seq_k fun K9 hK9 => ?_
    obtain ⟨g1, h5⟩ := guard_some h4; clear h4
    obtain ⟨x1, e_x1, h6⟩ := bind_some h5; clear h5
    obtain ⟨g2, h7⟩ := guard_some h6; clear h6
    obtain ⟨x2, e_x2, h8⟩ := bind_some h7; clear h7
    refine wp_goes (Fs := [((kint .i64).V y1), (ptrB b1 (y1.toNat * 1)), ((kint .u8).V x1), ((kint .i64).V y1), (ptrB b2 (y1.toNat * 1)), ((kint .u8).V x2)]) (bits := [0, 1, 3, 0, 8, 24, 63]) (m := 6) (todo := 0) mx s16 ?_; clear s16
    refine goes_last (by kernel_rfl) rfl (opsS_cons (.plain _ (Av.old (t := 5) rfl rfl Av.nil) rfl rfl (ob_move rfl (.tmp rfl))) (opsS_cons (.plain _ (Av.old (t := 2) rfl rfl (Av.new (j := 0) rfl rfl rfl Av.nil)) rfl rfl (ob_indexAddr rfl Try.underlying39 sz5 (.tmp rfl) (.tmp rfl) g1.1 g1.2 (Nat.zero_add _))) (opsS_cons (.plain _ (Av.new (j := 1) rfl rfl rfl Av.nil) rfl rfl (ob_load rfl tk5 (.tmp rfl) (.head _) (LG.arrA e_x1))) (opsS_cons (.plain _ (Av.old (t := 5) rfl rfl Av.nil) rfl rfl (ob_move rfl (.tmp rfl))) (opsS_cons (.plain _ (Av.old (t := 3) rfl rfl (Av.new (j := 3) rfl rfl rfl Av.nil)) rfl rfl (ob_indexAddr rfl Try.underlying39 sz5 (.tmp rfl) (.tmp rfl) g2.1 g2.2 (Nat.zero_add _))) (opsS_cons (.plain _ (Av.new (j := 4) rfl rfl rfl Av.nil) rfl rfl (ob_load rfl tk5 (.tmp rfl) (.tail _ (.head _)) (LG.arrA e_x2))) opsS_nil)))))) (out_old (t := 2) rfl rfl (out_old (t := 3) rfl rfl (out_old (t := 5) rfl rfl (out_new (i := 2) (by decide) rfl rfl (out_new (i := 5) (by decide) rfl rfl out_nil))))) fun a17 w17 s17 => ?_
    refine seq_op s17 rfl rfl (of_decide_eq_true rfl) (ob_neq rfl (.tmp rfl) (.tmp rfl)) fun a18 w18 s18 => ?_; clear s17
    refine wpList_nil ?_
    refine then_normal ?_
    refine hK9 _ _ ?_
    have s19 := s18.sub (.cons (t := 2) rfl (.cons (t := 3) rfl (.cons (t := 5) rfl (.cons (t := 16) rfl .nil)))); clear s18
    refine cond_split s19 (.tmp rfl) (fun hc2 => ?_) (fun hc2 => ?_)
    · replace h8 := ite_t hc2 h8
      have h9 := h8; clear h8
      refine wp_seq_k fun K10 hK10 => ?_
      obtain ⟨g3, h10⟩ := guard_some h9; clear h9
      obtain ⟨x3, e_x3, h11⟩ := bind_some h10; clear h10
      obtain ⟨g4, h12⟩ := guard_some h11; clear h11
      obtain ⟨x4, e_x4, h13⟩ := bind_some h12; clear h12
      refine wp_goes (Fs := [((kint .i64).V y1), (ptrB b1 (y1.toNat * 1)), ((kint .u8).V x3), ((kint .i64).V y1), (ptrB b2 (y1.toNat * 1)), ((kint .u8).V x4)]) (bits := [0, 1, 3, 0, 8, 24, 63, 127]) (m := 6) (todo := 0) mx s19 ?_; clear s19
      refine goes_last (by kernel_rfl) rfl (opsS_cons (.plain _ (Av.old (t := 5) rfl rfl Av.nil) rfl rfl (ob_move rfl (.tmp rfl))) (opsS_cons (.plain _ (Av.old (t := 2) rfl rfl (Av.new (j := 0) rfl rfl rfl Av.nil)) rfl rfl (ob_indexAddr rfl Try.underlying39 sz5 (.tmp rfl) (.tmp rfl) g3.1 g3.2 (Nat.zero_add _))) (opsS_cons (.plain _ (Av.new (j := 1) rfl rfl rfl Av.nil) rfl rfl (ob_load rfl tk5 (.tmp rfl) (.head _) (LG.arrA e_x3))) (opsS_cons (.plain _ (Av.old (t := 5) rfl rfl Av.nil) rfl rfl (ob_move rfl (.tmp rfl))) (opsS_cons (.plain _ (Av.old (t := 3) rfl rfl (Av.new (j := 3) rfl rfl rfl Av.nil)) rfl rfl (ob_indexAddr rfl Try.underlying39 sz5 (.tmp rfl) (.tmp rfl) g4.1 g4.2 (Nat.zero_add _))) (opsS_cons (.plain _ (Av.new (j := 4) rfl rfl rfl Av.nil) rfl rfl (ob_load rfl tk5 (.tmp rfl) (.tail _ (.head _)) (LG.arrA e_x4))) opsS_nil)))))) (out_new (i := 2) (by decide) rfl rfl (out_new (i := 5) (by decide) rfl rfl out_nil)) fun a20 w20 s20 => ?_
      refine seq_op s20 rfl rfl (of_decide_eq_true rfl) (ob_lss rfl (.tmp rfl) (.tmp rfl)) fun a21 w21 s21 => ?_; clear s20
      refine seq_op s21 rfl rfl (of_decide_eq_true rfl) (ob_assign rfl (.tmp rfl)) fun a22 w22 s22 => ?_; clear s21
      refine wpList_nil ?_
      refine then_normal ?_
      refine hK10 _ _ ?_
      have s23 := s22.sub (.cons (t := 4) rfl .nil); clear s22
      have s24 := St.drop (A := []) s23; clear s23
      have s25 := St.drop (A := []) s24; clear s24
      refine wp_ret ?_
      obtain rfl := Option.some.inj h13
      exact leave s25 (.inl rfl) rfl (.cons (.tmp rfl) .nil)
    · replace h8 := ite_f hc2 h8
      have h14 := h8; clear h8
      refine wp_skip ?_
      refine in_normal ?_
      refine then_normal ?_
      refine hK8 _ _ ?_
      have s26 := s19.sub (.cons (t := 2) rfl (.cons (t := 3) rfl (.cons (t := 5) rfl .nil))); clear s19
      refine wp_region_lit ?_
      refine seq_op s26 rfl rfl (of_decide_eq_true rfl) (ob_move rfl (.tmp rfl)) fun a27 w27 s27 => ?_; clear s26
      refine seq_op s27 rfl rfl (of_decide_eq_true rfl) (ob_add rfl (.tmp rfl) (opd_int rfl)) fun a28 w28 s28 => ?_; clear s27
      refine seq_op s28 rfl rfl (of_decide_eq_true rfl) (ob_assign rfl (.tmp rfl)) fun a29 w29 s29 => ?_; clear s28
      refine wpList_nil ?_
      refine then_normal ?_
      exact hK5 (iadd .i64 y1 (1 : Int)) _ _ h14 (s29.sub (.cons rfl (.cons rfl (.cons rfl .nil))))
  · replace h3 := ite_f hc1 h3
    have h15 := h3; clear h3
    refine wp_exit ?_
    refine (then_exit (then_exit (in_here ?_)))
    refine then_normal ?_
    have s30 := St.drop (A := []) s15; clear s15
    have s31 := St.drop (A := []) s30; clear s30
    exact hj1 _ _ h15 (s31.sub .nil)

end Go.Proofs.Ytdlnfgpcnfbjiaa
