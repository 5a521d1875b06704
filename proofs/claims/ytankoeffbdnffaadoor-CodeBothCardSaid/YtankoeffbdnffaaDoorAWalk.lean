/- Each function's code comes to what its plain function answers. No condition. -/
import Derived.Test.YtankoeffbdnffaaDoorAWalk2
namespace Go.Proofs.YtankoeffbdnffaaDoor
open Go Go.RowKit Go.Proofs.Kit Go.Proofs.Pure
set_option linter.unusedVariables false
set_option linter.unusedSimpArgs false
set_option maxRecDepth 100000
set_option maxHeartbeats 2000000

/- 21 cabal/cabalref01.Sum -/
theorem c_cabalref01_Sum (k : Nat) (p1 : (List Int)) (r : (List Int)) (h0 : cabalref01_Sum k p1 = some r) (ok : Ok) (w0 : World) (z0 : Value) (u0 : (kstr.V p1).holds ok w0 z0) :
    Gives Tryd.prog 21 [z0] ok w0 (resFact [(karr 32 (kint .u8)).V r]) := by
  unfold cabalref01_Sum at h0
  refine enter (N := 42) Tryd.func21 rfl rfl (of_decide_eq_true rfl) (.cons u0 .nil) fun a1 s1 => ?_
  refine wp_seq_k fun K1 hK1 => ?_
  refine wp_region_lit ?_
  refine seq_opx (B' := (fun b1 : Nat => [BF b1 23 (karr 32 (kint .u8)) (List.replicate 32 (0 : Int))])) s1 rfl rfl (of_decide_eq_true rfl) (ob_new (k := (karr 32 (kint .u8))) rfl zz23 (Zr.arr 32 (Zr.int .u8))) fun b1 a2 w2 s2 => ?_; clear s1
  refine wpList_nil ?_
  refine then_normal ?_
  refine hK1 _ _ ?_
  have s3 := s2.sub (.cons (t := 0) rfl (.cons (t := 2) rfl .nil)); clear s2
  refine wp_seq_k fun K2 hK2 => ?_
  refine wp_region_lit ?_
  refine seq_op s3 rfl rfl (of_decide_eq_true rfl) (ob_move rfl (.tmp rfl)) fun a4 w4 s4 => ?_; clear s3
  obtain ⟨x1, e_x1, h1⟩ := bind_some h0; clear h0
  refine seq_op s4 rfl rfl (of_decide_eq_true rfl) (ob_callD (args := [_]) rfl .direct hb28 (fun a w s fs gs hf hg => by obtain rfl := hf.unnil; obtain rfl := hg.unnil; exact c_cabalref01_Lengthened k _ _ e_x1 _ _ _ (s.arg (.tmp rfl)))) fun a5 w5 s5 => ?_; clear s4
  refine seq_op s5 rfl rfl (of_decide_eq_true rfl) (ob_assign rfl (.tmp rfl)) fun a6 w6 s6 => ?_; clear s5
  refine wpList_nil ?_
  refine then_normal ?_
  refine hK2 _ _ ?_
  have s7 := s6.sub (.cons (t := 2) rfl (.cons (t := 3) rfl .nil)); clear s6
  refine wp_seq_k fun K3 hK3 => ?_
  refine wp_region_lit ?_
  obtain ⟨x2, e_x2, h2⟩ := bind_some h1; clear h1; replace e_x2 := Option.some.inj e_x2
  refine seq_op s7 rfl rfl (of_decide_eq_true rfl) (((ob_mkArr (k := (kint .u32)) rfl Tryd.underlying60 zz60 sz59 (Zr.arr 8 (Zr.int .u32)) (.cons (opd_int rfl) rfl (LS.arr' (i := 0) (ys := ([(1779033703 : Int), (0 : Int), (0 : Int), (0 : Int), (0 : Int), (0 : Int), (0 : Int), (0 : Int)] : (List Int))) (by simp) (by rfl)) (.cons (opd_int rfl) rfl (LS.arr' (i := 1) (ys := ([(1779033703 : Int), (3144134277 : Int), (0 : Int), (0 : Int), (0 : Int), (0 : Int), (0 : Int), (0 : Int)] : (List Int))) (by simp) (by rfl)) (.cons (opd_int rfl) rfl (LS.arr' (i := 2) (ys := ([(1779033703 : Int), (3144134277 : Int), (1013904242 : Int), (0 : Int), (0 : Int), (0 : Int), (0 : Int), (0 : Int)] : (List Int))) (by simp) (by rfl)) (.cons (opd_int rfl) rfl (LS.arr' (i := 3) (ys := ([(1779033703 : Int), (3144134277 : Int), (1013904242 : Int), (2773480762 : Int), (0 : Int), (0 : Int), (0 : Int), (0 : Int)] : (List Int))) (by simp) (by rfl)) (.cons (opd_int rfl) rfl (LS.arr' (i := 4) (ys := ([(1779033703 : Int), (3144134277 : Int), (1013904242 : Int), (2773480762 : Int), (1359893119 : Int), (0 : Int), (0 : Int), (0 : Int)] : (List Int))) (by simp) (by rfl)) (.cons (opd_int rfl) rfl (LS.arr' (i := 5) (ys := ([(1779033703 : Int), (3144134277 : Int), (1013904242 : Int), (2773480762 : Int), (1359893119 : Int), (2600822924 : Int), (0 : Int), (0 : Int)] : (List Int))) (by simp) (by rfl)) (.cons (opd_int rfl) rfl (LS.arr' (i := 6) (ys := ([(1779033703 : Int), (3144134277 : Int), (1013904242 : Int), (2773480762 : Int), (1359893119 : Int), (2600822924 : Int), (528734635 : Int), (0 : Int)] : (List Int))) (by simp) (by rfl)) (.cons (opd_int rfl) rfl (LS.arr' (i := 7) (ys := ([(1779033703 : Int), (3144134277 : Int), (1013904242 : Int), (2773480762 : Int), (1359893119 : Int), (2600822924 : Int), (528734635 : Int), (1541459225 : Int)] : (List Int))) (by simp) (by rfl)) (.nil _))))))))) : Ob _ _ _ _ _ ((karr 8 (kint .u32)).V ([(1779033703 : Int), (3144134277 : Int), (1013904242 : Int), (2773480762 : Int), (1359893119 : Int), (2600822924 : Int), (528734635 : Int), (1541459225 : Int)] : (List Int))))).nm e_x2) fun a8 w8 s8 => ?_; clear s7
  refine seq_opx (B' := (fun b2 : Nat => [BF b2 60 (karr 8 (kint .u32)) (List.replicate 8 (0 : Int)), BF b1 23 (karr 32 (kint .u8)) (List.replicate 32 (0 : Int))])) s8 rfl rfl (of_decide_eq_true rfl) (ob_new (k := (karr 8 (kint .u32))) rfl zz60 (Zr.arr 8 (Zr.int .u32))) fun b2 a9 w9 s9 => ?_; clear s8
  refine seq_opx0 (B' := (fun _ : Unit => [BF b2 60 (karr 8 (kint .u32)) x2, BF b1 23 (karr 32 (kint .u8)) (List.replicate 32 (0 : Int))])) s9 rfl rfl (ob_store (A := []) rfl tk60 (.tmp rfl) (.tmp rfl) rfl (LS.refl _ _ _) rfl) fun _ a10 w10 s10 => ?_; clear s9
  refine wpList_nil ?_
  refine then_normal ?_
  refine hK3 _ _ ?_
  have s11 := s10.sub (.cons (t := 2) rfl (.cons (t := 3) rfl (.cons (t := 4) rfl .nil))); clear s10
  refine wp_seq_k fun K4 hK4 => ?_
  refine wp_seq_k fun K5 hK5 => ?_
  refine wp_region_lit ?_
  refine seq_op s11 rfl rfl (of_decide_eq_true rfl) (ob_assign rfl (opd_int rfl)) fun a12 w12 s12 => ?_; clear s11
  refine wpList_nil ?_
  refine then_normal ?_
  refine hK5 _ _ ?_
  have s13 := s12.sub (.cons (t := 2) rfl (.cons (t := 3) rfl (.cons (t := 4) rfl (.cons (t := 5) rfl .nil)))); clear s12
  have hj1 : ∀ (y1 : (List Int)) (a : Act) (w : World), (cabalref01_Sum.j1 k) y1 = some r → St ⟨42, w0, ok, []⟩ [BF b1 23 (karr 32 (kint .u8)) (List.replicate 32 (0 : Int)), BF b2 60 (karr 8 (kint .u32)) y1] [(2, (ptrB b1 0)), (4, (ptrB b2 0))] a w → K4 a w := by
    intro y1 a14 w14 h3 s14
    unfold cabalref01_Sum.j1 at h3
    refine hK4 _ _ ?_
    refine wp_seq_k fun K6 hK6 => ?_
    refine wp_region_lit ?_
    refine seq_opx (B' := (fun b3 : Nat => [BF b3 23 (karr 32 (kint .u8)) (List.replicate 32 (0 : Int)), BF b1 23 (karr 32 (kint .u8)) (List.replicate 32 (0 : Int)), BF b2 60 (karr 8 (kint .u32)) y1])) s14 rfl rfl (of_decide_eq_true rfl) (ob_new (k := (karr 32 (kint .u8))) rfl zz23 (Zr.arr 32 (Zr.int .u8))) fun b3 a15 w15 s15 => ?_; clear s14
    refine wpList_nil ?_
    refine then_normal ?_
    refine hK6 _ _ ?_
    have s16 := s15.sub (.cons (t := 2) rfl (.cons (t := 4) rfl (.cons (t := 6) rfl .nil))); clear s15
    refine wp_seq_k fun K7 hK7 => ?_
    refine wp_seq_k fun K8 hK8 => ?_
    refine wp_region_lit ?_
    refine seq_op s16 rfl rfl (of_decide_eq_true rfl) (ob_assign rfl (opd_int rfl)) fun a17 w17 s17 => ?_; clear s16
    refine wpList_nil ?_
    refine then_normal ?_
    refine hK8 _ _ ?_
    have s18 := s17.sub (.cons (t := 2) rfl (.cons (t := 4) rfl (.cons (t := 6) rfl (.cons (t := 7) rfl .nil)))); clear s17
    have hj2 : ∀ (y2 : (List Int)) (a : Act) (w : World), (cabalref01_Sum.j2 k) y2 = some r → St ⟨42, w0, ok, []⟩ [BF b1 23 (karr 32 (kint .u8)) (List.replicate 32 (0 : Int)), BF b3 23 (karr 32 (kint .u8)) y2] [(2, (ptrB b1 0)), (6, (ptrB b3 0))] a w → K7 a w := by
      intro y2 a19 w19 h4 s19
      unfold cabalref01_Sum.j2 at h4
      refine hK7 _ _ ?_
      refine wp_seq_k fun K9 hK9 => ?_
      refine wp_region_lit ?_
      refine seq_op s19 rfl rfl (of_decide_eq_true rfl) (ob_load rfl tk23 (.tmp rfl) (.tail _ (.head _)) (LG.refl _ _)) fun a20 w20 s20 => ?_; clear s19
      refine seq_opx0 (B' := (fun _ : Unit => [BF b1 23 (karr 32 (kint .u8)) y2, BF b3 23 (karr 32 (kint .u8)) y2])) s20 rfl rfl (ob_store (A := []) rfl tk23 (.tmp rfl) (.tmp rfl) rfl (LS.refl _ _ _) rfl) fun _ a21 w21 s21 => ?_; clear s20
      refine wpList_nil ?_
      refine then_normal ?_
      refine hK9 _ _ ?_
      have s22 := s21.sub (.cons (t := 2) rfl .nil); clear s21
      have s23 := St.drop (A := [_]) s22; clear s22
      refine wp_ret ?_
      obtain rfl := Option.some.inj h4
      exact leave s23 (.inl rfl) rfl (.cons (.cell rfl tk23 (.head _) (LG.refl _ _)) .nil)
    refine wp_block ?_
    have s24 := s18.perm (toFront [_] (toFront [_] (toFront [] (List.Perm.refl _)))); clear s18
    refine wp_loop_fuel (fun m (q : Int × (List Int)) => cabalref01_Sum.l1 k y1 m q.1 q.2) r (fun _ => rfl) (fun q a w => St ⟨42, w0, ok, []⟩ [BF b1 23 (karr 32 (kint .u8)) (List.replicate 32 (0 : Int)), BF b2 60 (karr 8 (kint .u32)) y1, BF b3 23 (karr 32 (kint .u8)) q.2] [(2, (ptrB b1 0)), (4, (ptrB b2 0)), (6, (ptrB b3 0)), (7, ((kint .i64).V q.1))] a w) ?_ k ((0 : Int), (List.replicate 32 (0 : Int))) _ _ h3 (s24.sub (.cons rfl (.cons rfl (.cons rfl (.cons rfl .nil)))))
    rintro n1 ⟨y3, y4⟩ a25 w25 h5 s25 K10 hK10
    replace h5 : cabalref01_Sum.l1 k y1 (n1 + 1) y3 y4 = some r := h5; rw [cabalref01_Sum.l1] at h5
    have h6 := h5; clear h5
    refine wp_seq_k fun K11 hK11 => ?_
    refine wp_seq_k fun K12 hK12 => ?_
    refine wp_region_lit ?_
    refine seq_op s25 rfl rfl (of_decide_eq_true rfl) (ob_move rfl (.tmp rfl)) fun a26 w26 s26 => ?_; clear s25
    refine seq_op s26 rfl rfl (of_decide_eq_true rfl) (ob_lss rfl (.tmp rfl) (opd_int rfl)) fun a27 w27 s27 => ?_; clear s26
    refine wpList_nil ?_
    refine then_normal ?_
    refine hK12 _ _ ?_
    have s28 := s27.sub (.cons (t := 2) rfl (.cons (t := 4) rfl (.cons (t := 6) rfl (.cons (t := 7) rfl (.cons (t := 25) rfl .nil))))); clear s27
    refine cond_split s28 (.tmp rfl) (fun hc1 => ?_) (fun hc1 => ?_)
    · replace h6 := ite_t hc1 h6
      have h7 := h6; clear h6
      refine wp_skip ?_
      refine then_normal ?_
      refine hK11 _ _ ?_
      have s29 := s28.sub (.cons (t := 2) rfl (.cons (t := 4) rfl (.cons (t := 6) rfl (.cons (t := 7) rfl .nil)))); clear s28
      refine wp_seq_k fun K13 hK13 => ?_
      refine wp_block ?_
      refine wp_region_lit ?_
      refine seq_op s29 rfl rfl (of_decide_eq_true rfl) (ob_move rfl (.tmp rfl)) fun a30 w30 s30 => ?_; clear s29
      refine seq_op s30 rfl rfl (of_decide_eq_true rfl) (ob_move rfl (.tmp rfl)) fun a31 w31 s31 => ?_; clear s30
      refine seq_op s31 rfl rfl (of_decide_eq_true rfl) (ob_quo rfl (.tmp rfl) (opd_int rfl) (by decide)) fun a32 w32 s32 => ?_; clear s31
      obtain ⟨g1, h8⟩ := guard_some h7; clear h7
      refine seq_op s32 rfl rfl (of_decide_eq_true rfl) (ob_indexAddr rfl Tryd.underlying60 sz59 (.tmp rfl) (.tmp rfl) g1.1 g1.2 (Nat.zero_add _)) fun a33 w33 s33 => ?_; clear s32
      obtain ⟨x3, e_x3, h9⟩ := bind_some h8; clear h8
      refine seq_op s33 rfl rfl (of_decide_eq_true rfl) (ob_load rfl tk59 (.tmp rfl) (.tail _ (.head _)) (LG.arrA e_x3)) fun a34 w34 s34 => ?_; clear s33
      refine seq_op s34 rfl rfl (of_decide_eq_true rfl) (ob_move rfl (.tmp rfl)) fun a35 w35 s35 => ?_; clear s34
      refine seq_op s35 rfl rfl (of_decide_eq_true rfl) (ob_rem rfl (.tmp rfl) (opd_int rfl) (by decide)) fun a36 w36 s36 => ?_; clear s35
      refine seq_op s36 rfl rfl (of_decide_eq_true rfl) (ob_mul rfl (opd_int rfl) (.tmp rfl)) fun a37 w37 s37 => ?_; clear s36
      refine seq_op s37 rfl rfl (of_decide_eq_true rfl) (ob_sub rfl (opd_int rfl) (.tmp rfl)) fun a38 w38 s38 => ?_; clear s37
      obtain ⟨x4, e_x4, h10⟩ := bind_some h9; clear h9; replace e_x4 := Option.some.inj e_x4
      refine seq_op s38 rfl rfl (of_decide_eq_true rfl) ((ob_conv rfl _ Tryd.underlying3 Tryd.underlying55 (.tmp rfl)).nm e_x4) fun a39 w39 s39 => ?_; clear s38
      obtain ⟨g2, h11⟩ := guard_some h10; clear h10
      refine seq_op s39 rfl rfl (of_decide_eq_true rfl) (ob_shr rfl (.tmp rfl) (.tmp rfl) g2) fun a40 w40 s40 => ?_; clear s39
      refine seq_op s40 rfl rfl (of_decide_eq_true rfl) (ob_conv rfl _ Tryd.underlying59 Tryd.underlying5 (.tmp rfl)) fun a41 w41 s41 => ?_; clear s40
      obtain ⟨g3, h12⟩ := guard_some h11; clear h11
      refine seq_op s41 rfl rfl (of_decide_eq_true rfl) (ob_indexAddr rfl Tryd.underlying23 sz5 (.tmp rfl) (.tmp rfl) g3.1 g3.2 (Nat.zero_add _)) fun a42 w42 s42 => ?_; clear s41
      obtain ⟨x5, e_x5, h13⟩ := bind_some h12; clear h12
      refine seq_opx0 (B' := (fun _ : Unit => [BF b1 23 (karr 32 (kint .u8)) (List.replicate 32 (0 : Int)), BF b2 60 (karr 8 (kint .u32)) y1, BF b3 23 (karr 32 (kint .u8)) x5])) s42 rfl rfl (ob_store (A := [_, _]) rfl tk5 (.tmp rfl) (.tmp rfl) rfl (LS.arrS e_x5) rfl) fun _ a43 w43 s43 => ?_; clear s42
      refine wpList_nil ?_
      refine in_normal ?_
      refine then_normal ?_
      refine hK13 _ _ ?_
      have s44 := s43.sub (.cons (t := 2) rfl (.cons (t := 4) rfl (.cons (t := 6) rfl (.cons (t := 7) rfl .nil)))); clear s43
      refine wp_region_lit ?_
      refine seq_op s44 rfl rfl (of_decide_eq_true rfl) (ob_move rfl (.tmp rfl)) fun a45 w45 s45 => ?_; clear s44
      refine seq_op s45 rfl rfl (of_decide_eq_true rfl) (ob_add rfl (.tmp rfl) (opd_int rfl)) fun a46 w46 s46 => ?_; clear s45
      refine seq_op s46 rfl rfl (of_decide_eq_true rfl) (ob_assign rfl (.tmp rfl)) fun a47 w47 s47 => ?_; clear s46
      refine wpList_nil ?_
      refine then_normal ?_
      exact hK10 ((iadd .i64 y3 (1 : Int)), x5) _ _ h13 (s47.sub (.cons rfl (.cons rfl (.cons rfl (.cons rfl .nil)))))
    · replace h6 := ite_f hc1 h6
      have h14 := h6; clear h6
      refine wp_exit ?_
      refine (then_exit (then_exit (in_here ?_)))
      refine then_normal ?_
      have s48 := St.drop (A := [_]) s28; clear s28
      exact hj2 y4 _ _ h14 (s48.sub (.cons rfl (.cons rfl .nil)))
  refine wp_block ?_
  have s49 := s13.perm (toFront [_] (toFront [] (List.Perm.refl _))); clear s13
  refine wp_loop_fuel (fun m (q : Int × (List Int)) => cabalref01_Sum.l2 k x1 m q.1 q.2) r (fun _ => rfl) (fun q a w => St ⟨42, w0, ok, []⟩ [BF b1 23 (karr 32 (kint .u8)) (List.replicate 32 (0 : Int)), BF b2 60 (karr 8 (kint .u32)) q.2] [(2, (ptrB b1 0)), (3, (kstr.V x1)), (4, (ptrB b2 0)), (5, ((kint .i64).V q.1))] a w) ?_ k ((0 : Int), x2) _ _ h2 (s49.sub (.cons rfl (.cons rfl (.cons rfl (.cons rfl .nil)))))
  rintro n2 ⟨y5, y6⟩ a50 w50 h15 s50 K14 hK14
  replace h15 : cabalref01_Sum.l2 k x1 (n2 + 1) y5 y6 = some r := h15; rw [cabalref01_Sum.l2] at h15
  have h16 := h15; clear h15
  refine wp_seq_k fun K15 hK15 => ?_
  refine wp_seq_k fun K16 hK16 => ?_
  refine wp_region_lit ?_
  refine seq_op s50 rfl rfl (of_decide_eq_true rfl) (ob_move rfl (.tmp rfl)) fun a51 w51 s51 => ?_; clear s50
  refine seq_op s51 rfl rfl (of_decide_eq_true rfl) (ob_move rfl (.tmp rfl)) fun a52 w52 s52 => ?_; clear s51
  refine seq_op s52 rfl rfl (of_decide_eq_true rfl) (ob_lenStr rfl Tryd.underlying9 (.tmp rfl)) fun a53 w53 s53 => ?_; clear s52
  refine seq_op s53 rfl rfl (of_decide_eq_true rfl) (ob_lss rfl (.tmp rfl) (.tmp rfl)) fun a54 w54 s54 => ?_; clear s53
  refine wpList_nil ?_
  refine then_normal ?_
  refine hK16 _ _ ?_
  have s55 := s54.sub (.cons (t := 2) rfl (.cons (t := 3) rfl (.cons (t := 4) rfl (.cons (t := 5) rfl (.cons (t := 14) rfl .nil))))); clear s54
  refine cond_split s55 (.tmp rfl) (fun hc2 => ?_) (fun hc2 => ?_)
  · replace h16 := ite_t hc2 h16
    have h17 := h16; clear h16
    refine wp_skip ?_
    refine then_normal ?_
    refine hK15 _ _ ?_
    have s56 := s55.sub (.cons (t := 2) rfl (.cons (t := 3) rfl (.cons (t := 4) rfl (.cons (t := 5) rfl .nil)))); clear s55
    refine wp_seq_k fun K17 hK17 => ?_
    refine wp_block ?_
    obtain ⟨x6, e_x6, h18⟩ := bind_some h17; clear h17
    refine wp_goes (Fs := [((karr 8 (kint .u32)).V y6), (kstr.V x1), ((kint .i64).V y5), ((kint .i64).V y5), ((kint .i64).V (iadd .i64 y5 (64 : Int))), (kstr.V x6)]) (bits := [0, 0, 0, 0, 8, 30, 63, 127]) (m := 6) (todo := 0) mx s56 ?_; clear s56
    refine goes_last (by kernel_rfl) rfl (opsS_cons (.plain _ (Av.old (t := 4) rfl rfl Av.nil) rfl rfl (ob_load rfl tk60 (.tmp rfl) (.tail _ (.head _)) (LG.refl _ _))) (opsS_cons (.plain _ (Av.old (t := 3) rfl rfl Av.nil) rfl rfl (ob_move rfl (.tmp rfl))) (opsS_cons (.plain _ (Av.old (t := 5) rfl rfl Av.nil) rfl rfl (ob_move rfl (.tmp rfl))) (opsS_cons (.plain _ (Av.old (t := 5) rfl rfl Av.nil) rfl rfl (ob_move rfl (.tmp rfl))) (opsS_cons (.plain _ (Av.new (j := 3) rfl rfl rfl Av.nil) rfl rfl (ob_add rfl (.tmp rfl) (opd_int rfl))) (opsS_cons (.plain _ (Av.new (j := 1) rfl rfl rfl (Av.new (j := 2) rfl rfl rfl (Av.new (j := 4) rfl rfl rfl Av.nil))) rfl rfl (ob_cutStr rfl Tryd.underlying9 (.tmp rfl) (.some (.tmp rfl)) (.some (.tmp rfl)) e_x6)) opsS_nil)))))) (out_old (t := 2) rfl rfl (out_old (t := 3) rfl rfl (out_old (t := 4) rfl rfl (out_old (t := 5) rfl rfl (out_new (i := 0) (by decide) rfl rfl (out_new (i := 5) (by decide) rfl rfl out_nil)))))) fun a57 w57 s57 => ?_
    obtain ⟨x7, e_x7, h19⟩ := bind_some h18; clear h18
    refine seq_op s57 rfl rfl (of_decide_eq_true rfl) (ob_callD (args := [_, _]) rfl .direct hb29 (fun a w s fs gs hf hg => by obtain rfl := hf.unnil; obtain rfl := hg.unnil; exact c_cabalref01_Block k _ _ _ e_x7 _ _ _ _ (s.arg (.tmp rfl)) (s.arg (.tmp rfl)))) fun a58 w58 s58 => ?_; clear s57
    refine seq_opx0 (B' := (fun _ : Unit => [BF b1 23 (karr 32 (kint .u8)) (List.replicate 32 (0 : Int)), BF b2 60 (karr 8 (kint .u32)) x7])) s58 rfl rfl (ob_store (A := [_]) rfl tk60 (.tmp rfl) (.tmp rfl) rfl (LS.refl _ _ _) rfl) fun _ a59 w59 s59 => ?_; clear s58
    refine wpList_nil ?_
    refine in_normal ?_
    refine then_normal ?_
    refine hK17 _ _ ?_
    have s60 := s59.sub (.cons (t := 2) rfl (.cons (t := 3) rfl (.cons (t := 4) rfl (.cons (t := 5) rfl .nil)))); clear s59
    refine wp_region_lit ?_
    refine seq_op s60 rfl rfl (of_decide_eq_true rfl) (ob_move rfl (.tmp rfl)) fun a61 w61 s61 => ?_; clear s60
    refine seq_op s61 rfl rfl (of_decide_eq_true rfl) (ob_add rfl (.tmp rfl) (opd_int rfl)) fun a62 w62 s62 => ?_; clear s61
    refine seq_op s62 rfl rfl (of_decide_eq_true rfl) (ob_assign rfl (.tmp rfl)) fun a63 w63 s63 => ?_; clear s62
    refine wpList_nil ?_
    refine then_normal ?_
    exact hK14 ((iadd .i64 y5 (64 : Int)), x7) _ _ h19 (s63.sub (.cons rfl (.cons rfl (.cons rfl (.cons rfl .nil)))))
  · replace h16 := ite_f hc2 h16
    have h20 := h16; clear h16
    refine wp_exit ?_
    refine (then_exit (then_exit (in_here ?_)))
    refine then_normal ?_
    exact hj1 y6 _ _ h20 (s55.sub (.cons rfl (.cons rfl .nil)))

/- 9 cabal/cabalref27.Both -/
theorem c_cabalref27_Both (k : Nat) (p1 : (List Int)) (p2 : (List Int)) (r : (List Int)) (h0 : cabalref27_Both k p1 p2 = some r) (ok : Ok) (w0 : World) (z0 : Value) (z1 : Value) (u0 : ((karr 32 (kint .u8)).V p1).holds ok w0 z0) (u1 : ((karr 32 (kint .u8)).V p2).holds ok w0 z1) :
    Gives Tryd.prog 9 [z0, z1] ok w0 (resFact [kstr.V r]) := by
  unfold cabalref27_Both at h0
  refine enter (N := 17) Tryd.func9 rfl rfl (of_decide_eq_true rfl) (.cons u0 (.cons u1 .nil)) fun a1 s1 => ?_
  refine wp_seq_k fun K1 hK1 => ?_
  refine wp_region_lit ?_
  refine seq_opx (B' := (fun b1 : Nat => [BF b1 23 (karr 32 (kint .u8)) p1])) s1 rfl rfl (of_decide_eq_true rfl) (ob_box rfl (.tmp rfl)) fun b1 a2 w2 s2 => ?_; clear s1
  refine seq_opx (B' := (fun b2 : Nat => [BF b2 23 (karr 32 (kint .u8)) p2, BF b1 23 (karr 32 (kint .u8)) p1])) s2 rfl rfl (of_decide_eq_true rfl) (ob_box rfl (.tmp rfl)) fun b2 a3 w3 s3 => ?_; clear s2
  refine seq_op s3 rfl rfl (of_decide_eq_true rfl) (ob_assign rfl (opd_str (by rfl) (by decide))) fun a4 w4 s4 => ?_; clear s3
  refine wpList_nil ?_
  refine then_normal ?_
  refine hK1 _ _ ?_
  have s5 := s4.sub (.cons (t := 2) rfl (.cons (t := 3) rfl .nil)); clear s4
  refine wp_seq_k fun K2 hK2 => ?_
  refine wp_seq_k fun K3 hK3 => ?_
  refine wp_region_lit ?_
  refine seq_op s5 rfl rfl (of_decide_eq_true rfl) (ob_load rfl tk23 (.tmp rfl) (.head _) (LG.refl _ _)) fun a6 w6 s6 => ?_; clear s5
  refine seq_op s6 rfl rfl (of_decide_eq_true rfl) (ob_load rfl tk23 (.tmp rfl) (.tail _ (.head _)) (LG.refl _ _)) fun a7 w7 s7 => ?_; clear s6
  obtain ⟨x1, e_x1, h1⟩ := bind_some h0; clear h0
  refine seq_op s7 rfl rfl (of_decide_eq_true rfl) (ob_callD (args := [_, _]) rfl .direct hb20 (fun a w s fs gs hf hg => by obtain rfl := hf.unnil; obtain rfl := hg.unnil; exact c_cabalref11_Less k _ _ _ e_x1 _ _ _ _ (s.arg (.tmp rfl)) (s.arg (.tmp rfl)))) fun a8 w8 s8 => ?_; clear s7
  refine wpList_nil ?_
  refine then_normal ?_
  refine hK3 _ _ ?_
  have s9 := s8.sub (.cons (t := 2) rfl (.cons (t := 3) rfl (.cons (t := 7) rfl .nil))); clear s8
  have hj1 : ∀ (y1 : (List Int)) (y2 : (List Int)) (a : Act) (w : World), (cabalref27_Both.j1 k) y1 y2 = some r → St ⟨17, w0, ok, []⟩ [BF b1 23 (karr 32 (kint .u8)) y1, BF b2 23 (karr 32 (kint .u8)) y2] [(2, (ptrB b1 0)), (3, (ptrB b2 0))] a w → K2 a w := by
    intro y1 y2 a10 w10 h2 s10
    unfold cabalref27_Both.j1 at h2
    refine hK2 _ _ ?_
    refine wp_seq_k fun K4 hK4 => ?_
    obtain ⟨x2, e_x2, h3⟩ := bind_some h2; clear h2
    obtain ⟨x3, e_x3, h4⟩ := bind_some h3; clear h3
    refine wp_goes (Fs := [(is (.slice (some ⟨b1, soff 32 0 (0 : Int).toNat 1, none⟩) ((32 : Int).toNat - (0 : Int).toNat) (32 - (0 : Int).toNat))), (kstr.V x2), (is (.slice (some ⟨b2, soff 32 0 (0 : Int).toNat 1, none⟩) ((32 : Int).toNat - (0 : Int).toNat) (32 - (0 : Int).toNat))), (kstr.V x3)]) (bits := [0, 1, 0, 4, 15, 31, 63, 127]) (m := 4) (todo := 0) mx s10 ?_; clear s10
    refine goes_last (by kernel_rfl) rfl (opsS_cons (.plain _ (Av.old (t := 2) rfl rfl Av.nil) rfl rfl (ob_sliceArr rfl Tryd.underlying23 sz5 (.tmp rfl) .none .none (show (0 : Int) ≤ (0 : Int) ∧ (0 : Int) ≤ (32 : Int) ∧ (32 : Int) ≤ ((32 : Nat) : Int) by decide))) (opsS_cons (.plain _ (Av.new (j := 0) rfl rfl rfl Av.nil) rfl rfl ((ob_lendG (L := [_]) (List.Perm.refl _) (.cons (t := 10) rfl (lendSlB (.head _) (LG.refl _ _) e_x2 rfl (cut_len e_x2) (cut_cap e_x2 (show (0 : Int) ≤ (0 : Int) ∧ (0 : Int) ≤ (32 : Int) ∧ (32 : Int) ≤ ((32 : Nat) : Int) by decide) (by decide))) .nil) (Flat.V KFlat.str) (fun _ => ob_bytesToStr rfl Tryd.underlying38 Tryd.underlying9 Tryd.underlying5 (.tmp rfl))))) (opsS_cons (.plain _ (Av.old (t := 3) rfl rfl Av.nil) rfl rfl (ob_sliceArr rfl Tryd.underlying23 sz5 (.tmp rfl) .none .none (show (0 : Int) ≤ (0 : Int) ∧ (0 : Int) ≤ (32 : Int) ∧ (32 : Int) ≤ ((32 : Nat) : Int) by decide))) (opsS_cons (.plain _ (Av.new (j := 2) rfl rfl rfl Av.nil) rfl rfl ((ob_lendG (L := [_]) (toFront [_] (List.Perm.refl _)) (.cons (t := 12) rfl (lendSlB (.head _) (LG.refl _ _) e_x3 rfl (cut_len e_x3) (cut_cap e_x3 (show (0 : Int) ≤ (0 : Int) ∧ (0 : Int) ≤ (32 : Int) ∧ (32 : Int) ≤ ((32 : Nat) : Int) by decide) (by decide))) .nil) (Flat.V KFlat.str) (fun _ => ob_bytesToStr rfl Tryd.underlying38 Tryd.underlying9 Tryd.underlying5 (.tmp rfl))))) opsS_nil)))) (out_new (i := 1) (by decide) rfl rfl (out_new (i := 3) (by decide) rfl rfl out_nil)) fun a11 w11 s11 => ?_
    obtain ⟨g1, h5⟩ := guard_some h4; clear h4
    refine seq_op s11 rfl rfl (of_decide_eq_true rfl) (ob_cat rfl (.tmp rfl) (.tmp rfl) g1) fun a12 w12 s12 => ?_; clear s11
    obtain ⟨x4, e_x4, h6⟩ := bind_some h5; clear h5
    refine seq_op s12 rfl rfl (of_decide_eq_true rfl) (ob_callD (args := [_]) rfl .direct hb21 (fun a w s fs gs hf hg => by obtain rfl := hf.unnil; obtain rfl := hg.unnil; exact c_cabalref01_Sum k _ _ e_x4 _ _ _ (s.arg (.tmp rfl)))) fun a13 w13 s13 => ?_; clear s12
    obtain ⟨x5, e_x5, h7⟩ := bind_some h6; clear h6
    refine seq_op s13 rfl rfl (of_decide_eq_true rfl) (ob_callD (args := [_]) rfl .direct hb7 (fun a w s fs gs hf hg => by obtain rfl := hf.unnil; obtain rfl := hg.unnil; exact c_cabalref27_Write k _ _ e_x5 _ _ _ (s.arg (.tmp rfl)))) fun a14 w14 s14 => ?_; clear s13
    refine seq_op s14 rfl rfl (of_decide_eq_true rfl) (ob_assign rfl (.tmp rfl)) fun a15 w15 s15 => ?_; clear s14
    refine wpList_nil ?_
    refine then_normal ?_
    refine hK4 _ _ ?_
    have s16 := s15.sub (.cons (t := 4) rfl .nil); clear s15
    have s17 := St.drop (A := []) s16; clear s16
    have s18 := St.drop (A := []) s17; clear s17
    refine wp_ret ?_
    obtain rfl := Option.some.inj h7
    exact leave s18 (.inl rfl) rfl (.cons (.tmp rfl) .nil)
  refine cond_split s9 (.tmp rfl) (fun hc1 => ?_) (fun hc1 => ?_)
  · replace h1 := ite_t hc1 h1
    have h8 := h1; clear h1
    refine wp_region_lit ?_
    refine seq_op s9 rfl rfl (of_decide_eq_true rfl) (ob_load rfl tk23 (.tmp rfl) (.head _) (LG.refl _ _)) fun a19 w19 s19 => ?_; clear s9
    refine seq_op s19 rfl rfl (of_decide_eq_true rfl) (ob_load rfl tk23 (.tmp rfl) (.tail _ (.head _)) (LG.refl _ _)) fun a20 w20 s20 => ?_; clear s19
    refine seq_opx0 (B' := (fun _ : Unit => [BF b2 23 (karr 32 (kint .u8)) p2, BF b1 23 (karr 32 (kint .u8)) p2])) s20 rfl rfl (ob_store (A := [_]) rfl tk23 (.tmp rfl) (.tmp rfl) rfl (LS.refl _ _ _) rfl) fun _ a21 w21 s21 => ?_; clear s20
    refine seq_opx0 (B' := (fun _ : Unit => [BF b2 23 (karr 32 (kint .u8)) p1, BF b1 23 (karr 32 (kint .u8)) p2])) s21 rfl rfl (ob_store (A := []) rfl tk23 (.tmp rfl) (.tmp rfl) rfl (LS.refl _ _ _) rfl) fun _ a22 w22 s22 => ?_; clear s21
    refine wpList_nil ?_
    refine then_normal ?_
    have s23 := s22.perm (toFront [_] (toFront [] (List.Perm.refl _))); clear s22
    exact hj1 p2 p1 _ _ h8 (s23.sub (.cons rfl (.cons rfl .nil)))
  · replace h1 := ite_f hc1 h1
    have h9 := h1; clear h1
    refine wp_skip ?_
    refine then_normal ?_
    have s24 := s9.perm (toFront [_] (toFront [] (List.Perm.refl _))); clear s9
    exact hj1 p1 p2 _ _ h9 (s24.sub (.cons rfl (.cons rfl .nil)))

/- 3 cabal/caballaw27.CodeWrites -/
theorem c_caballaw27_CodeWrites (k : Nat) (p1 : (List Int)) (p2 : (List Int)) (r : Bool) (h0 : caballaw27_CodeWrites k p1 p2 = some r) (ok : Ok) (w0 : World) (gl1 : (ptrTo (karr 8 (kint .u32)) G_digest_first).holds ok w0 (.pointer (some ⟨1, 0, none⟩))) (gl2 : (ptrTo (karr 64 (kint .u32)) G_digest_rounds).holds ok w0 (.pointer (some ⟨2, 0, none⟩))) (z0 : Value) (z1 : Value) (u0 : ((karr 32 (kint .u8)).V p1).holds ok w0 z0) (u1 : ((karr 32 (kint .u8)).V p2).holds ok w0 z1) :
    Gives Tryd.prog 3 [z0, z1] ok w0 (resFact [kbool.V r]) := by
  unfold caballaw27_CodeWrites at h0
  refine enter (N := 24) Tryd.func3 rfl rfl (of_decide_eq_true rfl) (.cons u0 (.cons u1 .nil)) fun a1 s1 => ?_
  have s2 := s1.keepKnown 100001 gl1 okIn; clear s1
  have s3 := s2.keepKnown 100002 gl2 okIn; clear s2
  refine wp_seq_k fun K1 hK1 => ?_
  refine wp_region_lit ?_
  refine seq_opx (B' := (fun b1 : Nat => [BF b1 23 (karr 32 (kint .u8)) p1])) s3 rfl rfl (of_decide_eq_true rfl) (ob_box rfl (.tmp rfl)) fun b1 a4 w4 s4 => ?_; clear s3
  refine seq_opx (B' := (fun b2 : Nat => [BF b2 23 (karr 32 (kint .u8)) p2, BF b1 23 (karr 32 (kint .u8)) p1])) s4 rfl rfl (of_decide_eq_true rfl) (ob_box rfl (.tmp rfl)) fun b2 a5 w5 s5 => ?_; clear s4
  refine seq_op s5 rfl rfl (of_decide_eq_true rfl) (ob_assign rfl opd_bool) fun a6 w6 s6 => ?_; clear s5
  refine wpList_nil ?_
  refine then_normal ?_
  refine hK1 _ _ ?_
  have s7 := s6.sub (.cons (t := 2) rfl (.cons (t := 3) rfl (.cons (t := 100001) rfl (.cons (t := 100002) rfl .nil)))); clear s6
  refine wp_seq_k fun K2 hK2 => ?_
  refine wp_seq_k fun K3 hK3 => ?_
  refine wp_region_lit ?_
  obtain ⟨x1, e_x1, h1⟩ := bind_some h0; clear h0
  refine seq_op s7 rfl rfl (of_decide_eq_true rfl) (ob_callD (args := []) rfl .direct hb5 (fun a w s fs gs hf hg => by obtain rfl := hf.unnil; obtain rfl := hg.unnil; exact c_caballaw27_alive k _ e_x1 _ _)) fun a8 w8 s8 => ?_; clear s7
  refine seq_op s8 rfl rfl (of_decide_eq_true rfl) (ob_not rfl (.tmp rfl)) fun a9 w9 s9 => ?_; clear s8
  refine wpList_nil ?_
  refine then_normal ?_
  refine hK3 _ _ ?_
  have s10 := s9.sub (.cons (t := 2) rfl (.cons (t := 3) rfl (.cons (t := 6) rfl (.cons (t := 100001) rfl (.cons (t := 100002) rfl .nil))))); clear s9
  refine cond_split s10 (.tmp rfl) (fun hc1 => ?_) (fun hc1 => ?_)
  · replace h1 := ite_t hc1 h1
    have h2 := h1; clear h1
    refine wp_seq_k fun K4 hK4 => ?_
    refine wp_region_lit ?_
    refine seq_op s10 rfl rfl (of_decide_eq_true rfl) (ob_assign rfl opd_bool) fun a11 w11 s11 => ?_; clear s10
    refine wpList_nil ?_
    refine then_normal ?_
    refine hK4 _ _ ?_
    have s12 := s11.sub (.cons (t := 4) rfl (.cons (t := 100001) rfl (.cons (t := 100002) rfl .nil))); clear s11
    have s13 := St.drop (A := []) s12; clear s12
    have s14 := St.drop (A := []) s13; clear s13
    refine wp_ret ?_
    obtain rfl := Option.some.inj h2
    exact leave s14 (.inl rfl) rfl (.cons (.tmp rfl) .nil)
  · replace h1 := ite_f hc1 h1
    have h3 := h1; clear h1
    refine wp_skip ?_
    refine then_normal ?_
    refine hK2 _ _ ?_
    have s15 := s10.sub (.cons (t := 2) rfl (.cons (t := 3) rfl (.cons (t := 100001) rfl (.cons (t := 100002) rfl .nil)))); clear s10
    refine wp_seq_k fun K5 hK5 => ?_
    obtain ⟨x2, e_x2, h4⟩ := bind_some h3; clear h3
    obtain ⟨x3, e_x3, h5⟩ := bind_some h4; clear h4
    obtain ⟨x4, e_x4, h6⟩ := bind_some h5; clear h5
    obtain ⟨x5, e_x5, h7⟩ := bind_some h6; clear h6
    refine wp_goes (Fs := [(kbool.V x2), (kbool.V x2), (Fact.when (x2 == true) ((karr 32 (kint .u8)).V p1)), (Fact.when (x2 == true) (kstr.V x3)), (Fact.when (x2 == true) ((karr 32 (kint .u8)).V p1)), (Fact.when (x2 == true) (kstr.V x4)), (Fact.when (x2 == true) (kbool.V (decide (x3 = x4)))), (kbool.V (if x2 then (decide (x3 = x4)) else false)), (kbool.V (if x2 then (decide (x3 = x4)) else false)), (Fact.when ((if x2 then (decide (x3 = x4)) else false) == true) ((karr 32 (kint .u8)).V p1)), (Fact.when ((if x2 then (decide (x3 = x4)) else false) == true) ((karr 32 (kint .u8)).V p2)), (Fact.when ((if x2 then (decide (x3 = x4)) else false) == true) (kstr.V x5)), (Fact.when ((if x2 then (decide (x3 = x4)) else false) == true) ((karr 32 (kint .u8)).V p1)), (Fact.when ((if x2 then (decide (x3 = x4)) else false) == true) ((karr 32 (kint .u8)).V p2))]) (bits := [0, 1, 3, 7, 3, 31, 63, 127, 255, 511, 511, 2047, 511, 511, 16383, 32767, 65535, 131071]) (m := 14) (todo := 0) mx s15 ?_; clear s15
    refine goes_last (by kernel_rfl) rfl (opsS_cons (.plain _ (Av.old (t := 100001) rfl rfl (Av.old (t := 100002) rfl rfl Av.nil)) rfl rfl (ob_callD (args := []) rfl .direct hb5 (fun a w s fs gs hf hg => by obtain rfl := hf.unnil; obtain rfl := hg.unnil; exact c_caballaw27_alive k _ e_x2 _ _))) (opsS_cons (.plain _ (Av.new (j := 0) rfl rfl rfl (Av.old (t := 100001) rfl rfl (Av.old (t := 100002) rfl rfl Av.nil))) rfl rfl (ob_move rfl (.tmp rfl))) (opsS_cons (.guarded _ (Av.old (t := 2) rfl rfl (Av.new (j := 1) rfl rfl rfl (Av.old (t := 100001) rfl rfl (Av.old (t := 100002) rfl rfl Av.nil)))) rfl rfl rfl rfl (fun hb => ob_load rfl tk23 (.tmp rfl) (.tail _ (.head _)) (LG.refl _ _))) (opsS_cons (.guarded _ (Av.new (j := 1) rfl rfl rfl (Av.new (j := 2) rfl rfl rfl (Av.old (t := 100001) rfl rfl (Av.old (t := 100002) rfl rfl Av.nil)))) rfl rfl rfl rfl (fun hb => (Ob.uncond (t := 9) hb rfl (ob_callD (args := [_]) rfl .direct hb6 (fun a w s fs gs hf hg => by obtain rfl := hf.unnil; obtain rfl := hg.unnil; exact c_code_Write k _ _ (ite_t hb e_x3) _ _ _ (s.arg (.tmp rfl))))))) (opsS_cons (.guarded _ (Av.old (t := 2) rfl rfl (Av.new (j := 1) rfl rfl rfl (Av.old (t := 100001) rfl rfl (Av.old (t := 100002) rfl rfl Av.nil)))) rfl rfl rfl rfl (fun hb => ob_load rfl tk23 (.tmp rfl) (.tail _ (.head _)) (LG.refl _ _))) (opsS_cons (.guarded _ (Av.new (j := 1) rfl rfl rfl (Av.new (j := 4) rfl rfl rfl (Av.old (t := 100001) rfl rfl (Av.old (t := 100002) rfl rfl Av.nil)))) rfl rfl rfl rfl (fun hb => (Ob.uncond (t := 11) hb rfl (ob_callD (args := [_]) rfl .direct hb7 (fun a w s fs gs hf hg => by obtain rfl := hf.unnil; obtain rfl := hg.unnil; exact c_cabalref27_Write k _ _ (ite_t hb e_x4) _ _ _ (s.arg (.tmp rfl))))))) (opsS_cons (.guarded _ (Av.new (j := 1) rfl rfl rfl (Av.new (j := 3) rfl rfl rfl (Av.new (j := 5) rfl rfl rfl (Av.old (t := 100001) rfl rfl (Av.old (t := 100002) rfl rfl Av.nil))))) rfl rfl rfl rfl (fun hb => (Ob.uncond (t := 12) hb rfl ((Ob.uncond (t := 10) hb rfl (ob_seql rfl (.tmp rfl) (.tmp rfl))))))) (opsS_cons (.plain _ (Av.new (j := 1) rfl rfl rfl (Av.new (j := 6) rfl rfl rfl (Av.old (t := 100001) rfl rfl (Av.old (t := 100002) rfl rfl Av.nil)))) rfl rfl (ob_and2 rfl (.tmp rfl) (.tmp rfl) opd_bool)) (opsS_cons (.plain _ (Av.new (j := 7) rfl rfl rfl (Av.old (t := 100001) rfl rfl (Av.old (t := 100002) rfl rfl Av.nil))) rfl rfl (ob_move rfl (.tmp rfl))) (opsS_cons (.guarded _ (Av.old (t := 2) rfl rfl (Av.new (j := 8) rfl rfl rfl (Av.old (t := 100001) rfl rfl (Av.old (t := 100002) rfl rfl Av.nil)))) rfl rfl rfl rfl (fun hb => ob_load rfl tk23 (.tmp rfl) (.tail _ (.head _)) (LG.refl _ _))) (opsS_cons (.guarded _ (Av.old (t := 3) rfl rfl (Av.new (j := 8) rfl rfl rfl (Av.old (t := 100001) rfl rfl (Av.old (t := 100002) rfl rfl Av.nil)))) rfl rfl rfl rfl (fun hb => ob_load rfl tk23 (.tmp rfl) (.head _) (LG.refl _ _))) (opsS_cons (.guarded _ (Av.new (j := 8) rfl rfl rfl (Av.new (j := 9) rfl rfl rfl (Av.new (j := 10) rfl rfl rfl (Av.old (t := 100001) rfl rfl (Av.old (t := 100002) rfl rfl Av.nil))))) rfl rfl rfl rfl (fun hb => (Ob.uncond (t := 17) hb rfl ((Ob.uncond (t := 16) hb rfl (ob_callD (args := [_, _]) rfl .direct hb8 (fun a w s fs gs hf hg => by obtain rfl := hf.unnil; obtain rfl := hg.unnil; exact c_code_Both k _ _ _ (ite_t hb e_x5) _ _ (s.env _ _ (show get _ 100001 = _ from rfl)) (s.env _ _ (show get _ 100002 = _ from rfl)) _ _ (s.arg (.tmp rfl)) (s.arg (.tmp rfl))))))))) (opsS_cons (.guarded _ (Av.old (t := 2) rfl rfl (Av.new (j := 8) rfl rfl rfl (Av.old (t := 100001) rfl rfl (Av.old (t := 100002) rfl rfl Av.nil)))) rfl rfl rfl rfl (fun hb => ob_load rfl tk23 (.tmp rfl) (.tail _ (.head _)) (LG.refl _ _))) (opsS_cons (.guarded _ (Av.old (t := 3) rfl rfl (Av.new (j := 8) rfl rfl rfl (Av.old (t := 100001) rfl rfl (Av.old (t := 100002) rfl rfl Av.nil)))) rfl rfl rfl rfl (fun hb => ob_load rfl tk23 (.tmp rfl) (.head _) (LG.refl _ _))) opsS_nil)))))))))))))) (out_new (i := 8) (by decide) rfl rfl (out_new (i := 11) (by decide) rfl rfl (out_new (i := 12) (by decide) rfl rfl (out_new (i := 13) (by decide) rfl rfl (out_old (t := 100001) rfl rfl (out_old (t := 100002) rfl rfl out_nil)))))) fun a16 w16 s16 => ?_
    obtain ⟨x6, e_x6, h8⟩ := bind_some h7; clear h7
    refine seq_opg s16 rfl rfl rfl rfl (of_decide_eq_true rfl) (fun hb => (Ob.uncond (t := 20) hb rfl ((Ob.uncond (t := 19) hb rfl (ob_callD (args := [_, _]) rfl .direct hb9 (fun a w s fs gs hf hg => by obtain rfl := hf.unnil; obtain rfl := hg.unnil; exact c_cabalref27_Both k _ _ _ (ite_t hb e_x6) _ _ _ _ (s.arg (.tmp rfl)) (s.arg (.tmp rfl)))))))) fun a17 w17 s17 => ?_; clear s16
    refine seq_opg s17 rfl rfl rfl rfl (of_decide_eq_true rfl) (fun hb => (Ob.uncond (t := 21) hb rfl ((Ob.uncond (t := 18) hb rfl (ob_seql rfl (.tmp rfl) (.tmp rfl)))))) fun a18 w18 s18 => ?_; clear s17
    obtain ⟨x7, e_x7, h9⟩ := bind_some h8; clear h8; replace e_x7 := Option.some.inj e_x7
    refine seq_op s18 rfl rfl (of_decide_eq_true rfl) ((ob_and2 rfl (.tmp rfl) (.tmp rfl) opd_bool).nm e_x7) fun a19 w19 s19 => ?_; clear s18
    refine seq_op s19 rfl rfl (of_decide_eq_true rfl) (ob_assign rfl (.tmp rfl)) fun a20 w20 s20 => ?_; clear s19
    refine wpList_nil ?_
    refine then_normal ?_
    refine hK5 _ _ ?_
    have s21 := s20.sub (.cons (t := 4) rfl (.cons (t := 100001) rfl (.cons (t := 100002) rfl .nil))); clear s20
    have s22 := St.drop (A := []) s21; clear s21
    have s23 := St.drop (A := []) s22; clear s22
    refine wp_ret ?_
    obtain rfl := Option.some.inj h9
    exact leave s23 (.inl rfl) rfl (.cons (.tmp rfl) .nil)

/- 4 cabal/caballaw27.CodeBoth -/
theorem c_caballaw27_CodeBoth (k : Nat) (p1 : (List Int)) (p2 : (List Int)) (r : Bool) (h0 : caballaw27_CodeBoth k p1 p2 = some r) (ok : Ok) (w0 : World) (gl1 : (ptrTo (karr 8 (kint .u32)) G_digest_first).holds ok w0 (.pointer (some ⟨1, 0, none⟩))) (gl2 : (ptrTo (karr 64 (kint .u32)) G_digest_rounds).holds ok w0 (.pointer (some ⟨2, 0, none⟩))) (z0 : Value) (z1 : Value) (u0 : ((karr 32 (kint .u8)).V p1).holds ok w0 z0) (u1 : ((karr 32 (kint .u8)).V p2).holds ok w0 z1) :
    Gives Tryd.prog 4 [z0, z1] ok w0 (resFact [kbool.V r]) := by
  unfold caballaw27_CodeBoth at h0
  refine enter (N := 30) Tryd.func4 rfl rfl (of_decide_eq_true rfl) (.cons u0 (.cons u1 .nil)) fun a1 s1 => ?_
  have s2 := s1.keepKnown 100001 gl1 okIn; clear s1
  have s3 := s2.keepKnown 100002 gl2 okIn; clear s2
  refine wp_seq_k fun K1 hK1 => ?_
  refine wp_region_lit ?_
  refine seq_opx (B' := (fun b1 : Nat => [BF b1 23 (karr 32 (kint .u8)) p1])) s3 rfl rfl (of_decide_eq_true rfl) (ob_box rfl (.tmp rfl)) fun b1 a4 w4 s4 => ?_; clear s3
  refine seq_opx (B' := (fun b2 : Nat => [BF b2 23 (karr 32 (kint .u8)) p2, BF b1 23 (karr 32 (kint .u8)) p1])) s4 rfl rfl (of_decide_eq_true rfl) (ob_box rfl (.tmp rfl)) fun b2 a5 w5 s5 => ?_; clear s4
  refine seq_op s5 rfl rfl (of_decide_eq_true rfl) (ob_assign rfl opd_bool) fun a6 w6 s6 => ?_; clear s5
  refine wpList_nil ?_
  refine then_normal ?_
  refine hK1 _ _ ?_
  have s7 := s6.sub (.cons (t := 2) rfl (.cons (t := 3) rfl (.cons (t := 100001) rfl (.cons (t := 100002) rfl .nil)))); clear s6
  refine wp_seq_k fun K2 hK2 => ?_
  refine wp_seq_k fun K3 hK3 => ?_
  refine wp_region_lit ?_
  obtain ⟨x1, e_x1, h1⟩ := bind_some h0; clear h0
  refine seq_op s7 rfl rfl (of_decide_eq_true rfl) (ob_callD (args := []) rfl .direct hb5 (fun a w s fs gs hf hg => by obtain rfl := hf.unnil; obtain rfl := hg.unnil; exact c_caballaw27_alive k _ e_x1 _ _)) fun a8 w8 s8 => ?_; clear s7
  refine seq_op s8 rfl rfl (of_decide_eq_true rfl) (ob_not rfl (.tmp rfl)) fun a9 w9 s9 => ?_; clear s8
  refine wpList_nil ?_
  refine then_normal ?_
  refine hK3 _ _ ?_
  have s10 := s9.sub (.cons (t := 2) rfl (.cons (t := 3) rfl (.cons (t := 8) rfl (.cons (t := 100001) rfl (.cons (t := 100002) rfl .nil))))); clear s9
  refine cond_split s10 (.tmp rfl) (fun hc1 => ?_) (fun hc1 => ?_)
  · replace h1 := ite_t hc1 h1
    have h2 := h1; clear h1
    refine wp_seq_k fun K4 hK4 => ?_
    refine wp_region_lit ?_
    refine seq_op s10 rfl rfl (of_decide_eq_true rfl) (ob_assign rfl opd_bool) fun a11 w11 s11 => ?_; clear s10
    refine wpList_nil ?_
    refine then_normal ?_
    refine hK4 _ _ ?_
    have s12 := s11.sub (.cons (t := 4) rfl (.cons (t := 100001) rfl (.cons (t := 100002) rfl .nil))); clear s11
    have s13 := St.drop (A := []) s12; clear s12
    have s14 := St.drop (A := []) s13; clear s13
    refine wp_ret ?_
    obtain rfl := Option.some.inj h2
    exact leave s14 (.inl rfl) rfl (.cons (.tmp rfl) .nil)
  · replace h1 := ite_f hc1 h1
    have h3 := h1; clear h1
    refine wp_skip ?_
    refine then_normal ?_
    refine hK2 _ _ ?_
    have s15 := s10.sub (.cons (t := 2) rfl (.cons (t := 3) rfl (.cons (t := 100001) rfl (.cons (t := 100002) rfl .nil)))); clear s10
    refine wp_seq_k fun K5 hK5 => ?_
    refine wp_region_lit ?_
    refine seq_op s15 rfl rfl (of_decide_eq_true rfl) (ob_load rfl tk23 (.tmp rfl) (.tail _ (.head _)) (LG.refl _ _)) fun a16 w16 s16 => ?_; clear s15
    refine seq_op s16 rfl rfl (of_decide_eq_true rfl) (ob_load rfl tk23 (.tmp rfl) (.head _) (LG.refl _ _)) fun a17 w17 s17 => ?_; clear s16
    obtain ⟨x2, e_x2, h4⟩ := bind_some h3; clear h3
    refine seq_op s17 rfl rfl (of_decide_eq_true rfl) (ob_callD (args := [_, _]) rfl .direct hb8 (fun a w s fs gs hf hg => by obtain rfl := hf.unnil; obtain rfl := hg.unnil; exact c_code_Both k _ _ _ e_x2 _ _ (s.env _ _ (show get _ 100001 = _ from rfl)) (s.env _ _ (show get _ 100002 = _ from rfl)) _ _ (s.arg (.tmp rfl)) (s.arg (.tmp rfl)))) fun a18 w18 s18 => ?_; clear s17
    obtain ⟨x3, e_x3, h5⟩ := bind_some h4; clear h4
    refine seq_op s18 rfl rfl (of_decide_eq_true rfl) (ob_callD (args := [_]) rfl .direct hb10 (fun a w s fs gs hf hg => by obtain rfl := hf.unnil; obtain rfl := hg.unnil; exact c_code_Read k _ _ e_x3 _ _ _ (s.arg (.tmp rfl)))) fun a19 w19 s19 => ?_; clear s18
    refine seq_op s19 rfl rfl (of_decide_eq_true rfl) (ob_move rfl (.tmp rfl)) fun a20 w20 s20 => ?_; clear s19
    refine seq_op s20 rfl rfl (of_decide_eq_true rfl) (ob_extract rfl (.tmp rfl) rfl) fun a21 w21 s21 => ?_; clear s20
    refine seq_op s21 rfl rfl (of_decide_eq_true rfl) (ob_extract rfl (.tmp rfl) rfl) fun a22 w22 s22 => ?_; clear s21
    refine seq_opx (B' := (fun b3 : Nat => [BF b3 23 (karr 32 (kint .u8)) (List.replicate 32 (0 : Int)), BF b2 23 (karr 32 (kint .u8)) p2, BF b1 23 (karr 32 (kint .u8)) p1])) s22 rfl rfl (of_decide_eq_true rfl) (ob_new (k := (karr 32 (kint .u8))) rfl zz23 (Zr.arr 32 (Zr.int .u8))) fun b3 a23 w23 s23 => ?_; clear s22
    refine seq_opx0 (B' := (fun _ : Unit => [BF b3 23 (karr 32 (kint .u8)) x3.1, BF b2 23 (karr 32 (kint .u8)) p2, BF b1 23 (karr 32 (kint .u8)) p1])) s23 rfl rfl (ob_store (A := []) rfl tk23 (.tmp rfl) (.tmp rfl) rfl (LS.refl _ _ _) rfl) fun _ a24 w24 s24 => ?_; clear s23
    refine seq_op s24 rfl rfl (of_decide_eq_true rfl) (ob_assign rfl (.tmp rfl)) fun a25 w25 s25 => ?_; clear s24
    refine wpList_nil ?_
    refine then_normal ?_
    refine hK5 _ _ ?_
    have s26 := s25.sub (.cons (t := 2) rfl (.cons (t := 3) rfl (.cons (t := 6) rfl (.cons (t := 100001) rfl (.cons (t := 100002) rfl .nil))))); clear s25
    have s27 := St.drop (A := []) s26; clear s26
    refine wp_seq_k fun K6 hK6 => ?_
    obtain ⟨x4, e_x4, h6⟩ := bind_some h5; clear h5
    obtain ⟨x5, e_x5, h7⟩ := bind_some h6; clear h6
    refine wp_goes (Fs := [(kbool.V x4), (kbool.V x4), (Fact.when (x4 == true) ((karr 32 (kint .u8)).V p1)), (Fact.when (x4 == true) ((karr 32 (kint .u8)).V p2)), (Fact.when (x4 == true) (kstr.V x5)), (Fact.when (x4 == true) ((karr 32 (kint .u8)).V p2)), (Fact.when (x4 == true) ((karr 32 (kint .u8)).V p1))]) (bits := [0, 1, 3, 3, 15, 3, 3, 127, 255, 511, 1023, 2047, 4095, 8191, 16383]) (m := 7) (todo := 0) mx s27 ?_; clear s27
    refine goes_last (by kernel_rfl) rfl (opsS_cons (.plain _ (Av.old (t := 100001) rfl rfl (Av.old (t := 100002) rfl rfl Av.nil)) rfl rfl (ob_callD (args := []) rfl .direct hb5 (fun a w s fs gs hf hg => by obtain rfl := hf.unnil; obtain rfl := hg.unnil; exact c_caballaw27_alive k _ e_x4 _ _))) (opsS_cons (.plain _ (Av.new (j := 0) rfl rfl rfl (Av.old (t := 100001) rfl rfl (Av.old (t := 100002) rfl rfl Av.nil))) rfl rfl (ob_move rfl (.tmp rfl))) (opsS_cons (.guarded _ (Av.old (t := 2) rfl rfl (Av.new (j := 1) rfl rfl rfl (Av.old (t := 100001) rfl rfl (Av.old (t := 100002) rfl rfl Av.nil)))) rfl rfl rfl rfl (fun hb => ob_load rfl tk23 (.tmp rfl) (.tail _ (.head _)) (LG.refl _ _))) (opsS_cons (.guarded _ (Av.old (t := 3) rfl rfl (Av.new (j := 1) rfl rfl rfl (Av.old (t := 100001) rfl rfl (Av.old (t := 100002) rfl rfl Av.nil)))) rfl rfl rfl rfl (fun hb => ob_load rfl tk23 (.tmp rfl) (.head _) (LG.refl _ _))) (opsS_cons (.guarded _ (Av.new (j := 1) rfl rfl rfl (Av.new (j := 2) rfl rfl rfl (Av.new (j := 3) rfl rfl rfl (Av.old (t := 100001) rfl rfl (Av.old (t := 100002) rfl rfl Av.nil))))) rfl rfl rfl rfl (fun hb => (Ob.uncond (t := 19) hb rfl ((Ob.uncond (t := 18) hb rfl (ob_callD (args := [_, _]) rfl .direct hb8 (fun a w s fs gs hf hg => by obtain rfl := hf.unnil; obtain rfl := hg.unnil; exact c_code_Both k _ _ _ (ite_t hb e_x5) _ _ (s.env _ _ (show get _ 100001 = _ from rfl)) (s.env _ _ (show get _ 100002 = _ from rfl)) _ _ (s.arg (.tmp rfl)) (s.arg (.tmp rfl))))))))) (opsS_cons (.guarded _ (Av.old (t := 3) rfl rfl (Av.new (j := 1) rfl rfl rfl (Av.old (t := 100001) rfl rfl (Av.old (t := 100002) rfl rfl Av.nil)))) rfl rfl rfl rfl (fun hb => ob_load rfl tk23 (.tmp rfl) (.head _) (LG.refl _ _))) (opsS_cons (.guarded _ (Av.old (t := 2) rfl rfl (Av.new (j := 1) rfl rfl rfl (Av.old (t := 100001) rfl rfl (Av.old (t := 100002) rfl rfl Av.nil)))) rfl rfl rfl rfl (fun hb => ob_load rfl tk23 (.tmp rfl) (.tail _ (.head _)) (LG.refl _ _))) opsS_nil))))))) (out_old (t := 6) rfl rfl (out_new (i := 1) (by decide) rfl rfl (out_new (i := 4) (by decide) rfl rfl (out_new (i := 5) (by decide) rfl rfl (out_new (i := 6) (by decide) rfl rfl (out_old (t := 100001) rfl rfl (out_old (t := 100002) rfl rfl out_nil))))))) fun a28 w28 s28 => ?_
    obtain ⟨x6, e_x6, h8⟩ := bind_some h7; clear h7
    refine seq_opg s28 rfl rfl rfl rfl (of_decide_eq_true rfl) (fun hb => (Ob.uncond (t := 22) hb rfl ((Ob.uncond (t := 21) hb rfl (ob_callD (args := [_, _]) rfl .direct hb8 (fun a w s fs gs hf hg => by obtain rfl := hf.unnil; obtain rfl := hg.unnil; exact c_code_Both k _ _ _ (ite_t hb e_x6) _ _ (s.env _ _ (show get _ 100001 = _ from rfl)) (s.env _ _ (show get _ 100002 = _ from rfl)) _ _ (s.arg (.tmp rfl)) (s.arg (.tmp rfl)))))))) fun a29 w29 s29 => ?_; clear s28
    refine seq_opg s29 rfl rfl rfl rfl (of_decide_eq_true rfl) (fun hb => (Ob.uncond (t := 23) hb rfl ((Ob.uncond (t := 20) hb rfl (ob_seql rfl (.tmp rfl) (.tmp rfl)))))) fun a30 w30 s30 => ?_; clear s29
    refine seq_op s30 rfl rfl (of_decide_eq_true rfl) (ob_and2 rfl (.tmp rfl) (.tmp rfl) opd_bool) fun a31 w31 s31 => ?_; clear s30
    refine seq_op s31 rfl rfl (of_decide_eq_true rfl) (ob_move rfl (.tmp rfl)) fun a32 w32 s32 => ?_; clear s31
    refine seq_opg s32 rfl rfl rfl rfl (of_decide_eq_true rfl) (fun hb => ob_move rfl (.tmp rfl)) fun a33 w33 s33 => ?_; clear s32
    refine seq_opg s33 rfl rfl rfl rfl (of_decide_eq_true rfl) (fun hb => (Ob.uncond (t := 27) hb rfl (ob_eql rfl (.tmp rfl) (opd_int rfl)))) fun a34 w34 s34 => ?_; clear s33
    obtain ⟨x7, e_x7, h9⟩ := bind_some h8; clear h8; replace e_x7 := Option.some.inj e_x7
    refine seq_op s34 rfl rfl (of_decide_eq_true rfl) ((ob_and2 rfl (.tmp rfl) (.tmp rfl) opd_bool).nm e_x7) fun a35 w35 s35 => ?_; clear s34
    refine seq_op s35 rfl rfl (of_decide_eq_true rfl) (ob_assign rfl (.tmp rfl)) fun a36 w36 s36 => ?_; clear s35
    refine wpList_nil ?_
    refine then_normal ?_
    refine hK6 _ _ ?_
    have s37 := s36.sub (.cons (t := 4) rfl (.cons (t := 100001) rfl (.cons (t := 100002) rfl .nil))); clear s36
    have s38 := St.drop (A := []) s37; clear s37
    have s39 := St.drop (A := []) s38; clear s38
    refine wp_ret ?_
    obtain rfl := Option.some.inj h9
    exact leave s39 (.inl rfl) rfl (.cons (.tmp rfl) .nil)

end Go.Proofs.YtankoeffbdnffaaDoor
