/- Each function's code comes to what its plain function answers. No condition. -/
import Derived.Test.YtpihmcfojdkpoaaDoorKWalk2
namespace Go.Proofs.YtpihmcfojdkpoaaDoor
open Go Go.RowKit Go.Proofs.Kit Go.Proofs.Pure
set_option linter.unusedVariables false
set_option linter.unusedSimpArgs false
set_option maxRecDepth 100000
set_option maxHeartbeats 2000000

/- 34 cabal/keyed.Expand -/
theorem c_keyed_Expand (k : Nat) (p1 : (List Int)) (p2 : (List Int)) (p3 : Int) (r : ((List Int) × Int)) (h0 : keyed_Expand k p1 p2 p3 = some r) (ok : Ok) (w0 : World) (gl0 : (ptrTo (karr 8 (kint .u32)) G_digest_first).holds ok w0 (.pointer (some ⟨0, 0, none⟩))) (gl1 : (ptrTo (karr 64 (kint .u32)) G_digest_rounds).holds ok w0 (.pointer (some ⟨1, 0, none⟩))) (z0 : Value) (z1 : Value) (z2 : Value) (u0 : (kstr.V p1).holds ok w0 z0) (u1 : (kstr.V p2).holds ok w0 z1) (u2 : ((kint .i64).V p3).holds ok w0 z2) :
    Gives Tryd.prog 34 [z0, z1, z2] ok w0 (resFact [kstr.V r.1, (kint .i64).V r.2]) := by
  unfold keyed_Expand at h0
  refine enter (N := 41) Tryd.func34 rfl rfl (of_decide_eq_true rfl) (.cons u0 (.cons u1 (.cons u2 .nil))) fun a1 s1 => ?_
  have s2 := s1.keepKnown 100000 gl0 okIn; clear s1
  have s3 := s2.keepKnown 100001 gl1 okIn; clear s2
  refine wp_seq_k fun K1 hK1 => ?_
  refine wp_region_lit ?_
  refine seq_op s3 rfl rfl (of_decide_eq_true rfl) (ob_assign rfl (opd_str (by rfl) (by decide))) fun a4 w4 s4 => ?_; clear s3
  refine seq_op s4 rfl rfl (of_decide_eq_true rfl) (ob_assign rfl (opd_int rfl)) fun a5 w5 s5 => ?_; clear s4
  refine wpList_nil ?_
  refine then_normal ?_
  refine hK1 _ _ ?_
  have s6 := s5.sub (.cons (t := 0) rfl (.cons (t := 1) rfl (.cons (t := 2) rfl (.cons (t := 100000) rfl (.cons (t := 100001) rfl .nil))))); clear s5
  refine wp_seq_k fun K2 hK2 => ?_
  refine wp_seq_k fun K3 hK3 => ?_
  refine wp_region_lit ?_
  refine seq_op s6 rfl rfl (of_decide_eq_true rfl) (ob_move rfl (.tmp rfl)) fun a7 w7 s7 => ?_; clear s6
  refine seq_op s7 rfl rfl (of_decide_eq_true rfl) (ob_lss rfl (.tmp rfl) (opd_int rfl)) fun a8 w8 s8 => ?_; clear s7
  refine seq_op s8 rfl rfl (of_decide_eq_true rfl) (ob_move rfl (.tmp rfl)) fun a9 w9 s9 => ?_; clear s8
  refine seq_opg s9 rfl rfl rfl rfl (of_decide_eq_true rfl) (fun hb => ob_move rfl (.tmp rfl)) fun a10 w10 s10 => ?_; clear s9
  refine seq_opg s10 rfl rfl rfl rfl (of_decide_eq_true rfl) (fun hb => (Ob.uncond (t := 15) hb rfl (ob_gtr rfl (.tmp rfl) (opd_int rfl)))) fun a11 w11 s11 => ?_; clear s10
  obtain ⟨x1, e_x1, h1⟩ := bind_some h0; clear h0; replace e_x1 := Option.some.inj e_x1
  refine seq_op s11 rfl rfl (of_decide_eq_true rfl) ((ob_or2 rfl (.tmp rfl) opd_bool (.tmp rfl)).nm e_x1) fun a12 w12 s12 => ?_; clear s11
  refine wpList_nil ?_
  refine then_normal ?_
  refine hK3 _ _ ?_
  have s13 := s12.sub (.cons (t := 0) rfl (.cons (t := 1) rfl (.cons (t := 2) rfl (.cons (t := 17) rfl (.cons (t := 100000) rfl (.cons (t := 100001) rfl .nil)))))); clear s12
  refine cond_split s13 (.tmp rfl) (fun hc1 => ?_) (fun hc1 => ?_)
  · replace h1 := ite_t hc1 h1
    have h2 := h1; clear h1
    refine wp_seq_k fun K4 hK4 => ?_
    refine wp_region_lit ?_
    refine seq_op s13 rfl rfl (of_decide_eq_true rfl) (ob_assign rfl (opd_str (by rfl) (by decide))) fun a14 w14 s14 => ?_; clear s13
    refine seq_op s14 rfl rfl (of_decide_eq_true rfl) (ob_assign rfl (opd_int rfl)) fun a15 w15 s15 => ?_; clear s14
    refine wpList_nil ?_
    refine then_normal ?_
    refine hK4 _ _ ?_
    have s16 := s15.sub (.cons (t := 6) rfl (.cons (t := 7) rfl (.cons (t := 100000) rfl (.cons (t := 100001) rfl .nil)))); clear s15
    refine wp_ret ?_
    obtain rfl := Option.some.inj h2
    exact leave s16 (.inl rfl) rfl (.cons (.tmp rfl) (.cons (.tmp rfl) .nil))
  · replace h1 := ite_f hc1 h1
    have h3 := h1; clear h1
    refine wp_skip ?_
    refine then_normal ?_
    refine hK2 _ _ ?_
    have s17 := s13.sub (.cons (t := 0) rfl (.cons (t := 1) rfl (.cons (t := 2) rfl (.cons (t := 100000) rfl (.cons (t := 100001) rfl .nil))))); clear s13
    refine wp_seq_k fun K5 hK5 => ?_
    refine wp_region_lit ?_
    refine seq_op s17 rfl rfl (of_decide_eq_true rfl) (ob_assign rfl opd_is) fun a18 w18 s18 => ?_; clear s17
    have s19 := St.adopt s18 (G := RowF (.slice none 0 0) 5 (kint .u8) []) rfl (rowNil _ _ _ _); clear s18
    refine wpList_nil ?_
    refine then_normal ?_
    refine hK5 _ _ ?_
    have s20 := s19.sub (.cons (t := 0) rfl (.cons (t := 1) rfl (.cons (t := 2) rfl (.cons (t := 8) rfl (.cons (t := 100000) rfl (.cons (t := 100001) rfl .nil)))))); clear s19
    refine wp_seq_k fun K6 hK6 => ?_
    refine wp_region_lit ?_
    refine seq_op s20 rfl rfl (of_decide_eq_true rfl) (ob_assign rfl (opd_str (by rfl) (by decide))) fun a21 w21 s21 => ?_; clear s20
    refine wpList_nil ?_
    refine then_normal ?_
    refine hK6 _ _ ?_
    have s22 := s21.sub (.cons (t := 0) rfl (.cons (t := 1) rfl (.cons (t := 2) rfl (.cons (t := 8) rfl (.cons (t := 9) rfl (.cons (t := 100000) rfl (.cons (t := 100001) rfl .nil))))))); clear s21
    refine wp_seq_k fun K7 hK7 => ?_
    refine wp_seq_k fun K8 hK8 => ?_
    refine wp_region_lit ?_
    refine seq_op s22 rfl rfl (of_decide_eq_true rfl) (ob_assign rfl (opd_int rfl)) fun a23 w23 s23 => ?_; clear s22
    refine wpList_nil ?_
    refine then_normal ?_
    refine hK8 _ _ ?_
    have s24 := s23.sub (.cons (t := 0) rfl (.cons (t := 1) rfl (.cons (t := 2) rfl (.cons (t := 8) rfl (.cons (t := 9) rfl (.cons (t := 10) rfl (.cons (t := 100000) rfl (.cons (t := 100001) rfl .nil)))))))); clear s23
    have hj1 : ∀ (y1 : (List Int)) (v1 : Value) (a : Act) (w : World), (keyed_Expand.j1 k p3) y1 = some r → St ⟨41, w0, ok, []⟩ [RowF v1 5 (kint .u8) y1] [(2, ((kint .i64).V p3)), (8, (is v1)), (100000, (known (.pointer (some ⟨0, 0, none⟩)) (ptrTo (karr 8 (kint .u32)) G_digest_first))), (100001, (known (.pointer (some ⟨1, 0, none⟩)) (ptrTo (karr 64 (kint .u32)) G_digest_rounds)))] a w → K7 a w := by
      intro y1 v1 a25 w25 h4 s25
      unfold keyed_Expand.j1 at h4
      refine hK7 _ _ ?_
      refine wp_seq_k fun K9 hK9 => ?_
      refine wp_region_lit ?_
      refine seq_op s25 rfl rfl (of_decide_eq_true rfl) (ob_move rfl (.tmp rfl)) fun a26 w26 s26 => ?_; clear s25
      refine seq_op s26 rfl rfl (of_decide_eq_true rfl) (ob_move rfl (.tmp rfl)) fun a27 w27 s27 => ?_; clear s26
      have s28 := St.freezeAllM (fun _ h => by cases h) (A := []) s27 (ts := [8, 37]) (.cons rfl (.cons rfl .nil))
      obtain ⟨x2, e_x2, h5⟩ := bind_some h4; clear h4
      refine seq_op s28 rfl rfl (of_decide_eq_true rfl) (ob_cuts rfl Tryd.underlying49 sz5 (.tmp rfl) .none (.some (.tmp rfl)) e_x2) fun a29 w29 s29 => ?_; clear s28
      refine seq_op s29 rfl rfl (of_decide_eq_true rfl) (ob_bytesToStr rfl Tryd.underlying49 Tryd.underlying9 Tryd.underlying5 (.tmp rfl)) fun a30 w30 s30 => ?_; clear s29
      refine seq_op s30 rfl rfl (of_decide_eq_true rfl) (ob_assign rfl (.tmp rfl)) fun a31 w31 s31 => ?_; clear s30
      refine seq_op s31 rfl rfl (of_decide_eq_true rfl) (ob_assign rfl (opd_int rfl)) fun a32 w32 s32 => ?_; clear s31
      refine wpList_nil ?_
      refine then_normal ?_
      refine hK9 _ _ ?_
      have s33 := s32.sub (.cons (t := 6) rfl (.cons (t := 7) rfl (.cons (t := 100000) rfl (.cons (t := 100001) rfl .nil)))); clear s32
      refine wp_ret ?_
      obtain rfl := Option.some.inj h5
      exact leave s33 (.inl rfl) rfl (.cons (.tmp rfl) (.cons (.tmp rfl) .nil))
    refine wp_block ?_
    refine wp_loop_fuel (fun m (q : (List Int) × (List Int) × Int) => keyed_Expand.l1 k p3 p1 p2 m q.1 q.2.1 q.2.2) r (fun _ => rfl) (fun q a w => ∃ (v2 : Value), St ⟨41, w0, ok, []⟩ [RowF v2 5 (kint .u8) q.1] [(0, (kstr.V p1)), (1, (kstr.V p2)), (2, ((kint .i64).V p3)), (8, (is v2)), (9, (kstr.V q.2.1)), (10, ((kint .u8).V q.2.2)), (100000, (known (.pointer (some ⟨0, 0, none⟩)) (ptrTo (karr 8 (kint .u32)) G_digest_first))), (100001, (known (.pointer (some ⟨1, 0, none⟩)) (ptrTo (karr 64 (kint .u32)) G_digest_rounds)))] a w) ?_ k ([], ([] : List Int), (1 : Int)) _ _ h3 ⟨(.slice none 0 0), (s24.sub (.cons rfl (.cons rfl (.cons rfl (.cons rfl (.cons rfl (.cons rfl (.cons rfl (.cons rfl .nil)))))))))⟩
    rintro n1 ⟨y2, y3, y4⟩ a34 w34 h6 ⟨v2, s34⟩ K10 hK10
    replace h6 : keyed_Expand.l1 k p3 p1 p2 (n1 + 1) y2 y3 y4 = some r := h6; rw [keyed_Expand.l1] at h6
    have h7 := h6; clear h6
    refine wp_seq_k fun K11 hK11 => ?_
    refine wp_seq_k fun K12 hK12 => ?_
    refine wp_region_lit ?_
    refine seq_op s34 rfl rfl (of_decide_eq_true rfl) (ob_move rfl (.tmp rfl)) fun a35 w35 s35 => ?_; clear s34
    refine seq_op s35 rfl rfl (of_decide_eq_true rfl) (ob_lenRow rfl Tryd.underlying49 (.tmp rfl) (List.Mem.head _)) fun a36 w36 s36 => ?_; clear s35
    refine seq_op s36 rfl rfl (of_decide_eq_true rfl) (ob_move rfl (.tmp rfl)) fun a37 w37 s37 => ?_; clear s36
    refine seq_op s37 rfl rfl (of_decide_eq_true rfl) (ob_lss rfl (.tmp rfl) (.tmp rfl)) fun a38 w38 s38 => ?_; clear s37
    refine wpList_nil ?_
    refine then_normal ?_
    refine hK12 _ _ ?_
    have s39 := s38.sub (.cons (t := 0) rfl (.cons (t := 1) rfl (.cons (t := 2) rfl (.cons (t := 8) rfl (.cons (t := 9) rfl (.cons (t := 10) rfl (.cons (t := 21) rfl (.cons (t := 100000) rfl (.cons (t := 100001) rfl .nil))))))))); clear s38
    refine cond_split s39 (.tmp rfl) (fun hc2 => ?_) (fun hc2 => ?_)
    · replace h7 := ite_t hc2 h7
      have h8 := h7; clear h7
      refine wp_skip ?_
      refine then_normal ?_
      refine hK11 _ _ ?_
      have s40 := s39.sub (.cons (t := 0) rfl (.cons (t := 1) rfl (.cons (t := 2) rfl (.cons (t := 8) rfl (.cons (t := 9) rfl (.cons (t := 10) rfl (.cons (t := 100000) rfl (.cons (t := 100001) rfl .nil)))))))); clear s39
      refine wp_seq_k fun K13 hK13 => ?_
      refine wp_block ?_
      refine wp_seq_k fun K14 hK14 => ?_
      refine wp_region_lit ?_
      refine seq_op s40 rfl rfl (of_decide_eq_true rfl) (ob_move rfl (.tmp rfl)) fun a41 w41 s41 => ?_; clear s40
      refine seq_op s41 rfl rfl (of_decide_eq_true rfl) (ob_move rfl (.tmp rfl)) fun a42 w42 s42 => ?_; clear s41
      refine seq_op s42 rfl rfl (of_decide_eq_true rfl) (ob_move rfl (.tmp rfl)) fun a43 w43 s43 => ?_; clear s42
      refine seq_op s43 rfl rfl (of_decide_eq_true rfl) (ob_move rfl (.tmp rfl)) fun a44 w44 s44 => ?_; clear s43
      refine seq_op s44 rfl rfl (of_decide_eq_true rfl) (ob_mkSlice (k := (kint .u8)) (xs := ([y4] : (List Int))) rfl Tryd.underlying49 zz5 sz5 (Zr.int .u8) (by decide) (by decide) (.cons (.tmp rfl) rfl (LS.arr' (i := 0) (ys := ([y4] : (List Int))) (by simp) (by rfl)) (.nil _))) fun a45 w45 s45 => ?_; clear s44
      refine seq_op s45 rfl rfl (of_decide_eq_true rfl) (ob_bytesToStr rfl Tryd.underlying49 Tryd.underlying9 Tryd.underlying5 (.tmp rfl)) fun a46 w46 s46 => ?_; clear s45
      refine seq_op s46 rfl rfl (of_decide_eq_true rfl) (ob_mkSlice (k := kstr) (xs := ([y3, p2, ([y4] : (List Int))] : (List (List Int)))) rfl Tryd.underlying22 zz9 sz9 Zr.str (by decide) (by decide) (.cons (.tmp rfl) rfl (LS.arr' (i := 0) (ys := ([y3, [], []] : (List (List Int)))) (by simp) (by rfl)) (.cons (.tmp rfl) rfl (LS.arr' (i := 1) (ys := ([y3, p2, []] : (List (List Int)))) (by simp) (by rfl)) (.cons (.tmp rfl) rfl (LS.arr' (i := 2) (ys := ([y3, p2, ([y4] : (List Int))] : (List (List Int)))) (by simp) (by rfl)) (.nil _))))) fun a47 w47 s47 => ?_; clear s46
      obtain ⟨x3, e_x3, h9⟩ := bind_some h8; clear h8
      refine seq_op s47 rfl rfl (of_decide_eq_true rfl) (ob_calls rfl hb27 (fun a w s => c_keyed_Tag k _ _ _ e_x3 _ _ (s.env _ _ (show get _ 100000 = _ from rfl)) (s.env _ _ (show get _ 100001 = _ from rfl)) _ _ (s.arg (.tmp rfl)) (s.arg (.tmp rfl)))) fun a48 w48 s48 => ?_; clear s47
      refine seq_opx s48 rfl rfl (of_decide_eq_true rfl) (ob_new (k := (karr 32 (kint .u8))) rfl zz26 (Zr.arr 32 (Zr.int .u8))) fun b1 a49 w49 s49 => ?_; clear s48
      refine seq_opx0 (B' := fun _ => [BF b1 26 (karr 32 (kint .u8)) x3, RowF v2 5 (kint .u8) y2]) s49 rfl rfl (ob_store (A := []) rfl tk26 (.tmp rfl) (.tmp rfl) rfl (LS.refl _ _ _) rfl) fun _ a50 w50 s50 => ?_; clear s49
      refine wpList_nil ?_
      refine then_normal ?_
      refine hK14 _ _ ?_
      have s51 := s50.sub (.cons (t := 0) rfl (.cons (t := 1) rfl (.cons (t := 2) rfl (.cons (t := 8) rfl (.cons (t := 10) rfl (.cons (t := 11) rfl (.cons (t := 100000) rfl (.cons (t := 100001) rfl .nil)))))))); clear s50
      refine wp_seq_k fun K15 hK15 => ?_
      refine wp_region_lit ?_
      refine seq_op s51 rfl rfl (of_decide_eq_true rfl) (ob_sliceArr rfl Tryd.underlying26 sz5 (.tmp rfl) .none .none (show (0 : Int) ≤ (0 : Int) ∧ (0 : Int) ≤ (32 : Int) ∧ (32 : Int) ≤ ((32 : Nat) : Int) by decide)) fun a52 w52 s52 => ?_; clear s51
      obtain ⟨x4, e_x4, h10⟩ := bind_some h9; clear h9
      refine seq_op s52 rfl rfl (of_decide_eq_true rfl) ((ob_lend (t := 32) (A := []) rfl rfl rfl (Flat.V KFlat.str) (lendSl (LG.refl _ _) e_x4 rfl (cut_len e_x4) (cut_cap e_x4 (show (0 : Int) ≤ (0 : Int) ∧ (0 : Int) ≤ (32 : Int) ∧ (32 : Int) ≤ ((32 : Nat) : Int) by decide) (by decide))) (fun _ => ob_bytesToStr rfl Tryd.underlying49 Tryd.underlying9 Tryd.underlying5 (.tmp rfl)))) fun a53 w53 s53 => ?_; clear s52
      refine seq_op s53 rfl rfl (of_decide_eq_true rfl) (ob_assign rfl (.tmp rfl)) fun a54 w54 s54 => ?_; clear s53
      refine wpList_nil ?_
      refine then_normal ?_
      refine hK15 _ _ ?_
      have s55 := s54.sub (.cons (t := 0) rfl (.cons (t := 1) rfl (.cons (t := 2) rfl (.cons (t := 8) rfl (.cons (t := 9) rfl (.cons (t := 10) rfl (.cons (t := 100000) rfl (.cons (t := 100001) rfl .nil)))))))); clear s54
      have s56 := St.drop (A := []) s55; clear s55
      refine wp_region_lit ?_
      refine seq_op s56 rfl rfl (of_decide_eq_true rfl) (ob_move rfl (.tmp rfl)) fun a57 w57 s57 => ?_; clear s56
      refine seq_op s57 rfl rfl (of_decide_eq_true rfl) (ob_move rfl (.tmp rfl)) fun a58 w58 s58 => ?_; clear s57
      obtain ⟨g1, h11⟩ := guard_some h10; clear h10
      refine seq_opx s58 rfl rfl (of_decide_eq_true rfl) (ob_appendStr (A := []) rfl Tryd.underlying49 Tryd.underlying9 ap5 by5 (.tmp rfl) (.tmp rfl) rfl g1) fun v3 a59 w59 s59 => ?_; clear s58
      refine seq_op s59 rfl rfl (of_decide_eq_true rfl) (ob_assign rfl (.tmp rfl)) fun a60 w60 s60 => ?_; clear s59
      refine wpList_nil ?_
      refine in_normal ?_
      refine then_normal ?_
      refine hK13 _ _ ?_
      have s61 := s60.sub (.cons (t := 0) rfl (.cons (t := 1) rfl (.cons (t := 2) rfl (.cons (t := 8) rfl (.cons (t := 9) rfl (.cons (t := 10) rfl (.cons (t := 100000) rfl (.cons (t := 100001) rfl .nil)))))))); clear s60
      refine wp_region_lit ?_
      refine seq_op s61 rfl rfl (of_decide_eq_true rfl) (ob_move rfl (.tmp rfl)) fun a62 w62 s62 => ?_; clear s61
      refine seq_op s62 rfl rfl (of_decide_eq_true rfl) (ob_add rfl (.tmp rfl) (opd_int rfl)) fun a63 w63 s63 => ?_; clear s62
      refine seq_op s63 rfl rfl (of_decide_eq_true rfl) (ob_assign rfl (.tmp rfl)) fun a64 w64 s64 => ?_; clear s63
      refine wpList_nil ?_
      refine then_normal ?_
      exact hK10 ((y2 ++ x4), x4, (iadd .u8 y4 (1 : Int))) _ _ h11 ⟨v3, (s64.sub (.cons rfl (.cons rfl (.cons rfl (.cons rfl (.cons rfl (.cons rfl (.cons rfl (.cons rfl .nil)))))))))⟩
    · replace h7 := ite_f hc2 h7
      have h12 := h7; clear h7
      refine wp_exit ?_
      refine (then_exit (then_exit (in_here ?_)))
      refine then_normal ?_
      exact hj1 y2 v2 _ _ h12 (s39.sub (.cons rfl (.cons rfl (.cons rfl (.cons rfl .nil)))))

/- 35 cabal/cabalref02.Expand -/
theorem c_cabalref02_Expand (k : Nat) (p1 : (List Int)) (p2 : (List Int)) (p3 : Int) (r : (List Int)) (h0 : cabalref02_Expand k p1 p2 p3 = some r) (ok : Ok) (w0 : World) (z0 : Value) (z1 : Value) (z2 : Value) (u0 : (kstr.V p1).holds ok w0 z0) (u1 : (kstr.V p2).holds ok w0 z1) (u2 : ((kint .i64).V p3).holds ok w0 z2) :
    Gives Tryd.prog 35 [z0, z1, z2] ok w0 (resFact [kstr.V r]) := by
  unfold cabalref02_Expand at h0
  refine enter (N := 33) Tryd.func35 rfl rfl (of_decide_eq_true rfl) (.cons u0 (.cons u1 (.cons u2 .nil))) fun a1 s1 => ?_
  refine wp_seq_k fun K1 hK1 => ?_
  refine wp_region_lit ?_
  refine seq_op s1 rfl rfl (of_decide_eq_true rfl) (ob_assign rfl (opd_str (by rfl) (by decide))) fun a2 w2 s2 => ?_; clear s1
  refine wpList_nil ?_
  refine then_normal ?_
  refine hK1 _ _ ?_
  have s3 := s2.sub (.cons (t := 0) rfl (.cons (t := 1) rfl (.cons (t := 2) rfl .nil))); clear s2
  refine wp_seq_k fun K2 hK2 => ?_
  refine wp_region_lit ?_
  refine seq_op s3 rfl rfl (of_decide_eq_true rfl) (ob_assign rfl (opd_str (by rfl) (by decide))) fun a4 w4 s4 => ?_; clear s3
  refine seq_op s4 rfl rfl (of_decide_eq_true rfl) (ob_assign rfl (opd_str (by rfl) (by decide))) fun a5 w5 s5 => ?_; clear s4
  refine wpList_nil ?_
  refine then_normal ?_
  refine hK2 _ _ ?_
  have s6 := s5.sub (.cons (t := 0) rfl (.cons (t := 1) rfl (.cons (t := 2) rfl (.cons (t := 7) rfl (.cons (t := 8) rfl .nil))))); clear s5
  refine wp_seq_k fun K3 hK3 => ?_
  refine wp_seq_k fun K4 hK4 => ?_
  refine wp_region_lit ?_
  refine seq_op s6 rfl rfl (of_decide_eq_true rfl) (ob_assign rfl (opd_int rfl)) fun a7 w7 s7 => ?_; clear s6
  refine wpList_nil ?_
  refine then_normal ?_
  refine hK4 _ _ ?_
  have s8 := s7.sub (.cons (t := 0) rfl (.cons (t := 1) rfl (.cons (t := 2) rfl (.cons (t := 7) rfl (.cons (t := 8) rfl (.cons (t := 9) rfl .nil)))))); clear s7
  have hj1 : ∀ (y1 : (List Int)) (a : Act) (w : World), (cabalref02_Expand.j1 k p3) y1 = some r → St ⟨33, w0, ok, []⟩ [] [(2, ((kint .i64).V p3)), (7, (kstr.V y1))] a w → K3 a w := by
    intro y1 a9 w9 h1 s9
    unfold cabalref02_Expand.j1 at h1
    refine hK3 _ _ ?_
    refine wp_seq_k fun K5 hK5 => ?_
    refine wp_region_lit ?_
    refine seq_op s9 rfl rfl (of_decide_eq_true rfl) (ob_move rfl (.tmp rfl)) fun a10 w10 s10 => ?_; clear s9
    refine seq_op s10 rfl rfl (of_decide_eq_true rfl) (ob_move rfl (.tmp rfl)) fun a11 w11 s11 => ?_; clear s10
    obtain ⟨x1, e_x1, h2⟩ := bind_some h1; clear h1
    refine seq_op s11 rfl rfl (of_decide_eq_true rfl) (ob_cutStr rfl Tryd.underlying9 (.tmp rfl) .none (.some (.tmp rfl)) e_x1) fun a12 w12 s12 => ?_; clear s11
    refine seq_op s12 rfl rfl (of_decide_eq_true rfl) (ob_assign rfl (.tmp rfl)) fun a13 w13 s13 => ?_; clear s12
    refine wpList_nil ?_
    refine then_normal ?_
    refine hK5 _ _ ?_
    have s14 := s13.sub (.cons (t := 6) rfl .nil); clear s13
    refine wp_ret ?_
    obtain rfl := Option.some.inj h2
    exact leave s14 (.inl rfl) rfl (.cons (.tmp rfl) .nil)
  refine wp_block ?_
  refine wp_loop_fuel (fun m (q : (List Int) × (List Int) × Int) => cabalref02_Expand.l1 k p3 p2 p1 m q.1 q.2.1 q.2.2) r (fun _ => rfl) (fun q a w => St ⟨33, w0, ok, []⟩ [] [(0, (kstr.V p1)), (1, (kstr.V p2)), (2, ((kint .i64).V p3)), (7, (kstr.V q.1)), (8, (kstr.V q.2.1)), (9, ((kint .i64).V q.2.2))] a w) ?_ k (([] : List Int), ([] : List Int), (1 : Int)) _ _ h0 (s8.sub (.cons rfl (.cons rfl (.cons rfl (.cons rfl (.cons rfl (.cons rfl .nil)))))))
  rintro n1 ⟨y2, y3, y4⟩ a15 w15 h3 s15 K6 hK6
  replace h3 : cabalref02_Expand.l1 k p3 p2 p1 (n1 + 1) y2 y3 y4 = some r := h3; rw [cabalref02_Expand.l1] at h3
  have h4 := h3; clear h3
  refine wp_seq_k fun K7 hK7 => ?_
  refine wp_seq_k fun K8 hK8 => ?_
  refine wp_region_lit ?_
  refine seq_op s15 rfl rfl (of_decide_eq_true rfl) (ob_move rfl (.tmp rfl)) fun a16 w16 s16 => ?_; clear s15
  refine seq_op s16 rfl rfl (of_decide_eq_true rfl) (ob_lenStr rfl Tryd.underlying9 (.tmp rfl)) fun a17 w17 s17 => ?_; clear s16
  refine seq_op s17 rfl rfl (of_decide_eq_true rfl) (ob_move rfl (.tmp rfl)) fun a18 w18 s18 => ?_; clear s17
  refine seq_op s18 rfl rfl (of_decide_eq_true rfl) (ob_lss rfl (.tmp rfl) (.tmp rfl)) fun a19 w19 s19 => ?_; clear s18
  refine wpList_nil ?_
  refine then_normal ?_
  refine hK8 _ _ ?_
  have s20 := s19.sub (.cons (t := 0) rfl (.cons (t := 1) rfl (.cons (t := 2) rfl (.cons (t := 7) rfl (.cons (t := 8) rfl (.cons (t := 9) rfl (.cons (t := 13) rfl .nil))))))); clear s19
  refine cond_split s20 (.tmp rfl) (fun hc1 => ?_) (fun hc1 => ?_)
  · replace h4 := ite_t hc1 h4
    have h5 := h4; clear h4
    refine wp_skip ?_
    refine then_normal ?_
    refine hK7 _ _ ?_
    have s21 := s20.sub (.cons (t := 0) rfl (.cons (t := 1) rfl (.cons (t := 2) rfl (.cons (t := 7) rfl (.cons (t := 8) rfl (.cons (t := 9) rfl .nil)))))); clear s20
    refine wp_seq_k fun K9 hK9 => ?_
    refine wp_block ?_
    refine wp_seq_k fun K10 hK10 => ?_
    refine wp_region_lit ?_
    refine seq_op s21 rfl rfl (of_decide_eq_true rfl) (ob_move rfl (.tmp rfl)) fun a22 w22 s22 => ?_; clear s21
    refine seq_op s22 rfl rfl (of_decide_eq_true rfl) (ob_move rfl (.tmp rfl)) fun a23 w23 s23 => ?_; clear s22
    refine seq_op s23 rfl rfl (of_decide_eq_true rfl) (ob_move rfl (.tmp rfl)) fun a24 w24 s24 => ?_; clear s23
    obtain ⟨g1, h6⟩ := guard_some h5; clear h5
    refine seq_op s24 rfl rfl (of_decide_eq_true rfl) (ob_cat rfl (.tmp rfl) (.tmp rfl) g1) fun a25 w25 s25 => ?_; clear s24
    refine seq_op s25 rfl rfl (of_decide_eq_true rfl) (ob_move rfl (.tmp rfl)) fun a26 w26 s26 => ?_; clear s25
    refine seq_op s26 rfl rfl (of_decide_eq_true rfl) (ob_conv rfl _ Tryd.underlying3 Tryd.underlying5 (.tmp rfl)) fun a27 w27 s27 => ?_; clear s26
    refine seq_op s27 rfl rfl (of_decide_eq_true rfl) (ob_mkSlice (k := (kint .u8)) (xs := ([(IntKind.wrap .u8 y4)] : (List Int))) rfl Tryd.underlying49 zz5 sz5 (Zr.int .u8) (by decide) (by decide) (.cons (.tmp rfl) rfl (LS.arr' (i := 0) (ys := ([(IntKind.wrap .u8 y4)] : (List Int))) (by simp) (by rfl)) (.nil _))) fun a28 w28 s28 => ?_; clear s27
    refine seq_op s28 rfl rfl (of_decide_eq_true rfl) (ob_bytesToStr rfl Tryd.underlying49 Tryd.underlying9 Tryd.underlying5 (.tmp rfl)) fun a29 w29 s29 => ?_; clear s28
    obtain ⟨g2, h7⟩ := guard_some h6; clear h6
    refine seq_op s29 rfl rfl (of_decide_eq_true rfl) (ob_cat rfl (.tmp rfl) (.tmp rfl) g2) fun a30 w30 s30 => ?_; clear s29
    obtain ⟨x2, e_x2, h8⟩ := bind_some h7; clear h7
    refine seq_op s30 rfl rfl (of_decide_eq_true rfl) (ob_calls rfl hb29 (fun a w s => c_cabalref02_Tag k _ _ _ e_x2 _ _ _ _ (s.arg (.tmp rfl)) (s.arg (.tmp rfl)))) fun a31 w31 s31 => ?_; clear s30
    obtain ⟨x3, e_x3, h9⟩ := bind_some h8; clear h8
    refine seq_op s31 rfl rfl (of_decide_eq_true rfl) (ob_calls rfl hb49 (fun a w s => c_cabalref02_Text k _ _ e_x3 _ _ _ (s.arg (.tmp rfl)))) fun a32 w32 s32 => ?_; clear s31
    refine seq_op s32 rfl rfl (of_decide_eq_true rfl) (ob_assign rfl (.tmp rfl)) fun a33 w33 s33 => ?_; clear s32
    refine wpList_nil ?_
    refine then_normal ?_
    refine hK10 _ _ ?_
    have s34 := s33.sub (.cons (t := 0) rfl (.cons (t := 1) rfl (.cons (t := 2) rfl (.cons (t := 7) rfl (.cons (t := 8) rfl (.cons (t := 9) rfl .nil)))))); clear s33
    refine wp_region_lit ?_
    refine seq_op s34 rfl rfl (of_decide_eq_true rfl) (ob_move rfl (.tmp rfl)) fun a35 w35 s35 => ?_; clear s34
    refine seq_op s35 rfl rfl (of_decide_eq_true rfl) (ob_move rfl (.tmp rfl)) fun a36 w36 s36 => ?_; clear s35
    obtain ⟨g3, h10⟩ := guard_some h9; clear h9
    refine seq_op s36 rfl rfl (of_decide_eq_true rfl) (ob_cat rfl (.tmp rfl) (.tmp rfl) g3) fun a37 w37 s37 => ?_; clear s36
    refine seq_op s37 rfl rfl (of_decide_eq_true rfl) (ob_assign rfl (.tmp rfl)) fun a38 w38 s38 => ?_; clear s37
    refine wpList_nil ?_
    refine in_normal ?_
    refine then_normal ?_
    refine hK9 _ _ ?_
    have s39 := s38.sub (.cons (t := 0) rfl (.cons (t := 1) rfl (.cons (t := 2) rfl (.cons (t := 7) rfl (.cons (t := 8) rfl (.cons (t := 9) rfl .nil)))))); clear s38
    refine wp_region_lit ?_
    refine seq_op s39 rfl rfl (of_decide_eq_true rfl) (ob_move rfl (.tmp rfl)) fun a40 w40 s40 => ?_; clear s39
    refine seq_op s40 rfl rfl (of_decide_eq_true rfl) (ob_add rfl (.tmp rfl) (opd_int rfl)) fun a41 w41 s41 => ?_; clear s40
    refine seq_op s41 rfl rfl (of_decide_eq_true rfl) (ob_assign rfl (.tmp rfl)) fun a42 w42 s42 => ?_; clear s41
    refine wpList_nil ?_
    refine then_normal ?_
    exact hK6 ((y2 ++ x3), x3, (iadd .i64 y4 (1 : Int))) _ _ h10 (s42.sub (.cons rfl (.cons rfl (.cons rfl (.cons rfl (.cons rfl (.cons rfl .nil)))))))
  · replace h4 := ite_f hc1 h4
    have h11 := h4; clear h4
    refine wp_exit ?_
    refine (then_exit (then_exit (in_here ?_)))
    refine then_normal ?_
    exact hj1 y2 _ _ h11 (s20.sub (.cons rfl (.cons rfl .nil)))

/- 12 cabal/caballaw02.KeyedExpands -/
theorem c_caballaw02_KeyedExpands (k : Nat) (p1 : (List Int)) (p2 : (List Int)) (p3 : Int) (r : Bool) (h0 : caballaw02_KeyedExpands k p1 p2 p3 = some r) (ok : Ok) (w0 : World) (gl0 : (ptrTo (karr 8 (kint .u32)) G_digest_first).holds ok w0 (.pointer (some ⟨0, 0, none⟩))) (gl1 : (ptrTo (karr 64 (kint .u32)) G_digest_rounds).holds ok w0 (.pointer (some ⟨1, 0, none⟩))) (z0 : Value) (z1 : Value) (z2 : Value) (u0 : (kstr.V p1).holds ok w0 z0) (u1 : (kstr.V p2).holds ok w0 z1) (u2 : ((kint .i64).V p3).holds ok w0 z2) :
    Gives Tryd.prog 12 [z0, z1, z2] ok w0 (resFact [kbool.V r]) := by
  unfold caballaw02_KeyedExpands at h0
  refine enter (N := 55) Tryd.func12 rfl rfl (of_decide_eq_true rfl) (.cons u0 (.cons u1 (.cons u2 .nil))) fun a1 s1 => ?_
  have s2 := s1.keepKnown 100000 gl0 okIn; clear s1
  have s3 := s2.keepKnown 100001 gl1 okIn; clear s2
  refine wp_seq_k fun K1 hK1 => ?_
  refine wp_region_lit ?_
  refine seq_op s3 rfl rfl (of_decide_eq_true rfl) (ob_assign rfl opd_bool) fun a4 w4 s4 => ?_; clear s3
  refine wpList_nil ?_
  refine then_normal ?_
  refine hK1 _ _ ?_
  have s5 := s4.sub (.cons (t := 0) rfl (.cons (t := 1) rfl (.cons (t := 2) rfl (.cons (t := 100000) rfl (.cons (t := 100001) rfl .nil))))); clear s4
  refine wp_seq_k fun K2 hK2 => ?_
  refine wp_seq_k fun K3 hK3 => ?_
  refine wp_region_lit ?_
  obtain ⟨x1, e_x1, h1⟩ := bind_some h0; clear h0
  refine seq_op s5 rfl rfl (of_decide_eq_true rfl) (ob_calls rfl hb26 (fun a w s => c_caballaw02_alive k _ e_x1 _ _ (s.env _ _ (show get _ 100000 = _ from rfl)) (s.env _ _ (show get _ 100001 = _ from rfl)))) fun a6 w6 s6 => ?_; clear s5
  refine seq_op s6 rfl rfl (of_decide_eq_true rfl) (ob_not rfl (.tmp rfl)) fun a7 w7 s7 => ?_; clear s6
  refine wpList_nil ?_
  refine then_normal ?_
  refine hK3 _ _ ?_
  have s8 := s7.sub (.cons (t := 0) rfl (.cons (t := 1) rfl (.cons (t := 2) rfl (.cons (t := 10) rfl (.cons (t := 100000) rfl (.cons (t := 100001) rfl .nil)))))); clear s7
  refine cond_split s8 (.tmp rfl) (fun hc1 => ?_) (fun hc1 => ?_)
  · replace h1 := ite_t hc1 h1
    have h2 := h1; clear h1
    refine wp_seq_k fun K4 hK4 => ?_
    refine wp_region_lit ?_
    refine seq_op s8 rfl rfl (of_decide_eq_true rfl) (ob_assign rfl opd_bool) fun a9 w9 s9 => ?_; clear s8
    refine wpList_nil ?_
    refine then_normal ?_
    refine hK4 _ _ ?_
    have s10 := s9.sub (.cons (t := 6) rfl (.cons (t := 100000) rfl (.cons (t := 100001) rfl .nil))); clear s9
    refine wp_ret ?_
    obtain rfl := Option.some.inj h2
    exact leave s10 (.inl rfl) rfl (.cons (.tmp rfl) .nil)
  · replace h1 := ite_f hc1 h1
    have h3 := h1; clear h1
    refine wp_skip ?_
    refine then_normal ?_
    refine hK2 _ _ ?_
    have s11 := s8.sub (.cons (t := 0) rfl (.cons (t := 1) rfl (.cons (t := 2) rfl (.cons (t := 100000) rfl (.cons (t := 100001) rfl .nil))))); clear s8
    refine wp_seq_k fun K5 hK5 => ?_
    refine wp_seq_k fun K6 hK6 => ?_
    refine wp_region_lit ?_
    refine seq_op s11 rfl rfl (of_decide_eq_true rfl) (ob_move rfl (.tmp rfl)) fun a12 w12 s12 => ?_; clear s11
    refine seq_op s12 rfl rfl (of_decide_eq_true rfl) (ob_lenStr rfl Tryd.underlying9 (.tmp rfl)) fun a13 w13 s13 => ?_; clear s12
    refine seq_op s13 rfl rfl (of_decide_eq_true rfl) (ob_gtr rfl (.tmp rfl) (opd_int rfl)) fun a14 w14 s14 => ?_; clear s13
    refine seq_op s14 rfl rfl (of_decide_eq_true rfl) (ob_move rfl (.tmp rfl)) fun a15 w15 s15 => ?_; clear s14
    refine seq_opg s15 rfl rfl rfl rfl (of_decide_eq_true rfl) (fun hb => ob_move rfl (.tmp rfl)) fun a16 w16 s16 => ?_; clear s15
    refine seq_opg s16 rfl rfl rfl rfl (of_decide_eq_true rfl) (fun hb => (Ob.uncond (t := 15) hb rfl (ob_lenStr rfl Tryd.underlying9 (.tmp rfl)))) fun a17 w17 s17 => ?_; clear s16
    refine seq_opg s17 rfl rfl rfl rfl (of_decide_eq_true rfl) (fun hb => (Ob.uncond (t := 16) hb rfl (ob_gtr rfl (.tmp rfl) (opd_int rfl)))) fun a18 w18 s18 => ?_; clear s17
    obtain ⟨x2, e_x2, h4⟩ := bind_some h3; clear h3; replace e_x2 := Option.some.inj e_x2
    refine seq_op s18 rfl rfl (of_decide_eq_true rfl) ((ob_or2 rfl (.tmp rfl) opd_bool (.tmp rfl)).nm e_x2) fun a19 w19 s19 => ?_; clear s18
    refine wpList_nil ?_
    refine then_normal ?_
    refine hK6 _ _ ?_
    have s20 := s19.sub (.cons (t := 0) rfl (.cons (t := 1) rfl (.cons (t := 2) rfl (.cons (t := 18) rfl (.cons (t := 100000) rfl (.cons (t := 100001) rfl .nil)))))); clear s19
    refine cond_split s20 (.tmp rfl) (fun hc2 => ?_) (fun hc2 => ?_)
    · replace h4 := ite_t hc2 h4
      have h5 := h4; clear h4
      refine wp_seq_k fun K7 hK7 => ?_
      refine wp_region_lit ?_
      obtain ⟨x3, e_x3, h6⟩ := bind_some h5; clear h5
      refine seq_op s20 rfl rfl (of_decide_eq_true rfl) (ob_calls rfl hb26 (fun a w s => c_caballaw02_alive k _ e_x3 _ _ (s.env _ _ (show get _ 100000 = _ from rfl)) (s.env _ _ (show get _ 100001 = _ from rfl)))) fun a21 w21 s21 => ?_; clear s20
      refine seq_op s21 rfl rfl (of_decide_eq_true rfl) (ob_assign rfl (.tmp rfl)) fun a22 w22 s22 => ?_; clear s21
      refine wpList_nil ?_
      refine then_normal ?_
      refine hK7 _ _ ?_
      have s23 := s22.sub (.cons (t := 6) rfl (.cons (t := 100000) rfl (.cons (t := 100001) rfl .nil))); clear s22
      refine wp_ret ?_
      obtain rfl := Option.some.inj h6
      exact leave s23 (.inl rfl) rfl (.cons (.tmp rfl) .nil)
    · replace h4 := ite_f hc2 h4
      have h7 := h4; clear h4
      refine wp_skip ?_
      refine then_normal ?_
      refine hK5 _ _ ?_
      have s24 := s20.sub (.cons (t := 0) rfl (.cons (t := 1) rfl (.cons (t := 2) rfl (.cons (t := 100000) rfl (.cons (t := 100001) rfl .nil))))); clear s20
      refine wp_seq_k fun K8 hK8 => ?_
      refine wp_region_lit ?_
      refine seq_op s24 rfl rfl (of_decide_eq_true rfl) (ob_move rfl (.tmp rfl)) fun a25 w25 s25 => ?_; clear s24
      refine seq_op s25 rfl rfl (of_decide_eq_true rfl) (ob_move rfl (.tmp rfl)) fun a26 w26 s26 => ?_; clear s25
      refine seq_op s26 rfl rfl (of_decide_eq_true rfl) (ob_move rfl (.tmp rfl)) fun a27 w27 s27 => ?_; clear s26
      obtain ⟨x4, e_x4, h8⟩ := bind_some h7; clear h7
      refine seq_op s27 rfl rfl (of_decide_eq_true rfl) (ob_calls rfl hb34 (fun a w s => c_keyed_Expand k _ _ _ _ e_x4 _ _ (s.env _ _ (show get _ 100000 = _ from rfl)) (s.env _ _ (show get _ 100001 = _ from rfl)) _ _ _ (s.arg (.tmp rfl)) (s.arg (.tmp rfl)) (s.arg (.tmp rfl)))) fun a28 w28 s28 => ?_; clear s27
      refine seq_op s28 rfl rfl (of_decide_eq_true rfl) (ob_move rfl (.tmp rfl)) fun a29 w29 s29 => ?_; clear s28
      refine seq_op s29 rfl rfl (of_decide_eq_true rfl) (ob_extract rfl (.tmp rfl) rfl) fun a30 w30 s30 => ?_; clear s29
      refine seq_op s30 rfl rfl (of_decide_eq_true rfl) (ob_extract rfl (.tmp rfl) rfl) fun a31 w31 s31 => ?_; clear s30
      refine seq_op s31 rfl rfl (of_decide_eq_true rfl) (ob_assign rfl (.tmp rfl)) fun a32 w32 s32 => ?_; clear s31
      refine seq_op s32 rfl rfl (of_decide_eq_true rfl) (ob_assign rfl (.tmp rfl)) fun a33 w33 s33 => ?_; clear s32
      refine wpList_nil ?_
      refine then_normal ?_
      refine hK8 _ _ ?_
      have s34 := s33.sub (.cons (t := 0) rfl (.cons (t := 1) rfl (.cons (t := 2) rfl (.cons (t := 7) rfl (.cons (t := 8) rfl (.cons (t := 100000) rfl (.cons (t := 100001) rfl .nil))))))); clear s33
      refine wp_seq_k fun K9 hK9 => ?_
      refine wp_seq_k fun K10 hK10 => ?_
      refine wp_region_lit ?_
      refine seq_op s34 rfl rfl (of_decide_eq_true rfl) (ob_move rfl (.tmp rfl)) fun a35 w35 s35 => ?_; clear s34
      refine seq_op s35 rfl rfl (of_decide_eq_true rfl) (ob_lss rfl (.tmp rfl) (opd_int rfl)) fun a36 w36 s36 => ?_; clear s35
      refine seq_op s36 rfl rfl (of_decide_eq_true rfl) (ob_move rfl (.tmp rfl)) fun a37 w37 s37 => ?_; clear s36
      refine seq_opg s37 rfl rfl rfl rfl (of_decide_eq_true rfl) (fun hb => ob_move rfl (.tmp rfl)) fun a38 w38 s38 => ?_; clear s37
      refine seq_opg s38 rfl rfl rfl rfl (of_decide_eq_true rfl) (fun hb => (Ob.uncond (t := 30) hb rfl (ob_gtr rfl (.tmp rfl) (opd_int rfl)))) fun a39 w39 s39 => ?_; clear s38
      obtain ⟨x5, e_x5, h9⟩ := bind_some h8; clear h8; replace e_x5 := Option.some.inj e_x5
      refine seq_op s39 rfl rfl (of_decide_eq_true rfl) ((ob_or2 rfl (.tmp rfl) opd_bool (.tmp rfl)).nm e_x5) fun a40 w40 s40 => ?_; clear s39
      refine wpList_nil ?_
      refine then_normal ?_
      refine hK10 _ _ ?_
      have s41 := s40.sub (.cons (t := 0) rfl (.cons (t := 1) rfl (.cons (t := 2) rfl (.cons (t := 7) rfl (.cons (t := 8) rfl (.cons (t := 32) rfl (.cons (t := 100000) rfl (.cons (t := 100001) rfl .nil)))))))); clear s40
      refine cond_split s41 (.tmp rfl) (fun hc3 => ?_) (fun hc3 => ?_)
      · replace h9 := ite_t hc3 h9
        have h10 := h9; clear h9
        refine wp_seq_k fun K11 hK11 => ?_
        refine wp_region_lit ?_
        obtain ⟨x6, e_x6, h11⟩ := bind_some h10; clear h10
        refine seq_op s41 rfl rfl (of_decide_eq_true rfl) (ob_calls rfl hb26 (fun a w s => c_caballaw02_alive k _ e_x6 _ _ (s.env _ _ (show get _ 100000 = _ from rfl)) (s.env _ _ (show get _ 100001 = _ from rfl)))) fun a42 w42 s42 => ?_; clear s41
        refine seq_op s42 rfl rfl (of_decide_eq_true rfl) (ob_move rfl (.tmp rfl)) fun a43 w43 s43 => ?_; clear s42
        refine seq_opg s43 rfl rfl rfl rfl (of_decide_eq_true rfl) (fun hb => ob_move rfl (.tmp rfl)) fun a44 w44 s44 => ?_; clear s43
        refine seq_opg s44 rfl rfl rfl rfl (of_decide_eq_true rfl) (fun hb => (Ob.uncond (t := 35) hb rfl (ob_seql rfl (.tmp rfl) (opd_str (by rfl) (by decide))))) fun a45 w45 s45 => ?_; clear s44
        refine seq_op s45 rfl rfl (of_decide_eq_true rfl) (ob_and2 rfl (.tmp rfl) (.tmp rfl) opd_bool) fun a46 w46 s46 => ?_; clear s45
        refine seq_op s46 rfl rfl (of_decide_eq_true rfl) (ob_move rfl (.tmp rfl)) fun a47 w47 s47 => ?_; clear s46
        refine seq_opg s47 rfl rfl rfl rfl (of_decide_eq_true rfl) (fun hb => ob_move rfl (.tmp rfl)) fun a48 w48 s48 => ?_; clear s47
        refine seq_opg s48 rfl rfl rfl rfl (of_decide_eq_true rfl) (fun hb => (Ob.uncond (t := 39) hb rfl (ob_eql rfl (.tmp rfl) (opd_int rfl)))) fun a49 w49 s49 => ?_; clear s48
        obtain ⟨x7, e_x7, h12⟩ := bind_some h11; clear h11; replace e_x7 := Option.some.inj e_x7
        refine seq_op s49 rfl rfl (of_decide_eq_true rfl) ((ob_and2 rfl (.tmp rfl) (.tmp rfl) opd_bool).nm e_x7) fun a50 w50 s50 => ?_; clear s49
        refine seq_op s50 rfl rfl (of_decide_eq_true rfl) (ob_assign rfl (.tmp rfl)) fun a51 w51 s51 => ?_; clear s50
        refine wpList_nil ?_
        refine then_normal ?_
        refine hK11 _ _ ?_
        have s52 := s51.sub (.cons (t := 6) rfl (.cons (t := 100000) rfl (.cons (t := 100001) rfl .nil))); clear s51
        refine wp_ret ?_
        obtain rfl := Option.some.inj h12
        exact leave s52 (.inl rfl) rfl (.cons (.tmp rfl) .nil)
      · replace h9 := ite_f hc3 h9
        have h13 := h9; clear h9
        refine wp_skip ?_
        refine then_normal ?_
        refine hK9 _ _ ?_
        have s53 := s41.sub (.cons (t := 0) rfl (.cons (t := 1) rfl (.cons (t := 2) rfl (.cons (t := 7) rfl (.cons (t := 8) rfl (.cons (t := 100000) rfl (.cons (t := 100001) rfl .nil))))))); clear s41
        refine wp_seq_k fun K12 hK12 => ?_
        refine wp_region_lit ?_
        obtain ⟨x8, e_x8, h14⟩ := bind_some h13; clear h13
        refine seq_op s53 rfl rfl (of_decide_eq_true rfl) (ob_calls rfl hb26 (fun a w s => c_caballaw02_alive k _ e_x8 _ _ (s.env _ _ (show get _ 100000 = _ from rfl)) (s.env _ _ (show get _ 100001 = _ from rfl)))) fun a54 w54 s54 => ?_; clear s53
        refine seq_op s54 rfl rfl (of_decide_eq_true rfl) (ob_move rfl (.tmp rfl)) fun a55 w55 s55 => ?_; clear s54
        refine seq_opg s55 rfl rfl rfl rfl (of_decide_eq_true rfl) (fun hb => ob_move rfl (.tmp rfl)) fun a56 w56 s56 => ?_; clear s55
        refine seq_opg s56 rfl rfl rfl rfl (of_decide_eq_true rfl) (fun hb => (Ob.uncond (t := 44) hb rfl (ob_eql rfl (.tmp rfl) (opd_int rfl)))) fun a57 w57 s57 => ?_; clear s56
        refine seq_op s57 rfl rfl (of_decide_eq_true rfl) (ob_and2 rfl (.tmp rfl) (.tmp rfl) opd_bool) fun a58 w58 s58 => ?_; clear s57
        refine seq_op s58 rfl rfl (of_decide_eq_true rfl) (ob_move rfl (.tmp rfl)) fun a59 w59 s59 => ?_; clear s58
        refine seq_opg s59 rfl rfl rfl rfl (of_decide_eq_true rfl) (fun hb => ob_move rfl (.tmp rfl)) fun a60 w60 s60 => ?_; clear s59
        refine seq_opg s60 rfl rfl rfl rfl (of_decide_eq_true rfl) (fun hb => ob_move rfl (.tmp rfl)) fun a61 w61 s61 => ?_; clear s60
        refine seq_opg s61 rfl rfl rfl rfl (of_decide_eq_true rfl) (fun hb => ob_move rfl (.tmp rfl)) fun a62 w62 s62 => ?_; clear s61
        refine seq_opg s62 rfl rfl rfl rfl (of_decide_eq_true rfl) (fun hb => ob_move rfl (.tmp rfl)) fun a63 w63 s63 => ?_; clear s62
        obtain ⟨x9, e_x9, h15⟩ := bind_some h14; clear h14
        refine seq_opg s63 rfl rfl rfl rfl (of_decide_eq_true rfl) (fun hb => (Ob.uncond (t := 51) hb rfl ((Ob.uncond (t := 50) hb rfl ((Ob.uncond (t := 49) hb rfl (ob_calls rfl hb35 (fun a w s => c_cabalref02_Expand k _ _ _ _ (ite_t hb e_x9) _ _ _ _ _ (s.arg (.tmp rfl)) (s.arg (.tmp rfl)) (s.arg (.tmp rfl)))))))))) fun a64 w64 s64 => ?_; clear s63
        refine seq_opg s64 rfl rfl rfl rfl (of_decide_eq_true rfl) (fun hb => (Ob.uncond (t := 52) hb rfl ((Ob.uncond (t := 48) hb rfl (ob_seql rfl (.tmp rfl) (.tmp rfl)))))) fun a65 w65 s65 => ?_; clear s64
        obtain ⟨x10, e_x10, h16⟩ := bind_some h15; clear h15; replace e_x10 := Option.some.inj e_x10
        refine seq_op s65 rfl rfl (of_decide_eq_true rfl) ((ob_and2 rfl (.tmp rfl) (.tmp rfl) opd_bool).nm e_x10) fun a66 w66 s66 => ?_; clear s65
        refine seq_op s66 rfl rfl (of_decide_eq_true rfl) (ob_assign rfl (.tmp rfl)) fun a67 w67 s67 => ?_; clear s66
        refine wpList_nil ?_
        refine then_normal ?_
        refine hK12 _ _ ?_
        have s68 := s67.sub (.cons (t := 6) rfl (.cons (t := 100000) rfl (.cons (t := 100001) rfl .nil))); clear s67
        refine wp_ret ?_
        obtain rfl := Option.some.inj h16
        exact leave s68 (.inl rfl) rfl (.cons (.tmp rfl) .nil)

/- 13 cabal/caballaw02.KeyedFront -/
theorem c_caballaw02_KeyedFront (k : Nat) (p1 : (List Int)) (p2 : (List Int)) (p3 : Int) (p4 : Int) (r : Bool) (h0 : caballaw02_KeyedFront k p1 p2 p3 p4 = some r) (ok : Ok) (w0 : World) (gl0 : (ptrTo (karr 8 (kint .u32)) G_digest_first).holds ok w0 (.pointer (some ⟨0, 0, none⟩))) (gl1 : (ptrTo (karr 64 (kint .u32)) G_digest_rounds).holds ok w0 (.pointer (some ⟨1, 0, none⟩))) (z0 : Value) (z1 : Value) (z2 : Value) (z3 : Value) (u0 : (kstr.V p1).holds ok w0 z0) (u1 : (kstr.V p2).holds ok w0 z1) (u2 : ((kint .u16).V p3).holds ok w0 z2) (u3 : ((kint .u16).V p4).holds ok w0 z3) :
    Gives Tryd.prog 13 [z0, z1, z2, z3] ok w0 (resFact [kbool.V r]) := by
  unfold caballaw02_KeyedFront at h0
  refine enter (N := 95) Tryd.func13 rfl rfl (of_decide_eq_true rfl) (.cons u0 (.cons u1 (.cons u2 (.cons u3 .nil)))) fun a1 s1 => ?_
  have s2 := s1.keepKnown 100000 gl0 okIn; clear s1
  have s3 := s2.keepKnown 100001 gl1 okIn; clear s2
  refine wp_seq_k fun K1 hK1 => ?_
  refine wp_region_lit ?_
  refine seq_op s3 rfl rfl (of_decide_eq_true rfl) (ob_assign rfl opd_bool) fun a4 w4 s4 => ?_; clear s3
  refine wpList_nil ?_
  refine then_normal ?_
  refine hK1 _ _ ?_
  have s5 := s4.sub (.cons (t := 0) rfl (.cons (t := 1) rfl (.cons (t := 2) rfl (.cons (t := 3) rfl (.cons (t := 100000) rfl (.cons (t := 100001) rfl .nil)))))); clear s4
  refine wp_seq_k fun K2 hK2 => ?_
  refine wp_seq_k fun K3 hK3 => ?_
  refine wp_region_lit ?_
  obtain ⟨x1, e_x1, h1⟩ := bind_some h0; clear h0
  refine seq_op s5 rfl rfl (of_decide_eq_true rfl) (ob_calls rfl hb26 (fun a w s => c_caballaw02_alive k _ e_x1 _ _ (s.env _ _ (show get _ 100000 = _ from rfl)) (s.env _ _ (show get _ 100001 = _ from rfl)))) fun a6 w6 s6 => ?_; clear s5
  refine seq_op s6 rfl rfl (of_decide_eq_true rfl) (ob_not rfl (.tmp rfl)) fun a7 w7 s7 => ?_; clear s6
  refine wpList_nil ?_
  refine then_normal ?_
  refine hK3 _ _ ?_
  have s8 := s7.sub (.cons (t := 0) rfl (.cons (t := 1) rfl (.cons (t := 2) rfl (.cons (t := 3) rfl (.cons (t := 19) rfl (.cons (t := 100000) rfl (.cons (t := 100001) rfl .nil))))))); clear s7
  refine cond_split s8 (.tmp rfl) (fun hc1 => ?_) (fun hc1 => ?_)
  · replace h1 := ite_t hc1 h1
    have h2 := h1; clear h1
    refine wp_seq_k fun K4 hK4 => ?_
    refine wp_region_lit ?_
    refine seq_op s8 rfl rfl (of_decide_eq_true rfl) (ob_assign rfl opd_bool) fun a9 w9 s9 => ?_; clear s8
    refine wpList_nil ?_
    refine then_normal ?_
    refine hK4 _ _ ?_
    have s10 := s9.sub (.cons (t := 8) rfl (.cons (t := 100000) rfl (.cons (t := 100001) rfl .nil))); clear s9
    refine wp_ret ?_
    obtain rfl := Option.some.inj h2
    exact leave s10 (.inl rfl) rfl (.cons (.tmp rfl) .nil)
  · replace h1 := ite_f hc1 h1
    have h3 := h1; clear h1
    refine wp_skip ?_
    refine then_normal ?_
    refine hK2 _ _ ?_
    have s11 := s8.sub (.cons (t := 0) rfl (.cons (t := 1) rfl (.cons (t := 2) rfl (.cons (t := 3) rfl (.cons (t := 100000) rfl (.cons (t := 100001) rfl .nil)))))); clear s8
    refine wp_seq_k fun K5 hK5 => ?_
    refine wp_seq_k fun K6 hK6 => ?_
    refine wp_region_lit ?_
    refine seq_op s11 rfl rfl (of_decide_eq_true rfl) (ob_move rfl (.tmp rfl)) fun a12 w12 s12 => ?_; clear s11
    refine seq_op s12 rfl rfl (of_decide_eq_true rfl) (ob_lenStr rfl Tryd.underlying9 (.tmp rfl)) fun a13 w13 s13 => ?_; clear s12
    refine seq_op s13 rfl rfl (of_decide_eq_true rfl) (ob_gtr rfl (.tmp rfl) (opd_int rfl)) fun a14 w14 s14 => ?_; clear s13
    refine seq_op s14 rfl rfl (of_decide_eq_true rfl) (ob_move rfl (.tmp rfl)) fun a15 w15 s15 => ?_; clear s14
    refine seq_opg s15 rfl rfl rfl rfl (of_decide_eq_true rfl) (fun hb => ob_move rfl (.tmp rfl)) fun a16 w16 s16 => ?_; clear s15
    refine seq_opg s16 rfl rfl rfl rfl (of_decide_eq_true rfl) (fun hb => (Ob.uncond (t := 24) hb rfl (ob_lenStr rfl Tryd.underlying9 (.tmp rfl)))) fun a17 w17 s17 => ?_; clear s16
    refine seq_opg s17 rfl rfl rfl rfl (of_decide_eq_true rfl) (fun hb => (Ob.uncond (t := 25) hb rfl (ob_gtr rfl (.tmp rfl) (opd_int rfl)))) fun a18 w18 s18 => ?_; clear s17
    obtain ⟨x2, e_x2, h4⟩ := bind_some h3; clear h3; replace e_x2 := Option.some.inj e_x2
    refine seq_op s18 rfl rfl (of_decide_eq_true rfl) ((ob_or2 rfl (.tmp rfl) opd_bool (.tmp rfl)).nm e_x2) fun a19 w19 s19 => ?_; clear s18
    refine wpList_nil ?_
    refine then_normal ?_
    refine hK6 _ _ ?_
    have s20 := s19.sub (.cons (t := 0) rfl (.cons (t := 1) rfl (.cons (t := 2) rfl (.cons (t := 3) rfl (.cons (t := 27) rfl (.cons (t := 100000) rfl (.cons (t := 100001) rfl .nil))))))); clear s19
    refine cond_split s20 (.tmp rfl) (fun hc2 => ?_) (fun hc2 => ?_)
    · replace h4 := ite_t hc2 h4
      have h5 := h4; clear h4
      refine wp_seq_k fun K7 hK7 => ?_
      refine wp_region_lit ?_
      obtain ⟨x3, e_x3, h6⟩ := bind_some h5; clear h5
      refine seq_op s20 rfl rfl (of_decide_eq_true rfl) (ob_calls rfl hb26 (fun a w s => c_caballaw02_alive k _ e_x3 _ _ (s.env _ _ (show get _ 100000 = _ from rfl)) (s.env _ _ (show get _ 100001 = _ from rfl)))) fun a21 w21 s21 => ?_; clear s20
      refine seq_op s21 rfl rfl (of_decide_eq_true rfl) (ob_assign rfl (.tmp rfl)) fun a22 w22 s22 => ?_; clear s21
      refine wpList_nil ?_
      refine then_normal ?_
      refine hK7 _ _ ?_
      have s23 := s22.sub (.cons (t := 8) rfl (.cons (t := 100000) rfl (.cons (t := 100001) rfl .nil))); clear s22
      refine wp_ret ?_
      obtain rfl := Option.some.inj h6
      exact leave s23 (.inl rfl) rfl (.cons (.tmp rfl) .nil)
    · replace h4 := ite_f hc2 h4
      have h7 := h4; clear h4
      refine wp_skip ?_
      refine then_normal ?_
      refine hK5 _ _ ?_
      have s24 := s20.sub (.cons (t := 0) rfl (.cons (t := 1) rfl (.cons (t := 2) rfl (.cons (t := 3) rfl (.cons (t := 100000) rfl (.cons (t := 100001) rfl .nil)))))); clear s20
      refine wp_seq_k fun K8 hK8 => ?_
      refine wp_region_lit ?_
      refine seq_op s24 rfl rfl (of_decide_eq_true rfl) (ob_move rfl (.tmp rfl)) fun a25 w25 s25 => ?_; clear s24
      refine seq_op s25 rfl rfl (of_decide_eq_true rfl) (ob_rem rfl (.tmp rfl) (opd_int rfl) (by decide)) fun a26 w26 s26 => ?_; clear s25
      refine seq_op s26 rfl rfl (of_decide_eq_true rfl) (ob_conv rfl _ Tryd.underlying46 Tryd.underlying3 (.tmp rfl)) fun a27 w27 s27 => ?_; clear s26
      refine seq_op s27 rfl rfl (of_decide_eq_true rfl) (ob_assign rfl (.tmp rfl)) fun a28 w28 s28 => ?_; clear s27
      refine wpList_nil ?_
      refine then_normal ?_
      refine hK8 _ _ ?_
      have s29 := s28.sub (.cons (t := 0) rfl (.cons (t := 1) rfl (.cons (t := 3) rfl (.cons (t := 9) rfl (.cons (t := 100000) rfl (.cons (t := 100001) rfl .nil)))))); clear s28
      refine wp_seq_k fun K9 hK9 => ?_
      refine wp_region_lit ?_
      refine seq_op s29 rfl rfl (of_decide_eq_true rfl) (ob_move rfl (.tmp rfl)) fun a30 w30 s30 => ?_; clear s29
      refine seq_op s30 rfl rfl (of_decide_eq_true rfl) (ob_move rfl (.tmp rfl)) fun a31 w31 s31 => ?_; clear s30
      refine seq_op s31 rfl rfl (of_decide_eq_true rfl) (ob_rem rfl (.tmp rfl) (opd_int rfl) (by decide)) fun a32 w32 s32 => ?_; clear s31
      refine seq_op s32 rfl rfl (of_decide_eq_true rfl) (ob_conv rfl _ Tryd.underlying46 Tryd.underlying3 (.tmp rfl)) fun a33 w33 s33 => ?_; clear s32
      obtain ⟨x4, e_x4, h8⟩ := bind_some h7; clear h7; replace e_x4 := Option.some.inj e_x4
      refine seq_op s33 rfl rfl (of_decide_eq_true rfl) ((ob_add rfl (.tmp rfl) (.tmp rfl)).nm e_x4) fun a34 w34 s34 => ?_; clear s33
      refine seq_op s34 rfl rfl (of_decide_eq_true rfl) (ob_assign rfl (.tmp rfl)) fun a35 w35 s35 => ?_; clear s34
      refine wpList_nil ?_
      refine then_normal ?_
      refine hK9 _ _ ?_
      have s36 := s35.sub (.cons (t := 0) rfl (.cons (t := 1) rfl (.cons (t := 9) rfl (.cons (t := 10) rfl (.cons (t := 100000) rfl (.cons (t := 100001) rfl .nil)))))); clear s35
      refine wp_seq_k fun K10 hK10 => ?_
      refine wp_region_lit ?_
      refine seq_op s36 rfl rfl (of_decide_eq_true rfl) (ob_move rfl (.tmp rfl)) fun a37 w37 s37 => ?_; clear s36
      refine seq_op s37 rfl rfl (of_decide_eq_true rfl) (ob_move rfl (.tmp rfl)) fun a38 w38 s38 => ?_; clear s37
      refine seq_op s38 rfl rfl (of_decide_eq_true rfl) (ob_move rfl (.tmp rfl)) fun a39 w39 s39 => ?_; clear s38
      obtain ⟨x5, e_x5, h9⟩ := bind_some h8; clear h8
      refine seq_op s39 rfl rfl (of_decide_eq_true rfl) (ob_calls rfl hb34 (fun a w s => c_keyed_Expand k _ _ _ _ e_x5 _ _ (s.env _ _ (show get _ 100000 = _ from rfl)) (s.env _ _ (show get _ 100001 = _ from rfl)) _ _ _ (s.arg (.tmp rfl)) (s.arg (.tmp rfl)) (s.arg (.tmp rfl)))) fun a40 w40 s40 => ?_; clear s39
      refine seq_op s40 rfl rfl (of_decide_eq_true rfl) (ob_move rfl (.tmp rfl)) fun a41 w41 s41 => ?_; clear s40
      refine seq_op s41 rfl rfl (of_decide_eq_true rfl) (ob_extract rfl (.tmp rfl) rfl) fun a42 w42 s42 => ?_; clear s41
      refine seq_op s42 rfl rfl (of_decide_eq_true rfl) (ob_extract rfl (.tmp rfl) rfl) fun a43 w43 s43 => ?_; clear s42
      refine seq_op s43 rfl rfl (of_decide_eq_true rfl) (ob_assign rfl (.tmp rfl)) fun a44 w44 s44 => ?_; clear s43
      refine seq_op s44 rfl rfl (of_decide_eq_true rfl) (ob_assign rfl (.tmp rfl)) fun a45 w45 s45 => ?_; clear s44
      refine wpList_nil ?_
      refine then_normal ?_
      refine hK10 _ _ ?_
      have s46 := s45.sub (.cons (t := 0) rfl (.cons (t := 1) rfl (.cons (t := 9) rfl (.cons (t := 10) rfl (.cons (t := 11) rfl (.cons (t := 12) rfl (.cons (t := 100000) rfl (.cons (t := 100001) rfl .nil)))))))); clear s45
      refine wp_seq_k fun K11 hK11 => ?_
      refine wp_region_lit ?_
      refine seq_op s46 rfl rfl (of_decide_eq_true rfl) (ob_move rfl (.tmp rfl)) fun a47 w47 s47 => ?_; clear s46
      refine seq_op s47 rfl rfl (of_decide_eq_true rfl) (ob_move rfl (.tmp rfl)) fun a48 w48 s48 => ?_; clear s47
      refine seq_op s48 rfl rfl (of_decide_eq_true rfl) (ob_move rfl (.tmp rfl)) fun a49 w49 s49 => ?_; clear s48
      obtain ⟨x6, e_x6, h10⟩ := bind_some h9; clear h9
      refine seq_op s49 rfl rfl (of_decide_eq_true rfl) (ob_calls rfl hb34 (fun a w s => c_keyed_Expand k _ _ _ _ e_x6 _ _ (s.env _ _ (show get _ 100000 = _ from rfl)) (s.env _ _ (show get _ 100001 = _ from rfl)) _ _ _ (s.arg (.tmp rfl)) (s.arg (.tmp rfl)) (s.arg (.tmp rfl)))) fun a50 w50 s50 => ?_; clear s49
      refine seq_op s50 rfl rfl (of_decide_eq_true rfl) (ob_move rfl (.tmp rfl)) fun a51 w51 s51 => ?_; clear s50
      refine seq_op s51 rfl rfl (of_decide_eq_true rfl) (ob_extract rfl (.tmp rfl) rfl) fun a52 w52 s52 => ?_; clear s51
      refine seq_op s52 rfl rfl (of_decide_eq_true rfl) (ob_extract rfl (.tmp rfl) rfl) fun a53 w53 s53 => ?_; clear s52
      refine seq_op s53 rfl rfl (of_decide_eq_true rfl) (ob_assign rfl (.tmp rfl)) fun a54 w54 s54 => ?_; clear s53
      refine seq_op s54 rfl rfl (of_decide_eq_true rfl) (ob_assign rfl (.tmp rfl)) fun a55 w55 s55 => ?_; clear s54
      refine wpList_nil ?_
      refine then_normal ?_
      refine hK11 _ _ ?_
      have s56 := s55.sub (.cons (t := 0) rfl (.cons (t := 1) rfl (.cons (t := 9) rfl (.cons (t := 10) rfl (.cons (t := 11) rfl (.cons (t := 12) rfl (.cons (t := 13) rfl (.cons (t := 14) rfl (.cons (t := 100000) rfl (.cons (t := 100001) rfl .nil)))))))))); clear s55
      refine wp_seq_k fun K12 hK12 => ?_
      refine wp_region_lit ?_
      refine seq_op s56 rfl rfl (of_decide_eq_true rfl) (ob_move rfl (.tmp rfl)) fun a57 w57 s57 => ?_; clear s56
      refine seq_op s57 rfl rfl (of_decide_eq_true rfl) (ob_move rfl (.tmp rfl)) fun a58 w58 s58 => ?_; clear s57
      obtain ⟨x7, e_x7, h11⟩ := bind_some h10; clear h10
      refine seq_op s58 rfl rfl (of_decide_eq_true rfl) (ob_calls rfl hb34 (fun a w s => c_keyed_Expand k _ _ _ _ e_x7 _ _ (s.env _ _ (show get _ 100000 = _ from rfl)) (s.env _ _ (show get _ 100001 = _ from rfl)) _ _ _ (s.arg (.tmp rfl)) (s.arg (.tmp rfl)) (s.arg (opd_int rfl)))) fun a59 w59 s59 => ?_; clear s58
      refine seq_op s59 rfl rfl (of_decide_eq_true rfl) (ob_move rfl (.tmp rfl)) fun a60 w60 s60 => ?_; clear s59
      refine seq_op s60 rfl rfl (of_decide_eq_true rfl) (ob_extract rfl (.tmp rfl) rfl) fun a61 w61 s61 => ?_; clear s60
      refine seq_op s61 rfl rfl (of_decide_eq_true rfl) (ob_extract rfl (.tmp rfl) rfl) fun a62 w62 s62 => ?_; clear s61
      refine seq_op s62 rfl rfl (of_decide_eq_true rfl) (ob_assign rfl (.tmp rfl)) fun a63 w63 s63 => ?_; clear s62
      refine seq_op s63 rfl rfl (of_decide_eq_true rfl) (ob_assign rfl (.tmp rfl)) fun a64 w64 s64 => ?_; clear s63
      refine wpList_nil ?_
      refine then_normal ?_
      refine hK12 _ _ ?_
      have s65 := s64.sub (.cons (t := 0) rfl (.cons (t := 1) rfl (.cons (t := 9) rfl (.cons (t := 10) rfl (.cons (t := 11) rfl (.cons (t := 12) rfl (.cons (t := 13) rfl (.cons (t := 14) rfl (.cons (t := 15) rfl (.cons (t := 100000) rfl (.cons (t := 100001) rfl .nil))))))))))); clear s64
      refine wp_seq_k fun K13 hK13 => ?_
      refine wp_region_lit ?_
      refine seq_op s65 rfl rfl (of_decide_eq_true rfl) (ob_move rfl (.tmp rfl)) fun a66 w66 s66 => ?_; clear s65
      refine seq_op s66 rfl rfl (of_decide_eq_true rfl) (ob_move rfl (.tmp rfl)) fun a67 w67 s67 => ?_; clear s66
      refine seq_op s67 rfl rfl (of_decide_eq_true rfl) (ob_mkSlice (k := kstr) (xs := ([p2, ([1] : List Int)] : (List (List Int)))) rfl Tryd.underlying22 zz9 sz9 Zr.str (by decide) (by decide) (.cons (.tmp rfl) rfl (LS.arr' (i := 0) (ys := ([p2, []] : (List (List Int)))) (by simp) (by rfl)) (.cons (opd_str (by rfl) (by decide)) rfl (LS.arr' (i := 1) (ys := ([p2, ([1] : List Int)] : (List (List Int)))) (by simp) (by rfl)) (.nil _)))) fun a68 w68 s68 => ?_; clear s67
      obtain ⟨x8, e_x8, h12⟩ := bind_some h11; clear h11
      refine seq_op s68 rfl rfl (of_decide_eq_true rfl) (ob_calls rfl hb27 (fun a w s => c_keyed_Tag k _ _ _ e_x8 _ _ (s.env _ _ (show get _ 100000 = _ from rfl)) (s.env _ _ (show get _ 100001 = _ from rfl)) _ _ (s.arg (.tmp rfl)) (s.arg (.tmp rfl)))) fun a69 w69 s69 => ?_; clear s68
      refine seq_opx s69 rfl rfl (of_decide_eq_true rfl) (ob_new (k := (karr 32 (kint .u8))) rfl zz26 (Zr.arr 32 (Zr.int .u8))) fun b1 a70 w70 s70 => ?_; clear s69
      refine seq_opx0 (B' := fun _ => [BF b1 26 (karr 32 (kint .u8)) x8]) s70 rfl rfl (ob_store (A := []) rfl tk26 (.tmp rfl) (.tmp rfl) rfl (LS.refl _ _ _) rfl) fun _ a71 w71 s71 => ?_; clear s70
      refine wpList_nil ?_
      refine then_normal ?_
      refine hK13 _ _ ?_
      have s72 := s71.sub (.cons (t := 9) rfl (.cons (t := 10) rfl (.cons (t := 11) rfl (.cons (t := 12) rfl (.cons (t := 13) rfl (.cons (t := 14) rfl (.cons (t := 15) rfl (.cons (t := 17) rfl (.cons (t := 100000) rfl (.cons (t := 100001) rfl .nil)))))))))); clear s71
      refine wp_seq_k fun K14 hK14 => ?_
      refine wp_region_lit ?_
      obtain ⟨x9, e_x9, h13⟩ := bind_some h12; clear h12
      refine seq_op s72 rfl rfl (of_decide_eq_true rfl) (ob_calls rfl hb26 (fun a w s => c_caballaw02_alive k _ e_x9 _ _ (s.env _ _ (show get _ 100000 = _ from rfl)) (s.env _ _ (show get _ 100001 = _ from rfl)))) fun a73 w73 s73 => ?_; clear s72
      refine seq_op s73 rfl rfl (of_decide_eq_true rfl) (ob_move rfl (.tmp rfl)) fun a74 w74 s74 => ?_; clear s73
      refine seq_opg s74 rfl rfl rfl rfl (of_decide_eq_true rfl) (fun hb => ob_move rfl (.tmp rfl)) fun a75 w75 s75 => ?_; clear s74
      refine seq_opg s75 rfl rfl rfl rfl (of_decide_eq_true rfl) (fun hb => (Ob.uncond (t := 63) hb rfl (ob_eql rfl (.tmp rfl) (opd_int rfl)))) fun a76 w76 s76 => ?_; clear s75
      refine seq_op s76 rfl rfl (of_decide_eq_true rfl) (ob_and2 rfl (.tmp rfl) (.tmp rfl) opd_bool) fun a77 w77 s77 => ?_; clear s76
      refine seq_op s77 rfl rfl (of_decide_eq_true rfl) (ob_move rfl (.tmp rfl)) fun a78 w78 s78 => ?_; clear s77
      refine seq_opg s78 rfl rfl rfl rfl (of_decide_eq_true rfl) (fun hb => ob_move rfl (.tmp rfl)) fun a79 w79 s79 => ?_; clear s78
      refine seq_opg s79 rfl rfl rfl rfl (of_decide_eq_true rfl) (fun hb => (Ob.uncond (t := 67) hb rfl (ob_eql rfl (.tmp rfl) (opd_int rfl)))) fun a80 w80 s80 => ?_; clear s79
      obtain ⟨x10, e_x10, h14⟩ := bind_some h13; clear h13; replace e_x10 := Option.some.inj e_x10
      refine seq_op s80 rfl rfl (of_decide_eq_true rfl) ((ob_and2 rfl (.tmp rfl) (.tmp rfl) opd_bool).nm e_x10) fun a81 w81 s81 => ?_; clear s80
      refine seq_op s81 rfl rfl (of_decide_eq_true rfl) (ob_move rfl (.tmp rfl)) fun a82 w82 s82 => ?_; clear s81
      refine seq_opg s82 rfl rfl rfl rfl (of_decide_eq_true rfl) (fun hb => ob_move rfl (.tmp rfl)) fun a83 w83 s83 => ?_; clear s82
      refine seq_opg s83 rfl rfl rfl rfl (of_decide_eq_true rfl) (fun hb => (Ob.uncond (t := 71) hb rfl (ob_lenStr rfl Tryd.underlying9 (.tmp rfl)))) fun a84 w84 s84 => ?_; clear s83
      refine seq_opg s84 rfl rfl rfl rfl (of_decide_eq_true rfl) (fun hb => ob_move rfl (.tmp rfl)) fun a85 w85 s85 => ?_; clear s84
      refine seq_opg s85 rfl rfl rfl rfl (of_decide_eq_true rfl) (fun hb => (Ob.uncond (t := 73) hb rfl ((Ob.uncond (t := 72) hb rfl (ob_eql rfl (.tmp rfl) (.tmp rfl)))))) fun a86 w86 s86 => ?_; clear s85
      obtain ⟨x11, e_x11, h15⟩ := bind_some h14; clear h14; replace e_x11 := Option.some.inj e_x11
      refine seq_op s86 rfl rfl (of_decide_eq_true rfl) ((ob_and2 rfl (.tmp rfl) (.tmp rfl) opd_bool).nm e_x11) fun a87 w87 s87 => ?_; clear s86
      refine seq_op s87 rfl rfl (of_decide_eq_true rfl) (ob_move rfl (.tmp rfl)) fun a88 w88 s88 => ?_; clear s87
      refine seq_opg s88 rfl rfl rfl rfl (of_decide_eq_true rfl) (fun hb => ob_move rfl (.tmp rfl)) fun a89 w89 s89 => ?_; clear s88
      refine seq_opg s89 rfl rfl rfl rfl (of_decide_eq_true rfl) (fun hb => (Ob.uncond (t := 77) hb rfl (ob_lenStr rfl Tryd.underlying9 (.tmp rfl)))) fun a90 w90 s90 => ?_; clear s89
      refine seq_opg s90 rfl rfl rfl rfl (of_decide_eq_true rfl) (fun hb => ob_move rfl (.tmp rfl)) fun a91 w91 s91 => ?_; clear s90
      refine seq_opg s91 rfl rfl rfl rfl (of_decide_eq_true rfl) (fun hb => (Ob.uncond (t := 79) hb rfl ((Ob.uncond (t := 78) hb rfl (ob_eql rfl (.tmp rfl) (.tmp rfl)))))) fun a92 w92 s92 => ?_; clear s91
      refine seq_op s92 rfl rfl (of_decide_eq_true rfl) (ob_and2 rfl (.tmp rfl) (.tmp rfl) opd_bool) fun a93 w93 s93 => ?_; clear s92
      refine seq_op s93 rfl rfl (of_decide_eq_true rfl) (ob_move rfl (.tmp rfl)) fun a94 w94 s94 => ?_; clear s93
      refine seq_opg s94 rfl rfl rfl rfl (of_decide_eq_true rfl) (fun hb => ob_move rfl (.tmp rfl)) fun a95 w95 s95 => ?_; clear s94
      refine seq_opg s95 rfl rfl rfl rfl (of_decide_eq_true rfl) (fun hb => ob_move rfl (.tmp rfl)) fun a96 w96 s96 => ?_; clear s95
      obtain ⟨x12, e_x12, h16⟩ := bind_some h15; clear h15
      refine seq_opg s96 rfl rfl rfl rfl (of_decide_eq_true rfl) (fun hb => (Ob.uncond (t := 84) hb rfl ((Ob.uncond (t := 83) hb rfl (ob_cutStr rfl Tryd.underlying9 (.tmp rfl) .none (.some (.tmp rfl)) (ite_t hb e_x12)))))) fun a97 w97 s97 => ?_; clear s96
      refine seq_opg s97 rfl rfl rfl rfl (of_decide_eq_true rfl) (fun hb => ob_move rfl (.tmp rfl)) fun a98 w98 s98 => ?_; clear s97
      refine seq_opg s98 rfl rfl rfl rfl (of_decide_eq_true rfl) (fun hb => (Ob.uncond (t := 86) hb rfl ((Ob.uncond (t := 85) hb rfl (ob_seql rfl (.tmp rfl) (.tmp rfl)))))) fun a99 w99 s99 => ?_; clear s98
      obtain ⟨x13, e_x13, h17⟩ := bind_some h16; clear h16; replace e_x13 := Option.some.inj e_x13
      refine seq_op s99 rfl rfl (of_decide_eq_true rfl) ((ob_and2 rfl (.tmp rfl) (.tmp rfl) opd_bool).nm e_x13) fun a100 w100 s100 => ?_; clear s99
      refine seq_op s100 rfl rfl (of_decide_eq_true rfl) (ob_move rfl (.tmp rfl)) fun a101 w101 s101 => ?_; clear s100
      refine seq_opg s101 rfl rfl rfl rfl (of_decide_eq_true rfl) (fun hb => ob_move rfl (.tmp rfl)) fun a102 w102 s102 => ?_; clear s101
      refine seq_opg s102 rfl rfl rfl rfl (of_decide_eq_true rfl) (fun hb => ob_sliceArr rfl Tryd.underlying26 sz5 (.tmp rfl) .none .none (show (0 : Int) ≤ (0 : Int) ∧ (0 : Int) ≤ (32 : Int) ∧ (32 : Int) ≤ ((32 : Nat) : Int) by decide)) fun a103 w103 s103 => ?_; clear s102
      obtain ⟨x14, e_x14, h18⟩ := bind_some h17; clear h17
      refine seq_opg s103 rfl rfl rfl rfl (of_decide_eq_true rfl) (fun hb => (Ob.uncond (t := 91) hb rfl ((ob_lend (t := 91) (A := []) rfl rfl rfl (Flat.V KFlat.str) (lendSl (LG.refl _ _) e_x14 rfl (cut_len e_x14) (cut_cap e_x14 (show (0 : Int) ≤ (0 : Int) ∧ (0 : Int) ≤ (32 : Int) ∧ (32 : Int) ≤ ((32 : Nat) : Int) by decide) (by decide))) (fun _ => ob_bytesToStr rfl Tryd.underlying49 Tryd.underlying9 Tryd.underlying5 (.tmp rfl)))))) fun a104 w104 s104 => ?_; clear s103
      refine seq_opg s104 rfl rfl rfl rfl (of_decide_eq_true rfl) (fun hb => (Ob.uncond (t := 92) hb rfl ((Ob.uncond (t := 90) hb rfl (ob_seql rfl (.tmp rfl) (.tmp rfl)))))) fun a105 w105 s105 => ?_; clear s104
      refine seq_op s105 rfl rfl (of_decide_eq_true rfl) (ob_and2 rfl (.tmp rfl) (.tmp rfl) opd_bool) fun a106 w106 s106 => ?_; clear s105
      refine seq_op s106 rfl rfl (of_decide_eq_true rfl) (ob_assign rfl (.tmp rfl)) fun a107 w107 s107 => ?_; clear s106
      refine wpList_nil ?_
      refine then_normal ?_
      refine hK14 _ _ ?_
      have s108 := s107.sub (.cons (t := 8) rfl (.cons (t := 100000) rfl (.cons (t := 100001) rfl .nil))); clear s107
      have s109 := St.drop (A := []) s108; clear s108
      refine wp_ret ?_
      obtain rfl := Option.some.inj h18
      exact leave s109 (.inl rfl) rfl (.cons (.tmp rfl) .nil)

end Go.Proofs.YtpihmcfojdkpoaaDoor
