/- Each function's code comes to what its plain function answers. No condition. -/
import Derived.Test.YtpihmcfojdkpoaaDoorAWalk2
namespace Go.Proofs.YtpihmcfojdkpoaaDoor
open Go Go.RowKit Go.Proofs.Kit Go.Proofs.Pure
set_option linter.unusedVariables false
set_option linter.unusedSimpArgs false
set_option maxRecDepth 100000
set_option maxHeartbeats 2000000

/- 5 cabal/caballaw01.DigestRoots -/
theorem c_caballaw01_DigestRoots (k : Nat) (p1 : Int) (r : Bool) (h0 : caballaw01_DigestRoots k p1 = some r) (ok : Ok) (w0 : World) (gl0 : (ptrTo (karr 8 (kint .u32)) G_digest_first).holds ok w0 (.pointer (some ⟨0, 0, none⟩))) (gl1 : (ptrTo (karr 64 (kint .u32)) G_digest_rounds).holds ok w0 (.pointer (some ⟨1, 0, none⟩))) (z0 : Value) (u0 : ((kint .u8).V p1).holds ok w0 z0) :
    Gives Tryd.prog 5 [z0] ok w0 (resFact [kbool.V r]) := by
  unfold caballaw01_DigestRoots at h0
  refine enter (N := 45) Tryd.func5 rfl rfl (of_decide_eq_true rfl) (.cons u0 .nil) fun a1 s1 => ?_
  have s2 := s1.keepKnown 100000 gl0 okIn; clear s1
  have s3 := s2.keepKnown 100001 gl1 okIn; clear s2
  refine wp_seq_k fun K1 hK1 => ?_
  refine wp_region_lit ?_
  refine seq_op s3 rfl rfl (of_decide_eq_true rfl) (ob_assign rfl opd_bool) fun a4 w4 s4 => ?_; clear s3
  refine wpList_nil ?_
  refine then_normal ?_
  refine hK1 _ _ ?_
  have s5 := s4.sub (.cons (t := 0) rfl (.cons (t := 100000) rfl (.cons (t := 100001) rfl .nil))); clear s4
  refine wp_seq_k fun K2 hK2 => ?_
  refine wp_seq_k fun K3 hK3 => ?_
  refine wp_region_lit ?_
  obtain ⟨x1, e_x1, h1⟩ := bind_some h0; clear h0
  refine seq_op s5 rfl rfl (of_decide_eq_true rfl) (ob_calls rfl hb16 (fun a w s => c_caballaw01_alive k _ e_x1 _ _ (s.env _ _ (show get _ 100000 = _ from rfl)) (s.env _ _ (show get _ 100001 = _ from rfl)))) fun a6 w6 s6 => ?_; clear s5
  refine seq_op s6 rfl rfl (of_decide_eq_true rfl) (ob_not rfl (.tmp rfl)) fun a7 w7 s7 => ?_; clear s6
  refine wpList_nil ?_
  refine then_normal ?_
  refine hK3 _ _ ?_
  have s8 := s7.sub (.cons (t := 0) rfl (.cons (t := 10) rfl (.cons (t := 100000) rfl (.cons (t := 100001) rfl .nil)))); clear s7
  refine cond_split s8 (.tmp rfl) (fun hc1 => ?_) (fun hc1 => ?_)
  · replace h1 := ite_t hc1 h1
    have h2 := h1; clear h1
    refine wp_seq_k fun K4 hK4 => ?_
    refine wp_region_lit ?_
    refine seq_op s8 rfl rfl (of_decide_eq_true rfl) (ob_assign rfl opd_bool) fun a9 w9 s9 => ?_; clear s8
    refine wpList_nil ?_
    refine then_normal ?_
    refine hK4 _ _ ?_
    have s10 := s9.sub (.cons (t := 2) rfl (.cons (t := 100000) rfl (.cons (t := 100001) rfl .nil))); clear s9
    refine wp_ret ?_
    obtain rfl := Option.some.inj h2
    exact leave s10 (.inl rfl) rfl (.cons (.tmp rfl) .nil)
  · replace h1 := ite_f hc1 h1
    have h3 := h1; clear h1
    refine wp_skip ?_
    refine then_normal ?_
    refine hK2 _ _ ?_
    have s11 := s8.sub (.cons (t := 0) rfl (.cons (t := 100000) rfl (.cons (t := 100001) rfl .nil))); clear s8
    refine wp_seq_k fun K5 hK5 => ?_
    refine wp_region_lit ?_
    refine seq_op s11 rfl rfl (of_decide_eq_true rfl) (ob_move rfl (.tmp rfl)) fun a12 w12 s12 => ?_; clear s11
    refine seq_op s12 rfl rfl (of_decide_eq_true rfl) (ob_conv rfl _ Tryd.underlying5 Tryd.underlying3 (.tmp rfl)) fun a13 w13 s13 => ?_; clear s12
    refine seq_op s13 rfl rfl (of_decide_eq_true rfl) (ob_rem rfl (.tmp rfl) (opd_int rfl) (by decide)) fun a14 w14 s14 => ?_; clear s13
    refine seq_op s14 rfl rfl (of_decide_eq_true rfl) (ob_assign rfl (.tmp rfl)) fun a15 w15 s15 => ?_; clear s14
    refine wpList_nil ?_
    refine then_normal ?_
    refine hK5 _ _ ?_
    have s16 := s15.sub (.cons (t := 3) rfl (.cons (t := 100000) rfl (.cons (t := 100001) rfl .nil))); clear s15
    refine wp_seq_k fun K6 hK6 => ?_
    refine wp_region_lit ?_
    refine seq_op s16 rfl rfl (of_decide_eq_true rfl) (ob_assign rfl (opd_int rfl)) fun a17 w17 s17 => ?_; clear s16
    refine seq_op s17 rfl rfl (of_decide_eq_true rfl) (ob_assign rfl (opd_int rfl)) fun a18 w18 s18 => ?_; clear s17
    refine wpList_nil ?_
    refine then_normal ?_
    refine hK6 _ _ ?_
    have s19 := s18.sub (.cons (t := 3) rfl (.cons (t := 4) rfl (.cons (t := 5) rfl (.cons (t := 100000) rfl (.cons (t := 100001) rfl .nil))))); clear s18
    refine wp_seq_k fun K7 hK7 => ?_
    have hj1 : ∀ (y1 : Int) (a : Act) (w : World), (caballaw01_DigestRoots.j1 k p1) y1 = some r → St ⟨45, w0, ok, []⟩ [] [(3, ((kint .i64).V (irem (IntKind.wrap .i64 p1) (64 : Int)))), (4, ((kint .u64).V y1)), (100000, (known (.pointer (some ⟨0, 0, none⟩)) (ptrTo (karr 8 (kint .u32)) G_digest_first))), (100001, (known (.pointer (some ⟨1, 0, none⟩)) (ptrTo (karr 64 (kint .u32)) G_digest_rounds)))] a w → K7 a w := by
      intro y1 a20 w20 h4 s20
      unfold caballaw01_DigestRoots.j1 at h4
      refine hK7 _ _ ?_
      refine wp_seq_k fun K8 hK8 => ?_
      refine wp_region_lit ?_
      obtain ⟨x2, e_x2, h5⟩ := bind_some h4; clear h4
      refine seq_op s20 rfl rfl (of_decide_eq_true rfl) (ob_calls rfl hb23 (fun a w s => c_cabalref01_Rounds k _ e_x2 _ _)) fun a21 w21 s21 => ?_; clear s20
      refine seq_opx s21 rfl rfl (of_decide_eq_true rfl) (ob_new (k := (karr 64 (kint .u32))) rfl zz39 (Zr.arr 64 (Zr.int .u32))) fun b1 a22 w22 s22 => ?_; clear s21
      refine seq_opx0 (B' := fun _ => [BF b1 39 (karr 64 (kint .u32)) x2]) s22 rfl rfl (ob_store (A := []) rfl tk39 (.tmp rfl) (.tmp rfl) rfl (LS.refl _ _ _) rfl) fun _ a23 w23 s23 => ?_; clear s22
      refine wpList_nil ?_
      refine then_normal ?_
      refine hK8 _ _ ?_
      have s24 := s23.sub (.cons (t := 3) rfl (.cons (t := 4) rfl (.cons (t := 8) rfl (.cons (t := 100000) rfl (.cons (t := 100001) rfl .nil))))); clear s23
      refine wp_seq_k fun K9 hK9 => ?_
      refine wp_region_lit ?_
      obtain ⟨x3, e_x3, h6⟩ := bind_some h5; clear h5
      refine seq_op s24 rfl rfl (of_decide_eq_true rfl) (ob_calls rfl hb16 (fun a w s => c_caballaw01_alive k _ e_x3 _ _ (s.env _ _ (show get _ 100000 = _ from rfl)) (s.env _ _ (show get _ 100001 = _ from rfl)))) fun a25 w25 s25 => ?_; clear s24
      refine seq_op s25 rfl rfl (of_decide_eq_true rfl) (ob_move rfl (.tmp rfl)) fun a26 w26 s26 => ?_; clear s25
      refine seq_opg s26 rfl rfl rfl rfl (of_decide_eq_true rfl) (fun hb => ob_move rfl (.tmp rfl)) fun a27 w27 s27 => ?_; clear s26
      refine seq_opg s27 rfl rfl rfl rfl (of_decide_eq_true rfl) (fun hb => ob_move rfl (.tmp rfl)) fun a28 w28 s28 => ?_; clear s27
      obtain ⟨g1, h7⟩ := guard_some h6; clear h6
      refine seq_opg s28 rfl rfl rfl rfl (of_decide_eq_true rfl) (fun hb => (Ob.uncond (t := 40) hb rfl (ob_indexAddr rfl Tryd.underlying39 sz30 (.tmp rfl) (.tmp rfl) (g1 hb).1 (g1 hb).2 (Nat.zero_add _)))) fun a29 w29 s29 => ?_; clear s28
      obtain ⟨x4, e_x4, h8⟩ := bind_some h7; clear h7
      refine seq_opg s29 rfl rfl rfl rfl (of_decide_eq_true rfl) (fun hb => (Ob.uncond (t := 41) hb rfl (ob_load rfl tk30 (.tmp rfl) (List.Mem.head _) (LG.arrA (ite_t hb e_x4))))) fun a30 w30 s30 => ?_; clear s29
      obtain ⟨x5, e_x5, h9⟩ := bind_some h8; clear h8
      refine seq_opg s30 rfl rfl rfl rfl (of_decide_eq_true rfl) (fun hb => (Ob.uncond (t := 42) hb rfl ((Ob.uncond (t := 39) hb rfl (ob_calls rfl hb24 (fun a w s => c_caballaw01_root k _ _ _ _ (ite_t hb e_x5) _ _ _ _ _ (s.arg (.tmp rfl)) (s.arg (opd_int rfl)) (s.arg (.tmp rfl)))))))) fun a31 w31 s31 => ?_; clear s30
      refine seq_op s31 rfl rfl (of_decide_eq_true rfl) (ob_and2 rfl (.tmp rfl) (.tmp rfl) opd_bool) fun a32 w32 s32 => ?_; clear s31
      refine seq_op s32 rfl rfl (of_decide_eq_true rfl) (ob_assign rfl (.tmp rfl)) fun a33 w33 s33 => ?_; clear s32
      refine wpList_nil ?_
      refine then_normal ?_
      refine hK9 _ _ ?_
      have s34 := s33.sub (.cons (t := 2) rfl (.cons (t := 100000) rfl (.cons (t := 100001) rfl .nil))); clear s33
      have s35 := St.drop (A := []) s34; clear s34
      refine wp_ret ?_
      obtain rfl := Option.some.inj h9
      exact leave s35 (.inl rfl) rfl (.cons (.tmp rfl) .nil)
    refine wp_block ?_
    refine wp_loop_fuel (fun m (q : Int × Int) => caballaw01_DigestRoots.l1 k p1 m q.1 q.2) r (fun _ => rfl) (fun q a w => St ⟨45, w0, ok, []⟩ [] [(3, ((kint .i64).V (irem (IntKind.wrap .i64 p1) (64 : Int)))), (4, ((kint .u64).V q.1)), (5, ((kint .i64).V q.2)), (100000, (known (.pointer (some ⟨0, 0, none⟩)) (ptrTo (karr 8 (kint .u32)) G_digest_first))), (100001, (known (.pointer (some ⟨1, 0, none⟩)) (ptrTo (karr 64 (kint .u32)) G_digest_rounds)))] a w) ?_ k ((1 : Int), (-1 : Int)) _ _ h3 (s19.sub (.cons rfl (.cons rfl (.cons rfl (.cons rfl (.cons rfl .nil))))))
    rintro n1 ⟨y2, y3⟩ a36 w36 h10 s36 K10 hK10
    replace h10 : caballaw01_DigestRoots.l1 k p1 (n1 + 1) y2 y3 = some r := h10; rw [caballaw01_DigestRoots.l1] at h10
    have h11 := h10; clear h10
    refine wp_seq_k fun K11 hK11 => ?_
    refine wp_seq_k fun K12 hK12 => ?_
    refine wp_region_lit ?_
    refine seq_op s36 rfl rfl (of_decide_eq_true rfl) (ob_move rfl (.tmp rfl)) fun a37 w37 s37 => ?_; clear s36
    refine seq_op s37 rfl rfl (of_decide_eq_true rfl) (ob_move rfl (.tmp rfl)) fun a38 w38 s38 => ?_; clear s37
    refine seq_op s38 rfl rfl (of_decide_eq_true rfl) (ob_lss rfl (.tmp rfl) (.tmp rfl)) fun a39 w39 s39 => ?_; clear s38
    refine wpList_nil ?_
    refine then_normal ?_
    refine hK12 _ _ ?_
    have s40 := s39.sub (.cons (t := 3) rfl (.cons (t := 4) rfl (.cons (t := 5) rfl (.cons (t := 16) rfl (.cons (t := 100000) rfl (.cons (t := 100001) rfl .nil)))))); clear s39
    refine cond_split s40 (.tmp rfl) (fun hc2 => ?_) (fun hc2 => ?_)
    · replace h11 := ite_t hc2 h11
      have h12 := h11; clear h11
      refine wp_skip ?_
      refine then_normal ?_
      refine hK11 _ _ ?_
      have s41 := s40.sub (.cons (t := 3) rfl (.cons (t := 4) rfl (.cons (t := 5) rfl (.cons (t := 100000) rfl (.cons (t := 100001) rfl .nil))))); clear s40
      refine wp_block ?_
      refine wp_seq_k fun K13 hK13 => ?_
      refine wp_region_lit ?_
      refine seq_op s41 rfl rfl (of_decide_eq_true rfl) (ob_move rfl (.tmp rfl)) fun a42 w42 s42 => ?_; clear s41
      refine seq_op s42 rfl rfl (of_decide_eq_true rfl) (ob_add rfl (.tmp rfl) (opd_int rfl)) fun a43 w43 s43 => ?_; clear s42
      refine seq_op s43 rfl rfl (of_decide_eq_true rfl) (ob_assign rfl (.tmp rfl)) fun a44 w44 s44 => ?_; clear s43
      refine wpList_nil ?_
      refine then_normal ?_
      refine hK13 _ _ ?_
      have s45 := s44.sub (.cons (t := 3) rfl (.cons (t := 4) rfl (.cons (t := 5) rfl (.cons (t := 100000) rfl (.cons (t := 100001) rfl .nil))))); clear s44
      refine wp_seq_k fun K14 hK14 => ?_
      refine wp_region_lit ?_
      refine seq_op s45 rfl rfl (of_decide_eq_true rfl) (ob_assign rfl opd_bool) fun a46 w46 s46 => ?_; clear s45
      refine wpList_nil ?_
      refine then_normal ?_
      refine hK14 _ _ ?_
      have s47 := s46.sub (.cons (t := 3) rfl (.cons (t := 4) rfl (.cons (t := 5) rfl (.cons (t := 6) rfl (.cons (t := 100000) rfl (.cons (t := 100001) rfl .nil)))))); clear s46
      refine wp_seq_k fun K15 hK15 => ?_
      refine wp_seq_k fun K16 hK16 => ?_
      refine wp_region_lit ?_
      refine seq_op s47 rfl rfl (of_decide_eq_true rfl) (ob_assign rfl (opd_int rfl)) fun a48 w48 s48 => ?_; clear s47
      refine wpList_nil ?_
      refine then_normal ?_
      refine hK16 _ _ ?_
      have s49 := s48.sub (.cons (t := 3) rfl (.cons (t := 4) rfl (.cons (t := 5) rfl (.cons (t := 6) rfl (.cons (t := 7) rfl (.cons (t := 100000) rfl (.cons (t := 100001) rfl .nil))))))); clear s48
      have hj2 : ∀ (y4 : Bool) (a : Act) (w : World), (caballaw01_DigestRoots.j2 k y2 y3 (caballaw01_DigestRoots.l1 k p1 n1)) y4 = some r → St ⟨45, w0, ok, []⟩ [] [(3, ((kint .i64).V (irem (IntKind.wrap .i64 p1) (64 : Int)))), (4, ((kint .u64).V (iadd .u64 y2 (1 : Int)))), (5, ((kint .i64).V y3)), (6, (kbool.V y4)), (100000, (known (.pointer (some ⟨0, 0, none⟩)) (ptrTo (karr 8 (kint .u32)) G_digest_first))), (100001, (known (.pointer (some ⟨1, 0, none⟩)) (ptrTo (karr 64 (kint .u32)) G_digest_rounds)))] a w → K15 a w := by
        intro y4 a50 w50 h13 s50
        unfold caballaw01_DigestRoots.j2 at h13
        refine hK15 _ _ ?_
        refine wp_seq_k fun K17 hK17 => ?_
        refine wp_region_lit ?_
        refine seq_op s50 rfl rfl (of_decide_eq_true rfl) (ob_move rfl (.tmp rfl)) fun a51 w51 s51 => ?_; clear s50
        refine wpList_nil ?_
        refine then_normal ?_
        refine hK17 _ _ ?_
        have s52 := s51.sub (.cons (t := 3) rfl (.cons (t := 4) rfl (.cons (t := 5) rfl (.cons (t := 33) rfl (.cons (t := 100000) rfl (.cons (t := 100001) rfl .nil)))))); clear s51
        refine cond_split s52 (.tmp rfl) (fun hc3 => ?_) (fun hc3 => ?_)
        · replace h13 := ite_t hc3 h13
          have h14 := h13; clear h13
          refine wp_region_lit ?_
          refine seq_op s52 rfl rfl (of_decide_eq_true rfl) (ob_move rfl (.tmp rfl)) fun a53 w53 s53 => ?_; clear s52
          refine seq_op s53 rfl rfl (of_decide_eq_true rfl) (ob_add rfl (.tmp rfl) (opd_int rfl)) fun a54 w54 s54 => ?_; clear s53
          refine seq_op s54 rfl rfl (of_decide_eq_true rfl) (ob_assign rfl (.tmp rfl)) fun a55 w55 s55 => ?_; clear s54
          refine wpList_nil ?_
          refine in_normal ?_
          refine then_normal ?_
          exact hK10 ((iadd .u64 y2 (1 : Int)), (iadd .i64 y3 (1 : Int))) _ _ h14 (s55.sub (.cons rfl (.cons rfl (.cons rfl (.cons rfl (.cons rfl .nil))))))
        · replace h13 := ite_f hc3 h13
          have h15 := h13; clear h13
          refine wp_skip ?_
          refine in_normal ?_
          refine then_normal ?_
          exact hK10 ((iadd .u64 y2 (1 : Int)), y3) _ _ h15 (s52.sub (.cons rfl (.cons rfl (.cons rfl (.cons rfl (.cons rfl .nil))))))
      refine wp_block ?_
      refine wp_loop_fuel (fun m (q : Bool × Int) => caballaw01_DigestRoots.l2 k y2 y3 (caballaw01_DigestRoots.l1 k p1 n1) m q.1 q.2) r (fun _ => rfl) (fun q a w => St ⟨45, w0, ok, []⟩ [] [(3, ((kint .i64).V (irem (IntKind.wrap .i64 p1) (64 : Int)))), (4, ((kint .u64).V (iadd .u64 y2 (1 : Int)))), (5, ((kint .i64).V y3)), (6, (kbool.V q.1)), (7, ((kint .u64).V q.2)), (100000, (known (.pointer (some ⟨0, 0, none⟩)) (ptrTo (karr 8 (kint .u32)) G_digest_first))), (100001, (known (.pointer (some ⟨1, 0, none⟩)) (ptrTo (karr 64 (kint .u32)) G_digest_rounds)))] a w) ?_ k (true, (2 : Int)) _ _ h12 (s49.sub (.cons rfl (.cons rfl (.cons rfl (.cons rfl (.cons rfl (.cons rfl (.cons rfl .nil))))))))
      rintro n2 ⟨y5, y6⟩ a56 w56 h16 s56 K18 hK18
      replace h16 : caballaw01_DigestRoots.l2 k y2 y3 (caballaw01_DigestRoots.l1 k p1 n1) (n2 + 1) y5 y6 = some r := h16; rw [caballaw01_DigestRoots.l2] at h16
      have h17 := h16; clear h16
      refine wp_seq_k fun K19 hK19 => ?_
      refine wp_seq_k fun K20 hK20 => ?_
      refine wp_region_lit ?_
      refine seq_op s56 rfl rfl (of_decide_eq_true rfl) (ob_move rfl (.tmp rfl)) fun a57 w57 s57 => ?_; clear s56
      refine seq_op s57 rfl rfl (of_decide_eq_true rfl) (ob_move rfl (.tmp rfl)) fun a58 w58 s58 => ?_; clear s57
      refine seq_op s58 rfl rfl (of_decide_eq_true rfl) (ob_mul rfl (.tmp rfl) (.tmp rfl)) fun a59 w59 s59 => ?_; clear s58
      refine seq_op s59 rfl rfl (of_decide_eq_true rfl) (ob_move rfl (.tmp rfl)) fun a60 w60 s60 => ?_; clear s59
      refine seq_op s60 rfl rfl (of_decide_eq_true rfl) (ob_leq rfl (.tmp rfl) (.tmp rfl)) fun a61 w61 s61 => ?_; clear s60
      refine wpList_nil ?_
      refine then_normal ?_
      refine hK20 _ _ ?_
      have s62 := s61.sub (.cons (t := 3) rfl (.cons (t := 4) rfl (.cons (t := 5) rfl (.cons (t := 6) rfl (.cons (t := 7) rfl (.cons (t := 23) rfl (.cons (t := 100000) rfl (.cons (t := 100001) rfl .nil)))))))); clear s61
      refine cond_split s62 (.tmp rfl) (fun hc4 => ?_) (fun hc4 => ?_)
      · replace h17 := ite_t hc4 h17
        have h18 := h17; clear h17
        refine wp_skip ?_
        refine then_normal ?_
        refine hK19 _ _ ?_
        have s63 := s62.sub (.cons (t := 3) rfl (.cons (t := 4) rfl (.cons (t := 5) rfl (.cons (t := 6) rfl (.cons (t := 7) rfl (.cons (t := 100000) rfl (.cons (t := 100001) rfl .nil))))))); clear s62
        refine wp_seq_k fun K21 hK21 => ?_
        refine wp_block ?_
        refine wp_region_lit ?_
        refine seq_op s63 rfl rfl (of_decide_eq_true rfl) (ob_move rfl (.tmp rfl)) fun a64 w64 s64 => ?_; clear s63
        refine seq_op s64 rfl rfl (of_decide_eq_true rfl) (ob_move rfl (.tmp rfl)) fun a65 w65 s65 => ?_; clear s64
        refine seq_opg s65 rfl rfl rfl rfl (of_decide_eq_true rfl) (fun hb => ob_move rfl (.tmp rfl)) fun a66 w66 s66 => ?_; clear s65
        refine seq_opg s66 rfl rfl rfl rfl (of_decide_eq_true rfl) (fun hb => ob_move rfl (.tmp rfl)) fun a67 w67 s67 => ?_; clear s66
        obtain ⟨g2, h19⟩ := guard_some h18; clear h18
        refine seq_opg s67 rfl rfl rfl rfl (of_decide_eq_true rfl) (fun hb => (Ob.uncond (t := 29) hb rfl ((Ob.uncond (t := 28) hb rfl (ob_rem rfl (.tmp rfl) (.tmp rfl) (g2 hb)))))) fun a68 w68 s68 => ?_; clear s67
        refine seq_opg s68 rfl rfl rfl rfl (of_decide_eq_true rfl) (fun hb => (Ob.uncond (t := 30) hb rfl (ob_neq rfl (.tmp rfl) (opd_int rfl)))) fun a69 w69 s69 => ?_; clear s68
        obtain ⟨x6, e_x6, h20⟩ := bind_some h19; clear h19; replace e_x6 := Option.some.inj e_x6
        refine seq_op s69 rfl rfl (of_decide_eq_true rfl) ((ob_and2 rfl (.tmp rfl) (.tmp rfl) opd_bool).nm e_x6) fun a70 w70 s70 => ?_; clear s69
        refine seq_op s70 rfl rfl (of_decide_eq_true rfl) (ob_assign rfl (.tmp rfl)) fun a71 w71 s71 => ?_; clear s70
        refine wpList_nil ?_
        refine in_normal ?_
        refine then_normal ?_
        refine hK21 _ _ ?_
        have s72 := s71.sub (.cons (t := 3) rfl (.cons (t := 4) rfl (.cons (t := 5) rfl (.cons (t := 6) rfl (.cons (t := 7) rfl (.cons (t := 100000) rfl (.cons (t := 100001) rfl .nil))))))); clear s71
        refine wp_region_lit ?_
        refine seq_op s72 rfl rfl (of_decide_eq_true rfl) (ob_move rfl (.tmp rfl)) fun a73 w73 s73 => ?_; clear s72
        refine seq_op s73 rfl rfl (of_decide_eq_true rfl) (ob_add rfl (.tmp rfl) (opd_int rfl)) fun a74 w74 s74 => ?_; clear s73
        refine seq_op s74 rfl rfl (of_decide_eq_true rfl) (ob_assign rfl (.tmp rfl)) fun a75 w75 s75 => ?_; clear s74
        refine wpList_nil ?_
        refine then_normal ?_
        exact hK18 (x6, (iadd .u64 y6 (1 : Int))) _ _ h20 (s75.sub (.cons rfl (.cons rfl (.cons rfl (.cons rfl (.cons rfl (.cons rfl (.cons rfl .nil))))))))
      · replace h17 := ite_f hc4 h17
        have h21 := h17; clear h17
        refine wp_exit ?_
        refine (then_exit (then_exit (in_here ?_)))
        refine then_normal ?_
        exact hj2 y5 _ _ h21 (s62.sub (.cons rfl (.cons rfl (.cons rfl (.cons rfl (.cons rfl (.cons rfl .nil)))))))
    · replace h11 := ite_f hc2 h11
      have h22 := h11; clear h11
      refine wp_exit ?_
      refine (then_exit (then_exit (in_here ?_)))
      refine then_normal ?_
      exact hj1 y2 _ _ h22 (s40.sub (.cons rfl (.cons rfl (.cons rfl (.cons rfl .nil)))))

/- 25 (*cabal/digest.Hash).Len -/
theorem c_digest_Hash_Len (k : Nat) (p1 : digest_Hash) (r : Int) (h0 : digest_Hash_Len k p1 = some r) (ok : Ok) (w0 : World) (z0 : Value) (u0 : (ptrTo k_digest_Hash p1).holds ok w0 z0) :
    Gives Tryd.prog 25 [z0] ok w0 (resFact [(kint .u64).V r]) := by
  unfold digest_Hash_Len at h0
  refine enter (N := 9) Tryd.func25 rfl rfl (of_decide_eq_true rfl) (.cons u0 .nil) fun a1 s1 => ?_
  refine wp_seq_k fun K1 hK1 => ?_
  refine wp_region_lit ?_
  refine seq_op s1 rfl rfl (of_decide_eq_true rfl) (ob_assign rfl (opd_int rfl)) fun a2 w2 s2 => ?_; clear s1
  refine wpList_nil ?_
  refine then_normal ?_
  refine hK1 _ _ ?_
  have s3 := s2.sub (.cons (t := 0) rfl .nil); clear s2
  refine wp_seq_k fun K2 hK2 => ?_
  refine wp_seq_k fun K3 hK3 => ?_
  refine wp_region_lit ?_
  refine seq_op s3 rfl rfl (of_decide_eq_true rfl) (ob_move rfl (.tmp rfl)) fun a4 w4 s4 => ?_; clear s3
  refine seq_op s4 rfl rfl (of_decide_eq_true rfl) (ob_ptrrNil rfl pt44 (.tmp rfl) opd_is) fun a5 w5 s5 => ?_; clear s4
  refine wpList_nil ?_
  refine then_normal ?_
  refine hK3 _ _ ?_
  have s6 := s5.sub (.cons (t := 0) rfl (.cons (t := 4) rfl .nil)); clear s5
  refine cond_f s6 (.tmp rfl) ?_
  refine wp_skip ?_
  refine then_normal ?_
  refine hK2 _ _ ?_
  have s7 := s6.sub (.cons (t := 0) rfl .nil); clear s6
  refine wp_seq_k fun K4 hK4 => ?_
  refine wp_region_lit ?_
  refine seq_op s7 rfl rfl (of_decide_eq_true rfl) (ob_move rfl (.tmp rfl)) fun a8 w8 s8 => ?_; clear s7
  refine seq_op s8 rfl rfl (of_decide_eq_true rfl) (ob_nilCheckr rfl (.tmp rfl)) fun a9 w9 s9 => ?_; clear s8
  refine seq_op s9 rfl rfl (of_decide_eq_true rfl) (ob_fieldAddrr rfl Tryd.underlying35 rfl sz33 (by decide) (.tmp rfl) (lg_digest_Hash_taken p1)) fun a10 w10 s10 => ?_; clear s9
  refine seq_op s10 rfl rfl (of_decide_eq_true rfl) (ob_loadr rfl tk33 (.tmp rfl)) fun a11 w11 s11 => ?_; clear s10
  refine seq_op s11 rfl rfl (of_decide_eq_true rfl) (ob_assign rfl (.tmp rfl)) fun a12 w12 s12 => ?_; clear s11
  refine wpList_nil ?_
  refine then_normal ?_
  refine hK4 _ _ ?_
  have s13 := s12.sub (.cons (t := 2) rfl .nil); clear s12
  refine wp_ret ?_
  obtain rfl := Option.some.inj h0
  exact leave s13 (.inl rfl) rfl (.cons (.tmp rfl) .nil)

theorem c_digest_Hash_Len_nil (k : Nat) (r : Int) (h0 : digest_Hash_Len_nil k = some r) (ok : Ok) (w0 : World) (z0 : Value) (u0 : (is (.pointer none)).holds ok w0 z0) :
    Gives Tryd.prog 25 [z0] ok w0 (resFact [(kint .u64).V r]) := by
  unfold digest_Hash_Len_nil at h0
  refine enter (N := 9) Tryd.func25 rfl rfl (of_decide_eq_true rfl) (.cons u0 .nil) fun a1 s1 => ?_
  refine wp_seq_k fun K1 hK1 => ?_
  refine wp_region_lit ?_
  refine seq_op s1 rfl rfl (of_decide_eq_true rfl) (ob_assign rfl (opd_int rfl)) fun a2 w2 s2 => ?_; clear s1
  refine wpList_nil ?_
  refine then_normal ?_
  refine hK1 _ _ ?_
  have s3 := s2.sub (.cons (t := 0) rfl .nil); clear s2
  refine wp_seq_k fun K2 hK2 => ?_
  refine wp_seq_k fun K3 hK3 => ?_
  refine wp_region_lit ?_
  refine seq_op s3 rfl rfl (of_decide_eq_true rfl) (ob_move rfl (.tmp rfl)) fun a4 w4 s4 => ?_; clear s3
  refine seq_op s4 rfl rfl (of_decide_eq_true rfl) (ob_ptrNil (p := none) rfl pt44 (.tmp rfl) opd_is) fun a5 w5 s5 => ?_; clear s4
  refine wpList_nil ?_
  refine then_normal ?_
  refine hK3 _ _ ?_
  have s6 := s5.sub (.cons (t := 0) rfl (.cons (t := 4) rfl .nil)); clear s5
  refine cond_t s6 (.tmp rfl) ?_
  refine wp_seq_k fun K4 hK4 => ?_
  refine wp_region_lit ?_
  refine seq_op s6 rfl rfl (of_decide_eq_true rfl) (ob_assign rfl (opd_int rfl)) fun a7 w7 s7 => ?_; clear s6
  refine wpList_nil ?_
  refine then_normal ?_
  refine hK4 _ _ ?_
  have s8 := s7.sub (.cons (t := 2) rfl .nil); clear s7
  refine wp_ret ?_
  obtain rfl := Option.some.inj h0
  exact leave s8 (.inl rfl) rfl (.cons (.tmp rfl) .nil)

/- 6 cabal/caballaw01.DigestWrites -/
theorem c_caballaw01_DigestWrites (k : Nat) (p1 : (List (List Int))) (r : Bool) (h0 : caballaw01_DigestWrites k p1 = some r) (ok : Ok) (w0 : World) (gl0 : (ptrTo (karr 8 (kint .u32)) G_digest_first).holds ok w0 (.pointer (some ⟨0, 0, none⟩))) (gl1 : (ptrTo (karr 64 (kint .u32)) G_digest_rounds).holds ok w0 (.pointer (some ⟨1, 0, none⟩))) (z0 : Value) (u0 : ((ksl kstr).V p1).holds ok w0 z0) :
    Gives Tryd.prog 6 [z0] ok w0 (resFact [kbool.V r]) := by
  unfold caballaw01_DigestWrites at h0
  refine enter (N := 73) Tryd.func6 rfl rfl (of_decide_eq_true rfl) (.cons u0 .nil) fun a1 s1 => ?_
  have s2 := s1.keepKnown 100000 gl0 okIn; clear s1
  have s3 := s2.keepKnown 100001 gl1 okIn; clear s2
  refine wp_seq_k fun K1 hK1 => ?_
  refine wp_region_lit ?_
  refine seq_op s3 rfl rfl (of_decide_eq_true rfl) (ob_assign rfl opd_bool) fun a4 w4 s4 => ?_; clear s3
  refine wpList_nil ?_
  refine then_normal ?_
  refine hK1 _ _ ?_
  have s5 := s4.sub (.cons (t := 0) rfl (.cons (t := 100000) rfl (.cons (t := 100001) rfl .nil))); clear s4
  refine wp_seq_k fun K2 hK2 => ?_
  refine wp_seq_k fun K3 hK3 => ?_
  refine wp_region_lit ?_
  obtain ⟨x1, e_x1, h1⟩ := bind_some h0; clear h0
  refine seq_op s5 rfl rfl (of_decide_eq_true rfl) (ob_calls rfl hb16 (fun a w s => c_caballaw01_alive k _ e_x1 _ _ (s.env _ _ (show get _ 100000 = _ from rfl)) (s.env _ _ (show get _ 100001 = _ from rfl)))) fun a6 w6 s6 => ?_; clear s5
  refine seq_op s6 rfl rfl (of_decide_eq_true rfl) (ob_not rfl (.tmp rfl)) fun a7 w7 s7 => ?_; clear s6
  refine wpList_nil ?_
  refine then_normal ?_
  refine hK3 _ _ ?_
  have s8 := s7.sub (.cons (t := 0) rfl (.cons (t := 8) rfl (.cons (t := 100000) rfl (.cons (t := 100001) rfl .nil)))); clear s7
  refine cond_split s8 (.tmp rfl) (fun hc1 => ?_) (fun hc1 => ?_)
  · replace h1 := ite_t hc1 h1
    have h2 := h1; clear h1
    refine wp_seq_k fun K4 hK4 => ?_
    refine wp_region_lit ?_
    refine seq_op s8 rfl rfl (of_decide_eq_true rfl) (ob_assign rfl opd_bool) fun a9 w9 s9 => ?_; clear s8
    refine wpList_nil ?_
    refine then_normal ?_
    refine hK4 _ _ ?_
    have s10 := s9.sub (.cons (t := 2) rfl (.cons (t := 100000) rfl (.cons (t := 100001) rfl .nil))); clear s9
    refine wp_ret ?_
    obtain rfl := Option.some.inj h2
    exact leave s10 (.inl rfl) rfl (.cons (.tmp rfl) .nil)
  · replace h1 := ite_f hc1 h1
    have h3 := h1; clear h1
    refine wp_skip ?_
    refine then_normal ?_
    refine hK2 _ _ ?_
    have s11 := s8.sub (.cons (t := 0) rfl (.cons (t := 100000) rfl (.cons (t := 100001) rfl .nil))); clear s8
    refine wp_seq_k fun K5 hK5 => ?_
    refine wp_seq_k fun K6 hK6 => ?_
    refine wp_region_lit ?_
    refine seq_op s11 rfl rfl (of_decide_eq_true rfl) (ob_move rfl (.tmp rfl)) fun a12 w12 s12 => ?_; clear s11
    obtain ⟨x2, e_x2, h4⟩ := bind_some h3; clear h3
    refine seq_op s12 rfl rfl (of_decide_eq_true rfl) (ob_calls rfl hb17 (fun a w s => c_caballaw01_great k _ _ e_x2 _ _ _ (s.arg (.tmp rfl)))) fun a13 w13 s13 => ?_; clear s12
    refine wpList_nil ?_
    refine then_normal ?_
    refine hK6 _ _ ?_
    have s14 := s13.sub (.cons (t := 0) rfl (.cons (t := 10) rfl (.cons (t := 100000) rfl (.cons (t := 100001) rfl .nil)))); clear s13
    refine cond_split s14 (.tmp rfl) (fun hc2 => ?_) (fun hc2 => ?_)
    · replace h4 := ite_t hc2 h4
      have h5 := h4; clear h4
      refine wp_seq_k fun K7 hK7 => ?_
      refine wp_region_lit ?_
      obtain ⟨x3, e_x3, h6⟩ := bind_some h5; clear h5
      refine seq_op s14 rfl rfl (of_decide_eq_true rfl) (ob_calls rfl hb16 (fun a w s => c_caballaw01_alive k _ e_x3 _ _ (s.env _ _ (show get _ 100000 = _ from rfl)) (s.env _ _ (show get _ 100001 = _ from rfl)))) fun a15 w15 s15 => ?_; clear s14
      refine seq_op s15 rfl rfl (of_decide_eq_true rfl) (ob_assign rfl (.tmp rfl)) fun a16 w16 s16 => ?_; clear s15
      refine wpList_nil ?_
      refine then_normal ?_
      refine hK7 _ _ ?_
      have s17 := s16.sub (.cons (t := 2) rfl (.cons (t := 100000) rfl (.cons (t := 100001) rfl .nil))); clear s16
      refine wp_ret ?_
      obtain rfl := Option.some.inj h6
      exact leave s17 (.inl rfl) rfl (.cons (.tmp rfl) .nil)
    · replace h4 := ite_f hc2 h4
      have h7 := h4; clear h4
      refine wp_skip ?_
      refine then_normal ?_
      refine hK5 _ _ ?_
      have s18 := s14.sub (.cons (t := 0) rfl (.cons (t := 100000) rfl (.cons (t := 100001) rfl .nil))); clear s14
      refine wp_seq_k fun K8 hK8 => ?_
      refine wp_region_lit ?_
      refine seq_opx s18 rfl rfl (of_decide_eq_true rfl) (ob_new (k := k_digest_Hash) rfl zz35 (Zr.iso (f := t_digest_Hash) (x := (⟨false, (List.replicate 8 (0 : Int)), (List.replicate 64 (0 : Int)), (0 : Int), (0 : Int)⟩ : digest_Hash)) (Zr.pair Zr.bool (Zr.pair (Zr.arr 8 (Zr.int .u32)) (Zr.pair (Zr.arr 64 (Zr.int .u8)) (Zr.pair (Zr.int .i64) (Zr.pair (Zr.int .u64) Zr.nil))))))) fun b1 a19 w19 s19 => ?_; clear s18
      refine wpList_nil ?_
      refine then_normal ?_
      refine hK8 _ _ ?_
      have s20 := s19.sub (.cons (t := 0) rfl (.cons (t := 3) rfl (.cons (t := 100000) rfl (.cons (t := 100001) rfl .nil)))); clear s19
      refine wp_seq_k fun K9 hK9 => ?_
      refine wp_region_lit ?_
      refine seq_op s20 rfl rfl (of_decide_eq_true rfl) (ob_assign rfl (opd_str (by rfl) (by decide))) fun a21 w21 s21 => ?_; clear s20
      refine wpList_nil ?_
      refine then_normal ?_
      refine hK9 _ _ ?_
      have s22 := s21.sub (.cons (t := 0) rfl (.cons (t := 3) rfl (.cons (t := 4) rfl (.cons (t := 100000) rfl (.cons (t := 100001) rfl .nil))))); clear s21
      refine wp_seq_k fun K10 hK10 => ?_
      refine wp_seq_k fun K11 hK11 => ?_
      refine wp_region_lit ?_
      refine seq_op s22 rfl rfl (of_decide_eq_true rfl) (ob_assign rfl (opd_int rfl)) fun a23 w23 s23 => ?_; clear s22
      refine wpList_nil ?_
      refine then_normal ?_
      refine hK11 _ _ ?_
      have s24 := s23.sub (.cons (t := 0) rfl (.cons (t := 3) rfl (.cons (t := 4) rfl (.cons (t := 5) rfl (.cons (t := 100000) rfl (.cons (t := 100001) rfl .nil)))))); clear s23
      have hj1 : ∀ (y1 : (List Int)) (y2 : digest_Hash) (b1 : Nat) (a : Act) (w : World), (caballaw01_DigestWrites.j1 k) y1 y2 = some r → St ⟨73, w0, ok, []⟩ [BF b1 35 k_digest_Hash y2] [(3, (ptrB b1 0)), (4, (kstr.V y1)), (100000, (known (.pointer (some ⟨0, 0, none⟩)) (ptrTo (karr 8 (kint .u32)) G_digest_first))), (100001, (known (.pointer (some ⟨1, 0, none⟩)) (ptrTo (karr 64 (kint .u32)) G_digest_rounds)))] a w → K10 a w := by
        intro y1 y2 b1 a25 w25 h8 s25
        unfold caballaw01_DigestWrites.j1 at h8
        refine hK10 _ _ ?_
        refine wp_seq_k fun K12 hK12 => ?_
        refine wp_region_lit ?_
        refine seq_op s25 rfl rfl (of_decide_eq_true rfl) (ob_assign rfl opd_is) fun a26 w26 s26 => ?_; clear s25
        refine wpList_nil ?_
        refine then_normal ?_
        refine hK12 _ _ ?_
        have s27 := s26.sub (.cons (t := 3) rfl (.cons (t := 4) rfl (.cons (t := 6) rfl (.cons (t := 100000) rfl (.cons (t := 100001) rfl .nil))))); clear s26
        refine wp_seq_k fun K13 hK13 => ?_
        refine wp_region_lit ?_
        refine seq_op s27 rfl rfl (of_decide_eq_true rfl) (ob_move rfl (.tmp rfl)) fun a28 w28 s28 => ?_; clear s27
        refine seq_op s28 rfl rfl (of_decide_eq_true rfl) (ob_mkSlice (k := kstr) (xs := ([([120] : List Int)] : (List (List Int)))) rfl Tryd.underlying22 zz9 sz9 Zr.str (by decide) (by decide) (.cons (opd_str (by rfl) (by decide)) rfl (LS.arr' (i := 0) (ys := ([([120] : List Int)] : (List (List Int)))) (by simp) (by rfl)) (.nil _))) fun a29 w29 s29 => ?_; clear s28
        obtain ⟨x4, e_x4, h9⟩ := bind_some h8; clear h8
        refine seq_op s29 rfl rfl (of_decide_eq_true rfl) (ob_calls rfl hb21 (fun a w s => c_digest_Hash_Write_nil k _ _ e_x4 _ _ (s.env _ _ (show get _ 100000 = _ from rfl)) (s.env _ _ (show get _ 100001 = _ from rfl)) _ _ (s.arg (.tmp rfl)) (s.arg (.tmp rfl)))) fun a30 w30 s30 => ?_; clear s29
        refine wpList_nil ?_
        refine then_normal ?_
        refine hK13 _ _ ?_
        have s31 := s30.sub (.cons (t := 3) rfl (.cons (t := 4) rfl (.cons (t := 6) rfl (.cons (t := 100000) rfl (.cons (t := 100001) rfl .nil))))); clear s30
        refine wp_seq_k fun K14 hK14 => ?_
        refine wp_region_lit ?_
        obtain ⟨x5, e_x5, h10⟩ := bind_some h9; clear h9
        refine seq_op s31 rfl rfl (of_decide_eq_true rfl) (ob_calls rfl hb16 (fun a w s => c_caballaw01_alive k _ e_x5 _ _ (s.env _ _ (show get _ 100000 = _ from rfl)) (s.env _ _ (show get _ 100001 = _ from rfl)))) fun a32 w32 s32 => ?_; clear s31
        refine seq_op s32 rfl rfl (of_decide_eq_true rfl) (ob_move rfl (.tmp rfl)) fun a33 w33 s33 => ?_; clear s32
        obtain ⟨x6, e_x6, h11⟩ := bind_some h10; clear h10
        refine seq_opg s33 rfl rfl rfl rfl (of_decide_eq_true rfl) (fun hb => (ob_lend (t := 3) (A := []) rfl rfl rfl (Flat.res1 (Flat.V (KFlat.arr (KFlat.int _)))) (lendPtr (LG.refl _ _)) (fun _ => ob_calls rfl hb22 (fun a w s => c_digest_Hash_Sum k _ _ (ite_t hb e_x6) _ _ (s.env _ _ (show get _ 100000 = _ from rfl)) (s.env _ _ (show get _ 100001 = _ from rfl)) _ (s.arg (.tmp rfl)))))) fun a34 w34 s34 => ?_; clear s33
        refine seq_opg s34 rfl rfl rfl rfl (of_decide_eq_true rfl) (fun hb => ob_move rfl (.tmp rfl)) fun a35 w35 s35 => ?_; clear s34
        obtain ⟨x7, e_x7, h12⟩ := bind_some h11; clear h11
        refine seq_opg s35 rfl rfl rfl rfl (of_decide_eq_true rfl) (fun hb => (Ob.uncond (t := 51) hb rfl (ob_calls rfl hb19 (fun a w s => c_cabalref01_Sum k _ _ (ite_t hb e_x7) _ _ _ (s.arg (.tmp rfl)))))) fun a36 w36 s36 => ?_; clear s35
        refine seq_opg s36 rfl rfl rfl rfl (of_decide_eq_true rfl) (fun hb => (Ob.uncond (t := 52) hb rfl ((Ob.uncond (t := 50) hb rfl (ob_eqAgg rfl rfl (by kernel_rfl) eq26 (by decide) (.tmp rfl) (.tmp rfl)))))) fun a37 w37 s37 => ?_; clear s36
        refine seq_op s37 rfl rfl (of_decide_eq_true rfl) (ob_and2 rfl (.tmp rfl) (.tmp rfl) opd_bool) fun a38 w38 s38 => ?_; clear s37
        refine seq_op s38 rfl rfl (of_decide_eq_true rfl) (ob_move rfl (.tmp rfl)) fun a39 w39 s39 => ?_; clear s38
        obtain ⟨x8, e_x8, h13⟩ := bind_some h12; clear h12
        refine seq_opg s39 rfl rfl rfl rfl (of_decide_eq_true rfl) (fun hb => (ob_lend (t := 3) (A := []) rfl rfl rfl (Flat.res1 (Flat.V (KFlat.int _))) (lendPtr (LG.refl _ _)) (fun _ => ob_calls rfl hb25 (fun a w s => c_digest_Hash_Len k _ _ (ite_t hb e_x8) _ _ _ (s.arg (.tmp rfl)))))) fun a40 w40 s40 => ?_; clear s39
        refine seq_opg s40 rfl rfl rfl rfl (of_decide_eq_true rfl) (fun hb => ob_move rfl (.tmp rfl)) fun a41 w41 s41 => ?_; clear s40
        refine seq_opg s41 rfl rfl rfl rfl (of_decide_eq_true rfl) (fun hb => (Ob.uncond (t := 57) hb rfl (ob_lenStr rfl Tryd.underlying9 (.tmp rfl)))) fun a42 w42 s42 => ?_; clear s41
        refine seq_opg s42 rfl rfl rfl rfl (of_decide_eq_true rfl) (fun hb => (Ob.uncond (t := 58) hb rfl (ob_conv rfl _ Tryd.underlying3 Tryd.underlying33 (.tmp rfl)))) fun a43 w43 s43 => ?_; clear s42
        refine seq_opg s43 rfl rfl rfl rfl (of_decide_eq_true rfl) (fun hb => (Ob.uncond (t := 59) hb rfl ((Ob.uncond (t := 56) hb rfl (ob_eql rfl (.tmp rfl) (.tmp rfl)))))) fun a44 w44 s44 => ?_; clear s43
        obtain ⟨x9, e_x9, h14⟩ := bind_some h13; clear h13; replace e_x9 := Option.some.inj e_x9
        refine seq_op s44 rfl rfl (of_decide_eq_true rfl) ((ob_and2 rfl (.tmp rfl) (.tmp rfl) opd_bool).nm e_x9) fun a45 w45 s45 => ?_; clear s44
        refine seq_op s45 rfl rfl (of_decide_eq_true rfl) (ob_move rfl (.tmp rfl)) fun a46 w46 s46 => ?_; clear s45
        refine seq_opg s46 rfl rfl rfl rfl (of_decide_eq_true rfl) (fun hb => ob_move rfl (.tmp rfl)) fun a47 w47 s47 => ?_; clear s46
        obtain ⟨x10, e_x10, h15⟩ := bind_some h14; clear h14
        refine seq_opg s47 rfl rfl rfl rfl (of_decide_eq_true rfl) (fun hb => (Ob.uncond (t := 63) hb rfl (ob_calls rfl hb22 (fun a w s => c_digest_Hash_Sum_nil k _ (ite_t hb e_x10) _ _ (s.env _ _ (show get _ 100000 = _ from rfl)) (s.env _ _ (show get _ 100001 = _ from rfl)) _ (s.arg (.tmp rfl)))))) fun a48 w48 s48 => ?_; clear s47
        obtain ⟨x11, e_x11, h16⟩ := bind_some h15; clear h15
        refine seq_opg s48 rfl rfl rfl rfl (of_decide_eq_true rfl) (fun hb => ob_calls rfl hb19 (fun a w s => c_cabalref01_Sum k _ _ (ite_t hb e_x11) _ _ _ (s.arg (opd_str (by rfl) (by decide))))) fun a49 w49 s49 => ?_; clear s48
        refine seq_opg s49 rfl rfl rfl rfl (of_decide_eq_true rfl) (fun hb => (Ob.uncond (t := 65) hb rfl ((Ob.uncond (t := 64) hb rfl (ob_eqAgg rfl rfl (by kernel_rfl) eq26 (by decide) (.tmp rfl) (.tmp rfl)))))) fun a50 w50 s50 => ?_; clear s49
        refine seq_op s50 rfl rfl (of_decide_eq_true rfl) (ob_and2 rfl (.tmp rfl) (.tmp rfl) opd_bool) fun a51 w51 s51 => ?_; clear s50
        refine seq_op s51 rfl rfl (of_decide_eq_true rfl) (ob_move rfl (.tmp rfl)) fun a52 w52 s52 => ?_; clear s51
        refine seq_opg s52 rfl rfl rfl rfl (of_decide_eq_true rfl) (fun hb => ob_move rfl (.tmp rfl)) fun a53 w53 s53 => ?_; clear s52
        obtain ⟨x12, e_x12, h17⟩ := bind_some h16; clear h16
        refine seq_opg s53 rfl rfl rfl rfl (of_decide_eq_true rfl) (fun hb => (Ob.uncond (t := 69) hb rfl (ob_calls rfl hb25 (fun a w s => c_digest_Hash_Len_nil k _ (ite_t hb e_x12) _ _ _ (s.arg (.tmp rfl)))))) fun a54 w54 s54 => ?_; clear s53
        refine seq_opg s54 rfl rfl rfl rfl (of_decide_eq_true rfl) (fun hb => (Ob.uncond (t := 70) hb rfl (ob_eql rfl (.tmp rfl) (opd_int rfl)))) fun a55 w55 s55 => ?_; clear s54
        obtain ⟨x13, e_x13, h18⟩ := bind_some h17; clear h17; replace e_x13 := Option.some.inj e_x13
        refine seq_op s55 rfl rfl (of_decide_eq_true rfl) ((ob_and2 rfl (.tmp rfl) (.tmp rfl) opd_bool).nm e_x13) fun a56 w56 s56 => ?_; clear s55
        refine seq_op s56 rfl rfl (of_decide_eq_true rfl) (ob_assign rfl (.tmp rfl)) fun a57 w57 s57 => ?_; clear s56
        refine wpList_nil ?_
        refine then_normal ?_
        refine hK14 _ _ ?_
        have s58 := s57.sub (.cons (t := 2) rfl (.cons (t := 100000) rfl (.cons (t := 100001) rfl .nil))); clear s57
        have s59 := St.drop (A := []) s58; clear s58
        refine wp_ret ?_
        obtain rfl := Option.some.inj h18
        exact leave s59 (.inl rfl) rfl (.cons (.tmp rfl) .nil)
      refine wp_block ?_
      refine wp_loop_fuel (fun m (q : (List Int) × Int × digest_Hash) => caballaw01_DigestWrites.l1 k p1 m q.1 q.2.1 q.2.2) r (fun _ => rfl) (fun q a w => ∃ (b1 : Nat), St ⟨73, w0, ok, []⟩ [BF b1 35 k_digest_Hash q.2.2] [(0, ((ksl kstr).V p1)), (3, (ptrB b1 0)), (4, (kstr.V q.1)), (5, ((kint .i64).V q.2.1)), (100000, (known (.pointer (some ⟨0, 0, none⟩)) (ptrTo (karr 8 (kint .u32)) G_digest_first))), (100001, (known (.pointer (some ⟨1, 0, none⟩)) (ptrTo (karr 64 (kint .u32)) G_digest_rounds)))] a w) ?_ k (([] : List Int), (0 : Int), (⟨false, (List.replicate 8 (0 : Int)), (List.replicate 64 (0 : Int)), (0 : Int), (0 : Int)⟩ : digest_Hash)) _ _ h7 ⟨b1, (s24.sub (.cons rfl (.cons rfl (.cons rfl (.cons rfl (.cons rfl (.cons rfl .nil)))))))⟩
      rintro n1 ⟨y3, y4, y5⟩ a60 w60 h19 ⟨b1, s60⟩ K15 hK15
      replace h19 : caballaw01_DigestWrites.l1 k p1 (n1 + 1) y3 y4 y5 = some r := h19; rw [caballaw01_DigestWrites.l1] at h19
      have h20 := h19; clear h19
      refine wp_seq_k fun K16 hK16 => ?_
      refine wp_seq_k fun K17 hK17 => ?_
      refine wp_region_lit ?_
      refine seq_op s60 rfl rfl (of_decide_eq_true rfl) (ob_move rfl (.tmp rfl)) fun a61 w61 s61 => ?_; clear s60
      refine seq_op s61 rfl rfl (of_decide_eq_true rfl) (ob_move rfl (.tmp rfl)) fun a62 w62 s62 => ?_; clear s61
      refine seq_op s62 rfl rfl (of_decide_eq_true rfl) (ob_lens rfl Tryd.underlying22 (.tmp rfl)) fun a63 w63 s63 => ?_; clear s62
      refine seq_op s63 rfl rfl (of_decide_eq_true rfl) (ob_lss rfl (.tmp rfl) (.tmp rfl)) fun a64 w64 s64 => ?_; clear s63
      refine seq_op s64 rfl rfl (of_decide_eq_true rfl) (ob_move rfl (.tmp rfl)) fun a65 w65 s65 => ?_; clear s64
      refine seq_opg s65 rfl rfl rfl rfl (of_decide_eq_true rfl) (fun hb => ob_move rfl (.tmp rfl)) fun a66 w66 s66 => ?_; clear s65
      refine seq_opg s66 rfl rfl rfl rfl (of_decide_eq_true rfl) (fun hb => (Ob.uncond (t := 17) hb rfl (ob_lss rfl (.tmp rfl) (opd_int rfl)))) fun a67 w67 s67 => ?_; clear s66
      obtain ⟨x14, e_x14, h21⟩ := bind_some h20; clear h20; replace e_x14 := Option.some.inj e_x14
      refine seq_op s67 rfl rfl (of_decide_eq_true rfl) ((ob_and2 rfl (.tmp rfl) (.tmp rfl) opd_bool).nm e_x14) fun a68 w68 s68 => ?_; clear s67
      refine wpList_nil ?_
      refine then_normal ?_
      refine hK17 _ _ ?_
      have s69 := s68.sub (.cons (t := 0) rfl (.cons (t := 3) rfl (.cons (t := 4) rfl (.cons (t := 5) rfl (.cons (t := 19) rfl (.cons (t := 100000) rfl (.cons (t := 100001) rfl .nil))))))); clear s68
      refine cond_split s69 (.tmp rfl) (fun hc3 => ?_) (fun hc3 => ?_)
      · replace h21 := ite_t hc3 h21
        have h22 := h21; clear h21
        refine wp_skip ?_
        refine then_normal ?_
        refine hK16 _ _ ?_
        have s70 := s69.sub (.cons (t := 0) rfl (.cons (t := 3) rfl (.cons (t := 4) rfl (.cons (t := 5) rfl (.cons (t := 100000) rfl (.cons (t := 100001) rfl .nil)))))); clear s69
        refine wp_seq_k fun K18 hK18 => ?_
        refine wp_block ?_
        refine wp_seq_k fun K19 hK19 => ?_
        refine wp_seq_k fun K20 hK20 => ?_
        refine wp_region_lit ?_
        obtain ⟨x15, e_x15, h23⟩ := bind_some h22; clear h22
        refine seq_op s70 rfl rfl (of_decide_eq_true rfl) ((ob_lend (t := 3) (A := []) rfl rfl rfl (Flat.res1 (Flat.V (KFlat.arr (KFlat.int _)))) (lendPtr (LG.refl _ _)) (fun _ => ob_calls rfl hb22 (fun a w s => c_digest_Hash_Sum k _ _ e_x15 _ _ (s.env _ _ (show get _ 100000 = _ from rfl)) (s.env _ _ (show get _ 100001 = _ from rfl)) _ (s.arg (.tmp rfl)))))) fun a71 w71 s71 => ?_; clear s70
        refine seq_op s71 rfl rfl (of_decide_eq_true rfl) (ob_move rfl (.tmp rfl)) fun a72 w72 s72 => ?_; clear s71
        obtain ⟨x16, e_x16, h24⟩ := bind_some h23; clear h23
        refine seq_op s72 rfl rfl (of_decide_eq_true rfl) (ob_calls rfl hb19 (fun a w s => c_cabalref01_Sum k _ _ e_x16 _ _ _ (s.arg (.tmp rfl)))) fun a73 w73 s73 => ?_; clear s72
        refine seq_op s73 rfl rfl (of_decide_eq_true rfl) (ob_neqAgg rfl rfl (by kernel_rfl) eq26 (by decide) (.tmp rfl) (.tmp rfl)) fun a74 w74 s74 => ?_; clear s73
        refine seq_op s74 rfl rfl (of_decide_eq_true rfl) (ob_move rfl (.tmp rfl)) fun a75 w75 s75 => ?_; clear s74
        obtain ⟨x17, e_x17, h25⟩ := bind_some h24; clear h24
        refine seq_opg s75 rfl rfl rfl rfl (of_decide_eq_true rfl) (fun hb => (ob_lend (t := 3) (A := []) rfl rfl rfl (Flat.res1 (Flat.V (KFlat.int _))) (lendPtr (LG.refl _ _)) (fun _ => ob_calls rfl hb25 (fun a w s => c_digest_Hash_Len k _ _ (ite_t hb e_x17) _ _ _ (s.arg (.tmp rfl)))))) fun a76 w76 s76 => ?_; clear s75
        refine seq_opg s76 rfl rfl rfl rfl (of_decide_eq_true rfl) (fun hb => ob_move rfl (.tmp rfl)) fun a77 w77 s77 => ?_; clear s76
        refine seq_opg s77 rfl rfl rfl rfl (of_decide_eq_true rfl) (fun hb => (Ob.uncond (t := 28) hb rfl (ob_lenStr rfl Tryd.underlying9 (.tmp rfl)))) fun a78 w78 s78 => ?_; clear s77
        refine seq_opg s78 rfl rfl rfl rfl (of_decide_eq_true rfl) (fun hb => (Ob.uncond (t := 29) hb rfl (ob_conv rfl _ Tryd.underlying3 Tryd.underlying33 (.tmp rfl)))) fun a79 w79 s79 => ?_; clear s78
        refine seq_opg s79 rfl rfl rfl rfl (of_decide_eq_true rfl) (fun hb => (Ob.uncond (t := 30) hb rfl ((Ob.uncond (t := 27) hb rfl (ob_neq rfl (.tmp rfl) (.tmp rfl)))))) fun a80 w80 s80 => ?_; clear s79
        obtain ⟨x18, e_x18, h26⟩ := bind_some h25; clear h25; replace e_x18 := Option.some.inj e_x18
        refine seq_op s80 rfl rfl (of_decide_eq_true rfl) ((ob_or2 rfl (.tmp rfl) opd_bool (.tmp rfl)).nm e_x18) fun a81 w81 s81 => ?_; clear s80
        refine wpList_nil ?_
        refine then_normal ?_
        refine hK20 _ _ ?_
        have s82 := s81.sub (.cons (t := 0) rfl (.cons (t := 3) rfl (.cons (t := 4) rfl (.cons (t := 5) rfl (.cons (t := 32) rfl (.cons (t := 100000) rfl (.cons (t := 100001) rfl .nil))))))); clear s81
        refine cond_split s82 (.tmp rfl) (fun hc4 => ?_) (fun hc4 => ?_)
        · replace h26 := ite_t hc4 h26
          have h27 := h26; clear h26
          refine wp_seq_k fun K21 hK21 => ?_
          refine wp_region_lit ?_
          refine seq_op s82 rfl rfl (of_decide_eq_true rfl) (ob_assign rfl opd_bool) fun a83 w83 s83 => ?_; clear s82
          refine wpList_nil ?_
          refine then_normal ?_
          refine hK21 _ _ ?_
          have s84 := s83.sub (.cons (t := 2) rfl (.cons (t := 100000) rfl (.cons (t := 100001) rfl .nil))); clear s83
          have s85 := St.drop (A := []) s84; clear s84
          refine wp_ret ?_
          obtain rfl := Option.some.inj h27
          exact leave s85 (.inl rfl) rfl (.cons (.tmp rfl) .nil)
        · replace h26 := ite_f hc4 h26
          have h28 := h26; clear h26
          refine wp_skip ?_
          refine then_normal ?_
          refine hK19 _ _ ?_
          have s86 := s82.sub (.cons (t := 0) rfl (.cons (t := 3) rfl (.cons (t := 4) rfl (.cons (t := 5) rfl (.cons (t := 100000) rfl (.cons (t := 100001) rfl .nil)))))); clear s82
          refine wp_seq_k fun K22 hK22 => ?_
          refine wp_region_lit ?_
          refine seq_op s86 rfl rfl (of_decide_eq_true rfl) (ob_move rfl (.tmp rfl)) fun a87 w87 s87 => ?_; clear s86
          refine seq_op s87 rfl rfl (of_decide_eq_true rfl) (ob_move rfl (.tmp rfl)) fun a88 w88 s88 => ?_; clear s87
          obtain ⟨x19, e_x19, h29⟩ := bind_some h28; clear h28
          refine seq_op s88 rfl rfl (of_decide_eq_true rfl) (ob_indexAddrs rfl Tryd.underlying22 sz9 (.tmp rfl) (.tmp rfl) e_x19) fun a89 w89 s89 => ?_; clear s88
          refine seq_op s89 rfl rfl (of_decide_eq_true rfl) (ob_loadr rfl tk9 (.tmp rfl)) fun a90 w90 s90 => ?_; clear s89
          refine seq_op s90 rfl rfl (of_decide_eq_true rfl) (ob_mkSlice (k := kstr) (xs := ([x19] : (List (List Int)))) rfl Tryd.underlying22 zz9 sz9 Zr.str (by decide) (by decide) (.cons (.tmp rfl) rfl (LS.arr' (i := 0) (ys := ([x19] : (List (List Int)))) (by simp) (by rfl)) (.nil _))) fun a91 w91 s91 => ?_; clear s90
          obtain ⟨x20, e_x20, h30⟩ := bind_some h29; clear h29
          refine seq_opx (B' := fun _ => [BF b1 35 k_digest_Hash x20]) s91 rfl rfl (of_decide_eq_true rfl) (ob_callW (A := []) rfl hb21 rfl (LG.refl _ _) (LS.refl _ _ _) (by decide) rfl (fun a w s pre post q1 q2 hpl hl hd => c_digest_Hash_Write k _ _ _ e_x20 _ _ (s.env _ _ (show get _ 100000 = _ from rfl)) (s.env _ _ (show get _ 100001 = _ from rfl)) _ _ _ _ pre post q1 q2 hl hd (by rw [hpl]; exact s.arg (.tmp rfl)) (s.arg (.tmp rfl)))) fun _ a92 w92 s92 => ?_; clear s91
          refine wpList_nil ?_
          refine then_normal ?_
          refine hK22 _ _ ?_
          have s93 := s92.sub (.cons (t := 0) rfl (.cons (t := 3) rfl (.cons (t := 4) rfl (.cons (t := 5) rfl (.cons (t := 100000) rfl (.cons (t := 100001) rfl .nil)))))); clear s92
          refine wp_region_lit ?_
          refine seq_op s93 rfl rfl (of_decide_eq_true rfl) (ob_move rfl (.tmp rfl)) fun a94 w94 s94 => ?_; clear s93
          refine seq_op s94 rfl rfl (of_decide_eq_true rfl) (ob_move rfl (.tmp rfl)) fun a95 w95 s95 => ?_; clear s94
          refine seq_op s95 rfl rfl (of_decide_eq_true rfl) (ob_move rfl (.tmp rfl)) fun a96 w96 s96 => ?_; clear s95
          obtain ⟨x21, e_x21, h31⟩ := bind_some h30; clear h30
          refine seq_op s96 rfl rfl (of_decide_eq_true rfl) (ob_indexAddrs rfl Tryd.underlying22 sz9 (.tmp rfl) (.tmp rfl) e_x21) fun a97 w97 s97 => ?_; clear s96
          refine seq_op s97 rfl rfl (of_decide_eq_true rfl) (ob_loadr rfl tk9 (.tmp rfl)) fun a98 w98 s98 => ?_; clear s97
          obtain ⟨g1, h32⟩ := guard_some h31; clear h31
          refine seq_op s98 rfl rfl (of_decide_eq_true rfl) (ob_cat rfl (.tmp rfl) (.tmp rfl) g1) fun a99 w99 s99 => ?_; clear s98
          refine seq_op s99 rfl rfl (of_decide_eq_true rfl) (ob_assign rfl (.tmp rfl)) fun a100 w100 s100 => ?_; clear s99
          refine wpList_nil ?_
          refine in_normal ?_
          refine then_normal ?_
          refine hK18 _ _ ?_
          have s101 := s100.sub (.cons (t := 0) rfl (.cons (t := 3) rfl (.cons (t := 4) rfl (.cons (t := 5) rfl (.cons (t := 100000) rfl (.cons (t := 100001) rfl .nil)))))); clear s100
          refine wp_region_lit ?_
          refine seq_op s101 rfl rfl (of_decide_eq_true rfl) (ob_move rfl (.tmp rfl)) fun a102 w102 s102 => ?_; clear s101
          refine seq_op s102 rfl rfl (of_decide_eq_true rfl) (ob_add rfl (.tmp rfl) (opd_int rfl)) fun a103 w103 s103 => ?_; clear s102
          refine seq_op s103 rfl rfl (of_decide_eq_true rfl) (ob_assign rfl (.tmp rfl)) fun a104 w104 s104 => ?_; clear s103
          refine wpList_nil ?_
          refine then_normal ?_
          exact hK15 ((y3 ++ x21), (iadd .i64 y4 (1 : Int)), x20) _ _ h32 ⟨b1, (s104.sub (.cons rfl (.cons rfl (.cons rfl (.cons rfl (.cons rfl (.cons rfl .nil)))))))⟩
      · replace h21 := ite_f hc3 h21
        have h33 := h21; clear h21
        refine wp_exit ?_
        refine (then_exit (then_exit (in_here ?_)))
        refine then_normal ?_
        exact hj1 y3 y5 b1 _ _ h33 (s69.sub (.cons rfl (.cons rfl (.cons rfl (.cons rfl .nil)))))

/- 7 cabal/caballaw01.DigestPieces -/
theorem c_caballaw01_DigestPieces (k : Nat) (p1 : (List Int)) (p2 : (List Int)) (r : Bool) (h0 : caballaw01_DigestPieces k p1 p2 = some r) (ok : Ok) (w0 : World) (gl0 : (ptrTo (karr 8 (kint .u32)) G_digest_first).holds ok w0 (.pointer (some ⟨0, 0, none⟩))) (gl1 : (ptrTo (karr 64 (kint .u32)) G_digest_rounds).holds ok w0 (.pointer (some ⟨1, 0, none⟩))) (z0 : Value) (z1 : Value) (u0 : (kstr.V p1).holds ok w0 z0) (u1 : ((ksl (kint .u16)).V p2).holds ok w0 z1) :
    Gives Tryd.prog 7 [z0, z1] ok w0 (resFact [kbool.V r]) := by
  unfold caballaw01_DigestPieces at h0
  refine enter (N := 91) Tryd.func7 rfl rfl (of_decide_eq_true rfl) (.cons u0 (.cons u1 .nil)) fun a1 s1 => ?_
  have s2 := s1.keepKnown 100000 gl0 okIn; clear s1
  have s3 := s2.keepKnown 100001 gl1 okIn; clear s2
  refine wp_seq_k fun K1 hK1 => ?_
  refine wp_region_lit ?_
  refine seq_op s3 rfl rfl (of_decide_eq_true rfl) (ob_assign rfl opd_bool) fun a4 w4 s4 => ?_; clear s3
  refine wpList_nil ?_
  refine then_normal ?_
  refine hK1 _ _ ?_
  have s5 := s4.sub (.cons (t := 0) rfl (.cons (t := 1) rfl (.cons (t := 100000) rfl (.cons (t := 100001) rfl .nil)))); clear s4
  refine wp_seq_k fun K2 hK2 => ?_
  refine wp_seq_k fun K3 hK3 => ?_
  refine wp_region_lit ?_
  obtain ⟨x1, e_x1, h1⟩ := bind_some h0; clear h0
  refine seq_op s5 rfl rfl (of_decide_eq_true rfl) (ob_calls rfl hb16 (fun a w s => c_caballaw01_alive k _ e_x1 _ _ (s.env _ _ (show get _ 100000 = _ from rfl)) (s.env _ _ (show get _ 100001 = _ from rfl)))) fun a6 w6 s6 => ?_; clear s5
  refine seq_op s6 rfl rfl (of_decide_eq_true rfl) (ob_not rfl (.tmp rfl)) fun a7 w7 s7 => ?_; clear s6
  refine wpList_nil ?_
  refine then_normal ?_
  refine hK3 _ _ ?_
  have s8 := s7.sub (.cons (t := 0) rfl (.cons (t := 1) rfl (.cons (t := 12) rfl (.cons (t := 100000) rfl (.cons (t := 100001) rfl .nil))))); clear s7
  refine cond_split s8 (.tmp rfl) (fun hc1 => ?_) (fun hc1 => ?_)
  · replace h1 := ite_t hc1 h1
    have h2 := h1; clear h1
    refine wp_seq_k fun K4 hK4 => ?_
    refine wp_region_lit ?_
    refine seq_op s8 rfl rfl (of_decide_eq_true rfl) (ob_assign rfl opd_bool) fun a9 w9 s9 => ?_; clear s8
    refine wpList_nil ?_
    refine then_normal ?_
    refine hK4 _ _ ?_
    have s10 := s9.sub (.cons (t := 4) rfl (.cons (t := 100000) rfl (.cons (t := 100001) rfl .nil))); clear s9
    refine wp_ret ?_
    obtain rfl := Option.some.inj h2
    exact leave s10 (.inl rfl) rfl (.cons (.tmp rfl) .nil)
  · replace h1 := ite_f hc1 h1
    have h3 := h1; clear h1
    refine wp_skip ?_
    refine then_normal ?_
    refine hK2 _ _ ?_
    have s11 := s8.sub (.cons (t := 0) rfl (.cons (t := 1) rfl (.cons (t := 100000) rfl (.cons (t := 100001) rfl .nil)))); clear s8
    refine wp_seq_k fun K5 hK5 => ?_
    refine wp_seq_k fun K6 hK6 => ?_
    refine wp_region_lit ?_
    refine seq_op s11 rfl rfl (of_decide_eq_true rfl) (ob_move rfl (.tmp rfl)) fun a12 w12 s12 => ?_; clear s11
    refine seq_op s12 rfl rfl (of_decide_eq_true rfl) (ob_lenStr rfl Tryd.underlying9 (.tmp rfl)) fun a13 w13 s13 => ?_; clear s12
    refine seq_op s13 rfl rfl (of_decide_eq_true rfl) (ob_gtr rfl (.tmp rfl) (opd_int rfl)) fun a14 w14 s14 => ?_; clear s13
    refine wpList_nil ?_
    refine then_normal ?_
    refine hK6 _ _ ?_
    have s15 := s14.sub (.cons (t := 0) rfl (.cons (t := 1) rfl (.cons (t := 15) rfl (.cons (t := 100000) rfl (.cons (t := 100001) rfl .nil))))); clear s14
    refine cond_split s15 (.tmp rfl) (fun hc2 => ?_) (fun hc2 => ?_)
    · replace h3 := ite_t hc2 h3
      have h4 := h3; clear h3
      refine wp_seq_k fun K7 hK7 => ?_
      refine wp_region_lit ?_
      obtain ⟨x2, e_x2, h5⟩ := bind_some h4; clear h4
      refine seq_op s15 rfl rfl (of_decide_eq_true rfl) (ob_calls rfl hb16 (fun a w s => c_caballaw01_alive k _ e_x2 _ _ (s.env _ _ (show get _ 100000 = _ from rfl)) (s.env _ _ (show get _ 100001 = _ from rfl)))) fun a16 w16 s16 => ?_; clear s15
      refine seq_op s16 rfl rfl (of_decide_eq_true rfl) (ob_assign rfl (.tmp rfl)) fun a17 w17 s17 => ?_; clear s16
      refine wpList_nil ?_
      refine then_normal ?_
      refine hK7 _ _ ?_
      have s18 := s17.sub (.cons (t := 4) rfl (.cons (t := 100000) rfl (.cons (t := 100001) rfl .nil))); clear s17
      refine wp_ret ?_
      obtain rfl := Option.some.inj h5
      exact leave s18 (.inl rfl) rfl (.cons (.tmp rfl) .nil)
    · replace h3 := ite_f hc2 h3
      have h6 := h3; clear h3
      refine wp_skip ?_
      refine then_normal ?_
      refine hK5 _ _ ?_
      have s19 := s15.sub (.cons (t := 0) rfl (.cons (t := 1) rfl (.cons (t := 100000) rfl (.cons (t := 100001) rfl .nil)))); clear s15
      refine wp_seq_k fun K8 hK8 => ?_
      refine wp_region_lit ?_
      refine seq_opx s19 rfl rfl (of_decide_eq_true rfl) (ob_new (k := k_digest_Hash) rfl zz35 (Zr.iso (f := t_digest_Hash) (x := (⟨false, (List.replicate 8 (0 : Int)), (List.replicate 64 (0 : Int)), (0 : Int), (0 : Int)⟩ : digest_Hash)) (Zr.pair Zr.bool (Zr.pair (Zr.arr 8 (Zr.int .u32)) (Zr.pair (Zr.arr 64 (Zr.int .u8)) (Zr.pair (Zr.int .i64) (Zr.pair (Zr.int .u64) Zr.nil))))))) fun b1 a20 w20 s20 => ?_; clear s19
      refine wpList_nil ?_
      refine then_normal ?_
      refine hK8 _ _ ?_
      have s21 := s20.sub (.cons (t := 0) rfl (.cons (t := 1) rfl (.cons (t := 5) rfl (.cons (t := 100000) rfl (.cons (t := 100001) rfl .nil))))); clear s20
      refine wp_seq_k fun K9 hK9 => ?_
      refine wp_region_lit ?_
      refine seq_op s21 rfl rfl (of_decide_eq_true rfl) (ob_assign rfl opd_is) fun a22 w22 s22 => ?_; clear s21
      have s23 := St.adopt s22 (G := RowF (.slice none 0 0) 9 kstr []) rfl (rowNil _ _ _ _); clear s22
      refine wpList_nil ?_
      refine then_normal ?_
      refine hK9 _ _ ?_
      have s24 := s23.sub (.cons (t := 0) rfl (.cons (t := 1) rfl (.cons (t := 5) rfl (.cons (t := 6) rfl (.cons (t := 100000) rfl (.cons (t := 100001) rfl .nil)))))); clear s23
      refine wp_seq_k fun K10 hK10 => ?_
      refine wp_region_lit ?_
      refine seq_op s24 rfl rfl (of_decide_eq_true rfl) (ob_assign rfl (opd_int rfl)) fun a25 w25 s25 => ?_; clear s24
      refine wpList_nil ?_
      refine then_normal ?_
      refine hK10 _ _ ?_
      have s26 := s25.sub (.cons (t := 0) rfl (.cons (t := 1) rfl (.cons (t := 5) rfl (.cons (t := 6) rfl (.cons (t := 7) rfl (.cons (t := 100000) rfl (.cons (t := 100001) rfl .nil))))))); clear s25
      refine wp_seq_k fun K11 hK11 => ?_
      refine wp_seq_k fun K12 hK12 => ?_
      refine wp_region_lit ?_
      refine seq_op s26 rfl rfl (of_decide_eq_true rfl) (ob_assign rfl (opd_int rfl)) fun a27 w27 s27 => ?_; clear s26
      refine wpList_nil ?_
      refine then_normal ?_
      refine hK12 _ _ ?_
      have s28 := s27.sub (.cons (t := 0) rfl (.cons (t := 1) rfl (.cons (t := 5) rfl (.cons (t := 6) rfl (.cons (t := 7) rfl (.cons (t := 8) rfl (.cons (t := 100000) rfl (.cons (t := 100001) rfl .nil)))))))); clear s27
      have hj1 : ∀ (y1 : (List (List Int))) (y2 : Int) (v1 : Value) (b1 : Nat) (a : Act) (w : World), (caballaw01_DigestPieces.j1 k p1) y1 y2 = some r → St ⟨91, w0, ok, []⟩ [RowF v1 9 kstr y1, BF b1 35 k_digest_Hash (⟨false, (List.replicate 8 (0 : Int)), (List.replicate 64 (0 : Int)), (0 : Int), (0 : Int)⟩ : digest_Hash)] [(0, (kstr.V p1)), (5, (ptrB b1 0)), (6, (is v1)), (7, ((kint .i64).V y2)), (100000, (known (.pointer (some ⟨0, 0, none⟩)) (ptrTo (karr 8 (kint .u32)) G_digest_first))), (100001, (known (.pointer (some ⟨1, 0, none⟩)) (ptrTo (karr 64 (kint .u32)) G_digest_rounds)))] a w → K11 a w := by
        intro y1 y2 v1 b1 a29 w29 h7 s29
        unfold caballaw01_DigestPieces.j1 at h7
        refine hK11 _ _ ?_
        refine wp_seq_k fun K13 hK13 => ?_
        refine wp_region_lit ?_
        refine seq_op s29 rfl rfl (of_decide_eq_true rfl) (ob_move rfl (.tmp rfl)) fun a30 w30 s30 => ?_; clear s29
        refine seq_op s30 rfl rfl (of_decide_eq_true rfl) (ob_move rfl (.tmp rfl)) fun a31 w31 s31 => ?_; clear s30
        refine seq_op s31 rfl rfl (of_decide_eq_true rfl) (ob_move rfl (.tmp rfl)) fun a32 w32 s32 => ?_; clear s31
        obtain ⟨x3, e_x3, h8⟩ := bind_some h7; clear h7
        refine seq_op s32 rfl rfl (of_decide_eq_true rfl) (ob_cutStr rfl Tryd.underlying9 (.tmp rfl) (.some (.tmp rfl)) .none e_x3) fun a33 w33 s33 => ?_; clear s32
        refine seq_op s33 rfl rfl (of_decide_eq_true rfl) (ob_mkSlice (k := kstr) (xs := ([x3] : (List (List Int)))) rfl Tryd.underlying22 zz9 sz9 Zr.str (by decide) (by decide) (.cons (.tmp rfl) rfl (LS.arr' (i := 0) (ys := ([x3] : (List (List Int)))) (by simp) (by rfl)) (.nil _))) fun a34 w34 s34 => ?_; clear s33
        obtain ⟨g1, h9⟩ := guard_some h8; clear h8
        refine seq_opx s34 rfl rfl (of_decide_eq_true rfl) (ob_appendL (A := []) rfl Tryd.underlying22 ap9 Zr.str (by decide) (by decide) (.tmp rfl) (.tmp rfl) rfl g1) fun v2 a35 w35 s35 => ?_; clear s34
        refine seq_op s35 rfl rfl (of_decide_eq_true rfl) (ob_assign rfl (.tmp rfl)) fun a36 w36 s36 => ?_; clear s35
        refine wpList_nil ?_
        refine then_normal ?_
        refine hK13 _ _ ?_
        have s37 := s36.sub (.cons (t := 0) rfl (.cons (t := 5) rfl (.cons (t := 6) rfl (.cons (t := 100000) rfl (.cons (t := 100001) rfl .nil))))); clear s36
        refine wp_seq_k fun K14 hK14 => ?_
        refine wp_seq_k fun K15 hK15 => ?_
        refine wp_region_lit ?_
        refine seq_op s37 rfl rfl (of_decide_eq_true rfl) (ob_assign rfl (opd_int rfl)) fun a38 w38 s38 => ?_; clear s37
        refine wpList_nil ?_
        refine then_normal ?_
        refine hK15 _ _ ?_
        have s39 := s38.sub (.cons (t := 0) rfl (.cons (t := 5) rfl (.cons (t := 6) rfl (.cons (t := 10) rfl (.cons (t := 100000) rfl (.cons (t := 100001) rfl .nil)))))); clear s38
        have hj2 : ∀ (y3 : digest_Hash) (v3 : Value) (a : Act) (w : World), (caballaw01_DigestPieces.j2 k p1 y1 x3) y3 = some r → St ⟨91, w0, ok, []⟩ [RowF v3 9 kstr (y1 ++ ([x3] : (List (List Int)))), BF b1 35 k_digest_Hash y3] [(0, (kstr.V p1)), (5, (ptrB b1 0)), (6, (is v3)), (100000, (known (.pointer (some ⟨0, 0, none⟩)) (ptrTo (karr 8 (kint .u32)) G_digest_first))), (100001, (known (.pointer (some ⟨1, 0, none⟩)) (ptrTo (karr 64 (kint .u32)) G_digest_rounds)))] a w → K14 a w := by
          intro y3 v3 a40 w40 h10 s40
          unfold caballaw01_DigestPieces.j2 at h10
          refine hK14 _ _ ?_
          refine wp_seq_k fun K16 hK16 => ?_
          refine wp_region_lit ?_
          obtain ⟨x4, e_x4, h11⟩ := bind_some h10; clear h10
          refine seq_op s40 rfl rfl (of_decide_eq_true rfl) (ob_calls rfl hb16 (fun a w s => c_caballaw01_alive k _ e_x4 _ _ (s.env _ _ (show get _ 100000 = _ from rfl)) (s.env _ _ (show get _ 100001 = _ from rfl)))) fun a41 w41 s41 => ?_; clear s40
          refine seq_op s41 rfl rfl (of_decide_eq_true rfl) (ob_move rfl (.tmp rfl)) fun a42 w42 s42 => ?_; clear s41
          obtain ⟨x5, e_x5, h12⟩ := bind_some h11; clear h11
          refine seq_opg s42 rfl rfl rfl rfl (of_decide_eq_true rfl) (fun hb => (ob_lend (t := 5) (A := [_]) rfl rfl rfl (Flat.res1 (Flat.V (KFlat.arr (KFlat.int _)))) (lendPtr (LG.refl _ _)) (fun _ => ob_calls rfl hb22 (fun a w s => c_digest_Hash_Sum k _ _ (ite_t hb e_x5) _ _ (s.env _ _ (show get _ 100000 = _ from rfl)) (s.env _ _ (show get _ 100001 = _ from rfl)) _ (s.arg (.tmp rfl)))))) fun a43 w43 s43 => ?_; clear s42
          refine seq_opg s43 rfl rfl rfl rfl (of_decide_eq_true rfl) (fun hb => ob_move rfl (.tmp rfl)) fun a44 w44 s44 => ?_; clear s43
          refine seq_opg s44 rfl rfl rfl rfl (of_decide_eq_true rfl) (fun hb => (Ob.uncond (t := 71) hb rfl (ob_mkSlice (k := kstr) (xs := ([p1] : (List (List Int)))) rfl Tryd.underlying22 zz9 sz9 Zr.str (by decide) (by decide) (.cons (.tmp rfl) rfl (LS.arr' (i := 0) (ys := ([p1] : (List (List Int)))) (by simp) (by rfl)) (.nil _))))) fun a45 w45 s45 => ?_; clear s44
          obtain ⟨x6, e_x6, h13⟩ := bind_some h12; clear h12
          refine seq_opg s45 rfl rfl rfl rfl (of_decide_eq_true rfl) (fun hb => (Ob.uncond (t := 72) hb rfl (ob_calls rfl hb18 (fun a w s => c_digest_Sum k _ _ (ite_t hb e_x6) _ _ (s.env _ _ (show get _ 100000 = _ from rfl)) (s.env _ _ (show get _ 100001 = _ from rfl)) _ (s.arg (.tmp rfl)))))) fun a46 w46 s46 => ?_; clear s45
          refine seq_opg s46 rfl rfl rfl rfl (of_decide_eq_true rfl) (fun hb => (Ob.uncond (t := 73) hb rfl ((Ob.uncond (t := 70) hb rfl (ob_eqAgg rfl rfl (by kernel_rfl) eq26 (by decide) (.tmp rfl) (.tmp rfl)))))) fun a47 w47 s47 => ?_; clear s46
          refine seq_op s47 rfl rfl (of_decide_eq_true rfl) (ob_and2 rfl (.tmp rfl) (.tmp rfl) opd_bool) fun a48 w48 s48 => ?_; clear s47
          refine seq_op s48 rfl rfl (of_decide_eq_true rfl) (ob_move rfl (.tmp rfl)) fun a49 w49 s49 => ?_; clear s48
          have s50 := St.freezeAllM (fun _ h => by cases h) (A := []) s49 (ts := [6]) (.cons rfl .nil)
          refine seq_opg s50 rfl rfl rfl rfl (of_decide_eq_true rfl) (fun hb => ob_move rfl (.tmp rfl)) fun a51 w51 s51 => ?_; clear s50
          obtain ⟨x7, e_x7, h14⟩ := bind_some h13; clear h13
          refine seq_opg s51 rfl rfl rfl rfl (of_decide_eq_true rfl) (fun hb => (Ob.uncond (t := 77) hb rfl (ob_calls rfl hb18 (fun a w s => c_digest_Sum k _ _ (ite_t hb e_x7) _ _ (s.env _ _ (show get _ 100000 = _ from rfl)) (s.env _ _ (show get _ 100001 = _ from rfl)) _ (s.arg (.tmp rfl)))))) fun a52 w52 s52 => ?_; clear s51
          refine seq_opg s52 rfl rfl rfl rfl (of_decide_eq_true rfl) (fun hb => ob_move rfl (.tmp rfl)) fun a53 w53 s53 => ?_; clear s52
          refine seq_opg s53 rfl rfl rfl rfl (of_decide_eq_true rfl) (fun hb => (Ob.uncond (t := 79) hb rfl (ob_mkSlice (k := kstr) (xs := ([p1] : (List (List Int)))) rfl Tryd.underlying22 zz9 sz9 Zr.str (by decide) (by decide) (.cons (.tmp rfl) rfl (LS.arr' (i := 0) (ys := ([p1] : (List (List Int)))) (by simp) (by rfl)) (.nil _))))) fun a54 w54 s54 => ?_; clear s53
          obtain ⟨x8, e_x8, h15⟩ := bind_some h14; clear h14
          refine seq_opg s54 rfl rfl rfl rfl (of_decide_eq_true rfl) (fun hb => (Ob.uncond (t := 80) hb rfl (ob_calls rfl hb18 (fun a w s => c_digest_Sum k _ _ (ite_t hb e_x8) _ _ (s.env _ _ (show get _ 100000 = _ from rfl)) (s.env _ _ (show get _ 100001 = _ from rfl)) _ (s.arg (.tmp rfl)))))) fun a55 w55 s55 => ?_; clear s54
          refine seq_opg s55 rfl rfl rfl rfl (of_decide_eq_true rfl) (fun hb => (Ob.uncond (t := 81) hb rfl ((Ob.uncond (t := 78) hb rfl (ob_eqAgg rfl rfl (by kernel_rfl) eq26 (by decide) (.tmp rfl) (.tmp rfl)))))) fun a56 w56 s56 => ?_; clear s55
          obtain ⟨x9, e_x9, h16⟩ := bind_some h15; clear h15; replace e_x9 := Option.some.inj e_x9
          refine seq_op s56 rfl rfl (of_decide_eq_true rfl) ((ob_and2 rfl (.tmp rfl) (.tmp rfl) opd_bool).nm e_x9) fun a57 w57 s57 => ?_; clear s56
          refine seq_op s57 rfl rfl (of_decide_eq_true rfl) (ob_move rfl (.tmp rfl)) fun a58 w58 s58 => ?_; clear s57
          obtain ⟨x10, e_x10, h17⟩ := bind_some h16; clear h16
          refine seq_opg s58 rfl rfl rfl rfl (of_decide_eq_true rfl) (fun hb => (ob_lend (t := 5) (A := []) rfl rfl rfl (Flat.res1 (Flat.V (KFlat.int _))) (lendPtr (LG.refl _ _)) (fun _ => ob_calls rfl hb25 (fun a w s => c_digest_Hash_Len k _ _ (ite_t hb e_x10) _ _ _ (s.arg (.tmp rfl)))))) fun a59 w59 s59 => ?_; clear s58
          refine seq_opg s59 rfl rfl rfl rfl (of_decide_eq_true rfl) (fun hb => ob_move rfl (.tmp rfl)) fun a60 w60 s60 => ?_; clear s59
          refine seq_opg s60 rfl rfl rfl rfl (of_decide_eq_true rfl) (fun hb => (Ob.uncond (t := 86) hb rfl (ob_lenStr rfl Tryd.underlying9 (.tmp rfl)))) fun a61 w61 s61 => ?_; clear s60
          refine seq_opg s61 rfl rfl rfl rfl (of_decide_eq_true rfl) (fun hb => (Ob.uncond (t := 87) hb rfl (ob_conv rfl _ Tryd.underlying3 Tryd.underlying33 (.tmp rfl)))) fun a62 w62 s62 => ?_; clear s61
          refine seq_opg s62 rfl rfl rfl rfl (of_decide_eq_true rfl) (fun hb => (Ob.uncond (t := 88) hb rfl ((Ob.uncond (t := 85) hb rfl (ob_eql rfl (.tmp rfl) (.tmp rfl)))))) fun a63 w63 s63 => ?_; clear s62
          refine seq_op s63 rfl rfl (of_decide_eq_true rfl) (ob_and2 rfl (.tmp rfl) (.tmp rfl) opd_bool) fun a64 w64 s64 => ?_; clear s63
          refine seq_op s64 rfl rfl (of_decide_eq_true rfl) (ob_assign rfl (.tmp rfl)) fun a65 w65 s65 => ?_; clear s64
          refine wpList_nil ?_
          refine then_normal ?_
          refine hK16 _ _ ?_
          have s66 := s65.sub (.cons (t := 4) rfl (.cons (t := 100000) rfl (.cons (t := 100001) rfl .nil))); clear s65
          have s67 := St.drop (A := []) s66; clear s66
          refine wp_ret ?_
          obtain rfl := Option.some.inj h17
          exact leave s67 (.inl rfl) rfl (.cons (.tmp rfl) .nil)
        refine wp_block ?_
        refine wp_loop_fuel (fun m (q : Int × digest_Hash) => caballaw01_DigestPieces.l1 k y1 x3 p1 m q.1 q.2) r (fun _ => rfl) (fun q a w => ∃ (v5 : Value), St ⟨91, w0, ok, []⟩ [RowF v5 9 kstr (y1 ++ ([x3] : (List (List Int)))), BF b1 35 k_digest_Hash q.2] [(0, (kstr.V p1)), (5, (ptrB b1 0)), (6, (is v5)), (10, ((kint .i64).V q.1)), (100000, (known (.pointer (some ⟨0, 0, none⟩)) (ptrTo (karr 8 (kint .u32)) G_digest_first))), (100001, (known (.pointer (some ⟨1, 0, none⟩)) (ptrTo (karr 64 (kint .u32)) G_digest_rounds)))] a w) ?_ k ((0 : Int), (⟨false, (List.replicate 8 (0 : Int)), (List.replicate 64 (0 : Int)), (0 : Int), (0 : Int)⟩ : digest_Hash)) _ _ h9 ⟨v2, (s39.sub (.cons rfl (.cons rfl (.cons rfl (.cons rfl (.cons rfl (.cons rfl .nil)))))))⟩
        rintro n1 ⟨y4, y5⟩ a68 w68 h18 ⟨v5, s68⟩ K17 hK17
        replace h18 : caballaw01_DigestPieces.l1 k y1 x3 p1 (n1 + 1) y4 y5 = some r := h18; rw [caballaw01_DigestPieces.l1] at h18
        have h19 := h18; clear h18
        refine wp_seq_k fun K18 hK18 => ?_
        refine wp_seq_k fun K19 hK19 => ?_
        refine wp_region_lit ?_
        refine seq_op s68 rfl rfl (of_decide_eq_true rfl) (ob_move rfl (.tmp rfl)) fun a69 w69 s69 => ?_; clear s68
        refine seq_op s69 rfl rfl (of_decide_eq_true rfl) (ob_move rfl (.tmp rfl)) fun a70 w70 s70 => ?_; clear s69
        refine seq_op s70 rfl rfl (of_decide_eq_true rfl) (ob_lenRow rfl Tryd.underlying22 (.tmp rfl) (List.Mem.head _)) fun a71 w71 s71 => ?_; clear s70
        refine seq_op s71 rfl rfl (of_decide_eq_true rfl) (ob_lss rfl (.tmp rfl) (.tmp rfl)) fun a72 w72 s72 => ?_; clear s71
        refine wpList_nil ?_
        refine then_normal ?_
        refine hK19 _ _ ?_
        have s73 := s72.sub (.cons (t := 0) rfl (.cons (t := 5) rfl (.cons (t := 6) rfl (.cons (t := 10) rfl (.cons (t := 59) rfl (.cons (t := 100000) rfl (.cons (t := 100001) rfl .nil))))))); clear s72
        refine cond_split s73 (.tmp rfl) (fun hc3 => ?_) (fun hc3 => ?_)
        · replace h19 := ite_t hc3 h19
          have h20 := h19; clear h19
          refine wp_skip ?_
          refine then_normal ?_
          refine hK18 _ _ ?_
          have s74 := s73.sub (.cons (t := 0) rfl (.cons (t := 5) rfl (.cons (t := 6) rfl (.cons (t := 10) rfl (.cons (t := 100000) rfl (.cons (t := 100001) rfl .nil)))))); clear s73
          refine wp_seq_k fun K20 hK20 => ?_
          refine wp_block ?_
          refine wp_region_lit ?_
          refine seq_op s74 rfl rfl (of_decide_eq_true rfl) (ob_move rfl (.tmp rfl)) fun a75 w75 s75 => ?_; clear s74
          refine seq_op s75 rfl rfl (of_decide_eq_true rfl) (ob_move rfl (.tmp rfl)) fun a76 w76 s76 => ?_; clear s75
          obtain ⟨g2, h21⟩ := guard_some h20; clear h20
          refine seq_op s76 rfl rfl (of_decide_eq_true rfl) (ob_indexAddrRow rfl Tryd.underlying22 sz9 (.tmp rfl) (List.Mem.head _) (.tmp rfl) g2) fun a77 w77 s77 => ?_; clear s76
          obtain ⟨x11, e_x11, h22⟩ := bind_some h21; clear h21
          refine seq_op s77 rfl rfl (of_decide_eq_true rfl) (ob_loadRow rfl tk9 (.tmp rfl) (List.Mem.head _) e_x11) fun a78 w78 s78 => ?_; clear s77
          refine seq_op s78 rfl rfl (of_decide_eq_true rfl) (ob_mkSlice (k := kstr) (xs := ([x11] : (List (List Int)))) rfl Tryd.underlying22 zz9 sz9 Zr.str (by decide) (by decide) (.cons (.tmp rfl) rfl (LS.arr' (i := 0) (ys := ([x11] : (List (List Int)))) (by simp) (by rfl)) (.nil _))) fun a79 w79 s79 => ?_; clear s78
          obtain ⟨x12, e_x12, h23⟩ := bind_some h22; clear h22
          refine seq_opx (B' := fun _ => [RowF v5 9 kstr (y1 ++ ([x3] : (List (List Int)))), BF b1 35 k_digest_Hash x12]) s79 rfl rfl (of_decide_eq_true rfl) (ob_callW (A := [_]) rfl hb21 rfl (LG.refl _ _) (LS.refl _ _ _) (by decide) rfl (fun a w s pre post q1 q2 hpl hl hd => c_digest_Hash_Write k _ _ _ e_x12 _ _ (s.env _ _ (show get _ 100000 = _ from rfl)) (s.env _ _ (show get _ 100001 = _ from rfl)) _ _ _ _ pre post q1 q2 hl hd (by rw [hpl]; exact s.arg (.tmp rfl)) (s.arg (.tmp rfl)))) fun _ a80 w80 s80 => ?_; clear s79
          refine wpList_nil ?_
          refine in_normal ?_
          refine then_normal ?_
          refine hK20 _ _ ?_
          have s81 := s80.sub (.cons (t := 0) rfl (.cons (t := 5) rfl (.cons (t := 6) rfl (.cons (t := 10) rfl (.cons (t := 100000) rfl (.cons (t := 100001) rfl .nil)))))); clear s80
          refine wp_region_lit ?_
          refine seq_op s81 rfl rfl (of_decide_eq_true rfl) (ob_move rfl (.tmp rfl)) fun a82 w82 s82 => ?_; clear s81
          refine seq_op s82 rfl rfl (of_decide_eq_true rfl) (ob_add rfl (.tmp rfl) (opd_int rfl)) fun a83 w83 s83 => ?_; clear s82
          refine seq_op s83 rfl rfl (of_decide_eq_true rfl) (ob_assign rfl (.tmp rfl)) fun a84 w84 s84 => ?_; clear s83
          refine wpList_nil ?_
          refine then_normal ?_
          exact hK17 ((iadd .i64 y4 (1 : Int)), x12) _ _ h23 ⟨v5, (s84.sub (.cons rfl (.cons rfl (.cons rfl (.cons rfl (.cons rfl (.cons rfl .nil)))))))⟩
        · replace h19 := ite_f hc3 h19
          have h24 := h19; clear h19
          refine wp_exit ?_
          refine (then_exit (then_exit (in_here ?_)))
          refine then_normal ?_
          exact hj2 y5 v5 _ _ h24 (s73.sub (.cons rfl (.cons rfl (.cons rfl (.cons rfl (.cons rfl .nil))))))
      refine wp_block ?_
      refine wp_loop_fuel (fun m (q : (List (List Int)) × Int × Int) => caballaw01_DigestPieces.l2 k p2 p1 m q.1 q.2.1 q.2.2) r (fun _ => rfl) (fun q a w => ∃ (v6 : Value) (b1 : Nat), St ⟨91, w0, ok, []⟩ [RowF v6 9 kstr q.1, BF b1 35 k_digest_Hash (⟨false, (List.replicate 8 (0 : Int)), (List.replicate 64 (0 : Int)), (0 : Int), (0 : Int)⟩ : digest_Hash)] [(0, (kstr.V p1)), (1, ((ksl (kint .u16)).V p2)), (5, (ptrB b1 0)), (6, (is v6)), (7, ((kint .i64).V q.2.1)), (8, ((kint .i64).V q.2.2)), (100000, (known (.pointer (some ⟨0, 0, none⟩)) (ptrTo (karr 8 (kint .u32)) G_digest_first))), (100001, (known (.pointer (some ⟨1, 0, none⟩)) (ptrTo (karr 64 (kint .u32)) G_digest_rounds)))] a w) ?_ k ([], (0 : Int), (0 : Int)) _ _ h6 ⟨(.slice none 0 0), b1, (s28.sub (.cons rfl (.cons rfl (.cons rfl (.cons rfl (.cons rfl (.cons rfl (.cons rfl (.cons rfl .nil)))))))))⟩
      rintro n2 ⟨y6, y7, y8⟩ a85 w85 h25 ⟨v6, b1, s85⟩ K21 hK21
      replace h25 : caballaw01_DigestPieces.l2 k p2 p1 (n2 + 1) y6 y7 y8 = some r := h25; rw [caballaw01_DigestPieces.l2] at h25
      have h26 := h25; clear h25
      refine wp_seq_k fun K22 hK22 => ?_
      refine wp_seq_k fun K23 hK23 => ?_
      refine wp_region_lit ?_
      refine seq_op s85 rfl rfl (of_decide_eq_true rfl) (ob_move rfl (.tmp rfl)) fun a86 w86 s86 => ?_; clear s85
      refine seq_op s86 rfl rfl (of_decide_eq_true rfl) (ob_move rfl (.tmp rfl)) fun a87 w87 s87 => ?_; clear s86
      refine seq_op s87 rfl rfl (of_decide_eq_true rfl) (ob_lens rfl Tryd.underlying45 (.tmp rfl)) fun a88 w88 s88 => ?_; clear s87
      refine seq_op s88 rfl rfl (of_decide_eq_true rfl) (ob_lss rfl (.tmp rfl) (.tmp rfl)) fun a89 w89 s89 => ?_; clear s88
      refine seq_op s89 rfl rfl (of_decide_eq_true rfl) (ob_move rfl (.tmp rfl)) fun a90 w90 s90 => ?_; clear s89
      refine seq_opg s90 rfl rfl rfl rfl (of_decide_eq_true rfl) (fun hb => ob_move rfl (.tmp rfl)) fun a91 w91 s91 => ?_; clear s90
      refine seq_opg s91 rfl rfl rfl rfl (of_decide_eq_true rfl) (fun hb => (Ob.uncond (t := 22) hb rfl (ob_lss rfl (.tmp rfl) (opd_int rfl)))) fun a92 w92 s92 => ?_; clear s91
      obtain ⟨x13, e_x13, h27⟩ := bind_some h26; clear h26; replace e_x13 := Option.some.inj e_x13
      refine seq_op s92 rfl rfl (of_decide_eq_true rfl) ((ob_and2 rfl (.tmp rfl) (.tmp rfl) opd_bool).nm e_x13) fun a93 w93 s93 => ?_; clear s92
      refine wpList_nil ?_
      refine then_normal ?_
      refine hK23 _ _ ?_
      have s94 := s93.sub (.cons (t := 0) rfl (.cons (t := 1) rfl (.cons (t := 5) rfl (.cons (t := 6) rfl (.cons (t := 7) rfl (.cons (t := 8) rfl (.cons (t := 24) rfl (.cons (t := 100000) rfl (.cons (t := 100001) rfl .nil))))))))); clear s93
      refine cond_split s94 (.tmp rfl) (fun hc4 => ?_) (fun hc4 => ?_)
      · replace h27 := ite_t hc4 h27
        have h28 := h27; clear h27
        refine wp_skip ?_
        refine then_normal ?_
        refine hK22 _ _ ?_
        have s95 := s94.sub (.cons (t := 0) rfl (.cons (t := 1) rfl (.cons (t := 5) rfl (.cons (t := 6) rfl (.cons (t := 7) rfl (.cons (t := 8) rfl (.cons (t := 100000) rfl (.cons (t := 100001) rfl .nil)))))))); clear s94
        refine wp_seq_k fun K24 hK24 => ?_
        refine wp_block ?_
        refine wp_seq_k fun K25 hK25 => ?_
        refine wp_region_lit ?_
        refine seq_op s95 rfl rfl (of_decide_eq_true rfl) (ob_move rfl (.tmp rfl)) fun a96 w96 s96 => ?_; clear s95
        refine seq_op s96 rfl rfl (of_decide_eq_true rfl) (ob_move rfl (.tmp rfl)) fun a97 w97 s97 => ?_; clear s96
        obtain ⟨x14, e_x14, h29⟩ := bind_some h28; clear h28
        refine seq_op s97 rfl rfl (of_decide_eq_true rfl) (ob_indexAddrs rfl Tryd.underlying45 sz46 (.tmp rfl) (.tmp rfl) e_x14) fun a98 w98 s98 => ?_; clear s97
        refine seq_op s98 rfl rfl (of_decide_eq_true rfl) (ob_loadr rfl tk46 (.tmp rfl)) fun a99 w99 s99 => ?_; clear s98
        refine seq_op s99 rfl rfl (of_decide_eq_true rfl) (ob_conv rfl _ Tryd.underlying46 Tryd.underlying3 (.tmp rfl)) fun a100 w100 s100 => ?_; clear s99
        refine seq_op s100 rfl rfl (of_decide_eq_true rfl) (ob_move rfl (.tmp rfl)) fun a101 w101 s101 => ?_; clear s100
        refine seq_op s101 rfl rfl (of_decide_eq_true rfl) (ob_lenStr rfl Tryd.underlying9 (.tmp rfl)) fun a102 w102 s102 => ?_; clear s101
        refine seq_op s102 rfl rfl (of_decide_eq_true rfl) (ob_move rfl (.tmp rfl)) fun a103 w103 s103 => ?_; clear s102
        refine seq_op s103 rfl rfl (of_decide_eq_true rfl) (ob_sub rfl (.tmp rfl) (.tmp rfl)) fun a104 w104 s104 => ?_; clear s103
        refine seq_op s104 rfl rfl (of_decide_eq_true rfl) (ob_add rfl (.tmp rfl) (opd_int rfl)) fun a105 w105 s105 => ?_; clear s104
        obtain ⟨g3, h30⟩ := guard_some h29; clear h29
        obtain ⟨x15, e_x15, h31⟩ := bind_some h30; clear h30; replace e_x15 := Option.some.inj e_x15
        refine seq_op s105 rfl rfl (of_decide_eq_true rfl) ((ob_rem rfl (.tmp rfl) (.tmp rfl) g3).nm e_x15) fun a106 w106 s106 => ?_; clear s105
        refine seq_op s106 rfl rfl (of_decide_eq_true rfl) (ob_assign rfl (.tmp rfl)) fun a107 w107 s107 => ?_; clear s106
        refine wpList_nil ?_
        refine then_normal ?_
        refine hK25 _ _ ?_
        have s108 := s107.sub (.cons (t := 0) rfl (.cons (t := 1) rfl (.cons (t := 5) rfl (.cons (t := 6) rfl (.cons (t := 7) rfl (.cons (t := 8) rfl (.cons (t := 9) rfl (.cons (t := 100000) rfl (.cons (t := 100001) rfl .nil))))))))); clear s107
        refine wp_seq_k fun K26 hK26 => ?_
        refine wp_region_lit ?_
        refine seq_op s108 rfl rfl (of_decide_eq_true rfl) (ob_move rfl (.tmp rfl)) fun a109 w109 s109 => ?_; clear s108
        refine seq_op s109 rfl rfl (of_decide_eq_true rfl) (ob_move rfl (.tmp rfl)) fun a110 w110 s110 => ?_; clear s109
        refine seq_op s110 rfl rfl (of_decide_eq_true rfl) (ob_move rfl (.tmp rfl)) fun a111 w111 s111 => ?_; clear s110
        refine seq_op s111 rfl rfl (of_decide_eq_true rfl) (ob_move rfl (.tmp rfl)) fun a112 w112 s112 => ?_; clear s111
        refine seq_op s112 rfl rfl (of_decide_eq_true rfl) (ob_move rfl (.tmp rfl)) fun a113 w113 s113 => ?_; clear s112
        refine seq_op s113 rfl rfl (of_decide_eq_true rfl) (ob_add rfl (.tmp rfl) (.tmp rfl)) fun a114 w114 s114 => ?_; clear s113
        obtain ⟨x16, e_x16, h32⟩ := bind_some h31; clear h31
        refine seq_op s114 rfl rfl (of_decide_eq_true rfl) (ob_cutStr rfl Tryd.underlying9 (.tmp rfl) (.some (.tmp rfl)) (.some (.tmp rfl)) e_x16) fun a115 w115 s115 => ?_; clear s114
        refine seq_op s115 rfl rfl (of_decide_eq_true rfl) (ob_mkSlice (k := kstr) (xs := ([x16] : (List (List Int)))) rfl Tryd.underlying22 zz9 sz9 Zr.str (by decide) (by decide) (.cons (.tmp rfl) rfl (LS.arr' (i := 0) (ys := ([x16] : (List (List Int)))) (by simp) (by rfl)) (.nil _))) fun a116 w116 s116 => ?_; clear s115
        obtain ⟨g4, h33⟩ := guard_some h32; clear h32
        refine seq_opx s116 rfl rfl (of_decide_eq_true rfl) (ob_appendL (A := []) rfl Tryd.underlying22 ap9 Zr.str (by decide) (by decide) (.tmp rfl) (.tmp rfl) rfl g4) fun v7 a117 w117 s117 => ?_; clear s116
        refine seq_op s117 rfl rfl (of_decide_eq_true rfl) (ob_assign rfl (.tmp rfl)) fun a118 w118 s118 => ?_; clear s117
        refine wpList_nil ?_
        refine then_normal ?_
        refine hK26 _ _ ?_
        have s119 := s118.sub (.cons (t := 0) rfl (.cons (t := 1) rfl (.cons (t := 5) rfl (.cons (t := 6) rfl (.cons (t := 7) rfl (.cons (t := 8) rfl (.cons (t := 9) rfl (.cons (t := 100000) rfl (.cons (t := 100001) rfl .nil))))))))); clear s118
        refine wp_region_lit ?_
        refine seq_op s119 rfl rfl (of_decide_eq_true rfl) (ob_move rfl (.tmp rfl)) fun a120 w120 s120 => ?_; clear s119
        refine seq_op s120 rfl rfl (of_decide_eq_true rfl) (ob_move rfl (.tmp rfl)) fun a121 w121 s121 => ?_; clear s120
        refine seq_op s121 rfl rfl (of_decide_eq_true rfl) (ob_add rfl (.tmp rfl) (.tmp rfl)) fun a122 w122 s122 => ?_; clear s121
        refine seq_op s122 rfl rfl (of_decide_eq_true rfl) (ob_assign rfl (.tmp rfl)) fun a123 w123 s123 => ?_; clear s122
        refine wpList_nil ?_
        refine in_normal ?_
        refine then_normal ?_
        refine hK24 _ _ ?_
        have s124 := s123.sub (.cons (t := 0) rfl (.cons (t := 1) rfl (.cons (t := 5) rfl (.cons (t := 6) rfl (.cons (t := 7) rfl (.cons (t := 8) rfl (.cons (t := 100000) rfl (.cons (t := 100001) rfl .nil)))))))); clear s123
        refine wp_region_lit ?_
        refine seq_op s124 rfl rfl (of_decide_eq_true rfl) (ob_move rfl (.tmp rfl)) fun a125 w125 s125 => ?_; clear s124
        refine seq_op s125 rfl rfl (of_decide_eq_true rfl) (ob_add rfl (.tmp rfl) (opd_int rfl)) fun a126 w126 s126 => ?_; clear s125
        refine seq_op s126 rfl rfl (of_decide_eq_true rfl) (ob_assign rfl (.tmp rfl)) fun a127 w127 s127 => ?_; clear s126
        refine wpList_nil ?_
        refine then_normal ?_
        exact hK21 ((y6 ++ ([x16] : (List (List Int)))), (iadd .i64 y7 x15), (iadd .i64 y8 (1 : Int))) _ _ h33 ⟨v7, b1, (s127.sub (.cons rfl (.cons rfl (.cons rfl (.cons rfl (.cons rfl (.cons rfl (.cons rfl (.cons rfl .nil)))))))))⟩
      · replace h27 := ite_f hc4 h27
        have h34 := h27; clear h27
        refine wp_exit ?_
        refine (then_exit (then_exit (in_here ?_)))
        refine then_normal ?_
        exact hj1 y6 y7 v6 b1 _ _ h34 (s94.sub (.cons rfl (.cons rfl (.cons rfl (.cons rfl (.cons rfl (.cons rfl .nil)))))))

end Go.Proofs.YtpihmcfojdkpoaaDoor
