/- Each function's code comes to what its plain function answers. No condition. -/
import Derived.Test.YtgggcnadlnlmpaaAFacts
namespace Go.Proofs.Ytgggcnadlnlmpaa
open Go Go.RowKit Go.Proofs.Kit Go.Proofs.Pure
set_option linter.unusedVariables false
set_option linter.unusedSimpArgs false
set_option maxRecDepth 100000

/- 6 cabal/clock.Lacks -/
theorem c_clock_Lacks (k : Nat) (p1 : (List Int)) (p2 : (List Int)) (r : (List api_Span)) (h0 : clock_Lacks k p1 p2 = some r) (ok : Ok) (w0 : World) (z0 : Value) (z1 : Value) (u0 : ((karr 8 (kint .u32)).V p1).holds ok w0 z0) (u1 : ((karr 8 (kint .u32)).V p2).holds ok w0 z1) :
    Gives Try.prog 6 [z0, z1] ok w0 (resFact [(ksl k_api_Span).V r]) := by
  unfold clock_Lacks at h0
  refine enter (N := 31) Try.func6 rfl rfl (of_decide_eq_true rfl) (.cons u0 (.cons u1 .nil)) fun a1 s1 => ?_
  refine wp_seq_k fun K1 hK1 => ?_
  refine wp_region_lit ?_
  refine seq_opx s1 rfl rfl (of_decide_eq_true rfl) (ob_box rfl (.tmp rfl)) fun b1 a2 w2 s2 => ?_; clear s1
  refine seq_opx s2 rfl rfl (of_decide_eq_true rfl) (ob_box rfl (.tmp rfl)) fun b2 a3 w3 s3 => ?_; clear s2
  refine seq_op s3 rfl rfl (of_decide_eq_true rfl) (ob_assign rfl opd_is) fun a4 w4 s4 => ?_; clear s3
  have s5 := St.adopt s4 (G := RowF (.slice none 0 0) 30 k_api_Span []) rfl (rowNil _ _ _ _); clear s4
  refine wpList_nil ?_
  refine then_normal ?_
  refine hK1 _ _ ?_
  have s6 := s5.sub (.cons (t := 2) rfl (.cons (t := 3) rfl .nil)); clear s5
  have s7 := St.drop (A := []) s6; clear s6
  refine wp_seq_k fun K2 hK2 => ?_
  refine wp_region_lit ?_
  refine seq_op s7 rfl rfl (of_decide_eq_true rfl) (ob_assign rfl opd_is) fun a8 w8 s8 => ?_; clear s7
  have s9 := St.adopt s8 (G := RowF (.slice none 0 0) 30 k_api_Span []) rfl (rowNil _ _ _ _); clear s8
  refine wpList_nil ?_
  refine then_normal ?_
  refine hK2 _ _ ?_
  have s10 := s9.sub (.cons (t := 2) rfl (.cons (t := 3) rfl (.cons (t := 5) rfl .nil))); clear s9
  refine wp_seq_k fun K3 hK3 => ?_
  refine wp_seq_k fun K4 hK4 => ?_
  refine wp_region_lit ?_
  refine seq_op s10 rfl rfl (of_decide_eq_true rfl) (ob_move rfl (opd_int rfl)) fun a11 w11 s11 => ?_; clear s10
  refine wpList_nil ?_
  refine then_normal ?_
  refine hK4 _ _ ?_
  have s12 := s11.sub (.cons (t := 2) rfl (.cons (t := 3) rfl (.cons (t := 5) rfl (.cons (t := 7) rfl .nil)))); clear s11
  have hj1 : ∀ (y1 : (List api_Span)) (v1 : Value) (a : Act) (w : World), (clock_Lacks.j1 k) y1 = some r → St ⟨31, w0, ok, []⟩ [RowF v1 30 k_api_Span y1] [(5, (is v1))] a w → K3 a w := by
    intro y1 v1 a13 w13 h1 s13
    unfold clock_Lacks.j1 at h1
    refine hK3 _ _ ?_
    refine wp_seq_k fun K5 hK5 => ?_
    refine wp_region_lit ?_
    refine seq_op s13 rfl rfl (of_decide_eq_true rfl) (ob_move rfl (.tmp rfl)) fun a14 w14 s14 => ?_; clear s13
    refine seq_op s14 rfl rfl (of_decide_eq_true rfl) (ob_assign rfl (.tmp rfl)) fun a15 w15 s15 => ?_; clear s14
    refine wpList_nil ?_
    refine then_normal ?_
    refine hK5 _ _ ?_
    have s16 := s15.sub (.cons (t := 4) rfl .nil); clear s15
    refine wp_ret ?_
    have s17 := St.freezeAll rfl (A := []) s16 (ts := [4]) (.cons rfl .nil)
    obtain rfl := Option.some.inj h1
    exact leave s17 (.inl rfl) rfl (.cons (.tmp rfl) .nil)
  refine wp_block ?_
  refine wp_loop_fuel (fun m (q : (List api_Span) × Int) => clock_Lacks.l1 k p2 p1 m q.1 q.2) r (fun _ => rfl) (fun q a w => ∃ (v2 : Value) (b2 : Nat) (b1 : Nat), St ⟨31, w0, ok, []⟩ [RowF v2 30 k_api_Span q.1, BF b2 24 (karr 8 (kint .u32)) p2, BF b1 24 (karr 8 (kint .u32)) p1] [(2, (ptrB b1 0)), (3, (ptrB b2 0)), (5, (is v2)), (7, ((kint .i64).V q.2))] a w) ?_ k ([], (0 : Int)) _ _ h0 ⟨(.slice none 0 0), b2, b1, (s12.sub (.cons rfl (.cons rfl (.cons rfl (.cons rfl .nil)))))⟩
  rintro n1 ⟨y2, y3⟩ a18 w18 h2 ⟨v2, b2, b1, s18⟩ K6 hK6
  replace h2 : clock_Lacks.l1 k p2 p1 (n1 + 1) y2 y3 = some r := h2; rw [clock_Lacks.l1] at h2
  have h3 := h2; clear h2
  refine wp_seq_k fun K7 hK7 => ?_
  refine wp_region_lit ?_
  refine seq_op s18 rfl rfl (of_decide_eq_true rfl) (ob_lss rfl (.tmp rfl) (opd_int rfl)) fun a19 w19 s19 => ?_; clear s18
  refine wpList_nil ?_
  refine then_normal ?_
  refine hK7 _ _ ?_
  have s20 := s19.sub (.cons (t := 2) rfl (.cons (t := 3) rfl (.cons (t := 5) rfl (.cons (t := 7) rfl (.cons (t := 8) rfl .nil))))); clear s19
  refine wp_seq_k fun K8 hK8 => ?_
  refine cond_split s20 (.tmp rfl) (fun hc1 => ?_) (fun hc1 => ?_)
  · replace h3 := ite_t hc1 h3
    have h4 := h3; clear h3
    refine wp_skip ?_
    refine then_normal ?_
    refine hK8 _ _ ?_
    have s21 := s20.sub (.cons (t := 2) rfl (.cons (t := 3) rfl (.cons (t := 5) rfl (.cons (t := 7) rfl .nil)))); clear s20
    refine wp_seq_k fun K9 hK9 => ?_
    have hj2 : ∀ (y4 : (List api_Span)) (v3 : Value) (a : Act) (w : World), (clock_Lacks.j2 k y3 (clock_Lacks.l1 k p2 p1 n1)) y4 = some r → St ⟨31, w0, ok, []⟩ [RowF v3 30 k_api_Span y4, BF b2 24 (karr 8 (kint .u32)) p2, BF b1 24 (karr 8 (kint .u32)) p1] [(2, (ptrB b1 0)), (3, (ptrB b2 0)), (5, (is v3)), (7, ((kint .i64).V y3))] a w → K9 a w := by
      intro y4 v3 a22 w22 h5 s22
      unfold clock_Lacks.j2 at h5
      refine hK9 _ _ ?_
      refine wp_region_lit ?_
      refine seq_op s22 rfl rfl (of_decide_eq_true rfl) (ob_add rfl (.tmp rfl) (opd_int rfl)) fun a23 w23 s23 => ?_; clear s22
      refine seq_op s23 rfl rfl (of_decide_eq_true rfl) (ob_move rfl (.tmp rfl)) fun a24 w24 s24 => ?_; clear s23
      refine wpList_nil ?_
      refine then_normal ?_
      exact hK6 (y4, (iadd .i64 y3 (1 : Int))) _ _ h5 ⟨v3, b2, b1, (s24.sub (.cons rfl (.cons rfl (.cons rfl (.cons rfl .nil)))))⟩
    refine wp_block ?_
    refine wp_seq_k fun K10 hK10 => ?_
    refine wp_region_lit ?_
    refine seq_op s21 rfl rfl (of_decide_eq_true rfl) (ob_move rfl (.tmp rfl)) fun a25 w25 s25 => ?_; clear s21
    refine seq_op s25 rfl rfl (of_decide_eq_true rfl) (ob_assign rfl (.tmp rfl)) fun a26 w26 s26 => ?_; clear s25
    refine wpList_nil ?_
    refine then_normal ?_
    refine hK10 _ _ ?_
    have s27 := s26.sub (.cons (t := 2) rfl (.cons (t := 3) rfl (.cons (t := 5) rfl (.cons (t := 6) rfl (.cons (t := 7) rfl .nil))))); clear s26
    refine wp_seq_k fun K11 hK11 => ?_
    obtain ⟨g1, h6⟩ := guard_some h4; clear h4
    obtain ⟨x1, e_x1, h7⟩ := bind_some h6; clear h6
    obtain ⟨g2, h8⟩ := guard_some h7; clear h7
    obtain ⟨x2, e_x2, h9⟩ := bind_some h8; clear h8
    refine wp_drawn (Fs := [((kint .i64).V y3), (ptrB b2 (y3.toNat * 1)), ((kint .u32).V x1), ((kint .i64).V y3), (ptrB b1 (y3.toNat * 1)), ((kint .u32).V x2), (kbool.V (decide (x1 > x2)))]) (bits := [0, 1, 3, 0, 8, 24, 63]) (m := 7) mx s27 (by kernel_rfl) rfl (ops_cons (.plain _ (Av.old (t := 6) rfl rfl Av.nil) rfl rfl (ob_move rfl (.tmp rfl))) (ops_cons (.plain _ (Av.old (t := 3) rfl rfl (Av.new (j := 0) rfl rfl rfl Av.nil)) rfl rfl (ob_indexAddr rfl Try.underlying24 sz22 (.tmp rfl) (.tmp rfl) g1.1 g1.2 (Nat.zero_add _))) (ops_cons (.plain _ (Av.new (j := 1) rfl rfl rfl Av.nil) rfl rfl (ob_load rfl tk22 (.tmp rfl) (List.Mem.tail _ (List.Mem.head _)) (LG.arrA e_x1))) (ops_cons (.plain _ (Av.old (t := 6) rfl rfl Av.nil) rfl rfl (ob_move rfl (.tmp rfl))) (ops_cons (.plain _ (Av.old (t := 2) rfl rfl (Av.new (j := 3) rfl rfl rfl Av.nil)) rfl rfl (ob_indexAddr rfl Try.underlying24 sz22 (.tmp rfl) (.tmp rfl) g2.1 g2.2 (Nat.zero_add _))) (ops_cons (.plain _ (Av.new (j := 4) rfl rfl rfl Av.nil) rfl rfl (ob_load rfl tk22 (.tmp rfl) (List.Mem.tail _ (List.Mem.tail _ (List.Mem.head _))) (LG.arrA e_x2))) (ops_cons (.plain _ (Av.new (j := 2) rfl rfl rfl (Av.new (j := 5) rfl rfl rfl Av.nil)) rfl rfl (ob_gtr rfl (.tmp rfl) (.tmp rfl))) ops_nil))))))) (out_old (t := 2) rfl rfl (out_old (t := 3) rfl rfl (out_old (t := 5) rfl rfl (out_old (t := 6) rfl rfl (out_old (t := 7) rfl rfl (out_new (i := 6) (by decide) rfl rfl out_nil)))))) fun a28 w28 s28 => ?_; clear s27
    refine wpList_nil ?_
    refine then_normal ?_
    refine hK11 _ _ ?_
    have s29 := s28.sub (.cons (t := 2) rfl (.cons (t := 3) rfl (.cons (t := 5) rfl (.cons (t := 6) rfl (.cons (t := 7) rfl (.cons (t := 16) rfl .nil)))))); clear s28
    refine cond_split s29 (.tmp rfl) (fun hc2 => ?_) (fun hc2 => ?_)
    · replace h9 := ite_t hc2 h9
      have h10 := h9; clear h9
      obtain ⟨g3, h11⟩ := guard_some h10; clear h10
      obtain ⟨x3, e_x3, h12⟩ := bind_some h11; clear h11
      obtain ⟨g4, h13⟩ := guard_some h12; clear h12
      obtain ⟨x4, e_x4, h14⟩ := bind_some h13; clear h13
      refine wp_drawn (Fs := [(is v2), ((kint .i64).V y3), ((kint .i64).V y3), (ptrB b1 (y3.toNat * 1)), ((kint .u32).V x3), ((kint .u32).V (iadd .u32 x3 (1 : Int))), ((kint .i64).V y3), (ptrB b2 (y3.toNat * 1)), ((kint .u32).V x4), (k_api_Span.V (⟨y3, (iadd .u32 x3 (1 : Int)), x4⟩ : api_Span)), ((ksl k_api_Span).V ([(⟨y3, (iadd .u32 x3 (1 : Int)), x4⟩ : api_Span)] : (List api_Span)))]) (bits := [0, 0, 0, 4, 12, 28, 0, 64, 192, 510, 1022, 2047, 4095]) (m := 11) mx s29 (by kernel_rfl) rfl (ops_cons (.plain _ (Av.old (t := 5) rfl rfl Av.nil) rfl rfl (ob_move rfl (.tmp rfl))) (ops_cons (.plain _ (Av.old (t := 6) rfl rfl Av.nil) rfl rfl (ob_move rfl (.tmp rfl))) (ops_cons (.plain _ (Av.old (t := 6) rfl rfl Av.nil) rfl rfl (ob_move rfl (.tmp rfl))) (ops_cons (.plain _ (Av.old (t := 2) rfl rfl (Av.new (j := 2) rfl rfl rfl Av.nil)) rfl rfl (ob_indexAddr rfl Try.underlying24 sz22 (.tmp rfl) (.tmp rfl) g3.1 g3.2 (Nat.zero_add _))) (ops_cons (.plain _ (Av.new (j := 3) rfl rfl rfl Av.nil) rfl rfl (ob_load rfl tk22 (.tmp rfl) (List.Mem.tail _ (List.Mem.tail _ (List.Mem.head _))) (LG.arrA e_x3))) (ops_cons (.plain _ (Av.new (j := 4) rfl rfl rfl Av.nil) rfl rfl (ob_add rfl (.tmp rfl) (opd_int rfl))) (ops_cons (.plain _ (Av.old (t := 6) rfl rfl Av.nil) rfl rfl (ob_move rfl (.tmp rfl))) (ops_cons (.plain _ (Av.old (t := 3) rfl rfl (Av.new (j := 6) rfl rfl rfl Av.nil)) rfl rfl (ob_indexAddr rfl Try.underlying24 sz22 (.tmp rfl) (.tmp rfl) g4.1 g4.2 (Nat.zero_add _))) (ops_cons (.plain _ (Av.new (j := 7) rfl rfl rfl Av.nil) rfl rfl (ob_load rfl tk22 (.tmp rfl) (List.Mem.tail _ (List.Mem.head _)) (LG.arrA e_x4))) (ops_cons (.plain _ (Av.new (j := 1) rfl rfl rfl (Av.new (j := 5) rfl rfl rfl (Av.new (j := 8) rfl rfl rfl Av.nil))) rfl rfl (ob_mkStruct (K := k_api_Span) (X0 := (⟨(0 : Int), (0 : Int), (0 : Int)⟩ : api_Span)) rfl Try.underlying30 zz30 rfl pl30 (Zr.iso (f := t_api_Span) (x := (⟨(0 : Int), (0 : Int), (0 : Int)⟩ : api_Span)) (Zr.pair (Zr.int .i64) (Zr.pair (Zr.int .u32) (Zr.pair (Zr.int .u32) Zr.nil)))) (.cons (.tmp rfl) rfl (ls_api_Span_Who (⟨(0 : Int), (0 : Int), (0 : Int)⟩ : api_Span) y3) (.cons (.tmp rfl) rfl (ls_api_Span_From (⟨y3, (0 : Int), (0 : Int)⟩ : api_Span) (iadd .u32 x3 (1 : Int))) (.cons (.tmp rfl) rfl (ls_api_Span_To (⟨y3, (iadd .u32 x3 (1 : Int)), (0 : Int)⟩ : api_Span) x4) (.nil _)))))) (ops_cons (.plain _ (Av.new (j := 9) rfl rfl rfl Av.nil) rfl rfl (ob_mkSlice (k := k_api_Span) (xs := ([(⟨y3, (iadd .u32 x3 (1 : Int)), x4⟩ : api_Span)] : (List api_Span))) rfl Try.underlying27 zz30 sz30 (Zr.iso (f := t_api_Span) (x := (⟨(0 : Int), (0 : Int), (0 : Int)⟩ : api_Span)) (Zr.pair (Zr.int .i64) (Zr.pair (Zr.int .u32) (Zr.pair (Zr.int .u32) Zr.nil)))) (by decide) (by decide) (.cons (.tmp rfl) rfl (LS.arr' (i := 0) (ys := ([(⟨y3, (iadd .u32 x3 (1 : Int)), x4⟩ : api_Span)] : (List api_Span))) (by simp) (by rfl)) (.nil _)))) ops_nil))))))))))) (out_old (t := 2) rfl rfl (out_old (t := 3) rfl rfl (out_old (t := 5) rfl rfl (out_old (t := 7) rfl rfl (out_new (i := 0) (by decide) rfl rfl (out_new (i := 10) (by decide) rfl rfl out_nil)))))) fun a30 w30 s30 => ?_; clear s29
      obtain ⟨g5, h15⟩ := guard_some h14; clear h14
      refine seq_opx s30 rfl rfl (of_decide_eq_true rfl) (ob_appendL (A := []) rfl Try.underlying27 ap30 (Zr.iso (f := t_api_Span) (x := (⟨(0 : Int), (0 : Int), (0 : Int)⟩ : api_Span)) (Zr.pair (Zr.int .i64) (Zr.pair (Zr.int .u32) (Zr.pair (Zr.int .u32) Zr.nil)))) (by decide) (by decide) (.tmp rfl) (.tmp rfl) rfl g5) fun v4 a31 w31 s31 => ?_; clear s30
      refine seq_op s31 rfl rfl (of_decide_eq_true rfl) (ob_assign rfl (.tmp rfl)) fun a32 w32 s32 => ?_; clear s31
      refine wpList_nil ?_
      refine in_normal ?_
      refine then_normal ?_
      exact hj2 (y2 ++ ([(⟨y3, (iadd .u32 x3 (1 : Int)), x4⟩ : api_Span)] : (List api_Span))) v4 _ _ h15 (s32.sub (.cons rfl (.cons rfl (.cons rfl (.cons rfl .nil)))))
    · replace h9 := ite_f hc2 h9
      have h16 := h9; clear h9
      refine wp_skip ?_
      refine in_normal ?_
      refine then_normal ?_
      exact hj2 y2 v2 _ _ h16 (s29.sub (.cons rfl (.cons rfl (.cons rfl (.cons rfl .nil)))))
  · replace h3 := ite_f hc1 h3
    have h17 := h3; clear h3
    refine wp_exit ?_
    refine (then_exit (then_exit (in_here ?_)))
    refine then_normal ?_
    have s33 := St.drop (A := [_]) s20; clear s20
    have s34 := St.drop (A := [_]) s33; clear s33
    exact hj1 y2 v2 _ _ h17 (s34.sub (.cons rfl .nil))

/- 10 cabal/clock.Join -/
theorem c_clock_Join (k : Nat) (p1 : (List (List Int))) (r : (List Int)) (h0 : clock_Join k p1 = some r) (ok : Ok) (w0 : World) (z0 : Value) (u0 : ((ksl (karr 8 (kint .u32))).V p1).holds ok w0 z0) :
    Gives Try.prog 10 [z0] ok w0 (resFact [(karr 8 (kint .u32)).V r]) := by
  unfold clock_Join at h0
  refine enter (N := 29) Try.func10 rfl rfl (of_decide_eq_true rfl) (.cons u0 .nil) fun a1 s1 => ?_
  refine wp_seq_k fun K1 hK1 => ?_
  refine wp_region_lit ?_
  refine seq_opx s1 rfl rfl (of_decide_eq_true rfl) (ob_new (k := (karr 8 (kint .u32))) rfl zz24 (Zr.arr 8 (Zr.int .u32))) fun b1 a2 w2 s2 => ?_; clear s1
  refine wpList_nil ?_
  refine then_normal ?_
  refine hK1 _ _ ?_
  have s3 := s2.sub (.cons (t := 0) rfl (.cons (t := 2) rfl .nil)); clear s2
  refine wp_seq_k fun K2 hK2 => ?_
  refine wp_region_lit ?_
  refine seq_opx s3 rfl rfl (of_decide_eq_true rfl) (ob_new (k := (karr 8 (kint .u32))) rfl zz24 (Zr.arr 8 (Zr.int .u32))) fun b2 a4 w4 s4 => ?_; clear s3
  refine wpList_nil ?_
  refine then_normal ?_
  refine hK2 _ _ ?_
  have s5 := s4.sub (.cons (t := 0) rfl (.cons (t := 2) rfl (.cons (t := 3) rfl .nil))); clear s4
  refine wp_seq_k fun K3 hK3 => ?_
  refine wp_seq_k fun K4 hK4 => ?_
  refine wp_region_lit ?_
  refine seq_op s5 rfl rfl (of_decide_eq_true rfl) (ob_move rfl (.tmp rfl)) fun a6 w6 s6 => ?_; clear s5
  refine seq_op s6 rfl rfl (of_decide_eq_true rfl) (ob_lens rfl Try.underlying25 (.tmp rfl)) fun a7 w7 s7 => ?_; clear s6
  refine seq_op s7 rfl rfl (of_decide_eq_true rfl) (ob_move rfl (opd_int rfl)) fun a8 w8 s8 => ?_; clear s7
  refine wpList_nil ?_
  refine then_normal ?_
  refine hK4 _ _ ?_
  have s9 := s8.sub (.cons (t := 2) rfl (.cons (t := 3) rfl (.cons (t := 8) rfl (.cons (t := 9) rfl (.cons (t := 10) rfl .nil))))); clear s8
  have hj1 : ∀ (y1 : (List Int)) (b2 : Nat) (b1 : Nat) (a : Act) (w : World), (clock_Join.j1 k) y1 = some r → St ⟨29, w0, ok, []⟩ [BF b2 24 (karr 8 (kint .u32)) y1, BF b1 24 (karr 8 (kint .u32)) (List.replicate 8 (0 : Int))] [(2, (ptrB b1 0)), (3, (ptrB b2 0))] a w → K3 a w := by
    intro y1 b2 b1 a10 w10 h1 s10
    unfold clock_Join.j1 at h1
    refine hK3 _ _ ?_
    refine wp_seq_k fun K5 hK5 => ?_
    refine wp_region_lit ?_
    refine seq_op s10 rfl rfl (of_decide_eq_true rfl) (ob_load rfl tk24 (.tmp rfl) (List.Mem.head _) (LG.refl _ _)) fun a11 w11 s11 => ?_; clear s10
    refine seq_opx0 (B' := fun _ => [BF b2 24 (karr 8 (kint .u32)) y1, BF b1 24 (karr 8 (kint .u32)) y1]) s11 rfl rfl (ob_store (A := [_]) rfl tk24 (.tmp rfl) (.tmp rfl) rfl (LS.refl _ _ _) rfl) fun _ a12 w12 s12 => ?_; clear s11
    refine wpList_nil ?_
    refine then_normal ?_
    refine hK5 _ _ ?_
    have s13 := s12.sub (.cons (t := 2) rfl .nil); clear s12
    have s14 := St.drop (A := []) s13; clear s13
    refine wp_ret ?_
    obtain rfl := Option.some.inj h1
    exact leave s14 (.inl rfl) rfl (.cons (.cell rfl tk24 (List.Mem.head _) (LG.refl _ _)) .nil)
  refine wp_block ?_
  refine wp_loop_fuel (fun m (q : Int × (List Int)) => clock_Join.l1 k p1 m q.1 q.2) r (fun _ => rfl) (fun q a w => ∃ (b2 : Nat) (b1 : Nat), St ⟨29, w0, ok, []⟩ [BF b2 24 (karr 8 (kint .u32)) q.2, BF b1 24 (karr 8 (kint .u32)) (List.replicate 8 (0 : Int))] [(2, (ptrB b1 0)), (3, (ptrB b2 0)), (8, ((ksl (karr 8 (kint .u32))).V p1)), (9, ((kint .i64).V (p1.length : Int))), (10, ((kint .i64).V q.1))] a w) ?_ k ((0 : Int), (List.replicate 8 (0 : Int))) _ _ h0 ⟨b2, b1, (s9.sub (.cons rfl (.cons rfl (.cons rfl (.cons rfl (.cons rfl .nil))))))⟩
  rintro n1 ⟨y2, y3⟩ a15 w15 h2 ⟨b2, b1, s15⟩ K6 hK6
  replace h2 : clock_Join.l1 k p1 (n1 + 1) y2 y3 = some r := h2; rw [clock_Join.l1] at h2
  have h3 := h2; clear h2
  refine wp_seq_k fun K7 hK7 => ?_
  refine wp_region_lit ?_
  refine seq_op s15 rfl rfl (of_decide_eq_true rfl) (ob_lss rfl (.tmp rfl) (.tmp rfl)) fun a16 w16 s16 => ?_; clear s15
  refine wpList_nil ?_
  refine then_normal ?_
  refine hK7 _ _ ?_
  have s17 := s16.sub (.cons (t := 2) rfl (.cons (t := 3) rfl (.cons (t := 8) rfl (.cons (t := 9) rfl (.cons (t := 10) rfl (.cons (t := 11) rfl .nil)))))); clear s16
  refine wp_seq_k fun K8 hK8 => ?_
  refine cond_split s17 (.tmp rfl) (fun hc1 => ?_) (fun hc1 => ?_)
  · replace h3 := ite_t hc1 h3
    have h4 := h3; clear h3
    refine wp_skip ?_
    refine then_normal ?_
    refine hK8 _ _ ?_
    have s18 := s17.sub (.cons (t := 2) rfl (.cons (t := 3) rfl (.cons (t := 8) rfl (.cons (t := 9) rfl (.cons (t := 10) rfl .nil))))); clear s17
    refine wp_seq_k fun K9 hK9 => ?_
    have hj2 : ∀ (y4 : (List Int)) (a : Act) (w : World), (clock_Join.j2 k y2 (clock_Join.l1 k p1 n1)) y4 = some r → St ⟨29, w0, ok, []⟩ [BF b2 24 (karr 8 (kint .u32)) y4, BF b1 24 (karr 8 (kint .u32)) (List.replicate 8 (0 : Int))] [(2, (ptrB b1 0)), (3, (ptrB b2 0)), (8, ((ksl (karr 8 (kint .u32))).V p1)), (9, ((kint .i64).V (p1.length : Int))), (10, ((kint .i64).V y2))] a w → K9 a w := by
      intro y4 a19 w19 h5 s19
      unfold clock_Join.j2 at h5
      refine hK9 _ _ ?_
      refine wp_region_lit ?_
      refine seq_op s19 rfl rfl (of_decide_eq_true rfl) (ob_add rfl (.tmp rfl) (opd_int rfl)) fun a20 w20 s20 => ?_; clear s19
      refine seq_op s20 rfl rfl (of_decide_eq_true rfl) (ob_move rfl (.tmp rfl)) fun a21 w21 s21 => ?_; clear s20
      refine wpList_nil ?_
      refine then_normal ?_
      exact hK6 ((iadd .i64 y2 (1 : Int)), y4) _ _ h5 ⟨b2, b1, (s21.sub (.cons rfl (.cons rfl (.cons rfl (.cons rfl (.cons rfl .nil))))))⟩
    refine wp_block ?_
    refine wp_seq_k fun K10 hK10 => ?_
    refine wp_region_lit ?_
    obtain ⟨x1, e_x1, h6⟩ := bind_some h4; clear h4
    refine seq_op s18 rfl rfl (of_decide_eq_true rfl) (ob_indexAddrs rfl Try.underlying25 sz24 (.tmp rfl) (.tmp rfl) e_x1) fun a22 w22 s22 => ?_; clear s18
    refine seq_op s22 rfl rfl (of_decide_eq_true rfl) (ob_loadr rfl tk24 (.tmp rfl)) fun a23 w23 s23 => ?_; clear s22
    refine seq_opx s23 rfl rfl (of_decide_eq_true rfl) (ob_new (k := (karr 8 (kint .u32))) rfl zz24 (Zr.arr 8 (Zr.int .u32))) fun b3 a24 w24 s24 => ?_; clear s23
    refine seq_opx0 (B' := fun _ => [BF b3 24 (karr 8 (kint .u32)) x1, BF b2 24 (karr 8 (kint .u32)) y3, BF b1 24 (karr 8 (kint .u32)) (List.replicate 8 (0 : Int))]) s24 rfl rfl (ob_store (A := []) rfl tk24 (.tmp rfl) (.tmp rfl) rfl (LS.refl _ _ _) rfl) fun _ a25 w25 s25 => ?_; clear s24
    refine wpList_nil ?_
    refine then_normal ?_
    refine hK10 _ _ ?_
    have s26 := s25.sub (.cons (t := 2) rfl (.cons (t := 3) rfl (.cons (t := 5) rfl (.cons (t := 8) rfl (.cons (t := 9) rfl (.cons (t := 10) rfl .nil)))))); clear s25
    refine wp_seq_k fun K11 hK11 => ?_
    refine wp_region_lit ?_
    refine seq_op s26 rfl rfl (of_decide_eq_true rfl) (ob_load rfl tk24 (.tmp rfl) (List.Mem.head _) (LG.refl _ _)) fun a27 w27 s27 => ?_; clear s26
    refine seq_op s27 rfl rfl (of_decide_eq_true rfl) (ob_move rfl (opd_int rfl)) fun a28 w28 s28 => ?_; clear s27
    refine wpList_nil ?_
    refine then_normal ?_
    refine hK11 _ _ ?_
    have s29 := s28.sub (.cons (t := 2) rfl (.cons (t := 3) rfl (.cons (t := 8) rfl (.cons (t := 9) rfl (.cons (t := 10) rfl (.cons (t := 14) rfl (.cons (t := 15) rfl .nil))))))); clear s28
    have s30 := St.drop (A := []) s29; clear s29
    refine wp_block ?_
    refine wp_loop_fuel (fun m (q : Int × (List Int)) => clock_Join.l2 k x1 y2 (clock_Join.l1 k p1 n1) m q.1 q.2) r (fun _ => rfl) (fun q a w => St ⟨29, w0, ok, []⟩ [BF b2 24 (karr 8 (kint .u32)) q.2, BF b1 24 (karr 8 (kint .u32)) (List.replicate 8 (0 : Int))] [(2, (ptrB b1 0)), (3, (ptrB b2 0)), (8, ((ksl (karr 8 (kint .u32))).V p1)), (9, ((kint .i64).V (p1.length : Int))), (10, ((kint .i64).V y2)), (14, ((karr 8 (kint .u32)).V x1)), (15, ((kint .i64).V q.1))] a w) ?_ k ((0 : Int), y3) _ _ h6 (s30.sub (.cons rfl (.cons rfl (.cons rfl (.cons rfl (.cons rfl (.cons rfl (.cons rfl .nil))))))))
    rintro n2 ⟨y5, y6⟩ a31 w31 h7 s31 K12 hK12
    replace h7 : clock_Join.l2 k x1 y2 (clock_Join.l1 k p1 n1) (n2 + 1) y5 y6 = some r := h7; rw [clock_Join.l2] at h7
    have h8 := h7; clear h7
    refine wp_seq_k fun K13 hK13 => ?_
    refine wp_region_lit ?_
    refine seq_op s31 rfl rfl (of_decide_eq_true rfl) (ob_lss rfl (.tmp rfl) (opd_int rfl)) fun a32 w32 s32 => ?_; clear s31
    refine wpList_nil ?_
    refine then_normal ?_
    refine hK13 _ _ ?_
    have s33 := s32.sub (.cons (t := 2) rfl (.cons (t := 3) rfl (.cons (t := 8) rfl (.cons (t := 9) rfl (.cons (t := 10) rfl (.cons (t := 14) rfl (.cons (t := 15) rfl (.cons (t := 16) rfl .nil)))))))); clear s32
    refine wp_seq_k fun K14 hK14 => ?_
    refine cond_split s33 (.tmp rfl) (fun hc2 => ?_) (fun hc2 => ?_)
    · replace h8 := ite_t hc2 h8
      have h9 := h8; clear h8
      refine wp_skip ?_
      refine then_normal ?_
      refine hK14 _ _ ?_
      have s34 := s33.sub (.cons (t := 2) rfl (.cons (t := 3) rfl (.cons (t := 8) rfl (.cons (t := 9) rfl (.cons (t := 10) rfl (.cons (t := 14) rfl (.cons (t := 15) rfl .nil))))))); clear s33
      refine wp_seq_k fun K15 hK15 => ?_
      refine wp_block ?_
      refine wp_seq_k fun K16 hK16 => ?_
      refine wp_region_lit ?_
      refine seq_op s34 rfl rfl (of_decide_eq_true rfl) (ob_move rfl (.tmp rfl)) fun a35 w35 s35 => ?_; clear s34
      obtain ⟨x2, e_x2, h10⟩ := bind_some h9; clear h9
      obtain ⟨g1, h11⟩ := guard_some h10; clear h10
      refine seq_op s35 rfl rfl (of_decide_eq_true rfl) (ob_index rfl Try.underlying24 tk22 (.tmp rfl) (.tmp rfl) g1 e_x2) fun a36 w36 s36 => ?_; clear s35
      refine seq_op s36 rfl rfl (of_decide_eq_true rfl) (ob_assign rfl (.tmp rfl)) fun a37 w37 s37 => ?_; clear s36
      refine seq_op s37 rfl rfl (of_decide_eq_true rfl) (ob_assign rfl (.tmp rfl)) fun a38 w38 s38 => ?_; clear s37
      refine wpList_nil ?_
      refine then_normal ?_
      refine hK16 _ _ ?_
      have s39 := s38.sub (.cons (t := 2) rfl (.cons (t := 3) rfl (.cons (t := 6) rfl (.cons (t := 7) rfl (.cons (t := 8) rfl (.cons (t := 9) rfl (.cons (t := 10) rfl (.cons (t := 14) rfl (.cons (t := 15) rfl .nil))))))))); clear s38
      refine wp_region_lit ?_
      refine seq_op s39 rfl rfl (of_decide_eq_true rfl) (ob_move rfl (.tmp rfl)) fun a40 w40 s40 => ?_; clear s39
      refine seq_op s40 rfl rfl (of_decide_eq_true rfl) (ob_move rfl (.tmp rfl)) fun a41 w41 s41 => ?_; clear s40
      obtain ⟨g2, h12⟩ := guard_some h11; clear h11
      refine seq_op s41 rfl rfl (of_decide_eq_true rfl) (ob_indexAddr rfl Try.underlying24 sz22 (.tmp rfl) (.tmp rfl) g2.1 g2.2 (Nat.zero_add _)) fun a42 w42 s42 => ?_; clear s41
      obtain ⟨x3, e_x3, h13⟩ := bind_some h12; clear h12
      refine seq_op s42 rfl rfl (of_decide_eq_true rfl) (ob_load rfl tk22 (.tmp rfl) (List.Mem.head _) (LG.arrA e_x3)) fun a43 w43 s43 => ?_; clear s42
      refine seq_op s43 rfl rfl (of_decide_eq_true rfl) (ob_move rfl (.tmp rfl)) fun a44 w44 s44 => ?_; clear s43
      refine seq_op s44 rfl rfl (of_decide_eq_true rfl) (ob_max rfl (.tmp rfl) (.tmp rfl)) fun a45 w45 s45 => ?_; clear s44
      obtain ⟨g3, h14⟩ := guard_some h13; clear h13
      refine seq_op s45 rfl rfl (of_decide_eq_true rfl) (ob_indexAddr rfl Try.underlying24 sz22 (.tmp rfl) (.tmp rfl) g3.1 g3.2 (Nat.zero_add _)) fun a46 w46 s46 => ?_; clear s45
      obtain ⟨x4, e_x4, h15⟩ := bind_some h14; clear h14
      refine seq_opx0 (B' := fun _ => [BF b2 24 (karr 8 (kint .u32)) x4, BF b1 24 (karr 8 (kint .u32)) (List.replicate 8 (0 : Int))]) s46 rfl rfl (ob_store (A := []) rfl tk22 (.tmp rfl) (.tmp rfl) rfl (LS.arrS e_x4) rfl) fun _ a47 w47 s47 => ?_; clear s46
      refine wpList_nil ?_
      refine in_normal ?_
      refine then_normal ?_
      refine hK15 _ _ ?_
      have s48 := s47.sub (.cons (t := 2) rfl (.cons (t := 3) rfl (.cons (t := 8) rfl (.cons (t := 9) rfl (.cons (t := 10) rfl (.cons (t := 14) rfl (.cons (t := 15) rfl .nil))))))); clear s47
      refine wp_region_lit ?_
      refine seq_op s48 rfl rfl (of_decide_eq_true rfl) (ob_add rfl (.tmp rfl) (opd_int rfl)) fun a49 w49 s49 => ?_; clear s48
      refine seq_op s49 rfl rfl (of_decide_eq_true rfl) (ob_move rfl (.tmp rfl)) fun a50 w50 s50 => ?_; clear s49
      refine wpList_nil ?_
      refine then_normal ?_
      exact hK12 ((iadd .i64 y5 (1 : Int)), x4) _ _ h15 (s50.sub (.cons rfl (.cons rfl (.cons rfl (.cons rfl (.cons rfl (.cons rfl (.cons rfl .nil))))))))
    · replace h8 := ite_f hc2 h8
      have h16 := h8; clear h8
      refine wp_exit ?_
      refine (then_exit (then_exit (in_here ?_)))
      refine in_normal ?_
      refine then_normal ?_
      exact hj2 y6 _ _ h16 (s33.sub (.cons rfl (.cons rfl (.cons rfl (.cons rfl (.cons rfl .nil))))))
  · replace h3 := ite_f hc1 h3
    have h17 := h3; clear h3
    refine wp_exit ?_
    refine (then_exit (then_exit (in_here ?_)))
    refine then_normal ?_
    exact hj1 y3 b2 b1 _ _ h17 (s17.sub (.cons rfl (.cons rfl .nil)))

/- 15 cabal/clock.within -/
theorem c_clock_within (k : Nat) (p1 : (List Int)) (p2 : (List Int)) (r : Bool) (h0 : clock_within k p1 p2 = some r) (ok : Ok) (w0 : World) (z0 : Value) (z1 : Value) (u0 : ((karr 8 (kint .u32)).V p1).holds ok w0 z0) (u1 : ((karr 8 (kint .u32)).V p2).holds ok w0 z1) :
    Gives Try.prog 15 [z0, z1] ok w0 (resFact [kbool.V r]) := by
  unfold clock_within at h0
  refine enter (N := 11) Try.func15 rfl rfl (of_decide_eq_true rfl) (.cons u0 (.cons u1 .nil)) fun a1 s1 => ?_
  refine wp_seq_k fun K1 hK1 => ?_
  refine wp_region_lit ?_
  refine seq_opx s1 rfl rfl (of_decide_eq_true rfl) (ob_box rfl (.tmp rfl)) fun b1 a2 w2 s2 => ?_; clear s1
  refine seq_opx s2 rfl rfl (of_decide_eq_true rfl) (ob_box rfl (.tmp rfl)) fun b2 a3 w3 s3 => ?_; clear s2
  refine seq_op s3 rfl rfl (of_decide_eq_true rfl) (ob_assign rfl opd_bool) fun a4 w4 s4 => ?_; clear s3
  refine wpList_nil ?_
  refine then_normal ?_
  refine hK1 _ _ ?_
  have s5 := s4.sub (.cons (t := 2) rfl (.cons (t := 3) rfl .nil)); clear s4
  refine wp_seq_k fun K2 hK2 => ?_
  obtain ⟨x1, e_x1, h1⟩ := bind_some h0; clear h0
  refine wp_drawn (Fs := [((karr 8 (kint .u32)).V p1), ((karr 8 (kint .u32)).V p2), ((ksl (karr 8 (kint .u32))).V ([p1, p2] : (List (List Int)))), ((karr 8 (kint .u32)).V x1), ((karr 8 (kint .u32)).V p2), (kbool.V (decide (x1 = p2))), (kbool.V (decide (x1 = p2)))]) (bits := [0, 0, 3, 7, 0, 31, 63]) (m := 7) mx s5 (by kernel_rfl) rfl (ops_cons (.plain _ (Av.old (t := 2) rfl rfl Av.nil) rfl rfl (ob_load rfl tk24 (.tmp rfl) (List.Mem.tail _ (List.Mem.head _)) (LG.refl _ _))) (ops_cons (.plain _ (Av.old (t := 3) rfl rfl Av.nil) rfl rfl (ob_load rfl tk24 (.tmp rfl) (List.Mem.head _) (LG.refl _ _))) (ops_cons (.plain _ (Av.new (j := 0) rfl rfl rfl (Av.new (j := 1) rfl rfl rfl Av.nil)) rfl rfl (ob_mkSlice (k := (karr 8 (kint .u32))) (xs := ([p1, p2] : (List (List Int)))) rfl Try.underlying25 zz24 sz24 (Zr.arr 8 (Zr.int .u32)) (by decide) (by decide) (.cons (.tmp rfl) rfl (LS.arr' (i := 0) (ys := ([p1, (List.replicate 8 (0 : Int))] : (List (List Int)))) (by simp) (by rfl)) (.cons (.tmp rfl) rfl (LS.arr' (i := 1) (ys := ([p1, p2] : (List (List Int)))) (by simp) (by rfl)) (.nil _))))) (ops_cons (.plain _ (Av.new (j := 2) rfl rfl rfl Av.nil) rfl rfl (ob_calls rfl hb10 (fun a w s => c_clock_Join k _ _ e_x1 _ _ _ (s.arg (.tmp rfl))))) (ops_cons (.plain _ (Av.old (t := 3) rfl rfl Av.nil) rfl rfl (ob_load rfl tk24 (.tmp rfl) (List.Mem.head _) (LG.refl _ _))) (ops_cons (.plain _ (Av.new (j := 3) rfl rfl rfl (Av.new (j := 4) rfl rfl rfl Av.nil)) rfl rfl (ob_eqAgg rfl rfl (by kernel_rfl) eq24 (by decide) (.tmp rfl) (.tmp rfl))) (ops_cons (.plain _ (Av.new (j := 5) rfl rfl rfl Av.nil) rfl rfl (ob_assign rfl (.tmp rfl))) ops_nil))))))) (out_new (i := 6) (by decide) rfl rfl out_nil) fun a6 w6 s6 => ?_; clear s5
  refine wpList_nil ?_
  refine then_normal ?_
  refine hK2 _ _ ?_
  have s7 := s6.sub (.cons (t := 4) rfl .nil); clear s6
  have s8 := St.drop (A := []) s7; clear s7
  have s9 := St.drop (A := []) s8; clear s8
  refine wp_ret ?_
  obtain rfl := Option.some.inj h1
  exact leave s9 (.inl rfl) rfl (.cons (.tmp rfl) .nil)

/- 8 cabal/clock.Order -/
theorem c_clock_Order (k : Nat) (p1 : (List Int)) (p2 : (List Int)) (r : Int) (h0 : clock_Order k p1 p2 = some r) (ok : Ok) (w0 : World) (z0 : Value) (z1 : Value) (u0 : ((karr 8 (kint .u32)).V p1).holds ok w0 z0) (u1 : ((karr 8 (kint .u32)).V p2).holds ok w0 z1) :
    Gives Try.prog 8 [z0, z1] ok w0 (resFact [(kint .i64).V r]) := by
  unfold clock_Order at h0
  refine enter (N := 17) Try.func8 rfl rfl (of_decide_eq_true rfl) (.cons u0 (.cons u1 .nil)) fun a1 s1 => ?_
  refine wp_seq_k fun K1 hK1 => ?_
  refine wp_region_lit ?_
  refine seq_opx s1 rfl rfl (of_decide_eq_true rfl) (ob_box rfl (.tmp rfl)) fun b1 a2 w2 s2 => ?_; clear s1
  refine seq_opx s2 rfl rfl (of_decide_eq_true rfl) (ob_box rfl (.tmp rfl)) fun b2 a3 w3 s3 => ?_; clear s2
  refine seq_op s3 rfl rfl (of_decide_eq_true rfl) (ob_assign rfl (opd_int rfl)) fun a4 w4 s4 => ?_; clear s3
  refine wpList_nil ?_
  refine then_normal ?_
  refine hK1 _ _ ?_
  have s5 := s4.sub (.cons (t := 2) rfl (.cons (t := 3) rfl .nil)); clear s4
  refine wp_seq_k fun K2 hK2 => ?_
  refine wp_block ?_
  refine wp_seq_k fun K3 hK3 => ?_
  refine wp_region_lit ?_
  refine seq_op s5 rfl rfl (of_decide_eq_true rfl) (ob_load rfl tk24 (.tmp rfl) (List.Mem.tail _ (List.Mem.head _)) (LG.refl _ _)) fun a6 w6 s6 => ?_; clear s5
  refine seq_op s6 rfl rfl (of_decide_eq_true rfl) (ob_load rfl tk24 (.tmp rfl) (List.Mem.head _) (LG.refl _ _)) fun a7 w7 s7 => ?_; clear s6
  refine seq_op s7 rfl rfl (of_decide_eq_true rfl) (ob_eqAgg rfl rfl (by kernel_rfl) eq24 (by decide) (.tmp rfl) (.tmp rfl)) fun a8 w8 s8 => ?_; clear s7
  refine seq_op s8 rfl rfl (of_decide_eq_true rfl) (ob_assign rfl (.tmp rfl)) fun a9 w9 s9 => ?_; clear s8
  refine wpList_nil ?_
  refine then_normal ?_
  refine hK3 _ _ ?_
  have s10 := s9.sub (.cons (t := 2) rfl (.cons (t := 3) rfl (.cons (t := 5) rfl .nil))); clear s9
  refine cond_split s10 (.tmp rfl) (fun hc1 => ?_) (fun hc1 => ?_)
  · replace h0 := ite_t hc1 h0
    have h1 := h0; clear h0
    refine wp_seq_k fun K4 hK4 => ?_
    refine wp_region_lit ?_
    refine seq_op s10 rfl rfl (of_decide_eq_true rfl) (ob_assign rfl (opd_int rfl)) fun a11 w11 s11 => ?_; clear s10
    refine wpList_nil ?_
    refine then_normal ?_
    refine hK4 _ _ ?_
    have s12 := s11.sub (.cons (t := 4) rfl .nil); clear s11
    have s13 := St.drop (A := []) s12; clear s12
    have s14 := St.drop (A := []) s13; clear s13
    refine wp_ret ?_
    obtain rfl := Option.some.inj h1
    exact leave s14 (.inl rfl) rfl (.cons (.tmp rfl) .nil)
  · replace h0 := ite_f hc1 h0
    have h2 := h0; clear h0
    refine wp_seq_k fun K5 hK5 => ?_
    refine wp_region_lit ?_
    refine seq_op s10 rfl rfl (of_decide_eq_true rfl) (ob_load rfl tk24 (.tmp rfl) (List.Mem.tail _ (List.Mem.head _)) (LG.refl _ _)) fun a15 w15 s15 => ?_; clear s10
    refine seq_op s15 rfl rfl (of_decide_eq_true rfl) (ob_load rfl tk24 (.tmp rfl) (List.Mem.head _) (LG.refl _ _)) fun a16 w16 s16 => ?_; clear s15
    obtain ⟨x1, e_x1, h3⟩ := bind_some h2; clear h2
    refine seq_op s16 rfl rfl (of_decide_eq_true rfl) (ob_calls rfl hb15 (fun a w s => c_clock_within k _ _ _ e_x1 _ _ _ _ (s.arg (.tmp rfl)) (s.arg (.tmp rfl)))) fun a17 w17 s17 => ?_; clear s16
    refine seq_op s17 rfl rfl (of_decide_eq_true rfl) (ob_assign rfl (.tmp rfl)) fun a18 w18 s18 => ?_; clear s17
    refine wpList_nil ?_
    refine then_normal ?_
    refine hK5 _ _ ?_
    have s19 := s18.sub (.cons (t := 2) rfl (.cons (t := 3) rfl (.cons (t := 9) rfl .nil))); clear s18
    refine cond_split s19 (.tmp rfl) (fun hc2 => ?_) (fun hc2 => ?_)
    · replace h3 := ite_t hc2 h3
      have h4 := h3; clear h3
      refine wp_seq_k fun K6 hK6 => ?_
      refine wp_region_lit ?_
      refine seq_op s19 rfl rfl (of_decide_eq_true rfl) (ob_assign rfl (opd_int rfl)) fun a20 w20 s20 => ?_; clear s19
      refine wpList_nil ?_
      refine then_normal ?_
      refine hK6 _ _ ?_
      have s21 := s20.sub (.cons (t := 4) rfl .nil); clear s20
      have s22 := St.drop (A := []) s21; clear s21
      have s23 := St.drop (A := []) s22; clear s22
      refine wp_ret ?_
      obtain rfl := Option.some.inj h4
      exact leave s23 (.inl rfl) rfl (.cons (.tmp rfl) .nil)
    · replace h3 := ite_f hc2 h3
      have h5 := h3; clear h3
      refine wp_seq_k fun K7 hK7 => ?_
      refine wp_region_lit ?_
      refine seq_op s19 rfl rfl (of_decide_eq_true rfl) (ob_load rfl tk24 (.tmp rfl) (List.Mem.head _) (LG.refl _ _)) fun a24 w24 s24 => ?_; clear s19
      refine seq_op s24 rfl rfl (of_decide_eq_true rfl) (ob_load rfl tk24 (.tmp rfl) (List.Mem.tail _ (List.Mem.head _)) (LG.refl _ _)) fun a25 w25 s25 => ?_; clear s24
      obtain ⟨x2, e_x2, h6⟩ := bind_some h5; clear h5
      refine seq_op s25 rfl rfl (of_decide_eq_true rfl) (ob_calls rfl hb15 (fun a w s => c_clock_within k _ _ _ e_x2 _ _ _ _ (s.arg (.tmp rfl)) (s.arg (.tmp rfl)))) fun a26 w26 s26 => ?_; clear s25
      refine seq_op s26 rfl rfl (of_decide_eq_true rfl) (ob_assign rfl (.tmp rfl)) fun a27 w27 s27 => ?_; clear s26
      refine wpList_nil ?_
      refine then_normal ?_
      refine hK7 _ _ ?_
      have s28 := s27.sub (.cons (t := 13) rfl .nil); clear s27
      have s29 := St.drop (A := []) s28; clear s28
      have s30 := St.drop (A := []) s29; clear s29
      refine cond_split s30 (.tmp rfl) (fun hc3 => ?_) (fun hc3 => ?_)
      · replace h6 := ite_t hc3 h6
        have h7 := h6; clear h6
        refine wp_seq_k fun K8 hK8 => ?_
        refine wp_region_lit ?_
        refine seq_op s30 rfl rfl (of_decide_eq_true rfl) (ob_assign rfl (opd_int rfl)) fun a31 w31 s31 => ?_; clear s30
        refine wpList_nil ?_
        refine then_normal ?_
        refine hK8 _ _ ?_
        have s32 := s31.sub (.cons (t := 4) rfl .nil); clear s31
        refine wp_ret ?_
        obtain rfl := Option.some.inj h7
        exact leave s32 (.inl rfl) rfl (.cons (.tmp rfl) .nil)
      · replace h6 := ite_f hc3 h6
        have h8 := h6; clear h6
        refine wp_skip ?_
        refine in_normal ?_
        refine then_normal ?_
        refine hK2 _ _ ?_
        have s33 := s30.sub .nil; clear s30
        refine wp_seq_k fun K9 hK9 => ?_
        refine wp_region_lit ?_
        refine seq_op s33 rfl rfl (of_decide_eq_true rfl) (ob_assign rfl (opd_int rfl)) fun a34 w34 s34 => ?_; clear s33
        refine wpList_nil ?_
        refine then_normal ?_
        refine hK9 _ _ ?_
        have s35 := s34.sub (.cons (t := 4) rfl .nil); clear s34
        refine wp_ret ?_
        obtain rfl := Option.some.inj h8
        exact leave s35 (.inl rfl) rfl (.cons (.tmp rfl) .nil)

/- 12 cabal/clock.Due -/
theorem c_clock_Due (k : Nat) (p1 : (List Int)) (p2 : (List Int)) (p3 : Int) (r : Bool) (h0 : clock_Due k p1 p2 p3 = some r) (ok : Ok) (w0 : World) (z0 : Value) (z1 : Value) (z2 : Value) (u0 : ((karr 8 (kint .u32)).V p1).holds ok w0 z0) (u1 : ((karr 8 (kint .u32)).V p2).holds ok w0 z1) (u2 : ((kint .i64).V p3).holds ok w0 z2) :
    Gives Try.prog 12 [z0, z1, z2] ok w0 (resFact [kbool.V r]) := by
  unfold clock_Due at h0
  refine enter (N := 37) Try.func12 rfl rfl (of_decide_eq_true rfl) (.cons u0 (.cons u1 (.cons u2 .nil))) fun a1 s1 => ?_
  refine wp_seq_k fun K1 hK1 => ?_
  refine wp_region_lit ?_
  refine seq_opx s1 rfl rfl (of_decide_eq_true rfl) (ob_box rfl (.tmp rfl)) fun b1 a2 w2 s2 => ?_; clear s1
  refine seq_opx s2 rfl rfl (of_decide_eq_true rfl) (ob_box rfl (.tmp rfl)) fun b2 a3 w3 s3 => ?_; clear s2
  refine seq_op s3 rfl rfl (of_decide_eq_true rfl) (ob_assign rfl opd_bool) fun a4 w4 s4 => ?_; clear s3
  refine wpList_nil ?_
  refine then_normal ?_
  refine hK1 _ _ ?_
  have s5 := s4.sub (.cons (t := 2) rfl (.cons (t := 3) rfl (.cons (t := 4) rfl .nil))); clear s4
  refine wp_seq_k fun K2 hK2 => ?_
  refine wp_seq_k fun K3 hK3 => ?_
  obtain ⟨x1, e_x1, h1⟩ := bind_some h0; clear h0; replace e_x1 := Option.some.inj e_x1
  obtain ⟨g1, h2⟩ := guard_some h1; clear h1
  obtain ⟨x2, e_x2, h3⟩ := bind_some h2; clear h2
  obtain ⟨g2, h4⟩ := guard_some h3; clear h3
  obtain ⟨x3, e_x3, h5⟩ := bind_some h4; clear h4
  obtain ⟨g3, h6⟩ := guard_some h5; clear h5
  obtain ⟨x4, e_x4, h7⟩ := bind_some h6; clear h6
  obtain ⟨x5, e_x5, h8⟩ := bind_some h7; clear h7; replace e_x5 := Option.some.inj e_x5
  refine wp_drawn (Fs := [((kint .i64).V p3), (kbool.V (decide (p3 < (0 : Int)))), (kbool.V (decide (p3 < (0 : Int)))), (Fact.when ((decide (p3 < (0 : Int))) == false) ((kint .i64).V p3)), (Fact.when ((decide (p3 < (0 : Int))) == false) (kbool.V (decide (p3 ≥ (8 : Int))))), (kbool.V x1), (kbool.V x1), (Fact.when (x1 == false) ((kint .i64).V p3)), (Fact.when (x1 == false) (ptrB b2 (p3.toNat * 1))), (Fact.when (x1 == false) ((kint .u32).V x2)), (Fact.when (x1 == false) (kbool.V (x2 == (0 : Int)))), (kbool.V (if x1 then true else (x2 == (0 : Int)))), (kbool.V (if x1 then true else (x2 == (0 : Int)))), (Fact.when ((if x1 then true else (x2 == (0 : Int))) == false) ((kint .i64).V p3)), (Fact.when ((if x1 then true else (x2 == (0 : Int))) == false) (ptrB b2 (p3.toNat * 1))), (Fact.when ((if x1 then true else (x2 == (0 : Int))) == false) ((kint .u32).V x3)), (Fact.when ((if x1 then true else (x2 == (0 : Int))) == false) ((kint .u32).V (isub .u32 x3 (1 : Int)))), (Fact.when ((if x1 then true else (x2 == (0 : Int))) == false) ((kint .i64).V p3)), (Fact.when ((if x1 then true else (x2 == (0 : Int))) == false) (ptrB b1 (p3.toNat * 1))), (Fact.when ((if x1 then true else (x2 == (0 : Int))) == false) ((kint .u32).V x4)), (Fact.when ((if x1 then true else (x2 == (0 : Int))) == false) (kbool.V ((isub .u32 x3 (1 : Int)) != x4))), (kbool.V x5)]) (bits := [0, 1, 3, 7, 15, 31, 63, 127, 255, 511, 1023, 2047, 4095, 8191, 16383, 32767, 65535, 8191, 139263, 401407, 1048575, 2097151]) (m := 22) mx s5 (by kernel_rfl) rfl (ops_cons (.plain _ (Av.old (t := 2) rfl rfl Av.nil) rfl rfl (ob_move rfl (.tmp rfl))) (ops_cons (.plain _ (Av.new (j := 0) rfl rfl rfl Av.nil) rfl rfl (ob_lss rfl (.tmp rfl) (opd_int rfl))) (ops_cons (.plain _ (Av.new (j := 1) rfl rfl rfl Av.nil) rfl rfl (ob_move rfl (.tmp rfl))) (ops_cons (.guarded _ (Av.old (t := 2) rfl rfl (Av.new (j := 2) rfl rfl rfl Av.nil)) rfl rfl rfl rfl (fun hb => ob_move rfl (.tmp rfl))) (ops_cons (.guarded _ (Av.new (j := 2) rfl rfl rfl (Av.new (j := 3) rfl rfl rfl Av.nil)) rfl rfl rfl rfl (fun hb => (Ob.uncond (t := 10) hb rfl (ob_geq rfl (.tmp rfl) (opd_int rfl))))) (ops_cons (.plain _ (Av.new (j := 2) rfl rfl rfl (Av.new (j := 4) rfl rfl rfl Av.nil)) rfl rfl ((ob_or2 rfl (.tmp rfl) opd_bool (.tmp rfl)).nm e_x1)) (ops_cons (.plain _ (Av.new (j := 5) rfl rfl rfl Av.nil) rfl rfl (ob_move rfl (.tmp rfl))) (ops_cons (.guarded _ (Av.old (t := 2) rfl rfl (Av.new (j := 6) rfl rfl rfl Av.nil)) rfl rfl rfl rfl (fun hb => ob_move rfl (.tmp rfl))) (ops_cons (.guarded _ (Av.old (t := 4) rfl rfl (Av.new (j := 6) rfl rfl rfl (Av.new (j := 7) rfl rfl rfl Av.nil))) rfl rfl rfl rfl (fun hb => (Ob.uncond (t := 14) hb rfl (ob_indexAddr rfl Try.underlying24 sz22 (.tmp rfl) (.tmp rfl) (g1 hb).1 (g1 hb).2 (Nat.zero_add _))))) (ops_cons (.guarded _ (Av.new (j := 6) rfl rfl rfl (Av.new (j := 8) rfl rfl rfl Av.nil)) rfl rfl rfl rfl (fun hb => (Ob.uncond (t := 15) hb rfl (ob_load rfl tk22 (.tmp rfl) (List.Mem.head _) (LG.arrA (ite_t hb e_x2)))))) (ops_cons (.guarded _ (Av.new (j := 6) rfl rfl rfl (Av.new (j := 9) rfl rfl rfl Av.nil)) rfl rfl rfl rfl (fun hb => (Ob.uncond (t := 16) hb rfl (ob_eql rfl (.tmp rfl) (opd_int rfl))))) (ops_cons (.plain _ (Av.new (j := 6) rfl rfl rfl (Av.new (j := 10) rfl rfl rfl Av.nil)) rfl rfl (ob_or2 rfl (.tmp rfl) opd_bool (.tmp rfl))) (ops_cons (.plain _ (Av.new (j := 11) rfl rfl rfl Av.nil) rfl rfl (ob_move rfl (.tmp rfl))) (ops_cons (.guarded _ (Av.old (t := 2) rfl rfl (Av.new (j := 12) rfl rfl rfl Av.nil)) rfl rfl rfl rfl (fun hb => ob_move rfl (.tmp rfl))) (ops_cons (.guarded _ (Av.old (t := 4) rfl rfl (Av.new (j := 12) rfl rfl rfl (Av.new (j := 13) rfl rfl rfl Av.nil))) rfl rfl rfl rfl (fun hb => (Ob.uncond (t := 20) hb rfl (ob_indexAddr rfl Try.underlying24 sz22 (.tmp rfl) (.tmp rfl) (g2 hb).1 (g2 hb).2 (Nat.zero_add _))))) (ops_cons (.guarded _ (Av.new (j := 12) rfl rfl rfl (Av.new (j := 14) rfl rfl rfl Av.nil)) rfl rfl rfl rfl (fun hb => (Ob.uncond (t := 21) hb rfl (ob_load rfl tk22 (.tmp rfl) (List.Mem.head _) (LG.arrA (ite_t hb e_x3)))))) (ops_cons (.guarded _ (Av.new (j := 12) rfl rfl rfl (Av.new (j := 15) rfl rfl rfl Av.nil)) rfl rfl rfl rfl (fun hb => (Ob.uncond (t := 22) hb rfl (ob_sub rfl (.tmp rfl) (opd_int rfl))))) (ops_cons (.guarded _ (Av.old (t := 2) rfl rfl (Av.new (j := 12) rfl rfl rfl Av.nil)) rfl rfl rfl rfl (fun hb => ob_move rfl (.tmp rfl))) (ops_cons (.guarded _ (Av.old (t := 3) rfl rfl (Av.new (j := 12) rfl rfl rfl (Av.new (j := 17) rfl rfl rfl Av.nil))) rfl rfl rfl rfl (fun hb => (Ob.uncond (t := 24) hb rfl (ob_indexAddr rfl Try.underlying24 sz22 (.tmp rfl) (.tmp rfl) (g3 hb).1 (g3 hb).2 (Nat.zero_add _))))) (ops_cons (.guarded _ (Av.new (j := 12) rfl rfl rfl (Av.new (j := 18) rfl rfl rfl Av.nil)) rfl rfl rfl rfl (fun hb => (Ob.uncond (t := 25) hb rfl (ob_load rfl tk22 (.tmp rfl) (List.Mem.tail _ (List.Mem.head _)) (LG.arrA (ite_t hb e_x4)))))) (ops_cons (.guarded _ (Av.new (j := 12) rfl rfl rfl (Av.new (j := 16) rfl rfl rfl (Av.new (j := 19) rfl rfl rfl Av.nil))) rfl rfl rfl rfl (fun hb => (Ob.uncond (t := 26) hb rfl ((Ob.uncond (t := 23) hb rfl (ob_neq rfl (.tmp rfl) (.tmp rfl))))))) (ops_cons (.plain _ (Av.new (j := 12) rfl rfl rfl (Av.new (j := 20) rfl rfl rfl Av.nil)) rfl rfl ((ob_or2 rfl (.tmp rfl) opd_bool (.tmp rfl)).nm e_x5)) ops_nil)))))))))))))))))))))) (out_old (t := 2) rfl rfl (out_old (t := 3) rfl rfl (out_old (t := 4) rfl rfl (out_new (i := 21) (by decide) rfl rfl out_nil)))) fun a6 w6 s6 => ?_; clear s5
  refine wpList_nil ?_
  refine then_normal ?_
  refine hK3 _ _ ?_
  have s7 := s6.sub (.cons (t := 2) rfl (.cons (t := 3) rfl (.cons (t := 4) rfl (.cons (t := 28) rfl .nil)))); clear s6
  refine cond_split s7 (.tmp rfl) (fun hc1 => ?_) (fun hc1 => ?_)
  · replace h8 := ite_t hc1 h8
    have h9 := h8; clear h8
    refine wp_seq_k fun K4 hK4 => ?_
    refine wp_region_lit ?_
    refine seq_op s7 rfl rfl (of_decide_eq_true rfl) (ob_assign rfl opd_bool) fun a8 w8 s8 => ?_; clear s7
    refine wpList_nil ?_
    refine then_normal ?_
    refine hK4 _ _ ?_
    have s9 := s8.sub (.cons (t := 6) rfl .nil); clear s8
    have s10 := St.drop (A := []) s9; clear s9
    have s11 := St.drop (A := []) s10; clear s10
    refine wp_ret ?_
    obtain rfl := Option.some.inj h9
    exact leave s11 (.inl rfl) rfl (.cons (.tmp rfl) .nil)
  · replace h8 := ite_f hc1 h8
    have h10 := h8; clear h8
    refine wp_skip ?_
    refine then_normal ?_
    refine hK2 _ _ ?_
    have s12 := s7.sub (.cons (t := 2) rfl (.cons (t := 3) rfl (.cons (t := 4) rfl .nil))); clear s7
    refine wp_seq_k fun K5 hK5 => ?_
    refine wp_region_lit ?_
    refine seq_op s12 rfl rfl (of_decide_eq_true rfl) (ob_move rfl (.tmp rfl)) fun a13 w13 s13 => ?_; clear s12
    refine seq_op s13 rfl rfl (of_decide_eq_true rfl) (ob_move rfl (.tmp rfl)) fun a14 w14 s14 => ?_; clear s13
    obtain ⟨g4, h11⟩ := guard_some h10; clear h10
    refine seq_op s14 rfl rfl (of_decide_eq_true rfl) (ob_indexAddr rfl Try.underlying24 sz22 (.tmp rfl) (.tmp rfl) g4.1 g4.2 (Nat.zero_add _)) fun a15 w15 s15 => ?_; clear s14
    obtain ⟨x6, e_x6, h12⟩ := bind_some h11; clear h11
    refine seq_op s15 rfl rfl (of_decide_eq_true rfl) (ob_load rfl tk22 (.tmp rfl) (List.Mem.tail _ (List.Mem.head _)) (LG.arrA e_x6)) fun a16 w16 s16 => ?_; clear s15
    obtain ⟨g5, h13⟩ := guard_some h12; clear h12
    refine seq_op s16 rfl rfl (of_decide_eq_true rfl) (ob_indexAddr rfl Try.underlying24 sz22 (.tmp rfl) (.tmp rfl) g5.1 g5.2 (Nat.zero_add _)) fun a17 w17 s17 => ?_; clear s16
    obtain ⟨x7, e_x7, h14⟩ := bind_some h13; clear h13
    refine seq_opx0 (B' := fun _ => [BF b2 24 (karr 8 (kint .u32)) x7, BF b1 24 (karr 8 (kint .u32)) p1]) s17 rfl rfl (ob_store (A := []) rfl tk22 (.tmp rfl) (.tmp rfl) rfl (LS.arrS e_x7) rfl) fun _ a18 w18 s18 => ?_; clear s17
    refine wpList_nil ?_
    refine then_normal ?_
    refine hK5 _ _ ?_
    have s19 := s18.sub (.cons (t := 3) rfl (.cons (t := 4) rfl .nil)); clear s18
    refine wp_seq_k fun K6 hK6 => ?_
    refine wp_region_lit ?_
    refine seq_op s19 rfl rfl (of_decide_eq_true rfl) (ob_load rfl tk24 (.tmp rfl) (List.Mem.head _) (LG.refl _ _)) fun a20 w20 s20 => ?_; clear s19
    refine seq_op s20 rfl rfl (of_decide_eq_true rfl) (ob_load rfl tk24 (.tmp rfl) (List.Mem.tail _ (List.Mem.head _)) (LG.refl _ _)) fun a21 w21 s21 => ?_; clear s20
    obtain ⟨x8, e_x8, h15⟩ := bind_some h14; clear h14
    refine seq_op s21 rfl rfl (of_decide_eq_true rfl) (ob_calls rfl hb15 (fun a w s => c_clock_within k _ _ _ e_x8 _ _ _ _ (s.arg (.tmp rfl)) (s.arg (.tmp rfl)))) fun a22 w22 s22 => ?_; clear s21
    refine seq_op s22 rfl rfl (of_decide_eq_true rfl) (ob_assign rfl (.tmp rfl)) fun a23 w23 s23 => ?_; clear s22
    refine wpList_nil ?_
    refine then_normal ?_
    refine hK6 _ _ ?_
    have s24 := s23.sub (.cons (t := 6) rfl .nil); clear s23
    have s25 := St.drop (A := []) s24; clear s24
    have s26 := St.drop (A := []) s25; clear s25
    refine wp_ret ?_
    obtain rfl := Option.some.inj h15
    exact leave s26 (.inl rfl) rfl (.cons (.tmp rfl) .nil)

/- 5 cabal/caballaw26.alive -/
theorem c_caballaw26_alive (k : Nat) (r : Bool) (h0 : caballaw26_alive k = some r) (ok : Ok) (w0 : World) :
    Gives Try.prog 5 [] ok w0 (resFact [kbool.V r]) := by
  unfold caballaw26_alive at h0
  refine enter (N := 52) Try.func5 rfl rfl (of_decide_eq_true rfl) .nil fun a1 s1 => ?_
  refine wp_seq_k fun K1 hK1 => ?_
  refine wp_region_lit ?_
  refine seq_op s1 rfl rfl (of_decide_eq_true rfl) (ob_assign rfl opd_bool) fun a2 w2 s2 => ?_; clear s1
  refine wpList_nil ?_
  refine then_normal ?_
  refine hK1 _ _ ?_
  have s3 := s2.sub .nil; clear s2
  refine wp_seq_k fun K2 hK2 => ?_
  refine wp_region_lit ?_
  obtain ⟨x1, e_x1, h1⟩ := bind_some h0; clear h0; replace e_x1 := Option.some.inj e_x1
  refine seq_op s3 rfl rfl (of_decide_eq_true rfl) (((ob_mkArr (k := (kint .u32)) rfl Try.underlying24 zz24 sz22 (Zr.arr 8 (Zr.int .u32)) (.cons (opd_int rfl) rfl (LS.arr' (i := 0) (ys := ([(1 : Int), (0 : Int), (0 : Int), (0 : Int), (0 : Int), (0 : Int), (0 : Int), (0 : Int)] : (List Int))) (by simp) (by rfl)) (.nil _)) : Ob _ _ _ _ _ ((karr 8 (kint .u32)).V ([(1 : Int), (0 : Int), (0 : Int), (0 : Int), (0 : Int), (0 : Int), (0 : Int), (0 : Int)] : (List Int))))).nm e_x1) fun a4 w4 s4 => ?_; clear s3
  obtain ⟨x2, e_x2, h2⟩ := bind_some h1; clear h1; replace e_x2 := Option.some.inj e_x2
  refine seq_op s4 rfl rfl (of_decide_eq_true rfl) (((ob_mkArr (k := (kint .u32)) rfl Try.underlying24 zz24 sz22 (Zr.arr 8 (Zr.int .u32)) (.cons (opd_int rfl) rfl (LS.arr' (i := 0) (ys := ([(1 : Int), (0 : Int), (0 : Int), (0 : Int), (0 : Int), (0 : Int), (0 : Int), (0 : Int)] : (List Int))) (by simp) (by rfl)) (.cons (opd_int rfl) rfl (LS.arr' (i := 1) (ys := ([(1 : Int), (2 : Int), (0 : Int), (0 : Int), (0 : Int), (0 : Int), (0 : Int), (0 : Int)] : (List Int))) (by simp) (by rfl)) (.nil _))) : Ob _ _ _ _ _ ((karr 8 (kint .u32)).V ([(1 : Int), (2 : Int), (0 : Int), (0 : Int), (0 : Int), (0 : Int), (0 : Int), (0 : Int)] : (List Int))))).nm e_x2) fun a5 w5 s5 => ?_; clear s4
  obtain ⟨x3, e_x3, h3⟩ := bind_some h2; clear h2; replace e_x3 := Option.some.inj e_x3
  refine seq_op s5 rfl rfl (of_decide_eq_true rfl) (((ob_mkArr (k := (kint .u32)) rfl Try.underlying24 zz24 sz22 (Zr.arr 8 (Zr.int .u32)) (.cons (opd_int rfl) rfl (LS.arr' (i := 0) (ys := ([(0 : Int), (0 : Int), (0 : Int), (0 : Int), (0 : Int), (0 : Int), (0 : Int), (0 : Int)] : (List Int))) (by simp) (by rfl)) (.cons (opd_int rfl) rfl (LS.arr' (i := 1) (ys := ([(0 : Int), (1 : Int), (0 : Int), (0 : Int), (0 : Int), (0 : Int), (0 : Int), (0 : Int)] : (List Int))) (by simp) (by rfl)) (.nil _))) : Ob _ _ _ _ _ ((karr 8 (kint .u32)).V ([(0 : Int), (1 : Int), (0 : Int), (0 : Int), (0 : Int), (0 : Int), (0 : Int), (0 : Int)] : (List Int))))).nm e_x3) fun a6 w6 s6 => ?_; clear s5
  refine seq_opx s6 rfl rfl (of_decide_eq_true rfl) (ob_new (k := (karr 8 (kint .u32))) rfl zz24 (Zr.arr 8 (Zr.int .u32))) fun b1 a7 w7 s7 => ?_; clear s6
  refine seq_opx s7 rfl rfl (of_decide_eq_true rfl) (ob_new (k := (karr 8 (kint .u32))) rfl zz24 (Zr.arr 8 (Zr.int .u32))) fun b2 a8 w8 s8 => ?_; clear s7
  refine seq_opx s8 rfl rfl (of_decide_eq_true rfl) (ob_new (k := (karr 8 (kint .u32))) rfl zz24 (Zr.arr 8 (Zr.int .u32))) fun b3 a9 w9 s9 => ?_; clear s8
  refine seq_opx0 (B' := fun _ => [BF b3 24 (karr 8 (kint .u32)) (List.replicate 8 (0 : Int)), BF b2 24 (karr 8 (kint .u32)) (List.replicate 8 (0 : Int)), BF b1 24 (karr 8 (kint .u32)) x1]) s9 rfl rfl (ob_store (A := [_, _]) rfl tk24 (.tmp rfl) (.tmp rfl) rfl (LS.refl _ _ _) rfl) fun _ a10 w10 s10 => ?_; clear s9
  refine seq_opx0 (B' := fun _ => [BF b3 24 (karr 8 (kint .u32)) (List.replicate 8 (0 : Int)), BF b2 24 (karr 8 (kint .u32)) x2, BF b1 24 (karr 8 (kint .u32)) x1]) s10 rfl rfl (ob_store (A := [_]) rfl tk24 (.tmp rfl) (.tmp rfl) rfl (LS.refl _ _ _) rfl) fun _ a11 w11 s11 => ?_; clear s10
  refine seq_opx0 (B' := fun _ => [BF b3 24 (karr 8 (kint .u32)) x3, BF b2 24 (karr 8 (kint .u32)) x2, BF b1 24 (karr 8 (kint .u32)) x1]) s11 rfl rfl (ob_store (A := []) rfl tk24 (.tmp rfl) (.tmp rfl) rfl (LS.refl _ _ _) rfl) fun _ a12 w12 s12 => ?_; clear s11
  refine wpList_nil ?_
  refine then_normal ?_
  refine hK2 _ _ ?_
  have s13 := s12.sub (.cons (t := 1) rfl (.cons (t := 2) rfl (.cons (t := 3) rfl .nil))); clear s12
  refine wp_seq_k fun K3 hK3 => ?_
  refine wp_region_lit ?_
  obtain ⟨x4, e_x4, h4⟩ := bind_some h3; clear h3; replace e_x4 := Option.some.inj e_x4
  refine seq_op s13 rfl rfl (of_decide_eq_true rfl) (((ob_mkArr (k := (kint .u32)) rfl Try.underlying24 zz24 sz22 (Zr.arr 8 (Zr.int .u32)) (.cons (opd_int rfl) rfl (LS.arr' (i := 0) (ys := ([(1 : Int), (0 : Int), (0 : Int), (0 : Int), (0 : Int), (0 : Int), (0 : Int), (0 : Int)] : (List Int))) (by simp) (by rfl)) (.cons (opd_int rfl) rfl (LS.arr' (i := 1) (ys := ([(1 : Int), (4 : Int), (0 : Int), (0 : Int), (0 : Int), (0 : Int), (0 : Int), (0 : Int)] : (List Int))) (by simp) (by rfl)) (.nil _))) : Ob _ _ _ _ _ ((karr 8 (kint .u32)).V ([(1 : Int), (4 : Int), (0 : Int), (0 : Int), (0 : Int), (0 : Int), (0 : Int), (0 : Int)] : (List Int))))).nm e_x4) fun a14 w14 s14 => ?_; clear s13
  obtain ⟨x5, e_x5, h5⟩ := bind_some h4; clear h4; replace e_x5 := Option.some.inj e_x5
  refine seq_op s14 rfl rfl (of_decide_eq_true rfl) (((ob_mkArr (k := (kint .u32)) rfl Try.underlying24 zz24 sz22 (Zr.arr 8 (Zr.int .u32)) (.cons (opd_int rfl) rfl (LS.arr' (i := 0) (ys := ([(3 : Int), (0 : Int), (0 : Int), (0 : Int), (0 : Int), (0 : Int), (0 : Int), (0 : Int)] : (List Int))) (by simp) (by rfl)) (.cons (opd_int rfl) rfl (LS.arr' (i := 1) (ys := ([(3 : Int), (2 : Int), (0 : Int), (0 : Int), (0 : Int), (0 : Int), (0 : Int), (0 : Int)] : (List Int))) (by simp) (by rfl)) (.nil _))) : Ob _ _ _ _ _ ((karr 8 (kint .u32)).V ([(3 : Int), (2 : Int), (0 : Int), (0 : Int), (0 : Int), (0 : Int), (0 : Int), (0 : Int)] : (List Int))))).nm e_x5) fun a15 w15 s15 => ?_; clear s14
  obtain ⟨x6, e_x6, h6⟩ := bind_some h5; clear h5
  refine seq_op s15 rfl rfl (of_decide_eq_true rfl) (ob_calls rfl hb6 (fun a w s => c_clock_Lacks k _ _ _ e_x6 _ _ _ _ (s.arg (.tmp rfl)) (s.arg (.tmp rfl)))) fun a16 w16 s16 => ?_; clear s15
  refine seq_op s16 rfl rfl (of_decide_eq_true rfl) (ob_assign rfl (.tmp rfl)) fun a17 w17 s17 => ?_; clear s16
  refine wpList_nil ?_
  refine then_normal ?_
  refine hK3 _ _ ?_
  have s18 := s17.sub (.cons (t := 1) rfl (.cons (t := 2) rfl (.cons (t := 3) rfl (.cons (t := 4) rfl .nil)))); clear s17
  refine wp_seq_k fun K4 hK4 => ?_
  refine wp_region_lit ?_
  refine seq_op s18 rfl rfl (of_decide_eq_true rfl) (ob_load rfl tk24 (.tmp rfl) (List.Mem.tail _ (List.Mem.tail _ (List.Mem.head _))) (LG.refl _ _)) fun a19 w19 s19 => ?_; clear s18
  refine seq_op s19 rfl rfl (of_decide_eq_true rfl) (ob_load rfl tk24 (.tmp rfl) (List.Mem.tail _ (List.Mem.head _)) (LG.refl _ _)) fun a20 w20 s20 => ?_; clear s19
  obtain ⟨x7, e_x7, h7⟩ := bind_some h6; clear h6
  refine seq_op s20 rfl rfl (of_decide_eq_true rfl) (ob_calls rfl hb8 (fun a w s => c_clock_Order k _ _ _ e_x7 _ _ _ _ (s.arg (.tmp rfl)) (s.arg (.tmp rfl)))) fun a21 w21 s21 => ?_; clear s20
  refine seq_op s21 rfl rfl (of_decide_eq_true rfl) (ob_eql rfl (.tmp rfl) (opd_int rfl)) fun a22 w22 s22 => ?_; clear s21
  refine seq_op s22 rfl rfl (of_decide_eq_true rfl) (ob_move rfl (.tmp rfl)) fun a23 w23 s23 => ?_; clear s22
  refine seq_opg s23 rfl rfl rfl rfl (of_decide_eq_true rfl) (fun hb => ob_load rfl tk24 (.tmp rfl) (List.Mem.tail _ (List.Mem.tail _ (List.Mem.head _))) (LG.refl _ _)) fun a24 w24 s24 => ?_; clear s23
  refine seq_opg s24 rfl rfl rfl rfl (of_decide_eq_true rfl) (fun hb => ob_load rfl tk24 (.tmp rfl) (List.Mem.head _) (LG.refl _ _)) fun a25 w25 s25 => ?_; clear s24
  obtain ⟨x8, e_x8, h8⟩ := bind_some h7; clear h7
  refine seq_opg s25 rfl rfl rfl rfl (of_decide_eq_true rfl) (fun hb => (Ob.uncond (t := 17) hb rfl ((Ob.uncond (t := 16) hb rfl (ob_calls rfl hb8 (fun a w s => c_clock_Order k _ _ _ (ite_t hb e_x8) _ _ _ _ (s.arg (.tmp rfl)) (s.arg (.tmp rfl)))))))) fun a26 w26 s26 => ?_; clear s25
  refine seq_opg s26 rfl rfl rfl rfl (of_decide_eq_true rfl) (fun hb => (Ob.uncond (t := 18) hb rfl (ob_eql rfl (.tmp rfl) (opd_int rfl)))) fun a27 w27 s27 => ?_; clear s26
  refine seq_op s27 rfl rfl (of_decide_eq_true rfl) (ob_and2 rfl (.tmp rfl) (.tmp rfl) opd_bool) fun a28 w28 s28 => ?_; clear s27
  refine seq_op s28 rfl rfl (of_decide_eq_true rfl) (ob_move rfl (.tmp rfl)) fun a29 w29 s29 => ?_; clear s28
  refine seq_opg s29 rfl rfl rfl rfl (of_decide_eq_true rfl) (fun hb => ob_load rfl tk24 (.tmp rfl) (List.Mem.tail _ (List.Mem.head _)) (LG.refl _ _)) fun a30 w30 s30 => ?_; clear s29
  refine seq_opg s30 rfl rfl rfl rfl (of_decide_eq_true rfl) (fun hb => ob_load rfl tk24 (.tmp rfl) (List.Mem.tail _ (List.Mem.tail _ (List.Mem.head _))) (LG.refl _ _)) fun a31 w31 s31 => ?_; clear s30
  obtain ⟨x9, e_x9, h9⟩ := bind_some h8; clear h8
  refine seq_opg s31 rfl rfl rfl rfl (of_decide_eq_true rfl) (fun hb => (Ob.uncond (t := 23) hb rfl ((Ob.uncond (t := 22) hb rfl (ob_calls rfl hb8 (fun a w s => c_clock_Order k _ _ _ (ite_t hb e_x9) _ _ _ _ (s.arg (.tmp rfl)) (s.arg (.tmp rfl)))))))) fun a32 w32 s32 => ?_; clear s31
  refine seq_opg s32 rfl rfl rfl rfl (of_decide_eq_true rfl) (fun hb => (Ob.uncond (t := 24) hb rfl (ob_eql rfl (.tmp rfl) (opd_int rfl)))) fun a33 w33 s33 => ?_; clear s32
  obtain ⟨x10, e_x10, h10⟩ := bind_some h9; clear h9; replace e_x10 := Option.some.inj e_x10
  refine seq_op s33 rfl rfl (of_decide_eq_true rfl) ((ob_and2 rfl (.tmp rfl) (.tmp rfl) opd_bool).nm e_x10) fun a34 w34 s34 => ?_; clear s33
  refine seq_op s34 rfl rfl (of_decide_eq_true rfl) (ob_move rfl (.tmp rfl)) fun a35 w35 s35 => ?_; clear s34
  refine seq_opg s35 rfl rfl rfl rfl (of_decide_eq_true rfl) (fun hb => ob_load rfl tk24 (.tmp rfl) (List.Mem.tail _ (List.Mem.tail _ (List.Mem.head _))) (LG.refl _ _)) fun a36 w36 s36 => ?_; clear s35
  refine seq_opg s36 rfl rfl rfl rfl (of_decide_eq_true rfl) (fun hb => ob_load rfl tk24 (.tmp rfl) (List.Mem.head _) (LG.refl _ _)) fun a37 w37 s37 => ?_; clear s36
  refine seq_opg s37 rfl rfl rfl rfl (of_decide_eq_true rfl) (fun hb => (Ob.uncond (t := 29) hb rfl ((Ob.uncond (t := 28) hb rfl (ob_mkSlice (k := (karr 8 (kint .u32))) (xs := ([x1, x3] : (List (List Int)))) rfl Try.underlying25 zz24 sz24 (Zr.arr 8 (Zr.int .u32)) (by decide) (by decide) (.cons (.tmp rfl) rfl (LS.arr' (i := 0) (ys := ([x1, (List.replicate 8 (0 : Int))] : (List (List Int)))) (by simp) (by rfl)) (.cons (.tmp rfl) rfl (LS.arr' (i := 1) (ys := ([x1, x3] : (List (List Int)))) (by simp) (by rfl)) (.nil _)))))))) fun a38 w38 s38 => ?_; clear s37
  obtain ⟨x11, e_x11, h11⟩ := bind_some h10; clear h10
  refine seq_opg s38 rfl rfl rfl rfl (of_decide_eq_true rfl) (fun hb => (Ob.uncond (t := 30) hb rfl (ob_calls rfl hb10 (fun a w s => c_clock_Join k _ _ (ite_t hb e_x11) _ _ _ (s.arg (.tmp rfl)))))) fun a39 w39 s39 => ?_; clear s38
  obtain ⟨x12, e_x12, h12⟩ := bind_some h11; clear h11; replace e_x12 := Option.some.inj e_x12
  refine seq_opg s39 rfl rfl rfl rfl (of_decide_eq_true rfl) (fun hb => ((ob_mkArr (k := (kint .u32)) rfl Try.underlying24 zz24 sz22 (Zr.arr 8 (Zr.int .u32)) (.cons (opd_int rfl) rfl (LS.arr' (i := 0) (ys := ([(1 : Int), (0 : Int), (0 : Int), (0 : Int), (0 : Int), (0 : Int), (0 : Int), (0 : Int)] : (List Int))) (by simp) (by rfl)) (.cons (opd_int rfl) rfl (LS.arr' (i := 1) (ys := ([(1 : Int), (1 : Int), (0 : Int), (0 : Int), (0 : Int), (0 : Int), (0 : Int), (0 : Int)] : (List Int))) (by simp) (by rfl)) (.nil _))) : Ob _ _ _ _ _ ((karr 8 (kint .u32)).V ([(1 : Int), (1 : Int), (0 : Int), (0 : Int), (0 : Int), (0 : Int), (0 : Int), (0 : Int)] : (List Int))))).nm e_x12) fun a40 w40 s40 => ?_; clear s39
  refine seq_opg s40 rfl rfl rfl rfl (of_decide_eq_true rfl) (fun hb => (Ob.uncond (t := 32) hb rfl ((Ob.uncond (t := 31) hb rfl (ob_eqAgg rfl rfl (by kernel_rfl) eq24 (by decide) (.tmp rfl) (.tmp rfl)))))) fun a41 w41 s41 => ?_; clear s40
  refine seq_op s41 rfl rfl (of_decide_eq_true rfl) (ob_and2 rfl (.tmp rfl) (.tmp rfl) opd_bool) fun a42 w42 s42 => ?_; clear s41
  refine seq_op s42 rfl rfl (of_decide_eq_true rfl) (ob_move rfl (.tmp rfl)) fun a43 w43 s43 => ?_; clear s42
  refine seq_opg s43 rfl rfl rfl rfl (of_decide_eq_true rfl) (fun hb => ob_move rfl (.tmp rfl)) fun a44 w44 s44 => ?_; clear s43
  refine seq_opg s44 rfl rfl rfl rfl (of_decide_eq_true rfl) (fun hb => (Ob.uncond (t := 36) hb rfl (ob_lens rfl Try.underlying27 (.tmp rfl)))) fun a45 w45 s45 => ?_; clear s44
  refine seq_opg s45 rfl rfl rfl rfl (of_decide_eq_true rfl) (fun hb => (Ob.uncond (t := 37) hb rfl (ob_eql rfl (.tmp rfl) (opd_int rfl)))) fun a46 w46 s46 => ?_; clear s45
  obtain ⟨x13, e_x13, h13⟩ := bind_some h12; clear h12; replace e_x13 := Option.some.inj e_x13
  refine seq_op s46 rfl rfl (of_decide_eq_true rfl) ((ob_and2 rfl (.tmp rfl) (.tmp rfl) opd_bool).nm e_x13) fun a47 w47 s47 => ?_; clear s46
  refine seq_op s47 rfl rfl (of_decide_eq_true rfl) (ob_move rfl (.tmp rfl)) fun a48 w48 s48 => ?_; clear s47
  refine seq_opg s48 rfl rfl rfl rfl (of_decide_eq_true rfl) (fun hb => ob_move rfl (.tmp rfl)) fun a49 w49 s49 => ?_; clear s48
  obtain ⟨x14, e_x14, h14⟩ := bind_some h13; clear h13
  refine seq_opg s49 rfl rfl rfl rfl (of_decide_eq_true rfl) (fun hb => (Ob.uncond (t := 41) hb rfl (ob_indexAddrs rfl Try.underlying27 sz30 (.tmp rfl) (opd_int rfl) (ite_t hb e_x14)))) fun a50 w50 s50 => ?_; clear s49
  refine seq_opg s50 rfl rfl rfl rfl (of_decide_eq_true rfl) (fun hb => (Ob.uncond (t := 42) hb rfl (ob_loadr rfl tk30 (.tmp rfl)))) fun a51 w51 s51 => ?_; clear s50
  refine seq_opg s51 rfl rfl rfl rfl (of_decide_eq_true rfl) (fun hb => ob_mkStruct (K := k_api_Span) (X0 := (⟨(0 : Int), (0 : Int), (0 : Int)⟩ : api_Span)) rfl Try.underlying30 zz30 rfl pl30 (Zr.iso (f := t_api_Span) (x := (⟨(0 : Int), (0 : Int), (0 : Int)⟩ : api_Span)) (Zr.pair (Zr.int .i64) (Zr.pair (Zr.int .u32) (Zr.pair (Zr.int .u32) Zr.nil)))) (.cons (opd_int rfl) rfl (ls_api_Span_Who (⟨(0 : Int), (0 : Int), (0 : Int)⟩ : api_Span) (0 : Int)) (.cons (opd_int rfl) rfl (ls_api_Span_From (⟨(0 : Int), (0 : Int), (0 : Int)⟩ : api_Span) (2 : Int)) (.cons (opd_int rfl) rfl (ls_api_Span_To (⟨(0 : Int), (2 : Int), (0 : Int)⟩ : api_Span) (3 : Int)) (.nil _))))) fun a52 w52 s52 => ?_; clear s51
  refine seq_opg s52 rfl rfl rfl rfl (of_decide_eq_true rfl) (fun hb => (Ob.uncond (t := 44) hb rfl ((Ob.uncond (t := 43) hb rfl (ob_eqAgg rfl rfl (by kernel_rfl) eq30 (by decide) (.tmp rfl) (.tmp rfl)))))) fun a53 w53 s53 => ?_; clear s52
  obtain ⟨x15, e_x15, h15⟩ := bind_some h14; clear h14; replace e_x15 := Option.some.inj e_x15
  refine seq_op s53 rfl rfl (of_decide_eq_true rfl) ((ob_and2 rfl (.tmp rfl) (.tmp rfl) opd_bool).nm e_x15) fun a54 w54 s54 => ?_; clear s53
  refine seq_op s54 rfl rfl (of_decide_eq_true rfl) (ob_move rfl (.tmp rfl)) fun a55 w55 s55 => ?_; clear s54
  refine seq_opg s55 rfl rfl rfl rfl (of_decide_eq_true rfl) (fun hb => ob_load rfl tk24 (.tmp rfl) (List.Mem.tail _ (List.Mem.tail _ (List.Mem.head _))) (LG.refl _ _)) fun a56 w56 s56 => ?_; clear s55
  obtain ⟨x16, e_x16, h16⟩ := bind_some h15; clear h15; replace e_x16 := Option.some.inj e_x16
  refine seq_opg s56 rfl rfl rfl rfl (of_decide_eq_true rfl) (fun hb => ((ob_mkArr (k := (kint .u32)) rfl Try.underlying24 zz24 sz22 (Zr.arr 8 (Zr.int .u32)) (.cons (opd_int rfl) rfl (LS.arr' (i := 0) (ys := ([(1 : Int), (0 : Int), (0 : Int), (0 : Int), (0 : Int), (0 : Int), (0 : Int), (0 : Int)] : (List Int))) (by simp) (by rfl)) (.cons (opd_int rfl) rfl (LS.arr' (i := 1) (ys := ([(1 : Int), (1 : Int), (0 : Int), (0 : Int), (0 : Int), (0 : Int), (0 : Int), (0 : Int)] : (List Int))) (by simp) (by rfl)) (.nil _))) : Ob _ _ _ _ _ ((karr 8 (kint .u32)).V ([(1 : Int), (1 : Int), (0 : Int), (0 : Int), (0 : Int), (0 : Int), (0 : Int), (0 : Int)] : (List Int))))).nm e_x16) fun a57 w57 s57 => ?_; clear s56
  obtain ⟨x17, e_x17, h17⟩ := bind_some h16; clear h16
  refine seq_opg s57 rfl rfl rfl rfl (of_decide_eq_true rfl) (fun hb => (Ob.uncond (t := 49) hb rfl ((Ob.uncond (t := 48) hb rfl (ob_calls rfl hb12 (fun a w s => c_clock_Due k _ _ _ _ (ite_t hb e_x17) _ _ _ _ _ (s.arg (.tmp rfl)) (s.arg (.tmp rfl)) (s.arg (opd_int rfl)))))))) fun a58 w58 s58 => ?_; clear s57
  refine seq_op s58 rfl rfl (of_decide_eq_true rfl) (ob_and2 rfl (.tmp rfl) (.tmp rfl) opd_bool) fun a59 w59 s59 => ?_; clear s58
  refine seq_op s59 rfl rfl (of_decide_eq_true rfl) (ob_assign rfl (.tmp rfl)) fun a60 w60 s60 => ?_; clear s59
  refine wpList_nil ?_
  refine then_normal ?_
  refine hK4 _ _ ?_
  have s61 := s60.sub (.cons (t := 0) rfl .nil); clear s60
  have s62 := St.drop (A := []) s61; clear s61
  have s63 := St.drop (A := []) s62; clear s62
  have s64 := St.drop (A := []) s63; clear s63
  refine wp_ret ?_
  obtain rfl := Option.some.inj h17
  exact leave s64 (.inl rfl) rfl (.cons (.tmp rfl) .nil)

/- 7 cabal/cabalref26.Lacks -/
theorem c_cabalref26_Lacks (k : Nat) (p1 : (List Int)) (p2 : (List Int)) (r : (List api_Span)) (h0 : cabalref26_Lacks k p1 p2 = some r) (ok : Ok) (w0 : World) (z0 : Value) (z1 : Value) (u0 : ((karr 8 (kint .u32)).V p1).holds ok w0 z0) (u1 : ((karr 8 (kint .u32)).V p2).holds ok w0 z1) :
    Gives Try.prog 7 [z0, z1] ok w0 (resFact [(ksl k_api_Span).V r]) := by
  unfold cabalref26_Lacks at h0
  refine enter (N := 31) Try.func7 rfl rfl (of_decide_eq_true rfl) (.cons u0 (.cons u1 .nil)) fun a1 s1 => ?_
  refine wp_seq_k fun K1 hK1 => ?_
  refine wp_region_lit ?_
  refine seq_opx s1 rfl rfl (of_decide_eq_true rfl) (ob_box rfl (.tmp rfl)) fun b1 a2 w2 s2 => ?_; clear s1
  refine seq_opx s2 rfl rfl (of_decide_eq_true rfl) (ob_box rfl (.tmp rfl)) fun b2 a3 w3 s3 => ?_; clear s2
  refine seq_op s3 rfl rfl (of_decide_eq_true rfl) (ob_assign rfl opd_is) fun a4 w4 s4 => ?_; clear s3
  have s5 := St.adopt s4 (G := RowF (.slice none 0 0) 30 k_api_Span []) rfl (rowNil _ _ _ _); clear s4
  refine wpList_nil ?_
  refine then_normal ?_
  refine hK1 _ _ ?_
  have s6 := s5.sub (.cons (t := 2) rfl (.cons (t := 3) rfl .nil)); clear s5
  have s7 := St.drop (A := []) s6; clear s6
  refine wp_seq_k fun K2 hK2 => ?_
  refine wp_region_lit ?_
  refine seq_op s7 rfl rfl (of_decide_eq_true rfl) (ob_assign rfl opd_is) fun a8 w8 s8 => ?_; clear s7
  have s9 := St.adopt s8 (G := RowF (.slice none 0 0) 30 k_api_Span []) rfl (rowNil _ _ _ _); clear s8
  refine wpList_nil ?_
  refine then_normal ?_
  refine hK2 _ _ ?_
  have s10 := s9.sub (.cons (t := 2) rfl (.cons (t := 3) rfl (.cons (t := 5) rfl .nil))); clear s9
  refine wp_seq_k fun K3 hK3 => ?_
  refine wp_seq_k fun K4 hK4 => ?_
  refine wp_region_lit ?_
  refine seq_op s10 rfl rfl (of_decide_eq_true rfl) (ob_assign rfl (opd_int rfl)) fun a11 w11 s11 => ?_; clear s10
  refine wpList_nil ?_
  refine then_normal ?_
  refine hK4 _ _ ?_
  have s12 := s11.sub (.cons (t := 2) rfl (.cons (t := 3) rfl (.cons (t := 5) rfl (.cons (t := 6) rfl .nil)))); clear s11
  have hj1 : ∀ (y1 : (List api_Span)) (v1 : Value) (a : Act) (w : World), (cabalref26_Lacks.j1 k) y1 = some r → St ⟨31, w0, ok, []⟩ [RowF v1 30 k_api_Span y1] [(5, (is v1))] a w → K3 a w := by
    intro y1 v1 a13 w13 h1 s13
    unfold cabalref26_Lacks.j1 at h1
    refine hK3 _ _ ?_
    refine wp_seq_k fun K5 hK5 => ?_
    refine wp_region_lit ?_
    refine seq_op s13 rfl rfl (of_decide_eq_true rfl) (ob_move rfl (.tmp rfl)) fun a14 w14 s14 => ?_; clear s13
    refine seq_op s14 rfl rfl (of_decide_eq_true rfl) (ob_assign rfl (.tmp rfl)) fun a15 w15 s15 => ?_; clear s14
    refine wpList_nil ?_
    refine then_normal ?_
    refine hK5 _ _ ?_
    have s16 := s15.sub (.cons (t := 4) rfl .nil); clear s15
    refine wp_ret ?_
    have s17 := St.freezeAll rfl (A := []) s16 (ts := [4]) (.cons rfl .nil)
    obtain rfl := Option.some.inj h1
    exact leave s17 (.inl rfl) rfl (.cons (.tmp rfl) .nil)
  refine wp_block ?_
  refine wp_loop_fuel (fun m (q : (List api_Span) × Int) => cabalref26_Lacks.l1 k p2 p1 m q.1 q.2) r (fun _ => rfl) (fun q a w => ∃ (v2 : Value) (b2 : Nat) (b1 : Nat), St ⟨31, w0, ok, []⟩ [RowF v2 30 k_api_Span q.1, BF b2 24 (karr 8 (kint .u32)) p2, BF b1 24 (karr 8 (kint .u32)) p1] [(2, (ptrB b1 0)), (3, (ptrB b2 0)), (5, (is v2)), (6, ((kint .i64).V q.2))] a w) ?_ k ([], (0 : Int)) _ _ h0 ⟨(.slice none 0 0), b2, b1, (s12.sub (.cons rfl (.cons rfl (.cons rfl (.cons rfl .nil)))))⟩
  rintro n1 ⟨y2, y3⟩ a18 w18 h2 ⟨v2, b2, b1, s18⟩ K6 hK6
  replace h2 : cabalref26_Lacks.l1 k p2 p1 (n1 + 1) y2 y3 = some r := h2; rw [cabalref26_Lacks.l1] at h2
  have h3 := h2; clear h2
  refine wp_seq_k fun K7 hK7 => ?_
  refine wp_seq_k fun K8 hK8 => ?_
  refine wp_region_lit ?_
  refine seq_op s18 rfl rfl (of_decide_eq_true rfl) (ob_move rfl (.tmp rfl)) fun a19 w19 s19 => ?_; clear s18
  refine seq_op s19 rfl rfl (of_decide_eq_true rfl) (ob_lss rfl (.tmp rfl) (opd_int rfl)) fun a20 w20 s20 => ?_; clear s19
  refine wpList_nil ?_
  refine then_normal ?_
  refine hK8 _ _ ?_
  have s21 := s20.sub (.cons (t := 2) rfl (.cons (t := 3) rfl (.cons (t := 5) rfl (.cons (t := 6) rfl (.cons (t := 8) rfl .nil))))); clear s20
  refine cond_split s21 (.tmp rfl) (fun hc1 => ?_) (fun hc1 => ?_)
  · replace h3 := ite_t hc1 h3
    have h4 := h3; clear h3
    refine wp_skip ?_
    refine then_normal ?_
    refine hK7 _ _ ?_
    have s22 := s21.sub (.cons (t := 2) rfl (.cons (t := 3) rfl (.cons (t := 5) rfl (.cons (t := 6) rfl .nil)))); clear s21
    refine wp_seq_k fun K9 hK9 => ?_
    have hj2 : ∀ (y4 : (List api_Span)) (v3 : Value) (a : Act) (w : World), (cabalref26_Lacks.j2 k y3 (cabalref26_Lacks.l1 k p2 p1 n1)) y4 = some r → St ⟨31, w0, ok, []⟩ [RowF v3 30 k_api_Span y4, BF b2 24 (karr 8 (kint .u32)) p2, BF b1 24 (karr 8 (kint .u32)) p1] [(2, (ptrB b1 0)), (3, (ptrB b2 0)), (5, (is v3)), (6, ((kint .i64).V y3))] a w → K9 a w := by
      intro y4 v3 a23 w23 h5 s23
      unfold cabalref26_Lacks.j2 at h5
      refine hK9 _ _ ?_
      refine wp_region_lit ?_
      refine seq_op s23 rfl rfl (of_decide_eq_true rfl) (ob_move rfl (.tmp rfl)) fun a24 w24 s24 => ?_; clear s23
      refine seq_op s24 rfl rfl (of_decide_eq_true rfl) (ob_add rfl (.tmp rfl) (opd_int rfl)) fun a25 w25 s25 => ?_; clear s24
      refine seq_op s25 rfl rfl (of_decide_eq_true rfl) (ob_assign rfl (.tmp rfl)) fun a26 w26 s26 => ?_; clear s25
      refine wpList_nil ?_
      refine then_normal ?_
      exact hK6 (y4, (iadd .i64 y3 (1 : Int))) _ _ h5 ⟨v3, b2, b1, (s26.sub (.cons rfl (.cons rfl (.cons rfl (.cons rfl .nil)))))⟩
    refine wp_block ?_
    refine wp_seq_k fun K10 hK10 => ?_
    obtain ⟨g1, h6⟩ := guard_some h4; clear h4
    obtain ⟨x1, e_x1, h7⟩ := bind_some h6; clear h6
    obtain ⟨g2, h8⟩ := guard_some h7; clear h7
    obtain ⟨x2, e_x2, h9⟩ := bind_some h8; clear h8
    refine wp_drawn (Fs := [((kint .i64).V y3), (ptrB b2 (y3.toNat * 1)), ((kint .u32).V x1), ((kint .i64).V y3), (ptrB b1 (y3.toNat * 1)), ((kint .u32).V x2), (kbool.V (decide (x1 > x2)))]) (bits := [0, 1, 3, 0, 8, 24, 63]) (m := 7) mx s22 (by kernel_rfl) rfl (ops_cons (.plain _ (Av.old (t := 6) rfl rfl Av.nil) rfl rfl (ob_move rfl (.tmp rfl))) (ops_cons (.plain _ (Av.old (t := 3) rfl rfl (Av.new (j := 0) rfl rfl rfl Av.nil)) rfl rfl (ob_indexAddr rfl Try.underlying24 sz22 (.tmp rfl) (.tmp rfl) g1.1 g1.2 (Nat.zero_add _))) (ops_cons (.plain _ (Av.new (j := 1) rfl rfl rfl Av.nil) rfl rfl (ob_load rfl tk22 (.tmp rfl) (List.Mem.tail _ (List.Mem.head _)) (LG.arrA e_x1))) (ops_cons (.plain _ (Av.old (t := 6) rfl rfl Av.nil) rfl rfl (ob_move rfl (.tmp rfl))) (ops_cons (.plain _ (Av.old (t := 2) rfl rfl (Av.new (j := 3) rfl rfl rfl Av.nil)) rfl rfl (ob_indexAddr rfl Try.underlying24 sz22 (.tmp rfl) (.tmp rfl) g2.1 g2.2 (Nat.zero_add _))) (ops_cons (.plain _ (Av.new (j := 4) rfl rfl rfl Av.nil) rfl rfl (ob_load rfl tk22 (.tmp rfl) (List.Mem.tail _ (List.Mem.tail _ (List.Mem.head _))) (LG.arrA e_x2))) (ops_cons (.plain _ (Av.new (j := 2) rfl rfl rfl (Av.new (j := 5) rfl rfl rfl Av.nil)) rfl rfl (ob_gtr rfl (.tmp rfl) (.tmp rfl))) ops_nil))))))) (out_old (t := 2) rfl rfl (out_old (t := 3) rfl rfl (out_old (t := 5) rfl rfl (out_old (t := 6) rfl rfl (out_new (i := 6) (by decide) rfl rfl out_nil))))) fun a27 w27 s27 => ?_; clear s22
    refine wpList_nil ?_
    refine then_normal ?_
    refine hK10 _ _ ?_
    have s28 := s27.sub (.cons (t := 2) rfl (.cons (t := 3) rfl (.cons (t := 5) rfl (.cons (t := 6) rfl (.cons (t := 17) rfl .nil))))); clear s27
    refine cond_split s28 (.tmp rfl) (fun hc2 => ?_) (fun hc2 => ?_)
    · replace h9 := ite_t hc2 h9
      have h10 := h9; clear h9
      obtain ⟨g3, h11⟩ := guard_some h10; clear h10
      obtain ⟨x3, e_x3, h12⟩ := bind_some h11; clear h11
      obtain ⟨g4, h13⟩ := guard_some h12; clear h12
      obtain ⟨x4, e_x4, h14⟩ := bind_some h13; clear h13
      refine wp_drawn (Fs := [(is v2), ((kint .i64).V y3), ((kint .i64).V y3), (ptrB b1 (y3.toNat * 1)), ((kint .u32).V x3), ((kint .u32).V (iadd .u32 x3 (1 : Int))), ((kint .i64).V y3), (ptrB b2 (y3.toNat * 1)), ((kint .u32).V x4), (k_api_Span.V (⟨y3, (iadd .u32 x3 (1 : Int)), x4⟩ : api_Span)), ((ksl k_api_Span).V ([(⟨y3, (iadd .u32 x3 (1 : Int)), x4⟩ : api_Span)] : (List api_Span)))]) (bits := [0, 0, 0, 4, 12, 28, 0, 64, 192, 510, 1022, 2047, 4095]) (m := 11) mx s28 (by kernel_rfl) rfl (ops_cons (.plain _ (Av.old (t := 5) rfl rfl Av.nil) rfl rfl (ob_move rfl (.tmp rfl))) (ops_cons (.plain _ (Av.old (t := 6) rfl rfl Av.nil) rfl rfl (ob_move rfl (.tmp rfl))) (ops_cons (.plain _ (Av.old (t := 6) rfl rfl Av.nil) rfl rfl (ob_move rfl (.tmp rfl))) (ops_cons (.plain _ (Av.old (t := 2) rfl rfl (Av.new (j := 2) rfl rfl rfl Av.nil)) rfl rfl (ob_indexAddr rfl Try.underlying24 sz22 (.tmp rfl) (.tmp rfl) g3.1 g3.2 (Nat.zero_add _))) (ops_cons (.plain _ (Av.new (j := 3) rfl rfl rfl Av.nil) rfl rfl (ob_load rfl tk22 (.tmp rfl) (List.Mem.tail _ (List.Mem.tail _ (List.Mem.head _))) (LG.arrA e_x3))) (ops_cons (.plain _ (Av.new (j := 4) rfl rfl rfl Av.nil) rfl rfl (ob_add rfl (.tmp rfl) (opd_int rfl))) (ops_cons (.plain _ (Av.old (t := 6) rfl rfl Av.nil) rfl rfl (ob_move rfl (.tmp rfl))) (ops_cons (.plain _ (Av.old (t := 3) rfl rfl (Av.new (j := 6) rfl rfl rfl Av.nil)) rfl rfl (ob_indexAddr rfl Try.underlying24 sz22 (.tmp rfl) (.tmp rfl) g4.1 g4.2 (Nat.zero_add _))) (ops_cons (.plain _ (Av.new (j := 7) rfl rfl rfl Av.nil) rfl rfl (ob_load rfl tk22 (.tmp rfl) (List.Mem.tail _ (List.Mem.head _)) (LG.arrA e_x4))) (ops_cons (.plain _ (Av.new (j := 1) rfl rfl rfl (Av.new (j := 5) rfl rfl rfl (Av.new (j := 8) rfl rfl rfl Av.nil))) rfl rfl (ob_mkStruct (K := k_api_Span) (X0 := (⟨(0 : Int), (0 : Int), (0 : Int)⟩ : api_Span)) rfl Try.underlying30 zz30 rfl pl30 (Zr.iso (f := t_api_Span) (x := (⟨(0 : Int), (0 : Int), (0 : Int)⟩ : api_Span)) (Zr.pair (Zr.int .i64) (Zr.pair (Zr.int .u32) (Zr.pair (Zr.int .u32) Zr.nil)))) (.cons (.tmp rfl) rfl (ls_api_Span_Who (⟨(0 : Int), (0 : Int), (0 : Int)⟩ : api_Span) y3) (.cons (.tmp rfl) rfl (ls_api_Span_From (⟨y3, (0 : Int), (0 : Int)⟩ : api_Span) (iadd .u32 x3 (1 : Int))) (.cons (.tmp rfl) rfl (ls_api_Span_To (⟨y3, (iadd .u32 x3 (1 : Int)), (0 : Int)⟩ : api_Span) x4) (.nil _)))))) (ops_cons (.plain _ (Av.new (j := 9) rfl rfl rfl Av.nil) rfl rfl (ob_mkSlice (k := k_api_Span) (xs := ([(⟨y3, (iadd .u32 x3 (1 : Int)), x4⟩ : api_Span)] : (List api_Span))) rfl Try.underlying27 zz30 sz30 (Zr.iso (f := t_api_Span) (x := (⟨(0 : Int), (0 : Int), (0 : Int)⟩ : api_Span)) (Zr.pair (Zr.int .i64) (Zr.pair (Zr.int .u32) (Zr.pair (Zr.int .u32) Zr.nil)))) (by decide) (by decide) (.cons (.tmp rfl) rfl (LS.arr' (i := 0) (ys := ([(⟨y3, (iadd .u32 x3 (1 : Int)), x4⟩ : api_Span)] : (List api_Span))) (by simp) (by rfl)) (.nil _)))) ops_nil))))))))))) (out_old (t := 2) rfl rfl (out_old (t := 3) rfl rfl (out_old (t := 5) rfl rfl (out_old (t := 6) rfl rfl (out_new (i := 0) (by decide) rfl rfl (out_new (i := 10) (by decide) rfl rfl out_nil)))))) fun a29 w29 s29 => ?_; clear s28
      obtain ⟨g5, h15⟩ := guard_some h14; clear h14
      refine seq_opx s29 rfl rfl (of_decide_eq_true rfl) (ob_appendL (A := []) rfl Try.underlying27 ap30 (Zr.iso (f := t_api_Span) (x := (⟨(0 : Int), (0 : Int), (0 : Int)⟩ : api_Span)) (Zr.pair (Zr.int .i64) (Zr.pair (Zr.int .u32) (Zr.pair (Zr.int .u32) Zr.nil)))) (by decide) (by decide) (.tmp rfl) (.tmp rfl) rfl g5) fun v4 a30 w30 s30 => ?_; clear s29
      refine seq_op s30 rfl rfl (of_decide_eq_true rfl) (ob_assign rfl (.tmp rfl)) fun a31 w31 s31 => ?_; clear s30
      refine wpList_nil ?_
      refine in_normal ?_
      refine then_normal ?_
      exact hj2 (y2 ++ ([(⟨y3, (iadd .u32 x3 (1 : Int)), x4⟩ : api_Span)] : (List api_Span))) v4 _ _ h15 (s31.sub (.cons rfl (.cons rfl (.cons rfl (.cons rfl .nil)))))
    · replace h9 := ite_f hc2 h9
      have h16 := h9; clear h9
      refine wp_skip ?_
      refine in_normal ?_
      refine then_normal ?_
      exact hj2 y2 v2 _ _ h16 (s28.sub (.cons rfl (.cons rfl (.cons rfl (.cons rfl .nil)))))
  · replace h3 := ite_f hc1 h3
    have h17 := h3; clear h3
    refine wp_exit ?_
    refine (then_exit (then_exit (in_here ?_)))
    refine then_normal ?_
    have s32 := St.drop (A := [_]) s21; clear s21
    have s33 := St.drop (A := [_]) s32; clear s32
    exact hj1 y2 v2 _ _ h17 (s33.sub (.cons rfl .nil))

/- 16 cabal/cabalref26.Most -/
theorem c_cabalref26_Most (k : Nat) (p1 : (List Int)) (p2 : (List Int)) (r : Bool) (h0 : cabalref26_Most k p1 p2 = some r) (ok : Ok) (w0 : World) (z0 : Value) (z1 : Value) (u0 : ((karr 8 (kint .u32)).V p1).holds ok w0 z0) (u1 : ((karr 8 (kint .u32)).V p2).holds ok w0 z1) :
    Gives Try.prog 16 [z0, z1] ok w0 (resFact [kbool.V r]) := by
  unfold cabalref26_Most at h0
  refine enter (N := 17) Try.func16 rfl rfl (of_decide_eq_true rfl) (.cons u0 (.cons u1 .nil)) fun a1 s1 => ?_
  refine wp_seq_k fun K1 hK1 => ?_
  refine wp_region_lit ?_
  refine seq_opx s1 rfl rfl (of_decide_eq_true rfl) (ob_box rfl (.tmp rfl)) fun b1 a2 w2 s2 => ?_; clear s1
  refine seq_opx s2 rfl rfl (of_decide_eq_true rfl) (ob_box rfl (.tmp rfl)) fun b2 a3 w3 s3 => ?_; clear s2
  refine seq_op s3 rfl rfl (of_decide_eq_true rfl) (ob_assign rfl opd_bool) fun a4 w4 s4 => ?_; clear s3
  refine wpList_nil ?_
  refine then_normal ?_
  refine hK1 _ _ ?_
  have s5 := s4.sub (.cons (t := 2) rfl (.cons (t := 3) rfl .nil)); clear s4
  refine wp_seq_k fun K2 hK2 => ?_
  refine wp_seq_k fun K3 hK3 => ?_
  refine wp_region_lit ?_
  refine seq_op s5 rfl rfl (of_decide_eq_true rfl) (ob_assign rfl (opd_int rfl)) fun a6 w6 s6 => ?_; clear s5
  refine wpList_nil ?_
  refine then_normal ?_
  refine hK3 _ _ ?_
  have s7 := s6.sub (.cons (t := 2) rfl (.cons (t := 3) rfl (.cons (t := 5) rfl .nil))); clear s6
  have hj1 : ∀ (a : Act) (w : World), (cabalref26_Most.j1 k) = some r → St ⟨17, w0, ok, []⟩ [] [] a w → K2 a w := by
    intro a8 w8 h1 s8
    unfold cabalref26_Most.j1 at h1
    refine hK2 _ _ ?_
    refine wp_seq_k fun K4 hK4 => ?_
    refine wp_region_lit ?_
    refine seq_op s8 rfl rfl (of_decide_eq_true rfl) (ob_assign rfl opd_bool) fun a9 w9 s9 => ?_; clear s8
    refine wpList_nil ?_
    refine then_normal ?_
    refine hK4 _ _ ?_
    have s10 := s9.sub (.cons (t := 4) rfl .nil); clear s9
    refine wp_ret ?_
    obtain rfl := Option.some.inj h1
    exact leave s10 (.inl rfl) rfl (.cons (.tmp rfl) .nil)
  refine wp_block ?_
  refine wp_loop_fuel (fun m (q : Int) => cabalref26_Most.l1 k p1 p2 m q) r (fun _ => rfl) (fun q a w => ∃ (b2 : Nat) (b1 : Nat), St ⟨17, w0, ok, []⟩ [BF b2 24 (karr 8 (kint .u32)) p2, BF b1 24 (karr 8 (kint .u32)) p1] [(2, (ptrB b1 0)), (3, (ptrB b2 0)), (5, ((kint .i64).V q))] a w) ?_ k (0 : Int) _ _ h0 ⟨b2, b1, (s7.sub (.cons rfl (.cons rfl (.cons rfl .nil))))⟩
  rintro n1 y1 a11 w11 h2 ⟨b2, b1, s11⟩ K5 hK5
  replace h2 : cabalref26_Most.l1 k p1 p2 (n1 + 1) y1 = some r := h2; rw [cabalref26_Most.l1] at h2
  have h3 := h2; clear h2
  refine wp_seq_k fun K6 hK6 => ?_
  refine wp_seq_k fun K7 hK7 => ?_
  refine wp_region_lit ?_
  refine seq_op s11 rfl rfl (of_decide_eq_true rfl) (ob_move rfl (.tmp rfl)) fun a12 w12 s12 => ?_; clear s11
  refine seq_op s12 rfl rfl (of_decide_eq_true rfl) (ob_lss rfl (.tmp rfl) (opd_int rfl)) fun a13 w13 s13 => ?_; clear s12
  refine wpList_nil ?_
  refine then_normal ?_
  refine hK7 _ _ ?_
  have s14 := s13.sub (.cons (t := 2) rfl (.cons (t := 3) rfl (.cons (t := 5) rfl (.cons (t := 7) rfl .nil)))); clear s13
  refine cond_split s14 (.tmp rfl) (fun hc1 => ?_) (fun hc1 => ?_)
  · replace h3 := ite_t hc1 h3
    have h4 := h3; clear h3
    refine wp_skip ?_
    refine then_normal ?_
    refine hK6 _ _ ?_
    have s15 := s14.sub (.cons (t := 2) rfl (.cons (t := 3) rfl (.cons (t := 5) rfl .nil))); clear s14
    refine wp_seq_k fun K8 hK8 => ?_
    refine wp_block ?_
    refine wp_seq_k fun K9 hK9 => ?_
    obtain ⟨g1, h5⟩ := guard_some h4; clear h4
    obtain ⟨x1, e_x1, h6⟩ := bind_some h5; clear h5
    obtain ⟨g2, h7⟩ := guard_some h6; clear h6
    obtain ⟨x2, e_x2, h8⟩ := bind_some h7; clear h7
    refine wp_drawn (Fs := [((kint .i64).V y1), (ptrB b1 (y1.toNat * 1)), ((kint .u32).V x1), ((kint .i64).V y1), (ptrB b2 (y1.toNat * 1)), ((kint .u32).V x2), (kbool.V (decide (x1 > x2)))]) (bits := [0, 1, 3, 0, 8, 24, 63]) (m := 7) mx s15 (by kernel_rfl) rfl (ops_cons (.plain _ (Av.old (t := 5) rfl rfl Av.nil) rfl rfl (ob_move rfl (.tmp rfl))) (ops_cons (.plain _ (Av.old (t := 2) rfl rfl (Av.new (j := 0) rfl rfl rfl Av.nil)) rfl rfl (ob_indexAddr rfl Try.underlying24 sz22 (.tmp rfl) (.tmp rfl) g1.1 g1.2 (Nat.zero_add _))) (ops_cons (.plain _ (Av.new (j := 1) rfl rfl rfl Av.nil) rfl rfl (ob_load rfl tk22 (.tmp rfl) (List.Mem.tail _ (List.Mem.head _)) (LG.arrA e_x1))) (ops_cons (.plain _ (Av.old (t := 5) rfl rfl Av.nil) rfl rfl (ob_move rfl (.tmp rfl))) (ops_cons (.plain _ (Av.old (t := 3) rfl rfl (Av.new (j := 3) rfl rfl rfl Av.nil)) rfl rfl (ob_indexAddr rfl Try.underlying24 sz22 (.tmp rfl) (.tmp rfl) g2.1 g2.2 (Nat.zero_add _))) (ops_cons (.plain _ (Av.new (j := 4) rfl rfl rfl Av.nil) rfl rfl (ob_load rfl tk22 (.tmp rfl) (List.Mem.head _) (LG.arrA e_x2))) (ops_cons (.plain _ (Av.new (j := 2) rfl rfl rfl (Av.new (j := 5) rfl rfl rfl Av.nil)) rfl rfl (ob_gtr rfl (.tmp rfl) (.tmp rfl))) ops_nil))))))) (out_old (t := 2) rfl rfl (out_old (t := 3) rfl rfl (out_old (t := 5) rfl rfl (out_new (i := 6) (by decide) rfl rfl out_nil)))) fun a16 w16 s16 => ?_; clear s15
    refine wpList_nil ?_
    refine then_normal ?_
    refine hK9 _ _ ?_
    have s17 := s16.sub (.cons (t := 2) rfl (.cons (t := 3) rfl (.cons (t := 5) rfl (.cons (t := 16) rfl .nil)))); clear s16
    refine cond_split s17 (.tmp rfl) (fun hc2 => ?_) (fun hc2 => ?_)
    · replace h8 := ite_t hc2 h8
      have h9 := h8; clear h8
      refine wp_seq_k fun K10 hK10 => ?_
      refine wp_region_lit ?_
      refine seq_op s17 rfl rfl (of_decide_eq_true rfl) (ob_assign rfl opd_bool) fun a18 w18 s18 => ?_; clear s17
      refine wpList_nil ?_
      refine then_normal ?_
      refine hK10 _ _ ?_
      have s19 := s18.sub (.cons (t := 4) rfl .nil); clear s18
      have s20 := St.drop (A := []) s19; clear s19
      have s21 := St.drop (A := []) s20; clear s20
      refine wp_ret ?_
      obtain rfl := Option.some.inj h9
      exact leave s21 (.inl rfl) rfl (.cons (.tmp rfl) .nil)
    · replace h8 := ite_f hc2 h8
      have h10 := h8; clear h8
      refine wp_skip ?_
      refine in_normal ?_
      refine then_normal ?_
      refine hK8 _ _ ?_
      have s22 := s17.sub (.cons (t := 2) rfl (.cons (t := 3) rfl (.cons (t := 5) rfl .nil))); clear s17
      refine wp_region_lit ?_
      refine seq_op s22 rfl rfl (of_decide_eq_true rfl) (ob_move rfl (.tmp rfl)) fun a23 w23 s23 => ?_; clear s22
      refine seq_op s23 rfl rfl (of_decide_eq_true rfl) (ob_add rfl (.tmp rfl) (opd_int rfl)) fun a24 w24 s24 => ?_; clear s23
      refine seq_op s24 rfl rfl (of_decide_eq_true rfl) (ob_assign rfl (.tmp rfl)) fun a25 w25 s25 => ?_; clear s24
      refine wpList_nil ?_
      refine then_normal ?_
      exact hK5 (iadd .i64 y1 (1 : Int)) _ _ h10 ⟨b2, b1, (s25.sub (.cons rfl (.cons rfl (.cons rfl .nil))))⟩
  · replace h3 := ite_f hc1 h3
    have h11 := h3; clear h3
    refine wp_exit ?_
    refine (then_exit (then_exit (in_here ?_)))
    refine then_normal ?_
    have s26 := St.drop (A := []) s14; clear s14
    have s27 := St.drop (A := []) s26; clear s26
    exact hj1 _ _ h11 (s27.sub .nil)

/- 9 cabal/cabalref26.Order -/
theorem c_cabalref26_Order (k : Nat) (p1 : (List Int)) (p2 : (List Int)) (r : Int) (h0 : cabalref26_Order k p1 p2 = some r) (ok : Ok) (w0 : World) (z0 : Value) (z1 : Value) (u0 : ((karr 8 (kint .u32)).V p1).holds ok w0 z0) (u1 : ((karr 8 (kint .u32)).V p2).holds ok w0 z1) :
    Gives Try.prog 9 [z0, z1] ok w0 (resFact [(kint .i64).V r]) := by
  unfold cabalref26_Order at h0
  refine enter (N := 14) Try.func9 rfl rfl (of_decide_eq_true rfl) (.cons u0 (.cons u1 .nil)) fun a1 s1 => ?_
  refine wp_seq_k fun K1 hK1 => ?_
  refine wp_region_lit ?_
  refine seq_opx s1 rfl rfl (of_decide_eq_true rfl) (ob_box rfl (.tmp rfl)) fun b1 a2 w2 s2 => ?_; clear s1
  refine seq_opx s2 rfl rfl (of_decide_eq_true rfl) (ob_box rfl (.tmp rfl)) fun b2 a3 w3 s3 => ?_; clear s2
  refine seq_op s3 rfl rfl (of_decide_eq_true rfl) (ob_assign rfl (opd_int rfl)) fun a4 w4 s4 => ?_; clear s3
  refine wpList_nil ?_
  refine then_normal ?_
  refine hK1 _ _ ?_
  have s5 := s4.sub (.cons (t := 2) rfl (.cons (t := 3) rfl .nil)); clear s4
  refine wp_seq_k fun K2 hK2 => ?_
  refine wp_seq_k fun K3 hK3 => ?_
  refine wp_region_lit ?_
  refine seq_op s5 rfl rfl (of_decide_eq_true rfl) (ob_load rfl tk24 (.tmp rfl) (List.Mem.tail _ (List.Mem.head _)) (LG.refl _ _)) fun a6 w6 s6 => ?_; clear s5
  refine seq_op s6 rfl rfl (of_decide_eq_true rfl) (ob_load rfl tk24 (.tmp rfl) (List.Mem.head _) (LG.refl _ _)) fun a7 w7 s7 => ?_; clear s6
  refine seq_op s7 rfl rfl (of_decide_eq_true rfl) (ob_eqAgg rfl rfl (by kernel_rfl) eq24 (by decide) (.tmp rfl) (.tmp rfl)) fun a8 w8 s8 => ?_; clear s7
  refine wpList_nil ?_
  refine then_normal ?_
  refine hK3 _ _ ?_
  have s9 := s8.sub (.cons (t := 2) rfl (.cons (t := 3) rfl (.cons (t := 7) rfl .nil))); clear s8
  refine cond_split s9 (.tmp rfl) (fun hc1 => ?_) (fun hc1 => ?_)
  · replace h0 := ite_t hc1 h0
    have h1 := h0; clear h0
    refine wp_seq_k fun K4 hK4 => ?_
    refine wp_region_lit ?_
    refine seq_op s9 rfl rfl (of_decide_eq_true rfl) (ob_assign rfl (opd_int rfl)) fun a10 w10 s10 => ?_; clear s9
    refine wpList_nil ?_
    refine then_normal ?_
    refine hK4 _ _ ?_
    have s11 := s10.sub (.cons (t := 4) rfl .nil); clear s10
    have s12 := St.drop (A := []) s11; clear s11
    have s13 := St.drop (A := []) s12; clear s12
    refine wp_ret ?_
    obtain rfl := Option.some.inj h1
    exact leave s13 (.inl rfl) rfl (.cons (.tmp rfl) .nil)
  · replace h0 := ite_f hc1 h0
    have h2 := h0; clear h0
    refine wp_skip ?_
    refine then_normal ?_
    refine hK2 _ _ ?_
    have s14 := s9.sub (.cons (t := 2) rfl (.cons (t := 3) rfl .nil)); clear s9
    refine wp_seq_k fun K5 hK5 => ?_
    refine wp_seq_k fun K6 hK6 => ?_
    refine wp_region_lit ?_
    refine seq_op s14 rfl rfl (of_decide_eq_true rfl) (ob_load rfl tk24 (.tmp rfl) (List.Mem.tail _ (List.Mem.head _)) (LG.refl _ _)) fun a15 w15 s15 => ?_; clear s14
    refine seq_op s15 rfl rfl (of_decide_eq_true rfl) (ob_load rfl tk24 (.tmp rfl) (List.Mem.head _) (LG.refl _ _)) fun a16 w16 s16 => ?_; clear s15
    obtain ⟨x1, e_x1, h3⟩ := bind_some h2; clear h2
    refine seq_op s16 rfl rfl (of_decide_eq_true rfl) (ob_calls rfl hb16 (fun a w s => c_cabalref26_Most k _ _ _ e_x1 _ _ _ _ (s.arg (.tmp rfl)) (s.arg (.tmp rfl)))) fun a17 w17 s17 => ?_; clear s16
    refine wpList_nil ?_
    refine then_normal ?_
    refine hK6 _ _ ?_
    have s18 := s17.sub (.cons (t := 2) rfl (.cons (t := 3) rfl (.cons (t := 10) rfl .nil))); clear s17
    refine cond_split s18 (.tmp rfl) (fun hc2 => ?_) (fun hc2 => ?_)
    · replace h3 := ite_t hc2 h3
      have h4 := h3; clear h3
      refine wp_seq_k fun K7 hK7 => ?_
      refine wp_region_lit ?_
      refine seq_op s18 rfl rfl (of_decide_eq_true rfl) (ob_assign rfl (opd_int rfl)) fun a19 w19 s19 => ?_; clear s18
      refine wpList_nil ?_
      refine then_normal ?_
      refine hK7 _ _ ?_
      have s20 := s19.sub (.cons (t := 4) rfl .nil); clear s19
      have s21 := St.drop (A := []) s20; clear s20
      have s22 := St.drop (A := []) s21; clear s21
      refine wp_ret ?_
      obtain rfl := Option.some.inj h4
      exact leave s22 (.inl rfl) rfl (.cons (.tmp rfl) .nil)
    · replace h3 := ite_f hc2 h3
      have h5 := h3; clear h3
      refine wp_skip ?_
      refine then_normal ?_
      refine hK5 _ _ ?_
      have s23 := s18.sub (.cons (t := 2) rfl (.cons (t := 3) rfl .nil)); clear s18
      refine wp_seq_k fun K8 hK8 => ?_
      refine wp_seq_k fun K9 hK9 => ?_
      refine wp_region_lit ?_
      refine seq_op s23 rfl rfl (of_decide_eq_true rfl) (ob_load rfl tk24 (.tmp rfl) (List.Mem.head _) (LG.refl _ _)) fun a24 w24 s24 => ?_; clear s23
      refine seq_op s24 rfl rfl (of_decide_eq_true rfl) (ob_load rfl tk24 (.tmp rfl) (List.Mem.tail _ (List.Mem.head _)) (LG.refl _ _)) fun a25 w25 s25 => ?_; clear s24
      obtain ⟨x2, e_x2, h6⟩ := bind_some h5; clear h5
      refine seq_op s25 rfl rfl (of_decide_eq_true rfl) (ob_calls rfl hb16 (fun a w s => c_cabalref26_Most k _ _ _ e_x2 _ _ _ _ (s.arg (.tmp rfl)) (s.arg (.tmp rfl)))) fun a26 w26 s26 => ?_; clear s25
      refine wpList_nil ?_
      refine then_normal ?_
      refine hK9 _ _ ?_
      have s27 := s26.sub (.cons (t := 13) rfl .nil); clear s26
      have s28 := St.drop (A := []) s27; clear s27
      have s29 := St.drop (A := []) s28; clear s28
      refine cond_split s29 (.tmp rfl) (fun hc3 => ?_) (fun hc3 => ?_)
      · replace h6 := ite_t hc3 h6
        have h7 := h6; clear h6
        refine wp_seq_k fun K10 hK10 => ?_
        refine wp_region_lit ?_
        refine seq_op s29 rfl rfl (of_decide_eq_true rfl) (ob_assign rfl (opd_int rfl)) fun a30 w30 s30 => ?_; clear s29
        refine wpList_nil ?_
        refine then_normal ?_
        refine hK10 _ _ ?_
        have s31 := s30.sub (.cons (t := 4) rfl .nil); clear s30
        refine wp_ret ?_
        obtain rfl := Option.some.inj h7
        exact leave s31 (.inl rfl) rfl (.cons (.tmp rfl) .nil)
      · replace h6 := ite_f hc3 h6
        have h8 := h6; clear h6
        refine wp_skip ?_
        refine then_normal ?_
        refine hK8 _ _ ?_
        have s32 := s29.sub .nil; clear s29
        refine wp_seq_k fun K11 hK11 => ?_
        refine wp_region_lit ?_
        refine seq_op s32 rfl rfl (of_decide_eq_true rfl) (ob_assign rfl (opd_int rfl)) fun a33 w33 s33 => ?_; clear s32
        refine wpList_nil ?_
        refine then_normal ?_
        refine hK11 _ _ ?_
        have s34 := s33.sub (.cons (t := 4) rfl .nil); clear s33
        refine wp_ret ?_
        obtain rfl := Option.some.inj h8
        exact leave s34 (.inl rfl) rfl (.cons (.tmp rfl) .nil)

/- 11 cabal/cabalref26.Join -/
theorem c_cabalref26_Join (k : Nat) (p1 : (List (List Int))) (r : (List Int)) (h0 : cabalref26_Join k p1 = some r) (ok : Ok) (w0 : World) (z0 : Value) (u0 : ((ksl (karr 8 (kint .u32))).V p1).holds ok w0 z0) :
    Gives Try.prog 11 [z0] ok w0 (resFact [(karr 8 (kint .u32)).V r]) := by
  unfold cabalref26_Join at h0
  refine enter (N := 35) Try.func11 rfl rfl (of_decide_eq_true rfl) (.cons u0 .nil) fun a1 s1 => ?_
  refine wp_seq_k fun K1 hK1 => ?_
  refine wp_region_lit ?_
  refine seq_opx s1 rfl rfl (of_decide_eq_true rfl) (ob_new (k := (karr 8 (kint .u32))) rfl zz24 (Zr.arr 8 (Zr.int .u32))) fun b1 a2 w2 s2 => ?_; clear s1
  refine wpList_nil ?_
  refine then_normal ?_
  refine hK1 _ _ ?_
  have s3 := s2.sub (.cons (t := 0) rfl (.cons (t := 2) rfl .nil)); clear s2
  refine wp_seq_k fun K2 hK2 => ?_
  refine wp_region_lit ?_
  refine seq_opx s3 rfl rfl (of_decide_eq_true rfl) (ob_new (k := (karr 8 (kint .u32))) rfl zz24 (Zr.arr 8 (Zr.int .u32))) fun b2 a4 w4 s4 => ?_; clear s3
  refine wpList_nil ?_
  refine then_normal ?_
  refine hK2 _ _ ?_
  have s5 := s4.sub (.cons (t := 0) rfl (.cons (t := 2) rfl (.cons (t := 3) rfl .nil))); clear s4
  refine wp_seq_k fun K3 hK3 => ?_
  refine wp_seq_k fun K4 hK4 => ?_
  refine wp_region_lit ?_
  refine seq_op s5 rfl rfl (of_decide_eq_true rfl) (ob_assign rfl (opd_int rfl)) fun a6 w6 s6 => ?_; clear s5
  refine wpList_nil ?_
  refine then_normal ?_
  refine hK4 _ _ ?_
  have s7 := s6.sub (.cons (t := 0) rfl (.cons (t := 2) rfl (.cons (t := 3) rfl (.cons (t := 4) rfl .nil)))); clear s6
  have hj1 : ∀ (y1 : (List Int)) (b2 : Nat) (b1 : Nat) (a : Act) (w : World), (cabalref26_Join.j1 k) y1 = some r → St ⟨35, w0, ok, []⟩ [BF b2 24 (karr 8 (kint .u32)) y1, BF b1 24 (karr 8 (kint .u32)) (List.replicate 8 (0 : Int))] [(2, (ptrB b1 0)), (3, (ptrB b2 0))] a w → K3 a w := by
    intro y1 b2 b1 a8 w8 h1 s8
    unfold cabalref26_Join.j1 at h1
    refine hK3 _ _ ?_
    refine wp_seq_k fun K5 hK5 => ?_
    refine wp_region_lit ?_
    refine seq_op s8 rfl rfl (of_decide_eq_true rfl) (ob_load rfl tk24 (.tmp rfl) (List.Mem.head _) (LG.refl _ _)) fun a9 w9 s9 => ?_; clear s8
    refine seq_opx0 (B' := fun _ => [BF b2 24 (karr 8 (kint .u32)) y1, BF b1 24 (karr 8 (kint .u32)) y1]) s9 rfl rfl (ob_store (A := [_]) rfl tk24 (.tmp rfl) (.tmp rfl) rfl (LS.refl _ _ _) rfl) fun _ a10 w10 s10 => ?_; clear s9
    refine wpList_nil ?_
    refine then_normal ?_
    refine hK5 _ _ ?_
    have s11 := s10.sub (.cons (t := 2) rfl .nil); clear s10
    have s12 := St.drop (A := []) s11; clear s11
    refine wp_ret ?_
    obtain rfl := Option.some.inj h1
    exact leave s12 (.inl rfl) rfl (.cons (.cell rfl tk24 (List.Mem.head _) (LG.refl _ _)) .nil)
  refine wp_block ?_
  refine wp_loop_fuel (fun m (q : Int × (List Int)) => cabalref26_Join.l1 k p1 m q.1 q.2) r (fun _ => rfl) (fun q a w => ∃ (b2 : Nat) (b1 : Nat), St ⟨35, w0, ok, []⟩ [BF b2 24 (karr 8 (kint .u32)) q.2, BF b1 24 (karr 8 (kint .u32)) (List.replicate 8 (0 : Int))] [(0, ((ksl (karr 8 (kint .u32))).V p1)), (2, (ptrB b1 0)), (3, (ptrB b2 0)), (4, ((kint .i64).V q.1))] a w) ?_ k ((0 : Int), (List.replicate 8 (0 : Int))) _ _ h0 ⟨b2, b1, (s7.sub (.cons rfl (.cons rfl (.cons rfl (.cons rfl .nil)))))⟩
  rintro n1 ⟨y2, y3⟩ a13 w13 h2 ⟨b2, b1, s13⟩ K6 hK6
  replace h2 : cabalref26_Join.l1 k p1 (n1 + 1) y2 y3 = some r := h2; rw [cabalref26_Join.l1] at h2
  have h3 := h2; clear h2
  refine wp_seq_k fun K7 hK7 => ?_
  refine wp_seq_k fun K8 hK8 => ?_
  refine wp_region_lit ?_
  refine seq_op s13 rfl rfl (of_decide_eq_true rfl) (ob_move rfl (.tmp rfl)) fun a14 w14 s14 => ?_; clear s13
  refine seq_op s14 rfl rfl (of_decide_eq_true rfl) (ob_lss rfl (.tmp rfl) (opd_int rfl)) fun a15 w15 s15 => ?_; clear s14
  refine wpList_nil ?_
  refine then_normal ?_
  refine hK8 _ _ ?_
  have s16 := s15.sub (.cons (t := 0) rfl (.cons (t := 2) rfl (.cons (t := 3) rfl (.cons (t := 4) rfl (.cons (t := 7) rfl .nil))))); clear s15
  refine cond_split s16 (.tmp rfl) (fun hc1 => ?_) (fun hc1 => ?_)
  · replace h3 := ite_t hc1 h3
    have h4 := h3; clear h3
    refine wp_skip ?_
    refine then_normal ?_
    refine hK7 _ _ ?_
    have s17 := s16.sub (.cons (t := 0) rfl (.cons (t := 2) rfl (.cons (t := 3) rfl (.cons (t := 4) rfl .nil)))); clear s16
    refine wp_seq_k fun K9 hK9 => ?_
    have hj2 : ∀ (y4 : (List Int)) (a : Act) (w : World), (cabalref26_Join.j2 k y2 (cabalref26_Join.l1 k p1 n1)) y4 = some r → St ⟨35, w0, ok, []⟩ [BF b2 24 (karr 8 (kint .u32)) y4, BF b1 24 (karr 8 (kint .u32)) (List.replicate 8 (0 : Int))] [(0, ((ksl (karr 8 (kint .u32))).V p1)), (2, (ptrB b1 0)), (3, (ptrB b2 0)), (4, ((kint .i64).V y2))] a w → K9 a w := by
      intro y4 a18 w18 h5 s18
      unfold cabalref26_Join.j2 at h5
      refine hK9 _ _ ?_
      refine wp_region_lit ?_
      refine seq_op s18 rfl rfl (of_decide_eq_true rfl) (ob_move rfl (.tmp rfl)) fun a19 w19 s19 => ?_; clear s18
      refine seq_op s19 rfl rfl (of_decide_eq_true rfl) (ob_add rfl (.tmp rfl) (opd_int rfl)) fun a20 w20 s20 => ?_; clear s19
      refine seq_op s20 rfl rfl (of_decide_eq_true rfl) (ob_assign rfl (.tmp rfl)) fun a21 w21 s21 => ?_; clear s20
      refine wpList_nil ?_
      refine then_normal ?_
      exact hK6 ((iadd .i64 y2 (1 : Int)), y4) _ _ h5 ⟨b2, b1, (s21.sub (.cons rfl (.cons rfl (.cons rfl (.cons rfl .nil)))))⟩
    refine wp_block ?_
    refine wp_seq_k fun K10 hK10 => ?_
    refine wp_region_lit ?_
    refine seq_op s17 rfl rfl (of_decide_eq_true rfl) (ob_assign rfl (opd_int rfl)) fun a22 w22 s22 => ?_; clear s17
    refine wpList_nil ?_
    refine then_normal ?_
    refine hK10 _ _ ?_
    have s23 := s22.sub (.cons (t := 0) rfl (.cons (t := 2) rfl (.cons (t := 3) rfl (.cons (t := 4) rfl (.cons (t := 5) rfl .nil))))); clear s22
    refine wp_block ?_
    refine wp_loop_fuel (fun m (q : Int × (List Int)) => cabalref26_Join.l2 k p1 y2 (cabalref26_Join.l1 k p1 n1) m q.1 q.2) r (fun _ => rfl) (fun q a w => St ⟨35, w0, ok, []⟩ [BF b2 24 (karr 8 (kint .u32)) q.2, BF b1 24 (karr 8 (kint .u32)) (List.replicate 8 (0 : Int))] [(0, ((ksl (karr 8 (kint .u32))).V p1)), (2, (ptrB b1 0)), (3, (ptrB b2 0)), (4, ((kint .i64).V y2)), (5, ((kint .i64).V q.1))] a w) ?_ k ((0 : Int), y3) _ _ h4 (s23.sub (.cons rfl (.cons rfl (.cons rfl (.cons rfl (.cons rfl .nil))))))
    rintro n2 ⟨y5, y6⟩ a24 w24 h6 s24 K11 hK11
    replace h6 : cabalref26_Join.l2 k p1 y2 (cabalref26_Join.l1 k p1 n1) (n2 + 1) y5 y6 = some r := h6; rw [cabalref26_Join.l2] at h6
    have h7 := h6; clear h6
    refine wp_seq_k fun K12 hK12 => ?_
    refine wp_seq_k fun K13 hK13 => ?_
    refine wp_region_lit ?_
    refine seq_op s24 rfl rfl (of_decide_eq_true rfl) (ob_move rfl (.tmp rfl)) fun a25 w25 s25 => ?_; clear s24
    refine seq_op s25 rfl rfl (of_decide_eq_true rfl) (ob_move rfl (.tmp rfl)) fun a26 w26 s26 => ?_; clear s25
    refine seq_op s26 rfl rfl (of_decide_eq_true rfl) (ob_lens rfl Try.underlying25 (.tmp rfl)) fun a27 w27 s27 => ?_; clear s26
    refine seq_op s27 rfl rfl (of_decide_eq_true rfl) (ob_lss rfl (.tmp rfl) (.tmp rfl)) fun a28 w28 s28 => ?_; clear s27
    refine wpList_nil ?_
    refine then_normal ?_
    refine hK13 _ _ ?_
    have s29 := s28.sub (.cons (t := 0) rfl (.cons (t := 2) rfl (.cons (t := 3) rfl (.cons (t := 4) rfl (.cons (t := 5) rfl (.cons (t := 13) rfl .nil)))))); clear s28
    refine cond_split s29 (.tmp rfl) (fun hc2 => ?_) (fun hc2 => ?_)
    · replace h7 := ite_t hc2 h7
      have h8 := h7; clear h7
      refine wp_skip ?_
      refine then_normal ?_
      refine hK12 _ _ ?_
      have s30 := s29.sub (.cons (t := 0) rfl (.cons (t := 2) rfl (.cons (t := 3) rfl (.cons (t := 4) rfl (.cons (t := 5) rfl .nil))))); clear s29
      refine wp_seq_k fun K14 hK14 => ?_
      have hj3 : ∀ (y7 : (List Int)) (a : Act) (w : World), (cabalref26_Join.j3 k y5 (cabalref26_Join.l2 k p1 y2 (cabalref26_Join.l1 k p1 n1) n2)) y7 = some r → St ⟨35, w0, ok, []⟩ [BF b2 24 (karr 8 (kint .u32)) y7, BF b1 24 (karr 8 (kint .u32)) (List.replicate 8 (0 : Int))] [(0, ((ksl (karr 8 (kint .u32))).V p1)), (2, (ptrB b1 0)), (3, (ptrB b2 0)), (4, ((kint .i64).V y2)), (5, ((kint .i64).V y5))] a w → K14 a w := by
        intro y7 a31 w31 h9 s31
        unfold cabalref26_Join.j3 at h9
        refine hK14 _ _ ?_
        refine wp_region_lit ?_
        refine seq_op s31 rfl rfl (of_decide_eq_true rfl) (ob_move rfl (.tmp rfl)) fun a32 w32 s32 => ?_; clear s31
        refine seq_op s32 rfl rfl (of_decide_eq_true rfl) (ob_add rfl (.tmp rfl) (opd_int rfl)) fun a33 w33 s33 => ?_; clear s32
        refine seq_op s33 rfl rfl (of_decide_eq_true rfl) (ob_assign rfl (.tmp rfl)) fun a34 w34 s34 => ?_; clear s33
        refine wpList_nil ?_
        refine then_normal ?_
        exact hK11 ((iadd .i64 y5 (1 : Int)), y7) _ _ h9 (s34.sub (.cons rfl (.cons rfl (.cons rfl (.cons rfl (.cons rfl .nil))))))
      refine wp_block ?_
      refine wp_seq_k fun K15 hK15 => ?_
      obtain ⟨x1, e_x1, h10⟩ := bind_some h8; clear h8
      obtain ⟨x2, e_x2, h11⟩ := bind_some h10; clear h10
      obtain ⟨g1, h12⟩ := guard_some h11; clear h11
      obtain ⟨g2, h13⟩ := guard_some h12; clear h12
      obtain ⟨x3, e_x3, h14⟩ := bind_some h13; clear h13
      refine wp_drawn (Fs := [((ksl (karr 8 (kint .u32))).V p1), ((kint .i64).V y5), ((kint .i64).V y2), (ptrTo (karr 8 (kint .u32)) x1), (ptrTo (kint .u32) x2), ((kint .u32).V x2), ((kint .i64).V y2), (ptrB b2 (y2.toNat * 1)), ((kint .u32).V x3), (kbool.V (decide (x2 > x3)))]) (bits := [0, 0, 0, 3, 15, 31, 0, 64, 192, 511]) (m := 10) mx s30 (by kernel_rfl) rfl (ops_cons (.plain _ (Av.old (t := 0) rfl rfl Av.nil) rfl rfl (ob_move rfl (.tmp rfl))) (ops_cons (.plain _ (Av.old (t := 5) rfl rfl Av.nil) rfl rfl (ob_move rfl (.tmp rfl))) (ops_cons (.plain _ (Av.old (t := 4) rfl rfl Av.nil) rfl rfl (ob_move rfl (.tmp rfl))) (ops_cons (.plain _ (Av.new (j := 0) rfl rfl rfl (Av.new (j := 1) rfl rfl rfl Av.nil)) rfl rfl (ob_indexAddrs rfl Try.underlying25 sz24 (.tmp rfl) (.tmp rfl) e_x1)) (ops_cons (.plain _ (Av.new (j := 2) rfl rfl rfl (Av.new (j := 3) rfl rfl rfl Av.nil)) rfl rfl (ob_indexAddrr rfl Try.underlying24 sz22 (.tmp rfl) (.tmp rfl) g1 e_x2)) (ops_cons (.plain _ (Av.new (j := 4) rfl rfl rfl Av.nil) rfl rfl (ob_loadr rfl tk22 (.tmp rfl))) (ops_cons (.plain _ (Av.old (t := 4) rfl rfl Av.nil) rfl rfl (ob_move rfl (.tmp rfl))) (ops_cons (.plain _ (Av.old (t := 3) rfl rfl (Av.new (j := 6) rfl rfl rfl Av.nil)) rfl rfl (ob_indexAddr rfl Try.underlying24 sz22 (.tmp rfl) (.tmp rfl) g2.1 g2.2 (Nat.zero_add _))) (ops_cons (.plain _ (Av.new (j := 7) rfl rfl rfl Av.nil) rfl rfl (ob_load rfl tk22 (.tmp rfl) (List.Mem.head _) (LG.arrA e_x3))) (ops_cons (.plain _ (Av.new (j := 5) rfl rfl rfl (Av.new (j := 8) rfl rfl rfl Av.nil)) rfl rfl (ob_gtr rfl (.tmp rfl) (.tmp rfl))) ops_nil)))))))))) (out_old (t := 0) rfl rfl (out_old (t := 2) rfl rfl (out_old (t := 3) rfl rfl (out_old (t := 4) rfl rfl (out_old (t := 5) rfl rfl (out_new (i := 9) (by decide) rfl rfl out_nil)))))) fun a35 w35 s35 => ?_; clear s30
      refine wpList_nil ?_
      refine then_normal ?_
      refine hK15 _ _ ?_
      have s36 := s35.sub (.cons (t := 0) rfl (.cons (t := 2) rfl (.cons (t := 3) rfl (.cons (t := 4) rfl (.cons (t := 5) rfl (.cons (t := 25) rfl .nil)))))); clear s35
      refine cond_split s36 (.tmp rfl) (fun hc3 => ?_) (fun hc3 => ?_)
      · replace h14 := ite_t hc3 h14
        have h15 := h14; clear h14
        refine wp_region_lit ?_
        refine seq_op s36 rfl rfl (of_decide_eq_true rfl) (ob_move rfl (.tmp rfl)) fun a37 w37 s37 => ?_; clear s36
        refine seq_op s37 rfl rfl (of_decide_eq_true rfl) (ob_move rfl (.tmp rfl)) fun a38 w38 s38 => ?_; clear s37
        refine seq_op s38 rfl rfl (of_decide_eq_true rfl) (ob_move rfl (.tmp rfl)) fun a39 w39 s39 => ?_; clear s38
        refine seq_op s39 rfl rfl (of_decide_eq_true rfl) (ob_move rfl (.tmp rfl)) fun a40 w40 s40 => ?_; clear s39
        obtain ⟨x4, e_x4, h16⟩ := bind_some h15; clear h15
        refine seq_op s40 rfl rfl (of_decide_eq_true rfl) (ob_indexAddrs rfl Try.underlying25 sz24 (.tmp rfl) (.tmp rfl) e_x4) fun a41 w41 s41 => ?_; clear s40
        obtain ⟨x5, e_x5, h17⟩ := bind_some h16; clear h16
        obtain ⟨g3, h18⟩ := guard_some h17; clear h17
        refine seq_op s41 rfl rfl (of_decide_eq_true rfl) (ob_indexAddrr rfl Try.underlying24 sz22 (.tmp rfl) (.tmp rfl) g3 e_x5) fun a42 w42 s42 => ?_; clear s41
        refine seq_op s42 rfl rfl (of_decide_eq_true rfl) (ob_loadr rfl tk22 (.tmp rfl)) fun a43 w43 s43 => ?_; clear s42
        obtain ⟨g4, h19⟩ := guard_some h18; clear h18
        refine seq_op s43 rfl rfl (of_decide_eq_true rfl) (ob_indexAddr rfl Try.underlying24 sz22 (.tmp rfl) (.tmp rfl) g4.1 g4.2 (Nat.zero_add _)) fun a44 w44 s44 => ?_; clear s43
        obtain ⟨x6, e_x6, h20⟩ := bind_some h19; clear h19
        refine seq_opx0 (B' := fun _ => [BF b2 24 (karr 8 (kint .u32)) x6, BF b1 24 (karr 8 (kint .u32)) (List.replicate 8 (0 : Int))]) s44 rfl rfl (ob_store (A := []) rfl tk22 (.tmp rfl) (.tmp rfl) rfl (LS.arrS e_x6) rfl) fun _ a45 w45 s45 => ?_; clear s44
        refine wpList_nil ?_
        refine in_normal ?_
        refine then_normal ?_
        exact hj3 x6 _ _ h20 (s45.sub (.cons rfl (.cons rfl (.cons rfl (.cons rfl (.cons rfl .nil))))))
      · replace h14 := ite_f hc3 h14
        have h21 := h14; clear h14
        refine wp_skip ?_
        refine in_normal ?_
        refine then_normal ?_
        exact hj3 y6 _ _ h21 (s36.sub (.cons rfl (.cons rfl (.cons rfl (.cons rfl (.cons rfl .nil))))))
    · replace h7 := ite_f hc2 h7
      have h22 := h7; clear h7
      refine wp_exit ?_
      refine (then_exit (then_exit (in_here ?_)))
      refine in_normal ?_
      refine then_normal ?_
      exact hj2 y6 _ _ h22 (s29.sub (.cons rfl (.cons rfl (.cons rfl (.cons rfl .nil)))))
  · replace h3 := ite_f hc1 h3
    have h23 := h3; clear h3
    refine wp_exit ?_
    refine (then_exit (then_exit (in_here ?_)))
    refine then_normal ?_
    exact hj1 y3 b2 b1 _ _ h23 (s16.sub (.cons rfl (.cons rfl .nil)))

/- 13 cabal/cabalref26.Due -/
theorem c_cabalref26_Due (k : Nat) (p1 : (List Int)) (p2 : (List Int)) (p3 : Int) (r : Bool) (h0 : cabalref26_Due k p1 p2 p3 = some r) (ok : Ok) (w0 : World) (z0 : Value) (z1 : Value) (z2 : Value) (u0 : ((karr 8 (kint .u32)).V p1).holds ok w0 z0) (u1 : ((karr 8 (kint .u32)).V p2).holds ok w0 z1) (u2 : ((kint .i64).V p3).holds ok w0 z2) :
    Gives Try.prog 13 [z0, z1, z2] ok w0 (resFact [kbool.V r]) := by
  unfold cabalref26_Due at h0
  refine enter (N := 48) Try.func13 rfl rfl (of_decide_eq_true rfl) (.cons u0 (.cons u1 (.cons u2 .nil))) fun a1 s1 => ?_
  refine wp_seq_k fun K1 hK1 => ?_
  refine wp_region_lit ?_
  refine seq_opx s1 rfl rfl (of_decide_eq_true rfl) (ob_box rfl (.tmp rfl)) fun b1 a2 w2 s2 => ?_; clear s1
  refine seq_opx s2 rfl rfl (of_decide_eq_true rfl) (ob_box rfl (.tmp rfl)) fun b2 a3 w3 s3 => ?_; clear s2
  refine seq_op s3 rfl rfl (of_decide_eq_true rfl) (ob_assign rfl opd_bool) fun a4 w4 s4 => ?_; clear s3
  refine wpList_nil ?_
  refine then_normal ?_
  refine hK1 _ _ ?_
  have s5 := s4.sub (.cons (t := 2) rfl (.cons (t := 3) rfl (.cons (t := 4) rfl .nil))); clear s4
  refine wp_seq_k fun K2 hK2 => ?_
  refine wp_seq_k fun K3 hK3 => ?_
  obtain ⟨x1, e_x1, h1⟩ := bind_some h0; clear h0; replace e_x1 := Option.some.inj e_x1
  obtain ⟨g1, h2⟩ := guard_some h1; clear h1
  obtain ⟨x2, e_x2, h3⟩ := bind_some h2; clear h2
  obtain ⟨g2, h4⟩ := guard_some h3; clear h3
  obtain ⟨x3, e_x3, h5⟩ := bind_some h4; clear h4
  obtain ⟨g3, h6⟩ := guard_some h5; clear h5
  obtain ⟨x4, e_x4, h7⟩ := bind_some h6; clear h6
  obtain ⟨x5, e_x5, h8⟩ := bind_some h7; clear h7; replace e_x5 := Option.some.inj e_x5
  refine wp_drawn (Fs := [((kint .i64).V p3), (kbool.V (decide (p3 < (0 : Int)))), (kbool.V (decide (p3 < (0 : Int)))), (Fact.when ((decide (p3 < (0 : Int))) == false) ((kint .i64).V p3)), (Fact.when ((decide (p3 < (0 : Int))) == false) (kbool.V (decide (p3 > (7 : Int))))), (kbool.V x1), (kbool.V x1), (Fact.when (x1 == false) ((kint .i64).V p3)), (Fact.when (x1 == false) (ptrB b2 (p3.toNat * 1))), (Fact.when (x1 == false) ((kint .u32).V x2)), (Fact.when (x1 == false) (kbool.V (x2 == (0 : Int)))), (kbool.V (if x1 then true else (x2 == (0 : Int)))), (kbool.V (if x1 then true else (x2 == (0 : Int)))), (Fact.when ((if x1 then true else (x2 == (0 : Int))) == false) ((kint .i64).V p3)), (Fact.when ((if x1 then true else (x2 == (0 : Int))) == false) (ptrB b2 (p3.toNat * 1))), (Fact.when ((if x1 then true else (x2 == (0 : Int))) == false) ((kint .u32).V x3)), (Fact.when ((if x1 then true else (x2 == (0 : Int))) == false) ((kint .u64).V (IntKind.wrap .u64 x3))), (Fact.when ((if x1 then true else (x2 == (0 : Int))) == false) ((kint .i64).V p3)), (Fact.when ((if x1 then true else (x2 == (0 : Int))) == false) (ptrB b1 (p3.toNat * 1))), (Fact.when ((if x1 then true else (x2 == (0 : Int))) == false) ((kint .u32).V x4)), (Fact.when ((if x1 then true else (x2 == (0 : Int))) == false) ((kint .u64).V (IntKind.wrap .u64 x4))), (Fact.when ((if x1 then true else (x2 == (0 : Int))) == false) ((kint .u64).V (iadd .u64 (IntKind.wrap .u64 x4) (1 : Int)))), (Fact.when ((if x1 then true else (x2 == (0 : Int))) == false) (kbool.V x5)), (kbool.V (if (if x1 then true else (x2 == (0 : Int))) then true else x5))]) (bits := [0, 1, 3, 7, 15, 31, 63, 127, 255, 511, 1023, 2047, 4095, 8191, 16383, 32767, 65535, 8191, 139263, 401407, 925695, 1974271, 4194303, 8388607]) (m := 24) mx s5 (by kernel_rfl) rfl (ops_cons (.plain _ (Av.old (t := 2) rfl rfl Av.nil) rfl rfl (ob_move rfl (.tmp rfl))) (ops_cons (.plain _ (Av.new (j := 0) rfl rfl rfl Av.nil) rfl rfl (ob_lss rfl (.tmp rfl) (opd_int rfl))) (ops_cons (.plain _ (Av.new (j := 1) rfl rfl rfl Av.nil) rfl rfl (ob_move rfl (.tmp rfl))) (ops_cons (.guarded _ (Av.old (t := 2) rfl rfl (Av.new (j := 2) rfl rfl rfl Av.nil)) rfl rfl rfl rfl (fun hb => ob_move rfl (.tmp rfl))) (ops_cons (.guarded _ (Av.new (j := 2) rfl rfl rfl (Av.new (j := 3) rfl rfl rfl Av.nil)) rfl rfl rfl rfl (fun hb => (Ob.uncond (t := 11) hb rfl (ob_gtr rfl (.tmp rfl) (opd_int rfl))))) (ops_cons (.plain _ (Av.new (j := 2) rfl rfl rfl (Av.new (j := 4) rfl rfl rfl Av.nil)) rfl rfl ((ob_or2 rfl (.tmp rfl) opd_bool (.tmp rfl)).nm e_x1)) (ops_cons (.plain _ (Av.new (j := 5) rfl rfl rfl Av.nil) rfl rfl (ob_move rfl (.tmp rfl))) (ops_cons (.guarded _ (Av.old (t := 2) rfl rfl (Av.new (j := 6) rfl rfl rfl Av.nil)) rfl rfl rfl rfl (fun hb => ob_move rfl (.tmp rfl))) (ops_cons (.guarded _ (Av.old (t := 4) rfl rfl (Av.new (j := 6) rfl rfl rfl (Av.new (j := 7) rfl rfl rfl Av.nil))) rfl rfl rfl rfl (fun hb => (Ob.uncond (t := 15) hb rfl (ob_indexAddr rfl Try.underlying24 sz22 (.tmp rfl) (.tmp rfl) (g1 hb).1 (g1 hb).2 (Nat.zero_add _))))) (ops_cons (.guarded _ (Av.new (j := 6) rfl rfl rfl (Av.new (j := 8) rfl rfl rfl Av.nil)) rfl rfl rfl rfl (fun hb => (Ob.uncond (t := 16) hb rfl (ob_load rfl tk22 (.tmp rfl) (List.Mem.head _) (LG.arrA (ite_t hb e_x2)))))) (ops_cons (.guarded _ (Av.new (j := 6) rfl rfl rfl (Av.new (j := 9) rfl rfl rfl Av.nil)) rfl rfl rfl rfl (fun hb => (Ob.uncond (t := 17) hb rfl (ob_eql rfl (.tmp rfl) (opd_int rfl))))) (ops_cons (.plain _ (Av.new (j := 6) rfl rfl rfl (Av.new (j := 10) rfl rfl rfl Av.nil)) rfl rfl (ob_or2 rfl (.tmp rfl) opd_bool (.tmp rfl))) (ops_cons (.plain _ (Av.new (j := 11) rfl rfl rfl Av.nil) rfl rfl (ob_move rfl (.tmp rfl))) (ops_cons (.guarded _ (Av.old (t := 2) rfl rfl (Av.new (j := 12) rfl rfl rfl Av.nil)) rfl rfl rfl rfl (fun hb => ob_move rfl (.tmp rfl))) (ops_cons (.guarded _ (Av.old (t := 4) rfl rfl (Av.new (j := 12) rfl rfl rfl (Av.new (j := 13) rfl rfl rfl Av.nil))) rfl rfl rfl rfl (fun hb => (Ob.uncond (t := 21) hb rfl (ob_indexAddr rfl Try.underlying24 sz22 (.tmp rfl) (.tmp rfl) (g2 hb).1 (g2 hb).2 (Nat.zero_add _))))) (ops_cons (.guarded _ (Av.new (j := 12) rfl rfl rfl (Av.new (j := 14) rfl rfl rfl Av.nil)) rfl rfl rfl rfl (fun hb => (Ob.uncond (t := 22) hb rfl (ob_load rfl tk22 (.tmp rfl) (List.Mem.head _) (LG.arrA (ite_t hb e_x3)))))) (ops_cons (.guarded _ (Av.new (j := 12) rfl rfl rfl (Av.new (j := 15) rfl rfl rfl Av.nil)) rfl rfl rfl rfl (fun hb => (Ob.uncond (t := 23) hb rfl (ob_conv rfl _ Try.underlying22 Try.underlying38 (.tmp rfl))))) (ops_cons (.guarded _ (Av.old (t := 2) rfl rfl (Av.new (j := 12) rfl rfl rfl Av.nil)) rfl rfl rfl rfl (fun hb => ob_move rfl (.tmp rfl))) (ops_cons (.guarded _ (Av.old (t := 3) rfl rfl (Av.new (j := 12) rfl rfl rfl (Av.new (j := 17) rfl rfl rfl Av.nil))) rfl rfl rfl rfl (fun hb => (Ob.uncond (t := 25) hb rfl (ob_indexAddr rfl Try.underlying24 sz22 (.tmp rfl) (.tmp rfl) (g3 hb).1 (g3 hb).2 (Nat.zero_add _))))) (ops_cons (.guarded _ (Av.new (j := 12) rfl rfl rfl (Av.new (j := 18) rfl rfl rfl Av.nil)) rfl rfl rfl rfl (fun hb => (Ob.uncond (t := 26) hb rfl (ob_load rfl tk22 (.tmp rfl) (List.Mem.tail _ (List.Mem.head _)) (LG.arrA (ite_t hb e_x4)))))) (ops_cons (.guarded _ (Av.new (j := 12) rfl rfl rfl (Av.new (j := 19) rfl rfl rfl Av.nil)) rfl rfl rfl rfl (fun hb => (Ob.uncond (t := 27) hb rfl (ob_conv rfl _ Try.underlying22 Try.underlying38 (.tmp rfl))))) (ops_cons (.guarded _ (Av.new (j := 12) rfl rfl rfl (Av.new (j := 20) rfl rfl rfl Av.nil)) rfl rfl rfl rfl (fun hb => (Ob.uncond (t := 28) hb rfl (ob_add rfl (.tmp rfl) (opd_int rfl))))) (ops_cons (.guarded _ (Av.new (j := 12) rfl rfl rfl (Av.new (j := 16) rfl rfl rfl (Av.new (j := 21) rfl rfl rfl Av.nil))) rfl rfl rfl rfl (fun hb => (Ob.uncond (t := 29) hb rfl ((Ob.uncond (t := 24) hb rfl ((ob_neq rfl (.tmp rfl) (.tmp rfl)).nm e_x5)))))) (ops_cons (.plain _ (Av.new (j := 12) rfl rfl rfl (Av.new (j := 22) rfl rfl rfl Av.nil)) rfl rfl (ob_or2 rfl (.tmp rfl) opd_bool (.tmp rfl))) ops_nil)))))))))))))))))))))))) (out_old (t := 2) rfl rfl (out_old (t := 3) rfl rfl (out_old (t := 4) rfl rfl (out_new (i := 23) (by decide) rfl rfl out_nil)))) fun a6 w6 s6 => ?_; clear s5
  refine wpList_nil ?_
  refine then_normal ?_
  refine hK3 _ _ ?_
  have s7 := s6.sub (.cons (t := 2) rfl (.cons (t := 3) rfl (.cons (t := 4) rfl (.cons (t := 31) rfl .nil)))); clear s6
  refine cond_split s7 (.tmp rfl) (fun hc1 => ?_) (fun hc1 => ?_)
  · replace h8 := ite_t hc1 h8
    have h9 := h8; clear h8
    refine wp_seq_k fun K4 hK4 => ?_
    refine wp_region_lit ?_
    refine seq_op s7 rfl rfl (of_decide_eq_true rfl) (ob_assign rfl opd_bool) fun a8 w8 s8 => ?_; clear s7
    refine wpList_nil ?_
    refine then_normal ?_
    refine hK4 _ _ ?_
    have s9 := s8.sub (.cons (t := 6) rfl .nil); clear s8
    have s10 := St.drop (A := []) s9; clear s9
    have s11 := St.drop (A := []) s10; clear s10
    refine wp_ret ?_
    obtain rfl := Option.some.inj h9
    exact leave s11 (.inl rfl) rfl (.cons (.tmp rfl) .nil)
  · replace h8 := ite_f hc1 h8
    have h10 := h8; clear h8
    refine wp_skip ?_
    refine then_normal ?_
    refine hK2 _ _ ?_
    have s12 := s7.sub (.cons (t := 2) rfl (.cons (t := 3) rfl (.cons (t := 4) rfl .nil))); clear s7
    refine wp_seq_k fun K5 hK5 => ?_
    refine wp_seq_k fun K6 hK6 => ?_
    refine wp_region_lit ?_
    refine seq_op s12 rfl rfl (of_decide_eq_true rfl) (ob_assign rfl (opd_int rfl)) fun a13 w13 s13 => ?_; clear s12
    refine wpList_nil ?_
    refine then_normal ?_
    refine hK6 _ _ ?_
    have s14 := s13.sub (.cons (t := 2) rfl (.cons (t := 3) rfl (.cons (t := 4) rfl (.cons (t := 7) rfl .nil)))); clear s13
    have hj1 : ∀ (a : Act) (w : World), (cabalref26_Due.j1 k) = some r → St ⟨48, w0, ok, []⟩ [] [] a w → K5 a w := by
      intro a15 w15 h11 s15
      unfold cabalref26_Due.j1 at h11
      refine hK5 _ _ ?_
      refine wp_seq_k fun K7 hK7 => ?_
      refine wp_region_lit ?_
      refine seq_op s15 rfl rfl (of_decide_eq_true rfl) (ob_assign rfl opd_bool) fun a16 w16 s16 => ?_; clear s15
      refine wpList_nil ?_
      refine then_normal ?_
      refine hK7 _ _ ?_
      have s17 := s16.sub (.cons (t := 6) rfl .nil); clear s16
      refine wp_ret ?_
      obtain rfl := Option.some.inj h11
      exact leave s17 (.inl rfl) rfl (.cons (.tmp rfl) .nil)
    refine wp_block ?_
    refine wp_loop_fuel (fun m (q : Int) => cabalref26_Due.l1 k p3 p2 p1 m q) r (fun _ => rfl) (fun q a w => ∃ (b2 : Nat) (b1 : Nat), St ⟨48, w0, ok, []⟩ [BF b2 24 (karr 8 (kint .u32)) p2, BF b1 24 (karr 8 (kint .u32)) p1] [(2, ((kint .i64).V p3)), (3, (ptrB b1 0)), (4, (ptrB b2 0)), (7, ((kint .i64).V q))] a w) ?_ k (0 : Int) _ _ h10 ⟨b2, b1, (s14.sub (.cons rfl (.cons rfl (.cons rfl (.cons rfl .nil)))))⟩
    rintro n1 y1 a18 w18 h12 ⟨b2, b1, s18⟩ K8 hK8
    replace h12 : cabalref26_Due.l1 k p3 p2 p1 (n1 + 1) y1 = some r := h12; rw [cabalref26_Due.l1] at h12
    have h13 := h12; clear h12
    refine wp_seq_k fun K9 hK9 => ?_
    refine wp_seq_k fun K10 hK10 => ?_
    refine wp_region_lit ?_
    refine seq_op s18 rfl rfl (of_decide_eq_true rfl) (ob_move rfl (.tmp rfl)) fun a19 w19 s19 => ?_; clear s18
    refine seq_op s19 rfl rfl (of_decide_eq_true rfl) (ob_lss rfl (.tmp rfl) (opd_int rfl)) fun a20 w20 s20 => ?_; clear s19
    refine wpList_nil ?_
    refine then_normal ?_
    refine hK10 _ _ ?_
    have s21 := s20.sub (.cons (t := 2) rfl (.cons (t := 3) rfl (.cons (t := 4) rfl (.cons (t := 7) rfl (.cons (t := 33) rfl .nil))))); clear s20
    refine cond_split s21 (.tmp rfl) (fun hc2 => ?_) (fun hc2 => ?_)
    · replace h13 := ite_t hc2 h13
      have h14 := h13; clear h13
      refine wp_skip ?_
      refine then_normal ?_
      refine hK9 _ _ ?_
      have s22 := s21.sub (.cons (t := 2) rfl (.cons (t := 3) rfl (.cons (t := 4) rfl (.cons (t := 7) rfl .nil)))); clear s21
      refine wp_seq_k fun K11 hK11 => ?_
      refine wp_block ?_
      refine wp_seq_k fun K12 hK12 => ?_
      obtain ⟨g4, h15⟩ := guard_some h14; clear h14
      obtain ⟨x6, e_x6, h16⟩ := bind_some h15; clear h15
      obtain ⟨g5, h17⟩ := guard_some h16; clear h16
      obtain ⟨x7, e_x7, h18⟩ := bind_some h17; clear h17
      refine wp_drawn (Fs := [((kint .i64).V y1), ((kint .i64).V p3), (kbool.V (y1 != p3)), (kbool.V (y1 != p3)), (Fact.when ((y1 != p3) == true) ((kint .i64).V y1)), (Fact.when ((y1 != p3) == true) (ptrB b2 (y1.toNat * 1))), (Fact.when ((y1 != p3) == true) ((kint .u32).V x6)), (Fact.when ((y1 != p3) == true) ((kint .i64).V y1)), (Fact.when ((y1 != p3) == true) (ptrB b1 (y1.toNat * 1))), (Fact.when ((y1 != p3) == true) ((kint .u32).V x7)), (Fact.when ((y1 != p3) == true) (kbool.V (decide (x6 > x7)))), (kbool.V (if (y1 != p3) then (decide (x6 > x7)) else false))]) (bits := [0, 0, 3, 7, 15, 31, 63, 15, 143, 399, 1023, 2047]) (m := 12) mx s22 (by kernel_rfl) rfl (ops_cons (.plain _ (Av.old (t := 7) rfl rfl Av.nil) rfl rfl (ob_move rfl (.tmp rfl))) (ops_cons (.plain _ (Av.old (t := 2) rfl rfl Av.nil) rfl rfl (ob_move rfl (.tmp rfl))) (ops_cons (.plain _ (Av.new (j := 0) rfl rfl rfl (Av.new (j := 1) rfl rfl rfl Av.nil)) rfl rfl (ob_neq rfl (.tmp rfl) (.tmp rfl))) (ops_cons (.plain _ (Av.new (j := 2) rfl rfl rfl Av.nil) rfl rfl (ob_move rfl (.tmp rfl))) (ops_cons (.guarded _ (Av.old (t := 7) rfl rfl (Av.new (j := 3) rfl rfl rfl Av.nil)) rfl rfl rfl rfl (fun hb => ob_move rfl (.tmp rfl))) (ops_cons (.guarded _ (Av.old (t := 4) rfl rfl (Av.new (j := 3) rfl rfl rfl (Av.new (j := 4) rfl rfl rfl Av.nil))) rfl rfl rfl rfl (fun hb => (Ob.uncond (t := 40) hb rfl (ob_indexAddr rfl Try.underlying24 sz22 (.tmp rfl) (.tmp rfl) (g4 hb).1 (g4 hb).2 (Nat.zero_add _))))) (ops_cons (.guarded _ (Av.new (j := 3) rfl rfl rfl (Av.new (j := 5) rfl rfl rfl Av.nil)) rfl rfl rfl rfl (fun hb => (Ob.uncond (t := 41) hb rfl (ob_load rfl tk22 (.tmp rfl) (List.Mem.head _) (LG.arrA (ite_t hb e_x6)))))) (ops_cons (.guarded _ (Av.old (t := 7) rfl rfl (Av.new (j := 3) rfl rfl rfl Av.nil)) rfl rfl rfl rfl (fun hb => ob_move rfl (.tmp rfl))) (ops_cons (.guarded _ (Av.old (t := 3) rfl rfl (Av.new (j := 3) rfl rfl rfl (Av.new (j := 7) rfl rfl rfl Av.nil))) rfl rfl rfl rfl (fun hb => (Ob.uncond (t := 43) hb rfl (ob_indexAddr rfl Try.underlying24 sz22 (.tmp rfl) (.tmp rfl) (g5 hb).1 (g5 hb).2 (Nat.zero_add _))))) (ops_cons (.guarded _ (Av.new (j := 3) rfl rfl rfl (Av.new (j := 8) rfl rfl rfl Av.nil)) rfl rfl rfl rfl (fun hb => (Ob.uncond (t := 44) hb rfl (ob_load rfl tk22 (.tmp rfl) (List.Mem.tail _ (List.Mem.head _)) (LG.arrA (ite_t hb e_x7)))))) (ops_cons (.guarded _ (Av.new (j := 3) rfl rfl rfl (Av.new (j := 6) rfl rfl rfl (Av.new (j := 9) rfl rfl rfl Av.nil))) rfl rfl rfl rfl (fun hb => (Ob.uncond (t := 45) hb rfl ((Ob.uncond (t := 42) hb rfl (ob_gtr rfl (.tmp rfl) (.tmp rfl))))))) (ops_cons (.plain _ (Av.new (j := 3) rfl rfl rfl (Av.new (j := 10) rfl rfl rfl Av.nil)) rfl rfl (ob_and2 rfl (.tmp rfl) (.tmp rfl) opd_bool)) ops_nil)))))))))))) (out_old (t := 2) rfl rfl (out_old (t := 3) rfl rfl (out_old (t := 4) rfl rfl (out_old (t := 7) rfl rfl (out_new (i := 11) (by decide) rfl rfl out_nil))))) fun a23 w23 s23 => ?_; clear s22
      refine wpList_nil ?_
      refine then_normal ?_
      refine hK12 _ _ ?_
      have s24 := s23.sub (.cons (t := 2) rfl (.cons (t := 3) rfl (.cons (t := 4) rfl (.cons (t := 7) rfl (.cons (t := 47) rfl .nil))))); clear s23
      refine cond_split s24 (.tmp rfl) (fun hc3 => ?_) (fun hc3 => ?_)
      · replace h18 := ite_t hc3 h18
        have h19 := h18; clear h18
        refine wp_seq_k fun K13 hK13 => ?_
        refine wp_region_lit ?_
        refine seq_op s24 rfl rfl (of_decide_eq_true rfl) (ob_assign rfl opd_bool) fun a25 w25 s25 => ?_; clear s24
        refine wpList_nil ?_
        refine then_normal ?_
        refine hK13 _ _ ?_
        have s26 := s25.sub (.cons (t := 6) rfl .nil); clear s25
        have s27 := St.drop (A := []) s26; clear s26
        have s28 := St.drop (A := []) s27; clear s27
        refine wp_ret ?_
        obtain rfl := Option.some.inj h19
        exact leave s28 (.inl rfl) rfl (.cons (.tmp rfl) .nil)
      · replace h18 := ite_f hc3 h18
        have h20 := h18; clear h18
        refine wp_skip ?_
        refine in_normal ?_
        refine then_normal ?_
        refine hK11 _ _ ?_
        have s29 := s24.sub (.cons (t := 2) rfl (.cons (t := 3) rfl (.cons (t := 4) rfl (.cons (t := 7) rfl .nil)))); clear s24
        refine wp_region_lit ?_
        refine seq_op s29 rfl rfl (of_decide_eq_true rfl) (ob_move rfl (.tmp rfl)) fun a30 w30 s30 => ?_; clear s29
        refine seq_op s30 rfl rfl (of_decide_eq_true rfl) (ob_add rfl (.tmp rfl) (opd_int rfl)) fun a31 w31 s31 => ?_; clear s30
        refine seq_op s31 rfl rfl (of_decide_eq_true rfl) (ob_assign rfl (.tmp rfl)) fun a32 w32 s32 => ?_; clear s31
        refine wpList_nil ?_
        refine then_normal ?_
        exact hK8 (iadd .i64 y1 (1 : Int)) _ _ h20 ⟨b2, b1, (s32.sub (.cons rfl (.cons rfl (.cons rfl (.cons rfl .nil)))))⟩
    · replace h13 := ite_f hc2 h13
      have h21 := h13; clear h13
      refine wp_exit ?_
      refine (then_exit (then_exit (in_here ?_)))
      refine then_normal ?_
      have s33 := St.drop (A := []) s21; clear s21
      have s34 := St.drop (A := []) s33; clear s33
      exact hj1 _ _ h21 (s34.sub .nil)

/- 3 cabal/caballaw26.ClockOrders -/
theorem c_caballaw26_ClockOrders (k : Nat) (p1 : (List Int)) (p2 : (List Int)) (p3 : (List (List Int))) (p4 : Int) (r : Bool) (h0 : caballaw26_ClockOrders k p1 p2 p3 p4 = some r) (ok : Ok) (w0 : World) (z0 : Value) (z1 : Value) (z2 : Value) (z3 : Value) (u0 : ((karr 8 (kint .u32)).V p1).holds ok w0 z0) (u1 : ((karr 8 (kint .u32)).V p2).holds ok w0 z1) (u2 : ((ksl (karr 8 (kint .u32))).V p3).holds ok w0 z2) (u3 : ((kint .i64).V p4).holds ok w0 z3) :
    Gives Try.prog 3 [z0, z1, z2, z3] ok w0 (resFact [kbool.V r]) := by
  unfold caballaw26_ClockOrders at h0
  refine enter (N := 72) Try.func3 rfl rfl (of_decide_eq_true rfl) (.cons u0 (.cons u1 (.cons u2 (.cons u3 .nil)))) fun a1 s1 => ?_
  refine wp_seq_k fun K1 hK1 => ?_
  refine wp_region_lit ?_
  refine seq_opx s1 rfl rfl (of_decide_eq_true rfl) (ob_box rfl (.tmp rfl)) fun b1 a2 w2 s2 => ?_; clear s1
  refine seq_opx s2 rfl rfl (of_decide_eq_true rfl) (ob_box rfl (.tmp rfl)) fun b2 a3 w3 s3 => ?_; clear s2
  refine seq_op s3 rfl rfl (of_decide_eq_true rfl) (ob_assign rfl opd_bool) fun a4 w4 s4 => ?_; clear s3
  refine wpList_nil ?_
  refine then_normal ?_
  refine hK1 _ _ ?_
  have s5 := s4.sub (.cons (t := 2) rfl (.cons (t := 3) rfl (.cons (t := 4) rfl (.cons (t := 5) rfl .nil)))); clear s4
  refine wp_seq_k fun K2 hK2 => ?_
  refine wp_seq_k fun K3 hK3 => ?_
  refine wp_region_lit ?_
  obtain ⟨x1, e_x1, h1⟩ := bind_some h0; clear h0
  refine seq_op s5 rfl rfl (of_decide_eq_true rfl) (ob_calls rfl hb5 (fun a w s => c_caballaw26_alive k _ e_x1 _ _)) fun a6 w6 s6 => ?_; clear s5
  refine seq_op s6 rfl rfl (of_decide_eq_true rfl) (ob_not rfl (.tmp rfl)) fun a7 w7 s7 => ?_; clear s6
  refine wpList_nil ?_
  refine then_normal ?_
  refine hK3 _ _ ?_
  have s8 := s7.sub (.cons (t := 2) rfl (.cons (t := 3) rfl (.cons (t := 4) rfl (.cons (t := 5) rfl (.cons (t := 13) rfl .nil))))); clear s7
  refine cond_split s8 (.tmp rfl) (fun hc1 => ?_) (fun hc1 => ?_)
  · replace h1 := ite_t hc1 h1
    have h2 := h1; clear h1
    refine wp_seq_k fun K4 hK4 => ?_
    refine wp_region_lit ?_
    refine seq_op s8 rfl rfl (of_decide_eq_true rfl) (ob_assign rfl opd_bool) fun a9 w9 s9 => ?_; clear s8
    refine wpList_nil ?_
    refine then_normal ?_
    refine hK4 _ _ ?_
    have s10 := s9.sub (.cons (t := 8) rfl .nil); clear s9
    have s11 := St.drop (A := []) s10; clear s10
    have s12 := St.drop (A := []) s11; clear s11
    refine wp_ret ?_
    obtain rfl := Option.some.inj h2
    exact leave s12 (.inl rfl) rfl (.cons (.tmp rfl) .nil)
  · replace h1 := ite_f hc1 h1
    have h3 := h1; clear h1
    refine wp_skip ?_
    refine then_normal ?_
    refine hK2 _ _ ?_
    have s13 := s8.sub (.cons (t := 2) rfl (.cons (t := 3) rfl (.cons (t := 4) rfl (.cons (t := 5) rfl .nil)))); clear s8
    refine wp_seq_k fun K5 hK5 => ?_
    refine wp_seq_k fun K6 hK6 => ?_
    refine wp_region_lit ?_
    refine seq_op s13 rfl rfl (of_decide_eq_true rfl) (ob_move rfl (.tmp rfl)) fun a14 w14 s14 => ?_; clear s13
    refine seq_op s14 rfl rfl (of_decide_eq_true rfl) (ob_lens rfl Try.underlying25 (.tmp rfl)) fun a15 w15 s15 => ?_; clear s14
    refine seq_op s15 rfl rfl (of_decide_eq_true rfl) (ob_gtr rfl (.tmp rfl) (opd_int rfl)) fun a16 w16 s16 => ?_; clear s15
    refine wpList_nil ?_
    refine then_normal ?_
    refine hK6 _ _ ?_
    have s17 := s16.sub (.cons (t := 2) rfl (.cons (t := 3) rfl (.cons (t := 4) rfl (.cons (t := 5) rfl (.cons (t := 16) rfl .nil))))); clear s16
    refine cond_split s17 (.tmp rfl) (fun hc2 => ?_) (fun hc2 => ?_)
    · replace h3 := ite_t hc2 h3
      have h4 := h3; clear h3
      refine wp_seq_k fun K7 hK7 => ?_
      refine wp_region_lit ?_
      obtain ⟨x2, e_x2, h5⟩ := bind_some h4; clear h4
      refine seq_op s17 rfl rfl (of_decide_eq_true rfl) (ob_calls rfl hb5 (fun a w s => c_caballaw26_alive k _ e_x2 _ _)) fun a18 w18 s18 => ?_; clear s17
      refine seq_op s18 rfl rfl (of_decide_eq_true rfl) (ob_assign rfl (.tmp rfl)) fun a19 w19 s19 => ?_; clear s18
      refine wpList_nil ?_
      refine then_normal ?_
      refine hK7 _ _ ?_
      have s20 := s19.sub (.cons (t := 8) rfl .nil); clear s19
      have s21 := St.drop (A := []) s20; clear s20
      have s22 := St.drop (A := []) s21; clear s21
      refine wp_ret ?_
      obtain rfl := Option.some.inj h5
      exact leave s22 (.inl rfl) rfl (.cons (.tmp rfl) .nil)
    · replace h3 := ite_f hc2 h3
      have h6 := h3; clear h3
      refine wp_skip ?_
      refine then_normal ?_
      refine hK5 _ _ ?_
      have s23 := s17.sub (.cons (t := 2) rfl (.cons (t := 3) rfl (.cons (t := 4) rfl (.cons (t := 5) rfl .nil)))); clear s17
      refine wp_seq_k fun K8 hK8 => ?_
      obtain ⟨x3, e_x3, h7⟩ := bind_some h6; clear h6
      obtain ⟨x4, e_x4, h8⟩ := bind_some h7; clear h7
      refine wp_drawn (Fs := [((karr 8 (kint .u32)).V p1), ((karr 8 (kint .u32)).V p2), ((ksl k_api_Span).V x3), ((karr 8 (kint .u32)).V p1), ((karr 8 (kint .u32)).V p2), ((ksl k_api_Span).V x4), ((ksl k_api_Span).V x3), ((ksl k_api_Span).V x4)]) (bits := [0, 0, 3, 0, 0, 31, 63, 127]) (m := 8) mx s23 (by kernel_rfl) rfl (ops_cons (.plain _ (Av.old (t := 4) rfl rfl Av.nil) rfl rfl (ob_load rfl tk24 (.tmp rfl) (List.Mem.tail _ (List.Mem.head _)) (LG.refl _ _))) (ops_cons (.plain _ (Av.old (t := 5) rfl rfl Av.nil) rfl rfl (ob_load rfl tk24 (.tmp rfl) (List.Mem.head _) (LG.refl _ _))) (ops_cons (.plain _ (Av.new (j := 0) rfl rfl rfl (Av.new (j := 1) rfl rfl rfl Av.nil)) rfl rfl (ob_calls rfl hb6 (fun a w s => c_clock_Lacks k _ _ _ e_x3 _ _ _ _ (s.arg (.tmp rfl)) (s.arg (.tmp rfl))))) (ops_cons (.plain _ (Av.old (t := 4) rfl rfl Av.nil) rfl rfl (ob_load rfl tk24 (.tmp rfl) (List.Mem.tail _ (List.Mem.head _)) (LG.refl _ _))) (ops_cons (.plain _ (Av.old (t := 5) rfl rfl Av.nil) rfl rfl (ob_load rfl tk24 (.tmp rfl) (List.Mem.head _) (LG.refl _ _))) (ops_cons (.plain _ (Av.new (j := 3) rfl rfl rfl (Av.new (j := 4) rfl rfl rfl Av.nil)) rfl rfl (ob_calls rfl hb7 (fun a w s => c_cabalref26_Lacks k _ _ _ e_x4 _ _ _ _ (s.arg (.tmp rfl)) (s.arg (.tmp rfl))))) (ops_cons (.plain _ (Av.new (j := 2) rfl rfl rfl Av.nil) rfl rfl (ob_assign rfl (.tmp rfl))) (ops_cons (.plain _ (Av.new (j := 5) rfl rfl rfl Av.nil) rfl rfl (ob_assign rfl (.tmp rfl))) ops_nil)))))))) (out_old (t := 2) rfl rfl (out_old (t := 3) rfl rfl (out_old (t := 4) rfl rfl (out_old (t := 5) rfl rfl (out_new (i := 6) (by decide) rfl rfl (out_new (i := 7) (by decide) rfl rfl out_nil)))))) fun a24 w24 s24 => ?_; clear s23
      refine wpList_nil ?_
      refine then_normal ?_
      refine hK8 _ _ ?_
      have s25 := s24.sub (.cons (t := 2) rfl (.cons (t := 3) rfl (.cons (t := 4) rfl (.cons (t := 5) rfl (.cons (t := 9) rfl (.cons (t := 10) rfl .nil)))))); clear s24
      refine wp_seq_k fun K9 hK9 => ?_
      refine wp_seq_k fun K10 hK10 => ?_
      refine wp_region_lit ?_
      refine seq_op s25 rfl rfl (of_decide_eq_true rfl) (ob_move rfl (.tmp rfl)) fun a26 w26 s26 => ?_; clear s25
      refine seq_op s26 rfl rfl (of_decide_eq_true rfl) (ob_lens rfl Try.underlying27 (.tmp rfl)) fun a27 w27 s27 => ?_; clear s26
      refine seq_op s27 rfl rfl (of_decide_eq_true rfl) (ob_move rfl (.tmp rfl)) fun a28 w28 s28 => ?_; clear s27
      refine seq_op s28 rfl rfl (of_decide_eq_true rfl) (ob_lens rfl Try.underlying27 (.tmp rfl)) fun a29 w29 s29 => ?_; clear s28
      refine seq_op s29 rfl rfl (of_decide_eq_true rfl) (ob_neq rfl (.tmp rfl) (.tmp rfl)) fun a30 w30 s30 => ?_; clear s29
      refine wpList_nil ?_
      refine then_normal ?_
      refine hK10 _ _ ?_
      have s31 := s30.sub (.cons (t := 2) rfl (.cons (t := 3) rfl (.cons (t := 4) rfl (.cons (t := 5) rfl (.cons (t := 9) rfl (.cons (t := 10) rfl (.cons (t := 28) rfl .nil))))))); clear s30
      refine cond_split s31 (.tmp rfl) (fun hc3 => ?_) (fun hc3 => ?_)
      · replace h8 := ite_t hc3 h8
        have h9 := h8; clear h8
        refine wp_seq_k fun K11 hK11 => ?_
        refine wp_region_lit ?_
        refine seq_op s31 rfl rfl (of_decide_eq_true rfl) (ob_assign rfl opd_bool) fun a32 w32 s32 => ?_; clear s31
        refine wpList_nil ?_
        refine then_normal ?_
        refine hK11 _ _ ?_
        have s33 := s32.sub (.cons (t := 8) rfl .nil); clear s32
        have s34 := St.drop (A := []) s33; clear s33
        have s35 := St.drop (A := []) s34; clear s34
        refine wp_ret ?_
        obtain rfl := Option.some.inj h9
        exact leave s35 (.inl rfl) rfl (.cons (.tmp rfl) .nil)
      · replace h8 := ite_f hc3 h8
        have h10 := h8; clear h8
        refine wp_skip ?_
        refine then_normal ?_
        refine hK9 _ _ ?_
        have s36 := s31.sub (.cons (t := 2) rfl (.cons (t := 3) rfl (.cons (t := 4) rfl (.cons (t := 5) rfl (.cons (t := 9) rfl (.cons (t := 10) rfl .nil)))))); clear s31
        refine wp_seq_k fun K12 hK12 => ?_
        refine wp_seq_k fun K13 hK13 => ?_
        refine wp_region_lit ?_
        refine seq_op s36 rfl rfl (of_decide_eq_true rfl) (ob_assign rfl (opd_int rfl)) fun a37 w37 s37 => ?_; clear s36
        refine wpList_nil ?_
        refine then_normal ?_
        refine hK13 _ _ ?_
        have s38 := s37.sub (.cons (t := 2) rfl (.cons (t := 3) rfl (.cons (t := 4) rfl (.cons (t := 5) rfl (.cons (t := 9) rfl (.cons (t := 10) rfl (.cons (t := 11) rfl .nil))))))); clear s37
        have hj1 : ∀ (b2 : Nat) (b1 : Nat) (a : Act) (w : World), (caballaw26_ClockOrders.j1 k p1 p2 p3 p4) = some r → St ⟨72, w0, ok, []⟩ [BF b2 24 (karr 8 (kint .u32)) p2, BF b1 24 (karr 8 (kint .u32)) p1] [(2, ((ksl (karr 8 (kint .u32))).V p3)), (3, ((kint .i64).V p4)), (4, (ptrB b1 0)), (5, (ptrB b2 0))] a w → K12 a w := by
          intro b2 b1 a39 w39 h11 s39
          unfold caballaw26_ClockOrders.j1 at h11
          refine hK12 _ _ ?_
          refine wp_seq_k fun K14 hK14 => ?_
          obtain ⟨x5, e_x5, h12⟩ := bind_some h11; clear h11
          obtain ⟨x6, e_x6, h13⟩ := bind_some h12; clear h12
          obtain ⟨x7, e_x7, h14⟩ := bind_some h13; clear h13
          obtain ⟨x8, e_x8, h15⟩ := bind_some h14; clear h14
          obtain ⟨x9, e_x9, h16⟩ := bind_some h15; clear h15
          obtain ⟨x10, e_x10, h17⟩ := bind_some h16; clear h16; replace e_x10 := Option.some.inj e_x10
          obtain ⟨x11, e_x11, h18⟩ := bind_some h17; clear h17
          obtain ⟨x12, e_x12, h19⟩ := bind_some h18; clear h18
          refine wp_drawn (Fs := [(kbool.V x5), (kbool.V x5), (Fact.when (x5 == true) ((karr 8 (kint .u32)).V p1)), (Fact.when (x5 == true) ((karr 8 (kint .u32)).V p2)), (Fact.when (x5 == true) ((kint .i64).V x6)), (Fact.when (x5 == true) ((karr 8 (kint .u32)).V p1)), (Fact.when (x5 == true) ((karr 8 (kint .u32)).V p2)), (Fact.when (x5 == true) ((kint .i64).V x7)), (Fact.when (x5 == true) (kbool.V (x6 == x7))), (kbool.V (if x5 then (x6 == x7) else false)), (kbool.V (if x5 then (x6 == x7) else false)), (Fact.when ((if x5 then (x6 == x7) else false) == true) ((ksl (karr 8 (kint .u32))).V p3)), (Fact.when ((if x5 then (x6 == x7) else false) == true) ((karr 8 (kint .u32)).V x8)), (Fact.when ((if x5 then (x6 == x7) else false) == true) ((ksl (karr 8 (kint .u32))).V p3)), (Fact.when ((if x5 then (x6 == x7) else false) == true) ((karr 8 (kint .u32)).V x9)), (Fact.when ((if x5 then (x6 == x7) else false) == true) (kbool.V (decide (x8 = x9)))), (kbool.V x10), (kbool.V x10), (Fact.when (x10 == true) ((karr 8 (kint .u32)).V p1)), (Fact.when (x10 == true) ((karr 8 (kint .u32)).V p2)), (Fact.when (x10 == true) ((kint .i64).V p4)), (Fact.when (x10 == true) (kbool.V x11)), (Fact.when (x10 == true) ((karr 8 (kint .u32)).V p1)), (Fact.when (x10 == true) ((karr 8 (kint .u32)).V p2)), (Fact.when (x10 == true) ((kint .i64).V p4)), (Fact.when (x10 == true) (kbool.V x12)), (Fact.when (x10 == true) (kbool.V (decide (x11 = x12)))), (kbool.V (if x10 then (decide (x11 = x12)) else false)), (kbool.V (if x10 then (decide (x11 = x12)) else false))]) (bits := [0, 1, 3, 3, 15, 3, 3, 127, 255, 511, 1023, 2047, 4095, 2047, 16383, 32767, 65535, 131071, 262143, 262143, 262143, 2097151, 262143, 262143, 262143, 33554431, 67108863, 134217727, 268435455]) (m := 29) mx s39 (by kernel_rfl) rfl (ops_cons (.plain _ Av.nil rfl rfl (ob_calls rfl hb5 (fun a w s => c_caballaw26_alive k _ e_x5 _ _))) (ops_cons (.plain _ (Av.new (j := 0) rfl rfl rfl Av.nil) rfl rfl (ob_move rfl (.tmp rfl))) (ops_cons (.guarded _ (Av.old (t := 4) rfl rfl (Av.new (j := 1) rfl rfl rfl Av.nil)) rfl rfl rfl rfl (fun hb => ob_load rfl tk24 (.tmp rfl) (List.Mem.tail _ (List.Mem.head _)) (LG.refl _ _))) (ops_cons (.guarded _ (Av.old (t := 5) rfl rfl (Av.new (j := 1) rfl rfl rfl Av.nil)) rfl rfl rfl rfl (fun hb => ob_load rfl tk24 (.tmp rfl) (List.Mem.head _) (LG.refl _ _))) (ops_cons (.guarded _ (Av.new (j := 1) rfl rfl rfl (Av.new (j := 2) rfl rfl rfl (Av.new (j := 3) rfl rfl rfl Av.nil))) rfl rfl rfl rfl (fun hb => (Ob.uncond (t := 47) hb rfl ((Ob.uncond (t := 46) hb rfl (ob_calls rfl hb8 (fun a w s => c_clock_Order k _ _ _ (ite_t hb e_x6) _ _ _ _ (s.arg (.tmp rfl)) (s.arg (.tmp rfl))))))))) (ops_cons (.guarded _ (Av.old (t := 4) rfl rfl (Av.new (j := 1) rfl rfl rfl Av.nil)) rfl rfl rfl rfl (fun hb => ob_load rfl tk24 (.tmp rfl) (List.Mem.tail _ (List.Mem.head _)) (LG.refl _ _))) (ops_cons (.guarded _ (Av.old (t := 5) rfl rfl (Av.new (j := 1) rfl rfl rfl Av.nil)) rfl rfl rfl rfl (fun hb => ob_load rfl tk24 (.tmp rfl) (List.Mem.head _) (LG.refl _ _))) (ops_cons (.guarded _ (Av.new (j := 1) rfl rfl rfl (Av.new (j := 5) rfl rfl rfl (Av.new (j := 6) rfl rfl rfl Av.nil))) rfl rfl rfl rfl (fun hb => (Ob.uncond (t := 50) hb rfl ((Ob.uncond (t := 49) hb rfl (ob_calls rfl hb9 (fun a w s => c_cabalref26_Order k _ _ _ (ite_t hb e_x7) _ _ _ _ (s.arg (.tmp rfl)) (s.arg (.tmp rfl))))))))) (ops_cons (.guarded _ (Av.new (j := 1) rfl rfl rfl (Av.new (j := 4) rfl rfl rfl (Av.new (j := 7) rfl rfl rfl Av.nil))) rfl rfl rfl rfl (fun hb => (Ob.uncond (t := 51) hb rfl ((Ob.uncond (t := 48) hb rfl (ob_eql rfl (.tmp rfl) (.tmp rfl))))))) (ops_cons (.plain _ (Av.new (j := 1) rfl rfl rfl (Av.new (j := 8) rfl rfl rfl Av.nil)) rfl rfl (ob_and2 rfl (.tmp rfl) (.tmp rfl) opd_bool)) (ops_cons (.plain _ (Av.new (j := 9) rfl rfl rfl Av.nil) rfl rfl (ob_move rfl (.tmp rfl))) (ops_cons (.guarded _ (Av.old (t := 2) rfl rfl (Av.new (j := 10) rfl rfl rfl Av.nil)) rfl rfl rfl rfl (fun hb => ob_move rfl (.tmp rfl))) (ops_cons (.guarded _ (Av.new (j := 10) rfl rfl rfl (Av.new (j := 11) rfl rfl rfl Av.nil)) rfl rfl rfl rfl (fun hb => (Ob.uncond (t := 55) hb rfl (ob_calls rfl hb10 (fun a w s => c_clock_Join k _ _ (ite_t hb e_x8) _ _ _ (s.arg (.tmp rfl))))))) (ops_cons (.guarded _ (Av.old (t := 2) rfl rfl (Av.new (j := 10) rfl rfl rfl Av.nil)) rfl rfl rfl rfl (fun hb => ob_move rfl (.tmp rfl))) (ops_cons (.guarded _ (Av.new (j := 10) rfl rfl rfl (Av.new (j := 13) rfl rfl rfl Av.nil)) rfl rfl rfl rfl (fun hb => (Ob.uncond (t := 57) hb rfl (ob_calls rfl hb11 (fun a w s => c_cabalref26_Join k _ _ (ite_t hb e_x9) _ _ _ (s.arg (.tmp rfl))))))) (ops_cons (.guarded _ (Av.new (j := 10) rfl rfl rfl (Av.new (j := 12) rfl rfl rfl (Av.new (j := 14) rfl rfl rfl Av.nil))) rfl rfl rfl rfl (fun hb => (Ob.uncond (t := 58) hb rfl ((Ob.uncond (t := 56) hb rfl (ob_eqAgg rfl rfl (by kernel_rfl) eq24 (by decide) (.tmp rfl) (.tmp rfl))))))) (ops_cons (.plain _ (Av.new (j := 10) rfl rfl rfl (Av.new (j := 15) rfl rfl rfl Av.nil)) rfl rfl ((ob_and2 rfl (.tmp rfl) (.tmp rfl) opd_bool).nm e_x10)) (ops_cons (.plain _ (Av.new (j := 16) rfl rfl rfl Av.nil) rfl rfl (ob_move rfl (.tmp rfl))) (ops_cons (.guarded _ (Av.old (t := 4) rfl rfl (Av.new (j := 17) rfl rfl rfl Av.nil)) rfl rfl rfl rfl (fun hb => ob_load rfl tk24 (.tmp rfl) (List.Mem.tail _ (List.Mem.head _)) (LG.refl _ _))) (ops_cons (.guarded _ (Av.old (t := 5) rfl rfl (Av.new (j := 17) rfl rfl rfl Av.nil)) rfl rfl rfl rfl (fun hb => ob_load rfl tk24 (.tmp rfl) (List.Mem.head _) (LG.refl _ _))) (ops_cons (.guarded _ (Av.old (t := 3) rfl rfl (Av.new (j := 17) rfl rfl rfl Av.nil)) rfl rfl rfl rfl (fun hb => ob_move rfl (.tmp rfl))) (ops_cons (.guarded _ (Av.new (j := 17) rfl rfl rfl (Av.new (j := 18) rfl rfl rfl (Av.new (j := 19) rfl rfl rfl (Av.new (j := 20) rfl rfl rfl Av.nil)))) rfl rfl rfl rfl (fun hb => (Ob.uncond (t := 64) hb rfl ((Ob.uncond (t := 63) hb rfl ((Ob.uncond (t := 62) hb rfl (ob_calls rfl hb12 (fun a w s => c_clock_Due k _ _ _ _ (ite_t hb e_x11) _ _ _ _ _ (s.arg (.tmp rfl)) (s.arg (.tmp rfl)) (s.arg (.tmp rfl))))))))))) (ops_cons (.guarded _ (Av.old (t := 4) rfl rfl (Av.new (j := 17) rfl rfl rfl Av.nil)) rfl rfl rfl rfl (fun hb => ob_load rfl tk24 (.tmp rfl) (List.Mem.tail _ (List.Mem.head _)) (LG.refl _ _))) (ops_cons (.guarded _ (Av.old (t := 5) rfl rfl (Av.new (j := 17) rfl rfl rfl Av.nil)) rfl rfl rfl rfl (fun hb => ob_load rfl tk24 (.tmp rfl) (List.Mem.head _) (LG.refl _ _))) (ops_cons (.guarded _ (Av.old (t := 3) rfl rfl (Av.new (j := 17) rfl rfl rfl Av.nil)) rfl rfl rfl rfl (fun hb => ob_move rfl (.tmp rfl))) (ops_cons (.guarded _ (Av.new (j := 17) rfl rfl rfl (Av.new (j := 22) rfl rfl rfl (Av.new (j := 23) rfl rfl rfl (Av.new (j := 24) rfl rfl rfl Av.nil)))) rfl rfl rfl rfl (fun hb => (Ob.uncond (t := 68) hb rfl ((Ob.uncond (t := 67) hb rfl ((Ob.uncond (t := 66) hb rfl (ob_calls rfl hb13 (fun a w s => c_cabalref26_Due k _ _ _ _ (ite_t hb e_x12) _ _ _ _ _ (s.arg (.tmp rfl)) (s.arg (.tmp rfl)) (s.arg (.tmp rfl))))))))))) (ops_cons (.guarded _ (Av.new (j := 17) rfl rfl rfl (Av.new (j := 21) rfl rfl rfl (Av.new (j := 25) rfl rfl rfl Av.nil))) rfl rfl rfl rfl (fun hb => (Ob.uncond (t := 69) hb rfl ((Ob.uncond (t := 65) hb rfl (ob_beql rfl Try.underlying4 (.tmp rfl) (.tmp rfl))))))) (ops_cons (.plain _ (Av.new (j := 17) rfl rfl rfl (Av.new (j := 26) rfl rfl rfl Av.nil)) rfl rfl (ob_and2 rfl (.tmp rfl) (.tmp rfl) opd_bool)) (ops_cons (.plain _ (Av.new (j := 27) rfl rfl rfl Av.nil) rfl rfl (ob_assign rfl (.tmp rfl))) ops_nil))))))))))))))))))))))))))))) (out_new (i := 28) (by decide) rfl rfl out_nil) fun a40 w40 s40 => ?_; clear s39
          refine wpList_nil ?_
          refine then_normal ?_
          refine hK14 _ _ ?_
          have s41 := s40.sub (.cons (t := 8) rfl .nil); clear s40
          have s42 := St.drop (A := []) s41; clear s41
          have s43 := St.drop (A := []) s42; clear s42
          refine wp_ret ?_
          obtain rfl := Option.some.inj h19
          exact leave s43 (.inl rfl) rfl (.cons (.tmp rfl) .nil)
        refine wp_block ?_
        refine wp_loop_fuel (fun m (q : Int) => caballaw26_ClockOrders.l1 k x3 x4 p1 p2 p3 p4 m q) r (fun _ => rfl) (fun q a w => ∃ (b2 : Nat) (b1 : Nat), St ⟨72, w0, ok, []⟩ [BF b2 24 (karr 8 (kint .u32)) p2, BF b1 24 (karr 8 (kint .u32)) p1] [(2, ((ksl (karr 8 (kint .u32))).V p3)), (3, ((kint .i64).V p4)), (4, (ptrB b1 0)), (5, (ptrB b2 0)), (9, ((ksl k_api_Span).V x3)), (10, ((ksl k_api_Span).V x4)), (11, ((kint .i64).V q))] a w) ?_ k (0 : Int) _ _ h10 ⟨b2, b1, (s38.sub (.cons rfl (.cons rfl (.cons rfl (.cons rfl (.cons rfl (.cons rfl (.cons rfl .nil))))))))⟩
        rintro n1 y1 a44 w44 h20 ⟨b2, b1, s44⟩ K15 hK15
        replace h20 : caballaw26_ClockOrders.l1 k x3 x4 p1 p2 p3 p4 (n1 + 1) y1 = some r := h20; rw [caballaw26_ClockOrders.l1] at h20
        have h21 := h20; clear h20
        refine wp_seq_k fun K16 hK16 => ?_
        refine wp_seq_k fun K17 hK17 => ?_
        refine wp_region_lit ?_
        refine seq_op s44 rfl rfl (of_decide_eq_true rfl) (ob_move rfl (.tmp rfl)) fun a45 w45 s45 => ?_; clear s44
        refine seq_op s45 rfl rfl (of_decide_eq_true rfl) (ob_move rfl (.tmp rfl)) fun a46 w46 s46 => ?_; clear s45
        refine seq_op s46 rfl rfl (of_decide_eq_true rfl) (ob_lens rfl Try.underlying27 (.tmp rfl)) fun a47 w47 s47 => ?_; clear s46
        refine seq_op s47 rfl rfl (of_decide_eq_true rfl) (ob_lss rfl (.tmp rfl) (.tmp rfl)) fun a48 w48 s48 => ?_; clear s47
        refine wpList_nil ?_
        refine then_normal ?_
        refine hK17 _ _ ?_
        have s49 := s48.sub (.cons (t := 2) rfl (.cons (t := 3) rfl (.cons (t := 4) rfl (.cons (t := 5) rfl (.cons (t := 9) rfl (.cons (t := 10) rfl (.cons (t := 11) rfl (.cons (t := 32) rfl .nil)))))))); clear s48
        refine cond_split s49 (.tmp rfl) (fun hc4 => ?_) (fun hc4 => ?_)
        · replace h21 := ite_t hc4 h21
          have h22 := h21; clear h21
          refine wp_skip ?_
          refine then_normal ?_
          refine hK16 _ _ ?_
          have s50 := s49.sub (.cons (t := 2) rfl (.cons (t := 3) rfl (.cons (t := 4) rfl (.cons (t := 5) rfl (.cons (t := 9) rfl (.cons (t := 10) rfl (.cons (t := 11) rfl .nil))))))); clear s49
          refine wp_seq_k fun K18 hK18 => ?_
          refine wp_block ?_
          refine wp_seq_k fun K19 hK19 => ?_
          obtain ⟨x13, e_x13, h23⟩ := bind_some h22; clear h22
          obtain ⟨x14, e_x14, h24⟩ := bind_some h23; clear h23
          refine wp_drawn (Fs := [((ksl k_api_Span).V x3), ((kint .i64).V y1), (ptrTo k_api_Span x13), (k_api_Span.V x13), ((ksl k_api_Span).V x4), ((kint .i64).V y1), (ptrTo k_api_Span x14), (k_api_Span.V x14), (kbool.V (!decide (x13 = x14)))]) (bits := [0, 0, 3, 7, 0, 0, 48, 112, 255]) (m := 9) mx s50 (by kernel_rfl) rfl (ops_cons (.plain _ (Av.old (t := 9) rfl rfl Av.nil) rfl rfl (ob_move rfl (.tmp rfl))) (ops_cons (.plain _ (Av.old (t := 11) rfl rfl Av.nil) rfl rfl (ob_move rfl (.tmp rfl))) (ops_cons (.plain _ (Av.new (j := 0) rfl rfl rfl (Av.new (j := 1) rfl rfl rfl Av.nil)) rfl rfl (ob_indexAddrs rfl Try.underlying27 sz30 (.tmp rfl) (.tmp rfl) e_x13)) (ops_cons (.plain _ (Av.new (j := 2) rfl rfl rfl Av.nil) rfl rfl (ob_loadr rfl tk30 (.tmp rfl))) (ops_cons (.plain _ (Av.old (t := 10) rfl rfl Av.nil) rfl rfl (ob_move rfl (.tmp rfl))) (ops_cons (.plain _ (Av.old (t := 11) rfl rfl Av.nil) rfl rfl (ob_move rfl (.tmp rfl))) (ops_cons (.plain _ (Av.new (j := 4) rfl rfl rfl (Av.new (j := 5) rfl rfl rfl Av.nil)) rfl rfl (ob_indexAddrs rfl Try.underlying27 sz30 (.tmp rfl) (.tmp rfl) e_x14)) (ops_cons (.plain _ (Av.new (j := 6) rfl rfl rfl Av.nil) rfl rfl (ob_loadr rfl tk30 (.tmp rfl))) (ops_cons (.plain _ (Av.new (j := 3) rfl rfl rfl (Av.new (j := 7) rfl rfl rfl Av.nil)) rfl rfl (ob_neqAgg rfl rfl (by kernel_rfl) eq30 (by decide) (.tmp rfl) (.tmp rfl))) ops_nil))))))))) (out_old (t := 2) rfl rfl (out_old (t := 3) rfl rfl (out_old (t := 4) rfl rfl (out_old (t := 5) rfl rfl (out_old (t := 9) rfl rfl (out_old (t := 10) rfl rfl (out_old (t := 11) rfl rfl (out_new (i := 8) (by decide) rfl rfl out_nil)))))))) fun a51 w51 s51 => ?_; clear s50
          refine wpList_nil ?_
          refine then_normal ?_
          refine hK19 _ _ ?_
          have s52 := s51.sub (.cons (t := 2) rfl (.cons (t := 3) rfl (.cons (t := 4) rfl (.cons (t := 5) rfl (.cons (t := 9) rfl (.cons (t := 10) rfl (.cons (t := 11) rfl (.cons (t := 43) rfl .nil)))))))); clear s51
          refine cond_split s52 (.tmp rfl) (fun hc5 => ?_) (fun hc5 => ?_)
          · replace h24 := ite_t hc5 h24
            have h25 := h24; clear h24
            refine wp_seq_k fun K20 hK20 => ?_
            refine wp_region_lit ?_
            refine seq_op s52 rfl rfl (of_decide_eq_true rfl) (ob_assign rfl opd_bool) fun a53 w53 s53 => ?_; clear s52
            refine wpList_nil ?_
            refine then_normal ?_
            refine hK20 _ _ ?_
            have s54 := s53.sub (.cons (t := 8) rfl .nil); clear s53
            have s55 := St.drop (A := []) s54; clear s54
            have s56 := St.drop (A := []) s55; clear s55
            refine wp_ret ?_
            obtain rfl := Option.some.inj h25
            exact leave s56 (.inl rfl) rfl (.cons (.tmp rfl) .nil)
          · replace h24 := ite_f hc5 h24
            have h26 := h24; clear h24
            refine wp_skip ?_
            refine in_normal ?_
            refine then_normal ?_
            refine hK18 _ _ ?_
            have s57 := s52.sub (.cons (t := 2) rfl (.cons (t := 3) rfl (.cons (t := 4) rfl (.cons (t := 5) rfl (.cons (t := 9) rfl (.cons (t := 10) rfl (.cons (t := 11) rfl .nil))))))); clear s52
            refine wp_region_lit ?_
            refine seq_op s57 rfl rfl (of_decide_eq_true rfl) (ob_move rfl (.tmp rfl)) fun a58 w58 s58 => ?_; clear s57
            refine seq_op s58 rfl rfl (of_decide_eq_true rfl) (ob_add rfl (.tmp rfl) (opd_int rfl)) fun a59 w59 s59 => ?_; clear s58
            refine seq_op s59 rfl rfl (of_decide_eq_true rfl) (ob_assign rfl (.tmp rfl)) fun a60 w60 s60 => ?_; clear s59
            refine wpList_nil ?_
            refine then_normal ?_
            exact hK15 (iadd .i64 y1 (1 : Int)) _ _ h26 ⟨b2, b1, (s60.sub (.cons rfl (.cons rfl (.cons rfl (.cons rfl (.cons rfl (.cons rfl (.cons rfl .nil))))))))⟩
        · replace h21 := ite_f hc4 h21
          have h27 := h21; clear h21
          refine wp_exit ?_
          refine (then_exit (then_exit (in_here ?_)))
          refine then_normal ?_
          exact hj1 b2 b1 _ _ h27 (s49.sub (.cons rfl (.cons rfl (.cons rfl (.cons rfl .nil)))))

/- 14 cabal/caballaw26.most -/
theorem c_caballaw26_most (k : Nat) (p1 : (List Int)) (p2 : (List Int)) (r : Bool) (h0 : caballaw26_most k p1 p2 = some r) (ok : Ok) (w0 : World) (z0 : Value) (z1 : Value) (u0 : ((karr 8 (kint .u32)).V p1).holds ok w0 z0) (u1 : ((karr 8 (kint .u32)).V p2).holds ok w0 z1) :
    Gives Try.prog 14 [z0, z1] ok w0 (resFact [kbool.V r]) := by
  unfold caballaw26_most at h0
  refine enter (N := 15) Try.func14 rfl rfl (of_decide_eq_true rfl) (.cons u0 (.cons u1 .nil)) fun a1 s1 => ?_
  refine wp_seq_k fun K1 hK1 => ?_
  refine wp_region_lit ?_
  refine seq_opx s1 rfl rfl (of_decide_eq_true rfl) (ob_box rfl (.tmp rfl)) fun b1 a2 w2 s2 => ?_; clear s1
  refine seq_opx s2 rfl rfl (of_decide_eq_true rfl) (ob_box rfl (.tmp rfl)) fun b2 a3 w3 s3 => ?_; clear s2
  refine seq_op s3 rfl rfl (of_decide_eq_true rfl) (ob_assign rfl opd_bool) fun a4 w4 s4 => ?_; clear s3
  refine wpList_nil ?_
  refine then_normal ?_
  refine hK1 _ _ ?_
  have s5 := s4.sub (.cons (t := 2) rfl (.cons (t := 3) rfl .nil)); clear s4
  refine wp_seq_k fun K2 hK2 => ?_
  refine wp_region_lit ?_
  refine seq_op s5 rfl rfl (of_decide_eq_true rfl) (ob_load rfl tk24 (.tmp rfl) (List.Mem.tail _ (List.Mem.head _)) (LG.refl _ _)) fun a6 w6 s6 => ?_; clear s5
  refine seq_op s6 rfl rfl (of_decide_eq_true rfl) (ob_load rfl tk24 (.tmp rfl) (List.Mem.head _) (LG.refl _ _)) fun a7 w7 s7 => ?_; clear s6
  obtain ⟨x1, e_x1, h1⟩ := bind_some h0; clear h0
  refine seq_op s7 rfl rfl (of_decide_eq_true rfl) (ob_calls rfl hb8 (fun a w s => c_clock_Order k _ _ _ e_x1 _ _ _ _ (s.arg (.tmp rfl)) (s.arg (.tmp rfl)))) fun a8 w8 s8 => ?_; clear s7
  refine seq_op s8 rfl rfl (of_decide_eq_true rfl) (ob_eql rfl (.tmp rfl) (opd_int rfl)) fun a9 w9 s9 => ?_; clear s8
  refine seq_op s9 rfl rfl (of_decide_eq_true rfl) (ob_move rfl (.tmp rfl)) fun a10 w10 s10 => ?_; clear s9
  refine seq_opg s10 rfl rfl rfl rfl (of_decide_eq_true rfl) (fun hb => ob_load rfl tk24 (.tmp rfl) (List.Mem.tail _ (List.Mem.head _)) (LG.refl _ _)) fun a11 w11 s11 => ?_; clear s10
  refine seq_opg s11 rfl rfl rfl rfl (of_decide_eq_true rfl) (fun hb => ob_load rfl tk24 (.tmp rfl) (List.Mem.head _) (LG.refl _ _)) fun a12 w12 s12 => ?_; clear s11
  obtain ⟨x2, e_x2, h2⟩ := bind_some h1; clear h1
  refine seq_opg s12 rfl rfl rfl rfl (of_decide_eq_true rfl) (fun hb => (Ob.uncond (t := 11) hb rfl ((Ob.uncond (t := 10) hb rfl (ob_calls rfl hb8 (fun a w s => c_clock_Order k _ _ _ (ite_t hb e_x2) _ _ _ _ (s.arg (.tmp rfl)) (s.arg (.tmp rfl)))))))) fun a13 w13 s13 => ?_; clear s12
  refine seq_opg s13 rfl rfl rfl rfl (of_decide_eq_true rfl) (fun hb => (Ob.uncond (t := 12) hb rfl (ob_eql rfl (.tmp rfl) (opd_int rfl)))) fun a14 w14 s14 => ?_; clear s13
  refine seq_op s14 rfl rfl (of_decide_eq_true rfl) (ob_or2 rfl (.tmp rfl) opd_bool (.tmp rfl)) fun a15 w15 s15 => ?_; clear s14
  refine seq_op s15 rfl rfl (of_decide_eq_true rfl) (ob_assign rfl (.tmp rfl)) fun a16 w16 s16 => ?_; clear s15
  refine wpList_nil ?_
  refine then_normal ?_
  refine hK2 _ _ ?_
  have s17 := s16.sub (.cons (t := 4) rfl .nil); clear s16
  have s18 := St.drop (A := []) s17; clear s17
  have s19 := St.drop (A := []) s18; clear s18
  refine wp_ret ?_
  obtain rfl := Option.some.inj h2
  exact leave s19 (.inl rfl) rfl (.cons (.tmp rfl) .nil)

/- 4 cabal/caballaw26.ClockLattice -/
theorem c_caballaw26_ClockLattice (k : Nat) (p1 : (List Int)) (p2 : (List Int)) (p3 : (List Int)) (r : Bool) (h0 : caballaw26_ClockLattice k p1 p2 p3 = some r) (ok : Ok) (w0 : World) (z0 : Value) (z1 : Value) (z2 : Value) (u0 : ((karr 8 (kint .u32)).V p1).holds ok w0 z0) (u1 : ((karr 8 (kint .u32)).V p2).holds ok w0 z1) (u2 : ((karr 8 (kint .u32)).V p3).holds ok w0 z2) :
    Gives Try.prog 4 [z0, z1, z2] ok w0 (resFact [kbool.V r]) := by
  unfold caballaw26_ClockLattice at h0
  refine enter (N := 97) Try.func4 rfl rfl (of_decide_eq_true rfl) (.cons u0 (.cons u1 (.cons u2 .nil))) fun a1 s1 => ?_
  refine wp_seq_k fun K1 hK1 => ?_
  refine wp_region_lit ?_
  refine seq_opx s1 rfl rfl (of_decide_eq_true rfl) (ob_box rfl (.tmp rfl)) fun b1 a2 w2 s2 => ?_; clear s1
  refine seq_opx s2 rfl rfl (of_decide_eq_true rfl) (ob_box rfl (.tmp rfl)) fun b2 a3 w3 s3 => ?_; clear s2
  refine seq_opx s3 rfl rfl (of_decide_eq_true rfl) (ob_box rfl (.tmp rfl)) fun b3 a4 w4 s4 => ?_; clear s3
  refine seq_op s4 rfl rfl (of_decide_eq_true rfl) (ob_assign rfl opd_bool) fun a5 w5 s5 => ?_; clear s4
  refine wpList_nil ?_
  refine then_normal ?_
  refine hK1 _ _ ?_
  have s6 := s5.sub (.cons (t := 3) rfl (.cons (t := 4) rfl (.cons (t := 5) rfl .nil))); clear s5
  refine wp_seq_k fun K2 hK2 => ?_
  refine wp_seq_k fun K3 hK3 => ?_
  refine wp_region_lit ?_
  obtain ⟨x1, e_x1, h1⟩ := bind_some h0; clear h0
  refine seq_op s6 rfl rfl (of_decide_eq_true rfl) (ob_calls rfl hb5 (fun a w s => c_caballaw26_alive k _ e_x1 _ _)) fun a7 w7 s7 => ?_; clear s6
  refine seq_op s7 rfl rfl (of_decide_eq_true rfl) (ob_not rfl (.tmp rfl)) fun a8 w8 s8 => ?_; clear s7
  refine wpList_nil ?_
  refine then_normal ?_
  refine hK3 _ _ ?_
  have s9 := s8.sub (.cons (t := 3) rfl (.cons (t := 4) rfl (.cons (t := 5) rfl (.cons (t := 9) rfl .nil)))); clear s8
  refine cond_split s9 (.tmp rfl) (fun hc1 => ?_) (fun hc1 => ?_)
  · replace h1 := ite_t hc1 h1
    have h2 := h1; clear h1
    refine wp_seq_k fun K4 hK4 => ?_
    refine wp_region_lit ?_
    refine seq_op s9 rfl rfl (of_decide_eq_true rfl) (ob_assign rfl opd_bool) fun a10 w10 s10 => ?_; clear s9
    refine wpList_nil ?_
    refine then_normal ?_
    refine hK4 _ _ ?_
    have s11 := s10.sub (.cons (t := 6) rfl .nil); clear s10
    have s12 := St.drop (A := []) s11; clear s11
    have s13 := St.drop (A := []) s12; clear s12
    have s14 := St.drop (A := []) s13; clear s13
    refine wp_ret ?_
    obtain rfl := Option.some.inj h2
    exact leave s14 (.inl rfl) rfl (.cons (.tmp rfl) .nil)
  · replace h1 := ite_f hc1 h1
    have h3 := h1; clear h1
    refine wp_skip ?_
    refine then_normal ?_
    refine hK2 _ _ ?_
    have s15 := s9.sub (.cons (t := 3) rfl (.cons (t := 4) rfl (.cons (t := 5) rfl .nil))); clear s9
    refine wp_seq_k fun K5 hK5 => ?_
    refine wp_region_lit ?_
    refine seq_op s15 rfl rfl (of_decide_eq_true rfl) (ob_load rfl tk24 (.tmp rfl) (List.Mem.tail _ (List.Mem.tail _ (List.Mem.head _))) (LG.refl _ _)) fun a16 w16 s16 => ?_; clear s15
    refine seq_op s16 rfl rfl (of_decide_eq_true rfl) (ob_load rfl tk24 (.tmp rfl) (List.Mem.tail _ (List.Mem.head _)) (LG.refl _ _)) fun a17 w17 s17 => ?_; clear s16
    refine seq_op s17 rfl rfl (of_decide_eq_true rfl) (ob_mkSlice (k := (karr 8 (kint .u32))) (xs := ([p1, p2] : (List (List Int)))) rfl Try.underlying25 zz24 sz24 (Zr.arr 8 (Zr.int .u32)) (by decide) (by decide) (.cons (.tmp rfl) rfl (LS.arr' (i := 0) (ys := ([p1, (List.replicate 8 (0 : Int))] : (List (List Int)))) (by simp) (by rfl)) (.cons (.tmp rfl) rfl (LS.arr' (i := 1) (ys := ([p1, p2] : (List (List Int)))) (by simp) (by rfl)) (.nil _)))) fun a18 w18 s18 => ?_; clear s17
    obtain ⟨x2, e_x2, h4⟩ := bind_some h3; clear h3
    refine seq_op s18 rfl rfl (of_decide_eq_true rfl) (ob_calls rfl hb10 (fun a w s => c_clock_Join k _ _ e_x2 _ _ _ (s.arg (.tmp rfl)))) fun a19 w19 s19 => ?_; clear s18
    refine seq_opx s19 rfl rfl (of_decide_eq_true rfl) (ob_new (k := (karr 8 (kint .u32))) rfl zz24 (Zr.arr 8 (Zr.int .u32))) fun b4 a20 w20 s20 => ?_; clear s19
    refine seq_opx0 (B' := fun _ => [BF b4 24 (karr 8 (kint .u32)) x2, BF b3 24 (karr 8 (kint .u32)) p3, BF b2 24 (karr 8 (kint .u32)) p2, BF b1 24 (karr 8 (kint .u32)) p1]) s20 rfl rfl (ob_store (A := []) rfl tk24 (.tmp rfl) (.tmp rfl) rfl (LS.refl _ _ _) rfl) fun _ a21 w21 s21 => ?_; clear s20
    refine wpList_nil ?_
    refine then_normal ?_
    refine hK5 _ _ ?_
    have s22 := s21.sub (.cons (t := 3) rfl (.cons (t := 4) rfl (.cons (t := 5) rfl (.cons (t := 7) rfl .nil)))); clear s21
    refine wp_seq_k fun K6 hK6 => ?_
    refine wp_seq_k fun K7 hK7 => ?_
    obtain ⟨x3, e_x3, h5⟩ := bind_some h4; clear h4
    obtain ⟨x4, e_x4, h6⟩ := bind_some h5; clear h5
    obtain ⟨x5, e_x5, h7⟩ := bind_some h6; clear h6
    obtain ⟨x6, e_x6, h8⟩ := bind_some h7; clear h7
    obtain ⟨x7, e_x7, h9⟩ := bind_some h8; clear h8
    obtain ⟨x8, e_x8, h10⟩ := bind_some h9; clear h9; replace e_x8 := Option.some.inj e_x8
    obtain ⟨x9, e_x9, h11⟩ := bind_some h10; clear h10
    refine wp_drawn (Fs := [((karr 8 (kint .u32)).V p1), ((karr 8 (kint .u32)).V x2), (kbool.V x3), (kbool.V (!x3)), (kbool.V (!x3)), (Fact.when ((!x3) == false) ((karr 8 (kint .u32)).V p2)), (Fact.when ((!x3) == false) ((karr 8 (kint .u32)).V x2)), (Fact.when ((!x3) == false) (kbool.V x4)), (Fact.when ((!x3) == false) (kbool.V (!x4))), (kbool.V (if (!x3) then true else (!x4))), (kbool.V (if (!x3) then true else (!x4))), (Fact.when ((if (!x3) then true else (!x4)) == false) ((karr 8 (kint .u32)).V x2)), (Fact.when ((if (!x3) then true else (!x4)) == false) ((karr 8 (kint .u32)).V p3)), (Fact.when ((if (!x3) then true else (!x4)) == false) ((ksl (karr 8 (kint .u32))).V ([x2, p3] : (List (List Int))))), (Fact.when ((if (!x3) then true else (!x4)) == false) ((karr 8 (kint .u32)).V x5)), (Fact.when ((if (!x3) then true else (!x4)) == false) ((karr 8 (kint .u32)).V p1)), (Fact.when ((if (!x3) then true else (!x4)) == false) ((karr 8 (kint .u32)).V p2)), (Fact.when ((if (!x3) then true else (!x4)) == false) ((karr 8 (kint .u32)).V p3)), (Fact.when ((if (!x3) then true else (!x4)) == false) ((ksl (karr 8 (kint .u32))).V ([p2, p3] : (List (List Int))))), (Fact.when ((if (!x3) then true else (!x4)) == false) ((karr 8 (kint .u32)).V x6)), (Fact.when ((if (!x3) then true else (!x4)) == false) ((ksl (karr 8 (kint .u32))).V ([p1, x6] : (List (List Int))))), (Fact.when ((if (!x3) then true else (!x4)) == false) ((karr 8 (kint .u32)).V x7)), (Fact.when ((if (!x3) then true else (!x4)) == false) (kbool.V (!decide (x5 = x7)))), (kbool.V x8), (kbool.V x8), (Fact.when (x8 == false) ((karr 8 (kint .u32)).V p2)), (Fact.when (x8 == false) ((karr 8 (kint .u32)).V p1)), (Fact.when (x8 == false) ((ksl (karr 8 (kint .u32))).V ([p2, p1] : (List (List Int))))), (Fact.when (x8 == false) ((karr 8 (kint .u32)).V x9)), (Fact.when (x8 == false) ((karr 8 (kint .u32)).V x2)), (Fact.when (x8 == false) (kbool.V (!decide (x9 = x2)))), (kbool.V (if x8 then true else (!decide (x9 = x2))))]) (bits := [0, 0, 3, 7, 15, 31, 31, 127, 255, 511, 1023, 2047, 2047, 8191, 16383, 2047, 2047, 2047, 198655, 491519, 1048575, 2097151, 4194303, 8388607, 16777215, 33554431, 33554431, 134217727, 268435455, 33554431, 1073741823, 2147483647]) (m := 32) mx s22 (by kernel_rfl) rfl (ops_cons (.plain _ (Av.old (t := 3) rfl rfl Av.nil) rfl rfl (ob_load rfl tk24 (.tmp rfl) (List.Mem.tail _ (List.Mem.tail _ (List.Mem.tail _ (List.Mem.head _)))) (LG.refl _ _))) (ops_cons (.plain _ (Av.old (t := 7) rfl rfl Av.nil) rfl rfl (ob_load rfl tk24 (.tmp rfl) (List.Mem.head _) (LG.refl _ _))) (ops_cons (.plain _ (Av.new (j := 0) rfl rfl rfl (Av.new (j := 1) rfl rfl rfl Av.nil)) rfl rfl (ob_calls rfl hb14 (fun a w s => c_caballaw26_most k _ _ _ e_x3 _ _ _ _ (s.arg (.tmp rfl)) (s.arg (.tmp rfl))))) (ops_cons (.plain _ (Av.new (j := 2) rfl rfl rfl Av.nil) rfl rfl (ob_not rfl (.tmp rfl))) (ops_cons (.plain _ (Av.new (j := 3) rfl rfl rfl Av.nil) rfl rfl (ob_move rfl (.tmp rfl))) (ops_cons (.guarded _ (Av.old (t := 4) rfl rfl (Av.new (j := 4) rfl rfl rfl Av.nil)) rfl rfl rfl rfl (fun hb => ob_load rfl tk24 (.tmp rfl) (List.Mem.tail _ (List.Mem.tail _ (List.Mem.head _))) (LG.refl _ _))) (ops_cons (.guarded _ (Av.old (t := 7) rfl rfl (Av.new (j := 4) rfl rfl rfl Av.nil)) rfl rfl rfl rfl (fun hb => ob_load rfl tk24 (.tmp rfl) (List.Mem.head _) (LG.refl _ _))) (ops_cons (.guarded _ (Av.new (j := 4) rfl rfl rfl (Av.new (j := 5) rfl rfl rfl (Av.new (j := 6) rfl rfl rfl Av.nil))) rfl rfl rfl rfl (fun hb => (Ob.uncond (t := 20) hb rfl ((Ob.uncond (t := 19) hb rfl (ob_calls rfl hb14 (fun a w s => c_caballaw26_most k _ _ _ (ite_t hb e_x4) _ _ _ _ (s.arg (.tmp rfl)) (s.arg (.tmp rfl))))))))) (ops_cons (.guarded _ (Av.new (j := 4) rfl rfl rfl (Av.new (j := 7) rfl rfl rfl Av.nil)) rfl rfl rfl rfl (fun hb => (Ob.uncond (t := 21) hb rfl (ob_not rfl (.tmp rfl))))) (ops_cons (.plain _ (Av.new (j := 4) rfl rfl rfl (Av.new (j := 8) rfl rfl rfl Av.nil)) rfl rfl (ob_or2 rfl (.tmp rfl) opd_bool (.tmp rfl))) (ops_cons (.plain _ (Av.new (j := 9) rfl rfl rfl Av.nil) rfl rfl (ob_move rfl (.tmp rfl))) (ops_cons (.guarded _ (Av.old (t := 7) rfl rfl (Av.new (j := 10) rfl rfl rfl Av.nil)) rfl rfl rfl rfl (fun hb => ob_load rfl tk24 (.tmp rfl) (List.Mem.head _) (LG.refl _ _))) (ops_cons (.guarded _ (Av.old (t := 5) rfl rfl (Av.new (j := 10) rfl rfl rfl Av.nil)) rfl rfl rfl rfl (fun hb => ob_load rfl tk24 (.tmp rfl) (List.Mem.tail _ (List.Mem.head _)) (LG.refl _ _))) (ops_cons (.guarded _ (Av.new (j := 10) rfl rfl rfl (Av.new (j := 11) rfl rfl rfl (Av.new (j := 12) rfl rfl rfl Av.nil))) rfl rfl rfl rfl (fun hb => (Ob.uncond (t := 26) hb rfl ((Ob.uncond (t := 25) hb rfl (ob_mkSlice (k := (karr 8 (kint .u32))) (xs := ([x2, p3] : (List (List Int)))) rfl Try.underlying25 zz24 sz24 (Zr.arr 8 (Zr.int .u32)) (by decide) (by decide) (.cons (.tmp rfl) rfl (LS.arr' (i := 0) (ys := ([x2, (List.replicate 8 (0 : Int))] : (List (List Int)))) (by simp) (by rfl)) (.cons (.tmp rfl) rfl (LS.arr' (i := 1) (ys := ([x2, p3] : (List (List Int)))) (by simp) (by rfl)) (.nil _))))))))) (ops_cons (.guarded _ (Av.new (j := 10) rfl rfl rfl (Av.new (j := 13) rfl rfl rfl Av.nil)) rfl rfl rfl rfl (fun hb => (Ob.uncond (t := 27) hb rfl (ob_calls rfl hb10 (fun a w s => c_clock_Join k _ _ (ite_t hb e_x5) _ _ _ (s.arg (.tmp rfl))))))) (ops_cons (.guarded _ (Av.old (t := 3) rfl rfl (Av.new (j := 10) rfl rfl rfl Av.nil)) rfl rfl rfl rfl (fun hb => ob_load rfl tk24 (.tmp rfl) (List.Mem.tail _ (List.Mem.tail _ (List.Mem.tail _ (List.Mem.head _)))) (LG.refl _ _))) (ops_cons (.guarded _ (Av.old (t := 4) rfl rfl (Av.new (j := 10) rfl rfl rfl Av.nil)) rfl rfl rfl rfl (fun hb => ob_load rfl tk24 (.tmp rfl) (List.Mem.tail _ (List.Mem.tail _ (List.Mem.head _))) (LG.refl _ _))) (ops_cons (.guarded _ (Av.old (t := 5) rfl rfl (Av.new (j := 10) rfl rfl rfl Av.nil)) rfl rfl rfl rfl (fun hb => ob_load rfl tk24 (.tmp rfl) (List.Mem.tail _ (List.Mem.head _)) (LG.refl _ _))) (ops_cons (.guarded _ (Av.new (j := 10) rfl rfl rfl (Av.new (j := 16) rfl rfl rfl (Av.new (j := 17) rfl rfl rfl Av.nil))) rfl rfl rfl rfl (fun hb => (Ob.uncond (t := 31) hb rfl ((Ob.uncond (t := 30) hb rfl (ob_mkSlice (k := (karr 8 (kint .u32))) (xs := ([p2, p3] : (List (List Int)))) rfl Try.underlying25 zz24 sz24 (Zr.arr 8 (Zr.int .u32)) (by decide) (by decide) (.cons (.tmp rfl) rfl (LS.arr' (i := 0) (ys := ([p2, (List.replicate 8 (0 : Int))] : (List (List Int)))) (by simp) (by rfl)) (.cons (.tmp rfl) rfl (LS.arr' (i := 1) (ys := ([p2, p3] : (List (List Int)))) (by simp) (by rfl)) (.nil _))))))))) (ops_cons (.guarded _ (Av.new (j := 10) rfl rfl rfl (Av.new (j := 18) rfl rfl rfl Av.nil)) rfl rfl rfl rfl (fun hb => (Ob.uncond (t := 32) hb rfl (ob_calls rfl hb10 (fun a w s => c_clock_Join k _ _ (ite_t hb e_x6) _ _ _ (s.arg (.tmp rfl))))))) (ops_cons (.guarded _ (Av.new (j := 10) rfl rfl rfl (Av.new (j := 15) rfl rfl rfl (Av.new (j := 19) rfl rfl rfl Av.nil))) rfl rfl rfl rfl (fun hb => (Ob.uncond (t := 33) hb rfl ((Ob.uncond (t := 29) hb rfl (ob_mkSlice (k := (karr 8 (kint .u32))) (xs := ([p1, x6] : (List (List Int)))) rfl Try.underlying25 zz24 sz24 (Zr.arr 8 (Zr.int .u32)) (by decide) (by decide) (.cons (.tmp rfl) rfl (LS.arr' (i := 0) (ys := ([p1, (List.replicate 8 (0 : Int))] : (List (List Int)))) (by simp) (by rfl)) (.cons (.tmp rfl) rfl (LS.arr' (i := 1) (ys := ([p1, x6] : (List (List Int)))) (by simp) (by rfl)) (.nil _))))))))) (ops_cons (.guarded _ (Av.new (j := 10) rfl rfl rfl (Av.new (j := 20) rfl rfl rfl Av.nil)) rfl rfl rfl rfl (fun hb => (Ob.uncond (t := 34) hb rfl (ob_calls rfl hb10 (fun a w s => c_clock_Join k _ _ (ite_t hb e_x7) _ _ _ (s.arg (.tmp rfl))))))) (ops_cons (.guarded _ (Av.new (j := 10) rfl rfl rfl (Av.new (j := 14) rfl rfl rfl (Av.new (j := 21) rfl rfl rfl Av.nil))) rfl rfl rfl rfl (fun hb => (Ob.uncond (t := 35) hb rfl ((Ob.uncond (t := 28) hb rfl (ob_neqAgg rfl rfl (by kernel_rfl) eq24 (by decide) (.tmp rfl) (.tmp rfl))))))) (ops_cons (.plain _ (Av.new (j := 10) rfl rfl rfl (Av.new (j := 22) rfl rfl rfl Av.nil)) rfl rfl ((ob_or2 rfl (.tmp rfl) opd_bool (.tmp rfl)).nm e_x8)) (ops_cons (.plain _ (Av.new (j := 23) rfl rfl rfl Av.nil) rfl rfl (ob_move rfl (.tmp rfl))) (ops_cons (.guarded _ (Av.old (t := 4) rfl rfl (Av.new (j := 24) rfl rfl rfl Av.nil)) rfl rfl rfl rfl (fun hb => ob_load rfl tk24 (.tmp rfl) (List.Mem.tail _ (List.Mem.tail _ (List.Mem.head _))) (LG.refl _ _))) (ops_cons (.guarded _ (Av.old (t := 3) rfl rfl (Av.new (j := 24) rfl rfl rfl Av.nil)) rfl rfl rfl rfl (fun hb => ob_load rfl tk24 (.tmp rfl) (List.Mem.tail _ (List.Mem.tail _ (List.Mem.tail _ (List.Mem.head _)))) (LG.refl _ _))) (ops_cons (.guarded _ (Av.new (j := 24) rfl rfl rfl (Av.new (j := 25) rfl rfl rfl (Av.new (j := 26) rfl rfl rfl Av.nil))) rfl rfl rfl rfl (fun hb => (Ob.uncond (t := 40) hb rfl ((Ob.uncond (t := 39) hb rfl (ob_mkSlice (k := (karr 8 (kint .u32))) (xs := ([p2, p1] : (List (List Int)))) rfl Try.underlying25 zz24 sz24 (Zr.arr 8 (Zr.int .u32)) (by decide) (by decide) (.cons (.tmp rfl) rfl (LS.arr' (i := 0) (ys := ([p2, (List.replicate 8 (0 : Int))] : (List (List Int)))) (by simp) (by rfl)) (.cons (.tmp rfl) rfl (LS.arr' (i := 1) (ys := ([p2, p1] : (List (List Int)))) (by simp) (by rfl)) (.nil _))))))))) (ops_cons (.guarded _ (Av.new (j := 24) rfl rfl rfl (Av.new (j := 27) rfl rfl rfl Av.nil)) rfl rfl rfl rfl (fun hb => (Ob.uncond (t := 41) hb rfl (ob_calls rfl hb10 (fun a w s => c_clock_Join k _ _ (ite_t hb e_x9) _ _ _ (s.arg (.tmp rfl))))))) (ops_cons (.guarded _ (Av.old (t := 7) rfl rfl (Av.new (j := 24) rfl rfl rfl Av.nil)) rfl rfl rfl rfl (fun hb => ob_load rfl tk24 (.tmp rfl) (List.Mem.head _) (LG.refl _ _))) (ops_cons (.guarded _ (Av.new (j := 24) rfl rfl rfl (Av.new (j := 28) rfl rfl rfl (Av.new (j := 29) rfl rfl rfl Av.nil))) rfl rfl rfl rfl (fun hb => (Ob.uncond (t := 43) hb rfl ((Ob.uncond (t := 42) hb rfl (ob_neqAgg rfl rfl (by kernel_rfl) eq24 (by decide) (.tmp rfl) (.tmp rfl))))))) (ops_cons (.plain _ (Av.new (j := 24) rfl rfl rfl (Av.new (j := 30) rfl rfl rfl Av.nil)) rfl rfl (ob_or2 rfl (.tmp rfl) opd_bool (.tmp rfl))) ops_nil)))))))))))))))))))))))))))))))) (out_old (t := 3) rfl rfl (out_old (t := 4) rfl rfl (out_old (t := 5) rfl rfl (out_old (t := 7) rfl rfl (out_new (i := 31) (by decide) rfl rfl out_nil))))) fun a23 w23 s23 => ?_; clear s22
    refine wpList_nil ?_
    refine then_normal ?_
    refine hK7 _ _ ?_
    have s24 := s23.sub (.cons (t := 3) rfl (.cons (t := 4) rfl (.cons (t := 5) rfl (.cons (t := 7) rfl (.cons (t := 45) rfl .nil))))); clear s23
    refine cond_split s24 (.tmp rfl) (fun hc2 => ?_) (fun hc2 => ?_)
    · replace h11 := ite_t hc2 h11
      have h12 := h11; clear h11
      refine wp_seq_k fun K8 hK8 => ?_
      refine wp_region_lit ?_
      refine seq_op s24 rfl rfl (of_decide_eq_true rfl) (ob_assign rfl opd_bool) fun a25 w25 s25 => ?_; clear s24
      refine wpList_nil ?_
      refine then_normal ?_
      refine hK8 _ _ ?_
      have s26 := s25.sub (.cons (t := 6) rfl .nil); clear s25
      have s27 := St.drop (A := []) s26; clear s26
      have s28 := St.drop (A := []) s27; clear s27
      have s29 := St.drop (A := []) s28; clear s28
      have s30 := St.drop (A := []) s29; clear s29
      refine wp_ret ?_
      obtain rfl := Option.some.inj h12
      exact leave s30 (.inl rfl) rfl (.cons (.tmp rfl) .nil)
    · replace h11 := ite_f hc2 h11
      have h13 := h11; clear h11
      refine wp_skip ?_
      refine then_normal ?_
      refine hK6 _ _ ?_
      have s31 := s24.sub (.cons (t := 3) rfl (.cons (t := 4) rfl (.cons (t := 5) rfl (.cons (t := 7) rfl .nil)))); clear s24
      refine wp_seq_k fun K9 hK9 => ?_
      refine wp_seq_k fun K10 hK10 => ?_
      refine wp_region_lit ?_
      refine seq_op s31 rfl rfl (of_decide_eq_true rfl) (ob_load rfl tk24 (.tmp rfl) (List.Mem.tail _ (List.Mem.tail _ (List.Mem.tail _ (List.Mem.head _)))) (LG.refl _ _)) fun a32 w32 s32 => ?_; clear s31
      refine seq_op s32 rfl rfl (of_decide_eq_true rfl) (ob_load rfl tk24 (.tmp rfl) (List.Mem.tail _ (List.Mem.head _)) (LG.refl _ _)) fun a33 w33 s33 => ?_; clear s32
      obtain ⟨x10, e_x10, h14⟩ := bind_some h13; clear h13
      refine seq_op s33 rfl rfl (of_decide_eq_true rfl) (ob_calls rfl hb14 (fun a w s => c_caballaw26_most k _ _ _ e_x10 _ _ _ _ (s.arg (.tmp rfl)) (s.arg (.tmp rfl)))) fun a34 w34 s34 => ?_; clear s33
      refine seq_op s34 rfl rfl (of_decide_eq_true rfl) (ob_move rfl (.tmp rfl)) fun a35 w35 s35 => ?_; clear s34
      refine seq_opg s35 rfl rfl rfl rfl (of_decide_eq_true rfl) (fun hb => ob_load rfl tk24 (.tmp rfl) (List.Mem.tail _ (List.Mem.tail _ (List.Mem.head _))) (LG.refl _ _)) fun a36 w36 s36 => ?_; clear s35
      refine seq_opg s36 rfl rfl rfl rfl (of_decide_eq_true rfl) (fun hb => ob_load rfl tk24 (.tmp rfl) (List.Mem.tail _ (List.Mem.head _)) (LG.refl _ _)) fun a37 w37 s37 => ?_; clear s36
      obtain ⟨x11, e_x11, h15⟩ := bind_some h14; clear h14
      refine seq_opg s37 rfl rfl rfl rfl (of_decide_eq_true rfl) (fun hb => (Ob.uncond (t := 51) hb rfl ((Ob.uncond (t := 50) hb rfl (ob_calls rfl hb14 (fun a w s => c_caballaw26_most k _ _ _ (ite_t hb e_x11) _ _ _ _ (s.arg (.tmp rfl)) (s.arg (.tmp rfl)))))))) fun a38 w38 s38 => ?_; clear s37
      refine seq_op s38 rfl rfl (of_decide_eq_true rfl) (ob_and2 rfl (.tmp rfl) (.tmp rfl) opd_bool) fun a39 w39 s39 => ?_; clear s38
      refine seq_op s39 rfl rfl (of_decide_eq_true rfl) (ob_move rfl (.tmp rfl)) fun a40 w40 s40 => ?_; clear s39
      refine seq_opg s40 rfl rfl rfl rfl (of_decide_eq_true rfl) (fun hb => ob_load rfl tk24 (.tmp rfl) (List.Mem.head _) (LG.refl _ _)) fun a41 w41 s41 => ?_; clear s40
      refine seq_opg s41 rfl rfl rfl rfl (of_decide_eq_true rfl) (fun hb => ob_load rfl tk24 (.tmp rfl) (List.Mem.tail _ (List.Mem.head _)) (LG.refl _ _)) fun a42 w42 s42 => ?_; clear s41
      obtain ⟨x12, e_x12, h16⟩ := bind_some h15; clear h15
      refine seq_opg s42 rfl rfl rfl rfl (of_decide_eq_true rfl) (fun hb => (Ob.uncond (t := 56) hb rfl ((Ob.uncond (t := 55) hb rfl (ob_calls rfl hb14 (fun a w s => c_caballaw26_most k _ _ _ (ite_t hb e_x12) _ _ _ _ (s.arg (.tmp rfl)) (s.arg (.tmp rfl)))))))) fun a43 w43 s43 => ?_; clear s42
      refine seq_opg s43 rfl rfl rfl rfl (of_decide_eq_true rfl) (fun hb => (Ob.uncond (t := 57) hb rfl (ob_not rfl (.tmp rfl)))) fun a44 w44 s44 => ?_; clear s43
      refine seq_op s44 rfl rfl (of_decide_eq_true rfl) (ob_and2 rfl (.tmp rfl) (.tmp rfl) opd_bool) fun a45 w45 s45 => ?_; clear s44
      refine seq_op s45 rfl rfl (of_decide_eq_true rfl) (ob_move rfl (.tmp rfl)) fun a46 w46 s46 => ?_; clear s45
      refine seq_opg s46 rfl rfl rfl rfl (of_decide_eq_true rfl) (fun hb => ob_load rfl tk24 (.tmp rfl) (List.Mem.tail _ (List.Mem.tail _ (List.Mem.tail _ (List.Mem.head _)))) (LG.refl _ _)) fun a47 w47 s47 => ?_; clear s46
      refine seq_opg s47 rfl rfl rfl rfl (of_decide_eq_true rfl) (fun hb => ob_load rfl tk24 (.tmp rfl) (List.Mem.tail _ (List.Mem.tail _ (List.Mem.head _))) (LG.refl _ _)) fun a48 w48 s48 => ?_; clear s47
      obtain ⟨x13, e_x13, h17⟩ := bind_some h16; clear h16
      refine seq_opg s48 rfl rfl rfl rfl (of_decide_eq_true rfl) (fun hb => (Ob.uncond (t := 62) hb rfl ((Ob.uncond (t := 61) hb rfl (ob_calls rfl hb14 (fun a w s => c_caballaw26_most k _ _ _ (ite_t hb e_x13) _ _ _ _ (s.arg (.tmp rfl)) (s.arg (.tmp rfl)))))))) fun a49 w49 s49 => ?_; clear s48
      refine seq_opg s49 rfl rfl rfl rfl (of_decide_eq_true rfl) (fun hb => (Ob.uncond (t := 63) hb rfl (ob_move rfl (.tmp rfl)))) fun a50 w50 s50 => ?_; clear s49
      refine seq_opg2 s50 rfl rfl rfl rfl (of_decide_eq_true rfl) (fun hb => ob_load rfl tk24 (.tmp rfl) (List.Mem.tail _ (List.Mem.tail _ (List.Mem.head _))) (LG.refl _ _)) fun a51 w51 s51 => ?_; clear s50
      refine seq_opg2 s51 rfl rfl rfl rfl (of_decide_eq_true rfl) (fun hb => ob_load rfl tk24 (.tmp rfl) (List.Mem.tail _ (List.Mem.head _)) (LG.refl _ _)) fun a52 w52 s52 => ?_; clear s51
      obtain ⟨x14, e_x14, h18⟩ := bind_some h17; clear h17
      refine seq_opg2 s52 rfl rfl rfl rfl (of_decide_eq_true rfl) (fun hb => (Ob.uncond (t := 66) hb rfl ((Ob.uncond (t := 65) hb rfl (ob_calls rfl hb14 (fun a w s => c_caballaw26_most k _ _ _ (ite_t hb e_x14) _ _ _ _ (s.arg (.tmp rfl)) (s.arg (.tmp rfl)))))))) fun a53 w53 s53 => ?_; clear s52
      refine seq_opg s53 rfl rfl rfl rfl (of_decide_eq_true rfl) (fun hb => (Ob.uncond (t := 64) hb rfl (ob_and3 hb rfl (.tmp rfl) (.tmp rfl) opd_bool))) fun a54 w54 s54 => ?_; clear s53
      refine seq_opg s54 rfl rfl rfl rfl (of_decide_eq_true rfl) (fun hb => (Ob.uncond (t := 68) hb rfl (ob_move rfl (.tmp rfl)))) fun a55 w55 s55 => ?_; clear s54
      refine seq_opg2 s55 rfl rfl rfl rfl (of_decide_eq_true rfl) (fun hb => ob_load rfl tk24 (.tmp rfl) (List.Mem.tail _ (List.Mem.tail _ (List.Mem.tail _ (List.Mem.head _)))) (LG.refl _ _)) fun a56 w56 s56 => ?_; clear s55
      refine seq_opg2 s56 rfl rfl rfl rfl (of_decide_eq_true rfl) (fun hb => ob_load rfl tk24 (.tmp rfl) (List.Mem.tail _ (List.Mem.head _)) (LG.refl _ _)) fun a57 w57 s57 => ?_; clear s56
      obtain ⟨x15, e_x15, h19⟩ := bind_some h18; clear h18
      refine seq_opg2 s57 rfl rfl rfl rfl (of_decide_eq_true rfl) (fun hb => (Ob.uncond (t := 71) hb rfl ((Ob.uncond (t := 70) hb rfl (ob_calls rfl hb14 (fun a w s => c_caballaw26_most k _ _ _ (ite_t hb e_x15) _ _ _ _ (s.arg (.tmp rfl)) (s.arg (.tmp rfl)))))))) fun a58 w58 s58 => ?_; clear s57
      refine seq_opg2 s58 rfl rfl rfl rfl (of_decide_eq_true rfl) (fun hb => (Ob.uncond (t := 72) hb rfl (ob_not rfl (.tmp rfl)))) fun a59 w59 s59 => ?_; clear s58
      refine seq_opg s59 rfl rfl rfl rfl (of_decide_eq_true rfl) (fun hb => (Ob.uncond (t := 69) hb rfl (ob_and3 hb rfl (.tmp rfl) (.tmp rfl) opd_bool))) fun a60 w60 s60 => ?_; clear s59
      obtain ⟨x16, e_x16, h20⟩ := bind_some h19; clear h19; replace e_x16 := Option.some.inj e_x16
      refine seq_op s60 rfl rfl (of_decide_eq_true rfl) ((ob_or2 rfl (.tmp rfl) opd_bool (.tmp rfl)).nm e_x16) fun a61 w61 s61 => ?_; clear s60
      refine seq_op s61 rfl rfl (of_decide_eq_true rfl) (ob_move rfl (.tmp rfl)) fun a62 w62 s62 => ?_; clear s61
      refine seq_opg s62 rfl rfl rfl rfl (of_decide_eq_true rfl) (fun hb => ob_load rfl tk24 (.tmp rfl) (List.Mem.tail _ (List.Mem.tail _ (List.Mem.tail _ (List.Mem.head _)))) (LG.refl _ _)) fun a63 w63 s63 => ?_; clear s62
      refine seq_opg s63 rfl rfl rfl rfl (of_decide_eq_true rfl) (fun hb => ob_load rfl tk24 (.tmp rfl) (List.Mem.tail _ (List.Mem.tail _ (List.Mem.head _))) (LG.refl _ _)) fun a64 w64 s64 => ?_; clear s63
      obtain ⟨x17, e_x17, h21⟩ := bind_some h20; clear h20
      refine seq_opg s64 rfl rfl rfl rfl (of_decide_eq_true rfl) (fun hb => (Ob.uncond (t := 78) hb rfl ((Ob.uncond (t := 77) hb rfl (ob_calls rfl hb14 (fun a w s => c_caballaw26_most k _ _ _ (ite_t hb e_x17) _ _ _ _ (s.arg (.tmp rfl)) (s.arg (.tmp rfl)))))))) fun a65 w65 s65 => ?_; clear s64
      refine seq_opg s65 rfl rfl rfl rfl (of_decide_eq_true rfl) (fun hb => (Ob.uncond (t := 79) hb rfl (ob_move rfl (.tmp rfl)))) fun a66 w66 s66 => ?_; clear s65
      refine seq_opg2 s66 rfl rfl rfl rfl (of_decide_eq_true rfl) (fun hb => ob_load rfl tk24 (.tmp rfl) (List.Mem.tail _ (List.Mem.tail _ (List.Mem.head _))) (LG.refl _ _)) fun a67 w67 s67 => ?_; clear s66
      refine seq_opg2 s67 rfl rfl rfl rfl (of_decide_eq_true rfl) (fun hb => ob_load rfl tk24 (.tmp rfl) (List.Mem.tail _ (List.Mem.tail _ (List.Mem.tail _ (List.Mem.head _)))) (LG.refl _ _)) fun a68 w68 s68 => ?_; clear s67
      obtain ⟨x18, e_x18, h22⟩ := bind_some h21; clear h21
      refine seq_opg2 s68 rfl rfl rfl rfl (of_decide_eq_true rfl) (fun hb => (Ob.uncond (t := 82) hb rfl ((Ob.uncond (t := 81) hb rfl (ob_calls rfl hb14 (fun a w s => c_caballaw26_most k _ _ _ (ite_t hb e_x18) _ _ _ _ (s.arg (.tmp rfl)) (s.arg (.tmp rfl)))))))) fun a69 w69 s69 => ?_; clear s68
      refine seq_opg s69 rfl rfl rfl rfl (of_decide_eq_true rfl) (fun hb => (Ob.uncond (t := 80) hb rfl (ob_and3 hb rfl (.tmp rfl) (.tmp rfl) opd_bool))) fun a70 w70 s70 => ?_; clear s69
      refine seq_opg s70 rfl rfl rfl rfl (of_decide_eq_true rfl) (fun hb => (Ob.uncond (t := 84) hb rfl (ob_move rfl (.tmp rfl)))) fun a71 w71 s71 => ?_; clear s70
      refine seq_opg2 s71 rfl rfl rfl rfl (of_decide_eq_true rfl) (fun hb => ob_load rfl tk24 (.tmp rfl) (List.Mem.tail _ (List.Mem.tail _ (List.Mem.tail _ (List.Mem.head _)))) (LG.refl _ _)) fun a72 w72 s72 => ?_; clear s71
      refine seq_opg2 s72 rfl rfl rfl rfl (of_decide_eq_true rfl) (fun hb => ob_load rfl tk24 (.tmp rfl) (List.Mem.tail _ (List.Mem.tail _ (List.Mem.head _))) (LG.refl _ _)) fun a73 w73 s73 => ?_; clear s72
      refine seq_opg2 s73 rfl rfl rfl rfl (of_decide_eq_true rfl) (fun hb => (Ob.uncond (t := 87) hb rfl ((Ob.uncond (t := 86) hb rfl (ob_neqAgg rfl rfl (by kernel_rfl) eq24 (by decide) (.tmp rfl) (.tmp rfl)))))) fun a74 w74 s74 => ?_; clear s73
      refine seq_opg s74 rfl rfl rfl rfl (of_decide_eq_true rfl) (fun hb => (Ob.uncond (t := 85) hb rfl (ob_and3 hb rfl (.tmp rfl) (.tmp rfl) opd_bool))) fun a75 w75 s75 => ?_; clear s74
      obtain ⟨x19, e_x19, h23⟩ := bind_some h22; clear h22; replace e_x19 := Option.some.inj e_x19
      refine seq_op s75 rfl rfl (of_decide_eq_true rfl) ((ob_or2 rfl (.tmp rfl) opd_bool (.tmp rfl)).nm e_x19) fun a76 w76 s76 => ?_; clear s75
      refine wpList_nil ?_
      refine then_normal ?_
      refine hK10 _ _ ?_
      have s77 := s76.sub (.cons (t := 3) rfl (.cons (t := 90) rfl .nil)); clear s76
      have s78 := St.drop (A := []) s77; clear s77
      have s79 := St.drop (A := []) s78; clear s78
      have s80 := St.drop (A := []) s79; clear s79
      refine cond_split s80 (.tmp rfl) (fun hc3 => ?_) (fun hc3 => ?_)
      · replace h23 := ite_t hc3 h23
        have h24 := h23; clear h23
        refine wp_seq_k fun K11 hK11 => ?_
        refine wp_region_lit ?_
        refine seq_op s80 rfl rfl (of_decide_eq_true rfl) (ob_assign rfl opd_bool) fun a81 w81 s81 => ?_; clear s80
        refine wpList_nil ?_
        refine then_normal ?_
        refine hK11 _ _ ?_
        have s82 := s81.sub (.cons (t := 6) rfl .nil); clear s81
        have s83 := St.drop (A := []) s82; clear s82
        refine wp_ret ?_
        obtain rfl := Option.some.inj h24
        exact leave s83 (.inl rfl) rfl (.cons (.tmp rfl) .nil)
      · replace h23 := ite_f hc3 h23
        have h25 := h23; clear h23
        refine wp_skip ?_
        refine then_normal ?_
        refine hK9 _ _ ?_
        have s84 := s80.sub (.cons (t := 3) rfl .nil); clear s80
        refine wp_seq_k fun K12 hK12 => ?_
        refine wp_region_lit ?_
        obtain ⟨x20, e_x20, h26⟩ := bind_some h25; clear h25
        refine seq_op s84 rfl rfl (of_decide_eq_true rfl) (ob_calls rfl hb5 (fun a w s => c_caballaw26_alive k _ e_x20 _ _)) fun a85 w85 s85 => ?_; clear s84
        refine seq_op s85 rfl rfl (of_decide_eq_true rfl) (ob_move rfl (.tmp rfl)) fun a86 w86 s86 => ?_; clear s85
        refine seq_opg s86 rfl rfl rfl rfl (of_decide_eq_true rfl) (fun hb => ob_load rfl tk24 (.tmp rfl) (List.Mem.head _) (LG.refl _ _)) fun a87 w87 s87 => ?_; clear s86
        refine seq_opg s87 rfl rfl rfl rfl (of_decide_eq_true rfl) (fun hb => ob_load rfl tk24 (.tmp rfl) (List.Mem.head _) (LG.refl _ _)) fun a88 w88 s88 => ?_; clear s87
        obtain ⟨x21, e_x21, h27⟩ := bind_some h26; clear h26
        refine seq_opg s88 rfl rfl rfl rfl (of_decide_eq_true rfl) (fun hb => (Ob.uncond (t := 94) hb rfl ((Ob.uncond (t := 93) hb rfl (ob_calls rfl hb14 (fun a w s => c_caballaw26_most k _ _ _ (ite_t hb e_x21) _ _ _ _ (s.arg (.tmp rfl)) (s.arg (.tmp rfl)))))))) fun a89 w89 s89 => ?_; clear s88
        refine seq_op s89 rfl rfl (of_decide_eq_true rfl) (ob_and2 rfl (.tmp rfl) (.tmp rfl) opd_bool) fun a90 w90 s90 => ?_; clear s89
        refine seq_op s90 rfl rfl (of_decide_eq_true rfl) (ob_assign rfl (.tmp rfl)) fun a91 w91 s91 => ?_; clear s90
        refine wpList_nil ?_
        refine then_normal ?_
        refine hK12 _ _ ?_
        have s92 := s91.sub (.cons (t := 6) rfl .nil); clear s91
        have s93 := St.drop (A := []) s92; clear s92
        refine wp_ret ?_
        obtain rfl := Option.some.inj h27
        exact leave s93 (.inl rfl) rfl (.cons (.tmp rfl) .nil)

end Go.Proofs.Ytgggcnadlnlmpaa
