/- Each function's code comes to what its plain function answers. No condition. -/
import Derived.Test.YtlcddcamnkgeeaaWWalk1
namespace Go.Proofs.Ytlcddcamnkgeeaa
open Go Go.RowKit Go.Proofs.Kit Go.Proofs.Pure
set_option linter.unusedVariables false
set_option linter.unusedSimpArgs false
set_option maxRecDepth 100000
set_option maxHeartbeats 2000000

/- 64 cabal/wire.list[uint32] -/
theorem c_wire_list_uint32_wire_Reader_Number (k : Nat) (p1 : wire_Reader) (p2 : Int) (r : ((List Int) × wire_Reader)) (h0 : wire_list_uint32_wire_Reader_Number k p1 p2 = some r) (ok : Ok) (w0 : World) (z0 : Value) (z1 : Value) (z2 : Value) (b00 : Nat) (l0 : ∀ q, q ∈ [BF b00 101 k_wire_Reader p1] → q.holds ok w0) (d0 : ∀ c, c ∈ idsOf [BF b00 101 k_wire_Reader p1] → ¬ ok c) (nd : (idsOf [BF b00 101 k_wire_Reader p1]).Nodup) (u0 : (ptrB b00 0).holds ok w0 z0) (u1 : ((kint .i64).V p2).holds ok w0 z1) (u2 : (cloF 34 [(ptrB b00 0)] []).holds ok w0 z2) :
    GivesX Try.prog 64 [z0, z1, z2] ok w0 [BF b00 101 k_wire_Reader p1] (fun g : Value => resFact [is g]) (fun g : Value => [RowF (g) 69 (kint .u32) r.1, BF b00 101 k_wire_Reader r.2]) := by
  unfold wire_list_uint32_wire_Reader_Number at h0
  refine enterX (N := 36) Try.func64 rfl rfl (of_decide_eq_true rfl) (.cons u0 (.cons u1 (.cons u2 .nil))) nd l0 d0 fun a1 s1 => ?_
  refine wp_seq_k fun K1 hK1 => ?_
  refine wp_region_lit ?_
  refine seq_op s1 rfl rfl (of_decide_eq_true rfl) (ob_assign rfl opd_is) fun a2 w2 s2 => ?_; clear s1
  have s3 := St.adopt s2 (G := RowF (nilRow 9) 69 (kint .u32) []) rfl (rowNilN _ _ _ _ _); clear s2
  refine wpList_nil ?_
  refine then_normal ?_
  refine hK1 _ _ ?_
  have s4 := s3.sub (.cons (t := 0) rfl (.cons (t := 1) rfl (.cons (t := 2) rfl .nil))); clear s3
  have s5 := St.drop (A := []) s4; clear s4
  refine wp_seq_k fun K2 hK2 => ?_
  refine wp_region_lit ?_
  refine seq_op s5 rfl rfl (of_decide_eq_true rfl) (ob_move rfl (.tmp rfl)) fun a6 w6 s6 => ?_; clear s5
  refine seq_op s6 rfl rfl (of_decide_eq_true rfl) (ob_nilCheck rfl (.tmp rfl)) fun a7 w7 s7 => ?_; clear s6
  refine seq_op s7 rfl rfl (of_decide_eq_true rfl) (ob_fieldAddr (off' := 0) rfl Try.underlying101 rfl sz9 (by decide) (.tmp rfl) rfl) fun a8 w8 s8 => ?_; clear s7
  refine seq_op s8 rfl rfl (of_decide_eq_true rfl) (ob_load rfl tk9 (.tmp rfl) (.head _) (lg_wire_Reader_s p1)) fun a9 w9 s9 => ?_; clear s8
  refine seq_op s9 rfl rfl (of_decide_eq_true rfl) (ob_assign rfl (.tmp rfl)) fun a10 w10 s10 => ?_; clear s9
  refine wpList_nil ?_
  refine then_normal ?_
  refine hK2 _ _ ?_
  have s11 := s10.sub (.cons (t := 0) rfl (.cons (t := 1) rfl (.cons (t := 2) rfl (.cons (t := 7) rfl .nil)))); clear s10
  refine wp_seq_k fun K3 hK3 => ?_
  refine wp_region_lit ?_
  refine seq_op s11 rfl rfl (of_decide_eq_true rfl) (ob_assign rfl opd_is) fun a12 w12 s12 => ?_; clear s11
  have s13 := St.adopt s12 (G := RowF (nilRow 10) 69 (kint .u32) []) rfl (rowNilN _ _ _ _ _); clear s12
  refine wpList_nil ?_
  refine then_normal ?_
  refine hK3 _ _ ?_
  have s14 := s13.sub (.cons (t := 0) rfl (.cons (t := 1) rfl (.cons (t := 2) rfl (.cons (t := 7) rfl (.cons (t := 8) rfl .nil))))); clear s13
  refine wp_seq_k fun K4 hK4 => ?_
  refine wp_seq_k fun K5 hK5 => ?_
  refine wp_region_lit ?_
  refine seq_op s14 rfl rfl (of_decide_eq_true rfl) (ob_move rfl (.tmp rfl)) fun a15 w15 s15 => ?_; clear s14
  refine seq_op s15 rfl rfl (of_decide_eq_true rfl) (ob_move rfl (.tmp rfl)) fun a16 w16 s16 => ?_; clear s15
  obtain ⟨x1, e_x1, h1⟩ := bind_some h0; clear h0
  refine seq_opx (B' := (fun _ : Unit => [BF b00 101 k_wire_Reader x1.2, RowF (nilRow 10) 69 (kint .u32) ([] : (List Int))])) s16 rfl rfl (of_decide_eq_true rfl) (ob_callL (args := [_, _]) (L := [_]) rfl .direct hb62 (toFront [_] (List.Perm.refl _)) (fun a w s fs gs hf hg => by obtain rfl := hf.unnil; obtain rfl := hg.unnil; exact c_wire_Reader_count k _ _ _ e_x1 _ _ _ _ _ (ownL s) (disL s) (nodL s) (s.arg (.tmp rfl)) (s.arg (.tmp rfl))) (by exact fun _ => rfl)) fun _ a17 w17 s17 => ?_; clear s16
  refine seq_op s17 rfl rfl (of_decide_eq_true rfl) (ob_move rfl (opd_int rfl)) fun a18 w18 s18 => ?_; clear s17
  refine wpList_nil ?_
  refine then_normal ?_
  refine hK5 _ _ ?_
  have s19 := s18.sub (.cons (t := 0) rfl (.cons (t := 2) rfl (.cons (t := 7) rfl (.cons (t := 8) rfl (.cons (t := 16) rfl (.cons (t := 17) rfl .nil)))))); clear s18
  have hj1 : ∀ (y1 : wire_Reader) (y2 : (List Int)) (v1 : Value) (a : Act) (w : World), (wire_list_uint32_wire_Reader_Number.j1 k) y1 y2 = some r → St ⟨36, w0, ok, (idsOf [BF b00 101 k_wire_Reader p1])⟩ [BF b00 101 k_wire_Reader y1, RowF v1 69 (kint .u32) y2] [(8, (is v1))] a w → K4 a w := by
    intro y1 y2 v1 a20 w20 h2 s20
    unfold wire_list_uint32_wire_Reader_Number.j1 at h2
    refine hK4 _ _ ?_
    refine wp_seq_k fun K6 hK6 => ?_
    refine wp_region_lit ?_
    refine seq_op s20 rfl rfl (of_decide_eq_true rfl) (ob_move rfl (.tmp rfl)) fun a21 w21 s21 => ?_; clear s20
    refine seq_op s21 rfl rfl (of_decide_eq_true rfl) (ob_assign rfl (.tmp rfl)) fun a22 w22 s22 => ?_; clear s21
    refine wpList_nil ?_
    refine then_normal ?_
    refine hK6 _ _ ?_
    have s23 := s22.sub (.cons (t := 6) rfl .nil); clear s22
    refine wp_ret ?_
    have s24 := s23.perm (toFront [_] (toFront [] (List.Perm.refl _))); clear s23
    obtain rfl := Option.some.inj h2
    exact leaveXD (D := []) v1 s24 rfl (.inl rfl) rfl (.cons (.tmp rfl) .nil) rfl
  refine wp_block ?_
  refine wp_loop_fuel (fun m (q : Int × wire_Reader × (List Int)) => wire_list_uint32_wire_Reader_Number.l1 k x1 p1 m q.1 q.2.1 q.2.2) r (fun _ => rfl) (fun q a w => ∃ (v2 : Value), St ⟨36, w0, ok, (idsOf [BF b00 101 k_wire_Reader p1])⟩ [BF b00 101 k_wire_Reader q.2.1, RowF v2 69 (kint .u32) q.2.2] [(0, (ptrB b00 0)), (2, (cloF 34 [(ptrB b00 0)] [])), (7, (kstr.V p1.s)), (8, (is v2)), (16, ((kint .i64).V x1.1)), (17, ((kint .i64).V q.1))] a w) ?_ k ((0 : Int), x1.2, ([] : (List Int))) _ _ h1 ⟨(nilRow 10), (s19.sub (.cons rfl (.cons rfl (.cons rfl (.cons rfl (.cons rfl (.cons rfl .nil)))))))⟩
  rintro n1 ⟨y3, y4, y5⟩ a25 w25 h3 ⟨v2, s25⟩ K7 hK7
  replace h3 : wire_list_uint32_wire_Reader_Number.l1 k x1 p1 (n1 + 1) y3 y4 y5 = some r := h3; rw [wire_list_uint32_wire_Reader_Number.l1] at h3
  have h4 := h3; clear h3
  refine wp_seq_k fun K8 hK8 => ?_
  refine wp_region_lit ?_
  refine seq_op s25 rfl rfl (of_decide_eq_true rfl) (ob_lss rfl (.tmp rfl) (.tmp rfl)) fun a26 w26 s26 => ?_; clear s25
  refine wpList_nil ?_
  refine then_normal ?_
  refine hK8 _ _ ?_
  have s27 := s26.sub (.cons (t := 0) rfl (.cons (t := 2) rfl (.cons (t := 7) rfl (.cons (t := 8) rfl (.cons (t := 16) rfl (.cons (t := 17) rfl (.cons (t := 18) rfl .nil))))))); clear s26
  refine wp_seq_k fun K9 hK9 => ?_
  refine cond_split s27 (.tmp rfl) (fun hc1 => ?_) (fun hc1 => ?_)
  · replace h4 := ite_t hc1 h4
    have h5 := h4; clear h4
    refine wp_skip ?_
    refine then_normal ?_
    refine hK9 _ _ ?_
    have s28 := s27.sub (.cons (t := 0) rfl (.cons (t := 2) rfl (.cons (t := 7) rfl (.cons (t := 8) rfl (.cons (t := 16) rfl (.cons (t := 17) rfl .nil)))))); clear s27
    refine wp_seq_k fun K10 hK10 => ?_
    refine wp_block ?_
    refine wp_seq_k fun K11 hK11 => ?_
    refine wp_region_lit ?_
    refine seq_op s28 rfl rfl (of_decide_eq_true rfl) (ob_move rfl (.tmp rfl)) fun a29 w29 s29 => ?_; clear s28
    obtain ⟨x2, e_x2, h6⟩ := bind_some h5; clear h5
    refine seq_opx (B' := (fun _ : Unit => [BF b00 101 k_wire_Reader x2.2, RowF v2 69 (kint .u32) y5])) s29 rfl rfl (of_decide_eq_true rfl) (ob_callL (args := []) (L := [_]) rfl (.clo (.tmp rfl)) hb34 (List.Perm.refl _) (fun a w s fs gs hf hg => by obtain ⟨y0, _, rfl, fy0, hf⟩ := hf.uncons; obtain rfl := hf.unnil; obtain rfl := hg.unnil; exact c_wire_Reader_Number k _ _ e_x2 _ _ _ _ (ownL s) (disL s) (nodL s) fy0) (by exact fun _ => rfl)) fun _ a30 w30 s30 => ?_; clear s29
    refine seq_op s30 rfl rfl (of_decide_eq_true rfl) (ob_assign rfl (.tmp rfl)) fun a31 w31 s31 => ?_; clear s30
    refine wpList_nil ?_
    refine then_normal ?_
    refine hK11 _ _ ?_
    have s32 := s31.sub (.cons (t := 0) rfl (.cons (t := 2) rfl (.cons (t := 7) rfl (.cons (t := 8) rfl (.cons (t := 9) rfl (.cons (t := 16) rfl (.cons (t := 17) rfl .nil))))))); clear s31
    refine wp_seq_k fun K12 hK12 => ?_
    refine wp_seq_k fun K13 hK13 => ?_
    refine wp_region_lit ?_
    refine seq_op s32 rfl rfl (of_decide_eq_true rfl) (ob_move rfl (.tmp rfl)) fun a33 w33 s33 => ?_; clear s32
    refine seq_op s33 rfl rfl (of_decide_eq_true rfl) (ob_nilCheck rfl (.tmp rfl)) fun a34 w34 s34 => ?_; clear s33
    refine seq_op s34 rfl rfl (of_decide_eq_true rfl) (ob_fieldAddr (off' := 1) rfl Try.underlying101 rfl sz31 (by decide) (.tmp rfl) rfl) fun a35 w35 s35 => ?_; clear s34
    refine seq_op s35 rfl rfl (of_decide_eq_true rfl) (ob_load rfl tk31 (.tmp rfl) (.head _) (lg_wire_Reader_err x2.2)) fun a36 w36 s36 => ?_; clear s35
    refine seq_op s36 rfl rfl (of_decide_eq_true rfl) (ob_neq rfl (.tmp rfl) (opd_int rfl)) fun a37 w37 s37 => ?_; clear s36
    refine wpList_nil ?_
    refine then_normal ?_
    refine hK13 _ _ ?_
    have s38 := s37.sub (.cons (t := 0) rfl (.cons (t := 2) rfl (.cons (t := 7) rfl (.cons (t := 8) rfl (.cons (t := 9) rfl (.cons (t := 16) rfl (.cons (t := 17) rfl (.cons (t := 25) rfl .nil)))))))); clear s37
    refine cond_split s38 (.tmp rfl) (fun hc2 => ?_) (fun hc2 => ?_)
    · replace h6 := ite_t hc2 h6
      have h7 := h6; clear h6
      refine wp_seq_k fun K14 hK14 => ?_
      refine wp_region_lit ?_
      refine seq_op s38 rfl rfl (of_decide_eq_true rfl) (ob_move rfl (.tmp rfl)) fun a39 w39 s39 => ?_; clear s38
      refine seq_op s39 rfl rfl (of_decide_eq_true rfl) (ob_move rfl (.tmp rfl)) fun a40 w40 s40 => ?_; clear s39
      refine seq_op s40 rfl rfl (of_decide_eq_true rfl) (ob_nilCheck rfl (.tmp rfl)) fun a41 w41 s41 => ?_; clear s40
      refine seq_op s41 rfl rfl (of_decide_eq_true rfl) (ob_fieldAddr (off' := 0) rfl Try.underlying101 rfl sz9 (by decide) (.tmp rfl) rfl) fun a42 w42 s42 => ?_; clear s41
      refine seq_opx0 (B' := (fun _ : Unit => [BF b00 101 k_wire_Reader ({ x2.2 with s := p1.s }), RowF v2 69 (kint .u32) y5])) s42 rfl rfl (ob_store (A := []) rfl tk9 (.tmp rfl) (.tmp rfl) rfl (ls_wire_Reader_s x2.2 p1.s) rfl) fun _ a43 w43 s43 => ?_; clear s42
      refine wpList_nil ?_
      refine then_normal ?_
      refine hK14 _ _ ?_
      have s44 := s43.sub .nil; clear s43
      have s45 := St.drop (A := [_]) s44; clear s44
      refine wp_seq_k fun K15 hK15 => ?_
      refine wp_region_lit ?_
      refine seq_op s45 rfl rfl (of_decide_eq_true rfl) (ob_assign rfl opd_is) fun a46 w46 s46 => ?_; clear s45
      have s47 := St.adopt s46 (G := RowF (nilRow 11) 69 (kint .u32) []) rfl (rowNilN _ _ _ _ _); clear s46
      refine wpList_nil ?_
      refine then_normal ?_
      refine hK15 _ _ ?_
      have s48 := s47.sub (.cons (t := 6) rfl .nil); clear s47
      refine wp_ret ?_
      obtain rfl := Option.some.inj h7
      exact leaveXD (D := []) (nilRow 11) s48 rfl (.inl rfl) rfl (.cons (.tmp rfl) .nil) rfl
    · replace h6 := ite_f hc2 h6
      have h8 := h6; clear h6
      refine wp_skip ?_
      refine then_normal ?_
      refine hK12 _ _ ?_
      have s49 := s38.sub (.cons (t := 0) rfl (.cons (t := 2) rfl (.cons (t := 7) rfl (.cons (t := 8) rfl (.cons (t := 9) rfl (.cons (t := 16) rfl (.cons (t := 17) rfl .nil))))))); clear s38
      refine wp_region_lit ?_
      refine seq_op s49 rfl rfl (of_decide_eq_true rfl) (ob_move rfl (.tmp rfl)) fun a50 w50 s50 => ?_; clear s49
      refine seq_op s50 rfl rfl (of_decide_eq_true rfl) (ob_move rfl (.tmp rfl)) fun a51 w51 s51 => ?_; clear s50
      refine seq_op s51 rfl rfl (of_decide_eq_true rfl) (ob_mkSlice (k := (kint .u32)) (xs := ([x2.1] : (List Int))) rfl Try.underlying62 zz69 sz69 (Zr.int .u32) (by decide) (by decide) (.cons (.tmp rfl) rfl (LS.arr' (i := 0) (ys := ([x2.1] : (List Int))) (by simp) (by rfl)) (.nil _))) fun a52 w52 s52 => ?_; clear s51
      obtain ⟨g1, h9⟩ := guard_some h8; clear h8
      refine seq_opx (B' := (fun v3 : Value => [BF b00 101 k_wire_Reader x2.2, RowF v3 69 (kint .u32) (y5 ++ ([x2.1] : (List Int)))])) s52 rfl rfl (of_decide_eq_true rfl) (ob_appendL2 (A := [_]) rfl Try.underlying62 ap69 (Zr.int .u32) (by decide) (.tmp rfl) (.tmp rfl) rfl g1) fun v3 a53 w53 s53 => ?_; clear s52
      refine seq_op s53 rfl rfl (of_decide_eq_true rfl) (ob_assign rfl (.tmp rfl)) fun a54 w54 s54 => ?_; clear s53
      refine wpList_nil ?_
      refine in_normal ?_
      refine then_normal ?_
      refine hK10 _ _ ?_
      have s55 := s54.sub (.cons (t := 0) rfl (.cons (t := 2) rfl (.cons (t := 7) rfl (.cons (t := 8) rfl (.cons (t := 16) rfl (.cons (t := 17) rfl .nil)))))); clear s54
      refine wp_region_lit ?_
      refine seq_op s55 rfl rfl (of_decide_eq_true rfl) (ob_add rfl (.tmp rfl) (opd_int rfl)) fun a56 w56 s56 => ?_; clear s55
      refine seq_op s56 rfl rfl (of_decide_eq_true rfl) (ob_move rfl (.tmp rfl)) fun a57 w57 s57 => ?_; clear s56
      refine wpList_nil ?_
      refine then_normal ?_
      exact hK7 ((iadd .i64 y3 (1 : Int)), x2.2, (y5 ++ ([x2.1] : (List Int)))) _ _ h9 ⟨v3, (s57.sub (.cons rfl (.cons rfl (.cons rfl (.cons rfl (.cons rfl (.cons rfl .nil)))))))⟩
  · replace h4 := ite_f hc1 h4
    have h10 := h4; clear h4
    refine wp_exit ?_
    refine (then_exit (then_exit (in_here ?_)))
    refine then_normal ?_
    exact hj1 y4 y5 v2 _ _ h10 (s27.sub (.cons rfl .nil))

/- 38 (*cabal/wire.Reader).NumberList -/
theorem c_wire_Reader_NumberList (k : Nat) (p1 : wire_Reader) (p2 : Int) (r : ((List Int) × wire_Reader)) (h0 : wire_Reader_NumberList k p1 p2 = some r) (ok : Ok) (w0 : World) (z0 : Value) (z1 : Value) (b00 : Nat) (l0 : ∀ q, q ∈ [BF b00 101 k_wire_Reader p1] → q.holds ok w0) (d0 : ∀ c, c ∈ idsOf [BF b00 101 k_wire_Reader p1] → ¬ ok c) (nd : (idsOf [BF b00 101 k_wire_Reader p1]).Nodup) (u0 : (ptrB b00 0).holds ok w0 z0) (u1 : ((kint .i64).V p2).holds ok w0 z1) :
    GivesX Try.prog 38 [z0, z1] ok w0 [BF b00 101 k_wire_Reader p1] (fun g : Value => resFact [is g]) (fun g : Value => [RowF (g) 69 (kint .u32) r.1, BF b00 101 k_wire_Reader r.2]) := by
  unfold wire_Reader_NumberList at h0
  refine enterX (N := 10) Try.func38 rfl rfl (of_decide_eq_true rfl) (.cons u0 (.cons u1 .nil)) nd l0 d0 fun a1 s1 => ?_
  refine wp_seq_k fun K1 hK1 => ?_
  refine wp_region_lit ?_
  refine seq_op s1 rfl rfl (of_decide_eq_true rfl) (ob_assign rfl opd_is) fun a2 w2 s2 => ?_; clear s1
  have s3 := St.adopt s2 (G := RowF (nilRow 8) 69 (kint .u32) []) rfl (rowNilN _ _ _ _ _); clear s2
  refine wpList_nil ?_
  refine then_normal ?_
  refine hK1 _ _ ?_
  have s4 := s3.sub (.cons (t := 0) rfl (.cons (t := 1) rfl .nil)); clear s3
  have s5 := St.drop (A := []) s4; clear s4
  refine wp_seq_k fun K2 hK2 => ?_
  refine wp_region_lit ?_
  refine seq_op s5 rfl rfl (of_decide_eq_true rfl) (ob_move rfl (.tmp rfl)) fun a6 w6 s6 => ?_; clear s5
  refine seq_op s6 rfl rfl (of_decide_eq_true rfl) (ob_move rfl (.tmp rfl)) fun a7 w7 s7 => ?_; clear s6
  refine seq_op s7 rfl rfl (of_decide_eq_true rfl) (ob_move rfl (.tmp rfl)) fun a8 w8 s8 => ?_; clear s7
  refine seq_op s8 rfl rfl (of_decide_eq_true rfl) (ob_makeFn (xs := [_]) (ys := []) rfl (.cons (.tmp rfl) .nil) .nil) fun a9 w9 s9 => ?_; clear s8
  obtain ⟨x1, e_x1, h1⟩ := bind_some h0; clear h0
  refine seq_opx (B' := (fun v1 : Value => [RowF v1 69 (kint .u32) x1.1, BF b00 101 k_wire_Reader x1.2])) s9 rfl rfl (of_decide_eq_true rfl) (ob_callL (args := [_, _, _]) (L := [_]) rfl .direct hb64 (List.Perm.refl _) (fun a w s fs gs hf hg => by obtain rfl := hf.unnil; obtain rfl := hg.unnil; exact c_wire_list_uint32_wire_Reader_Number k _ _ _ e_x1 _ _ _ _ _ _ (ownL s) (disL s) (nodL s) (s.arg (.tmp rfl)) (s.arg (.tmp rfl)) (s.arg (.tmp rfl))) (by exact fun _ => rfl)) fun v1 a10 w10 s10 => ?_; clear s9
  refine seq_op s10 rfl rfl (of_decide_eq_true rfl) (ob_assign rfl (.tmp rfl)) fun a11 w11 s11 => ?_; clear s10
  refine wpList_nil ?_
  refine then_normal ?_
  refine hK2 _ _ ?_
  have s12 := s11.sub (.cons (t := 4) rfl .nil); clear s11
  refine wp_ret ?_
  obtain rfl := Option.some.inj h1
  exact leaveXD (D := []) v1 s12 rfl (.inl rfl) rfl (.cons (.tmp rfl) .nil) rfl

/- 8 cabal/caballaw10.WireCut -/
theorem c_caballaw10_WireCut (k : Nat) (p1 : caballaw10_Item) (p2 : Int) (r : Bool) (h0 : caballaw10_WireCut k p1 p2 = some r) (ok : Ok) (w0 : World) (z0 : Value) (z1 : Value) (u0 : (k_caballaw10_Item.V p1).holds ok w0 z0) (u1 : ((kint .i64).V p2).holds ok w0 z1) :
    Gives Try.prog 8 [z0, z1] ok w0 (resFact [kbool.V r]) := by
  unfold caballaw10_WireCut at h0
  refine enter (N := 78) Try.func8 rfl rfl (of_decide_eq_true rfl) (.cons u0 (.cons u1 .nil)) fun a1 s1 => ?_
  refine wp_seq_k fun K1 hK1 => ?_
  refine wp_region_lit ?_
  refine seq_opx (B' := (fun b1 : Nat => [BF b1 65 k_caballaw10_Item p1])) s1 rfl rfl (of_decide_eq_true rfl) (ob_box rfl (.tmp rfl)) fun b1 a2 w2 s2 => ?_; clear s1
  refine seq_op s2 rfl rfl (of_decide_eq_true rfl) (ob_assign rfl opd_bool) fun a3 w3 s3 => ?_; clear s2
  refine wpList_nil ?_
  refine then_normal ?_
  refine hK1 _ _ ?_
  have s4 := s3.sub (.cons (t := 1) rfl (.cons (t := 2) rfl .nil)); clear s3
  refine wp_seq_k fun K2 hK2 => ?_
  refine wp_seq_k fun K3 hK3 => ?_
  refine wp_region_lit ?_
  obtain ⟨x1, e_x1, h1⟩ := bind_some h0; clear h0
  refine seq_op s4 rfl rfl (of_decide_eq_true rfl) (ob_callD (args := []) rfl .direct hb29 (fun a w s fs gs hf hg => by obtain rfl := hf.unnil; obtain rfl := hg.unnil; exact c_caballaw10_alive k _ e_x1 _ _)) fun a5 w5 s5 => ?_; clear s4
  refine seq_op s5 rfl rfl (of_decide_eq_true rfl) (ob_not rfl (.tmp rfl)) fun a6 w6 s6 => ?_; clear s5
  refine wpList_nil ?_
  refine then_normal ?_
  refine hK3 _ _ ?_
  have s7 := s6.sub (.cons (t := 1) rfl (.cons (t := 2) rfl (.cons (t := 11) rfl .nil))); clear s6
  refine cond_split s7 (.tmp rfl) (fun hc1 => ?_) (fun hc1 => ?_)
  · replace h1 := ite_t hc1 h1
    have h2 := h1; clear h1
    refine wp_seq_k fun K4 hK4 => ?_
    refine wp_region_lit ?_
    refine seq_op s7 rfl rfl (of_decide_eq_true rfl) (ob_assign rfl opd_bool) fun a8 w8 s8 => ?_; clear s7
    refine wpList_nil ?_
    refine then_normal ?_
    refine hK4 _ _ ?_
    have s9 := s8.sub (.cons (t := 4) rfl .nil); clear s8
    have s10 := St.drop (A := []) s9; clear s9
    refine wp_ret ?_
    obtain rfl := Option.some.inj h2
    exact leave s10 (.inl rfl) rfl (.cons (.tmp rfl) .nil)
  · replace h1 := ite_f hc1 h1
    have h3 := h1; clear h1
    refine wp_skip ?_
    refine then_normal ?_
    refine hK2 _ _ ?_
    have s11 := s7.sub (.cons (t := 1) rfl (.cons (t := 2) rfl .nil)); clear s7
    refine wp_seq_k fun K5 hK5 => ?_
    refine wp_seq_k fun K6 hK6 => ?_
    refine wp_region_lit ?_
    refine seq_op s11 rfl rfl (of_decide_eq_true rfl) (ob_load rfl tk65 (.tmp rfl) (.head _) (LG.refl _ _)) fun a12 w12 s12 => ?_; clear s11
    refine seq_op s12 rfl rfl (of_decide_eq_true rfl) (ob_mkSlice (k := k_caballaw10_Item) (xs := ([p1] : (List caballaw10_Item))) rfl Try.underlying56 zz65 sz65 (Zr.iso (f := t_caballaw10_Item) (x := (⟨(0 : Int), (0 : Int), [], [], []⟩ : caballaw10_Item)) (Zr.pair (Zr.int .i64) (Zr.pair (Zr.int .i64) (Zr.pair (Zr.sl _) (Zr.pair Zr.str (Zr.pair (Zr.sl _) Zr.nil)))))) (by decide) (by decide) (.cons (.tmp rfl) rfl (LS.arr' (i := 0) (ys := ([p1] : (List caballaw10_Item))) (by simp) (by rfl)) (.nil _))) fun a13 w13 s13 => ?_; clear s12
    obtain ⟨x2, e_x2, h4⟩ := bind_some h3; clear h3
    refine seq_op s13 rfl rfl (of_decide_eq_true rfl) (ob_callD (args := [_]) rfl .direct hb30 (fun a w s fs gs hf hg => by obtain rfl := hf.unnil; obtain rfl := hg.unnil; exact c_caballaw10_great k _ _ e_x2 _ _ _ (s.arg (.tmp rfl)))) fun a14 w14 s14 => ?_; clear s13
    refine wpList_nil ?_
    refine then_normal ?_
    refine hK6 _ _ ?_
    have s15 := s14.sub (.cons (t := 1) rfl (.cons (t := 2) rfl (.cons (t := 14) rfl .nil))); clear s14
    refine cond_split s15 (.tmp rfl) (fun hc2 => ?_) (fun hc2 => ?_)
    · replace h4 := ite_t hc2 h4
      have h5 := h4; clear h4
      refine wp_seq_k fun K7 hK7 => ?_
      refine wp_region_lit ?_
      obtain ⟨x3, e_x3, h6⟩ := bind_some h5; clear h5
      refine seq_op s15 rfl rfl (of_decide_eq_true rfl) (ob_callD (args := []) rfl .direct hb29 (fun a w s fs gs hf hg => by obtain rfl := hf.unnil; obtain rfl := hg.unnil; exact c_caballaw10_alive k _ e_x3 _ _)) fun a16 w16 s16 => ?_; clear s15
      refine seq_op s16 rfl rfl (of_decide_eq_true rfl) (ob_assign rfl (.tmp rfl)) fun a17 w17 s17 => ?_; clear s16
      refine wpList_nil ?_
      refine then_normal ?_
      refine hK7 _ _ ?_
      have s18 := s17.sub (.cons (t := 4) rfl .nil); clear s17
      have s19 := St.drop (A := []) s18; clear s18
      refine wp_ret ?_
      obtain rfl := Option.some.inj h6
      exact leave s19 (.inl rfl) rfl (.cons (.tmp rfl) .nil)
    · replace h4 := ite_f hc2 h4
      have h7 := h4; clear h4
      refine wp_skip ?_
      refine then_normal ?_
      refine hK5 _ _ ?_
      have s20 := s15.sub (.cons (t := 1) rfl (.cons (t := 2) rfl .nil)); clear s15
      refine wp_seq_k fun K8 hK8 => ?_
      refine wp_region_lit ?_
      have s21 := St.adopt s20 (G := RowF (nilRow 3) 5 (kint .u8) []) rfl (rowNilN _ _ _ _ _); clear s20
      refine seq_opx (B' := (fun b2 : Nat => [BF b2 59 (ko_wire_Writer_0 (nilRow 3)) (⟨[]⟩ : wire_Writer), RowF (nilRow 3) 5 (kint .u8) ([] : (List Int)), BF b1 65 k_caballaw10_Item p1])) s21 rfl rfl (of_decide_eq_true rfl) (ob_new (k := (ko_wire_Writer_0 (nilRow 3))) rfl zz59 (Zr.iso (f := to_wire_Writer_0) (x := (⟨[]⟩ : wire_Writer)) (Zr.pair (Zr.kis 3) Zr.nil))) fun b2 a22 w22 s22 => ?_; clear s21
      refine wpList_nil ?_
      refine then_normal ?_
      refine hK8 _ _ ?_
      have s23 := s22.sub (.cons (t := 1) rfl (.cons (t := 2) rfl (.cons (t := 5) rfl .nil))); clear s22
      refine wp_seq_k fun K9 hK9 => ?_
      refine wp_region_lit ?_
      refine seq_op s23 rfl rfl (of_decide_eq_true rfl) (ob_load rfl tk65 (.tmp rfl) (.tail _ (.tail _ (.head _))) (LG.refl _ _)) fun a24 w24 s24 => ?_; clear s23
      obtain ⟨x4, e_x4, h8⟩ := bind_some h7; clear h7
      refine seq_opx (B' := (fun v1 : Value => [BF b2 59 (ko_wire_Writer_0 v1) (⟨[]⟩ : wire_Writer), RowF v1 5 (kint .u8) x4.2.out, BF b1 65 k_caballaw10_Item p1])) s24 rfl rfl (of_decide_eq_true rfl) (ob_callL (args := [_, _]) (L := [_, _]) rfl .direct hb31 (List.Perm.refl _) (fun a w s fs gs hf hg => by obtain rfl := hf.unnil; obtain rfl := hg.unnil; exact c_caballaw10_write k _ _ _ e_x4 _ _ _ _ _ _ (ownL s) (disL s) (nodL s) (s.arg (.tmp rfl)) (s.arg (.tmp rfl))) (by exact fun _ => rfl)) fun v1 a25 w25 s25 => ?_; clear s24
      refine wpList_nil ?_
      refine then_normal ?_
      refine hK9 _ _ ?_
      have s26 := s25.sub (.cons (t := 1) rfl (.cons (t := 2) rfl (.cons (t := 5) rfl .nil))); clear s25
      refine wp_seq_k fun K10 hK10 => ?_
      refine wp_region_lit ?_
      obtain ⟨x5, e_x5, h9⟩ := bind_some h8; clear h8
      refine seq_op s26 rfl rfl (of_decide_eq_true rfl) ((ob_lendG (L := [_, _]) (List.Perm.refl _) (.cons (t := 5) rfl (lendObj (K' := k_wire_Writer) (X' := x4.2) (.head _) rfl (upo_wire_Writer_0 rfl (.row (LetAll.row (.tail _ (.head _)))))) .nil) (Flat.res1 (Flat.V KFlat.str)) (fun _ => ob_callD (args := [_]) rfl .direct hb32 (fun a w s fs gs hf hg => by obtain rfl := hf.unnil; obtain rfl := hg.unnil; exact c_wire_Writer_String k _ _ e_x5 _ _ _ (s.arg (.tmp rfl)))))) fun a27 w27 s27 => ?_; clear s26
      refine seq_op s27 rfl rfl (of_decide_eq_true rfl) (ob_assign rfl (.tmp rfl)) fun a28 w28 s28 => ?_; clear s27
      refine wpList_nil ?_
      refine then_normal ?_
      refine hK10 _ _ ?_
      have s29 := s28.sub (.cons (t := 1) rfl (.cons (t := 2) rfl (.cons (t := 6) rfl .nil))); clear s28
      have s30 := St.drop (A := []) s29; clear s29
      have s31 := St.drop (A := []) s30; clear s30
      refine wp_seq_k fun K11 hK11 => ?_
      refine wp_seq_k fun K12 hK12 => ?_
      refine wp_region_lit ?_
      refine seq_op s31 rfl rfl (of_decide_eq_true rfl) (ob_move rfl (.tmp rfl)) fun a32 w32 s32 => ?_; clear s31
      refine seq_op s32 rfl rfl (of_decide_eq_true rfl) (ob_lenStr rfl Try.underlying9 (.tmp rfl)) fun a33 w33 s33 => ?_; clear s32
      refine seq_op s33 rfl rfl (of_decide_eq_true rfl) (ob_eql rfl (.tmp rfl) (opd_int rfl)) fun a34 w34 s34 => ?_; clear s33
      refine wpList_nil ?_
      refine then_normal ?_
      refine hK12 _ _ ?_
      have s35 := s34.sub (.cons (t := 1) rfl (.cons (t := 2) rfl (.cons (t := 6) rfl (.cons (t := 21) rfl .nil)))); clear s34
      refine cond_split s35 (.tmp rfl) (fun hc3 => ?_) (fun hc3 => ?_)
      · replace h9 := ite_t hc3 h9
        have h10 := h9; clear h9
        refine wp_seq_k fun K13 hK13 => ?_
        refine wp_region_lit ?_
        obtain ⟨x6, e_x6, h11⟩ := bind_some h10; clear h10
        refine seq_op s35 rfl rfl (of_decide_eq_true rfl) (ob_callD (args := []) rfl .direct hb29 (fun a w s fs gs hf hg => by obtain rfl := hf.unnil; obtain rfl := hg.unnil; exact c_caballaw10_alive k _ e_x6 _ _)) fun a36 w36 s36 => ?_; clear s35
        refine seq_op s36 rfl rfl (of_decide_eq_true rfl) (ob_assign rfl (.tmp rfl)) fun a37 w37 s37 => ?_; clear s36
        refine wpList_nil ?_
        refine then_normal ?_
        refine hK13 _ _ ?_
        have s38 := s37.sub (.cons (t := 4) rfl .nil); clear s37
        have s39 := St.drop (A := []) s38; clear s38
        refine wp_ret ?_
        obtain rfl := Option.some.inj h11
        exact leave s39 (.inl rfl) rfl (.cons (.tmp rfl) .nil)
      · replace h9 := ite_f hc3 h9
        have h12 := h9; clear h9
        refine wp_skip ?_
        refine then_normal ?_
        refine hK11 _ _ ?_
        have s40 := s35.sub (.cons (t := 1) rfl (.cons (t := 2) rfl (.cons (t := 6) rfl .nil))); clear s35
        refine wp_seq_k fun K14 hK14 => ?_
        refine wp_region_lit ?_
        refine seq_op s40 rfl rfl (of_decide_eq_true rfl) (ob_move rfl (.tmp rfl)) fun a41 w41 s41 => ?_; clear s40
        refine seq_op s41 rfl rfl (of_decide_eq_true rfl) (ob_move rfl (.tmp rfl)) fun a42 w42 s42 => ?_; clear s41
        refine seq_op s42 rfl rfl (of_decide_eq_true rfl) (ob_conv rfl _ Try.underlying3 Try.underlying35 (.tmp rfl)) fun a43 w43 s43 => ?_; clear s42
        refine seq_op s43 rfl rfl (of_decide_eq_true rfl) (ob_move rfl (.tmp rfl)) fun a44 w44 s44 => ?_; clear s43
        refine seq_op s44 rfl rfl (of_decide_eq_true rfl) (ob_lenStr rfl Try.underlying9 (.tmp rfl)) fun a45 w45 s45 => ?_; clear s44
        refine seq_op s45 rfl rfl (of_decide_eq_true rfl) (ob_conv rfl _ Try.underlying3 Try.underlying35 (.tmp rfl)) fun a46 w46 s46 => ?_; clear s45
        obtain ⟨g1, h13⟩ := guard_some h12; clear h12
        refine seq_op s46 rfl rfl (of_decide_eq_true rfl) (ob_rem rfl (.tmp rfl) (.tmp rfl) g1) fun a47 w47 s47 => ?_; clear s46
        obtain ⟨x7, e_x7, h14⟩ := bind_some h13; clear h13; replace e_x7 := Option.some.inj e_x7
        refine seq_op s47 rfl rfl (of_decide_eq_true rfl) ((ob_conv rfl _ Try.underlying35 Try.underlying3 (.tmp rfl)).nm e_x7) fun a48 w48 s48 => ?_; clear s47
        obtain ⟨x8, e_x8, h15⟩ := bind_some h14; clear h14
        refine seq_op s48 rfl rfl (of_decide_eq_true rfl) (ob_cutStr rfl Try.underlying9 (.tmp rfl) .none (.some (.tmp rfl)) e_x8) fun a49 w49 s49 => ?_; clear s48
        obtain ⟨x9, e_x9, h16⟩ := bind_some h15; clear h15
        refine seq_opx (B' := (fun b3 : Nat => [BF b3 101 k_wire_Reader x9, BF b1 65 k_caballaw10_Item p1])) s49 rfl rfl (of_decide_eq_true rfl) (ob_callL (args := [_]) (L := []) rfl .direct hb33 (List.Perm.refl _) (fun a w s fs gs hf hg => by obtain rfl := hf.unnil; obtain rfl := hg.unnil; exact c_wire_NewReader k _ _ e_x9 _ _ _ (s.arg (.tmp rfl))) (by exact fun _ => rfl)) fun b3 a50 w50 s50 => ?_; clear s49
        refine seq_op s50 rfl rfl (of_decide_eq_true rfl) (ob_assign rfl (.tmp rfl)) fun a51 w51 s51 => ?_; clear s50
        refine wpList_nil ?_
        refine then_normal ?_
        refine hK14 _ _ ?_
        have s52 := s51.sub (.cons (t := 2) rfl (.cons (t := 7) rfl .nil)); clear s51
        refine wp_seq_k fun K15 hK15 => ?_
        refine wp_seq_k fun K16 hK16 => ?_
        refine wp_region_lit ?_
        refine seq_op s52 rfl rfl (of_decide_eq_true rfl) (ob_fieldAddr (off' := 0) rfl Try.underlying65 rfl sz3 (by decide) (.tmp rfl) rfl) fun a53 w53 s53 => ?_; clear s52
        refine seq_op s53 rfl rfl (of_decide_eq_true rfl) (ob_load rfl tk3 (.tmp rfl) (.tail _ (.head _)) (lg_caballaw10_Item_Kind p1)) fun a54 w54 s54 => ?_; clear s53
        refine seq_op s54 rfl rfl (of_decide_eq_true rfl) (ob_rem rfl (.tmp rfl) (opd_int rfl) (by decide)) fun a55 w55 s55 => ?_; clear s54
        refine wpList_nil ?_
        refine then_normal ?_
        refine hK16 _ _ ?_
        have s56 := s55.sub (.cons (t := 2) rfl (.cons (t := 7) rfl (.cons (t := 35) rfl .nil))); clear s55
        have hj1 : ∀ (y1 : wire_Reader) (a : Act) (w : World), (caballaw10_WireCut.j1 k) y1 = some r → St ⟨78, w0, ok, []⟩ [BF b3 101 k_wire_Reader y1] [(7, (ptrB b3 0))] a w → K15 a w := by
          intro y1 a57 w57 h17 s57
          unfold caballaw10_WireCut.j1 at h17
          refine hK15 _ _ ?_
          refine wp_seq_k fun K17 hK17 => ?_
          refine wp_region_lit ?_
          obtain ⟨x10, e_x10, h18⟩ := bind_some h17; clear h17
          refine seq_op s57 rfl rfl (of_decide_eq_true rfl) (ob_callD (args := []) rfl .direct hb29 (fun a w s fs gs hf hg => by obtain rfl := hf.unnil; obtain rfl := hg.unnil; exact c_caballaw10_alive k _ e_x10 _ _)) fun a58 w58 s58 => ?_; clear s57
          refine seq_op s58 rfl rfl (of_decide_eq_true rfl) (ob_move rfl (.tmp rfl)) fun a59 w59 s59 => ?_; clear s58
          refine seq_opg s59 rfl rfl rfl rfl (of_decide_eq_true rfl) (fun hb => ob_move rfl (.tmp rfl)) fun a60 w60 s60 => ?_; clear s59
          obtain ⟨x11, e_x11, h19⟩ := bind_some h18; clear h18
          refine seq_opg s60 rfl rfl rfl rfl (of_decide_eq_true rfl) (fun hb => (Ob.uncond (t := 74) hb rfl ((ob_lendG (L := [_]) (List.Perm.refl _) (.cons (t := 74) rfl (lendPtrB (.head _) (LG.refl _ _)) .nil) (Flat.res1 (Flat.V (KFlat.int _))) (fun _ => ob_callD (args := [_]) rfl .direct hb39 (fun a w s fs gs hf hg => by obtain rfl := hf.unnil; obtain rfl := hg.unnil; exact c_wire_Reader_End k _ _ (ite_t hb e_x11) _ _ _ (s.arg (.tmp rfl)))))))) fun a61 w61 s61 => ?_; clear s60
          refine seq_opg s61 rfl rfl rfl rfl (of_decide_eq_true rfl) (fun hb => (Ob.uncond (t := 75) hb rfl (ob_eql rfl (.tmp rfl) (opd_int rfl)))) fun a62 w62 s62 => ?_; clear s61
          refine seq_op s62 rfl rfl (of_decide_eq_true rfl) (ob_and2 rfl (.tmp rfl) (.tmp rfl) opd_bool) fun a63 w63 s63 => ?_; clear s62
          refine seq_op s63 rfl rfl (of_decide_eq_true rfl) (ob_assign rfl (.tmp rfl)) fun a64 w64 s64 => ?_; clear s63
          refine wpList_nil ?_
          refine then_normal ?_
          refine hK17 _ _ ?_
          have s65 := s64.sub (.cons (t := 4) rfl .nil); clear s64
          have s66 := St.drop (A := []) s65; clear s65
          refine wp_ret ?_
          obtain rfl := Option.some.inj h19
          exact leave s66 (.inl rfl) rfl (.cons (.tmp rfl) .nil)
        refine wp_block ?_
        refine wp_seq_k fun K18 hK18 => ?_
        refine wp_region_lit ?_
        refine seq_op s56 rfl rfl (of_decide_eq_true rfl) (ob_eql rfl (.tmp rfl) (opd_int rfl)) fun a67 w67 s67 => ?_; clear s56
        refine seq_op s67 rfl rfl (of_decide_eq_true rfl) (ob_assign rfl (.tmp rfl)) fun a68 w68 s68 => ?_; clear s67
        refine wpList_nil ?_
        refine then_normal ?_
        refine hK18 _ _ ?_
        have s69 := s68.sub (.cons (t := 2) rfl (.cons (t := 7) rfl (.cons (t := 35) rfl (.cons (t := 36) rfl .nil)))); clear s68
        refine cond_split s69 (.tmp rfl) (fun hc4 => ?_) (fun hc4 => ?_)
        · replace h16 := ite_t hc4 h16
          have h20 := h16; clear h16
          refine wp_seq_k fun K19 hK19 => ?_
          refine wp_region_lit ?_
          refine seq_op s69 rfl rfl (of_decide_eq_true rfl) (ob_assign rfl (opd_int rfl)) fun a70 w70 s70 => ?_; clear s69
          refine wpList_nil ?_
          refine then_normal ?_
          refine hK19 _ _ ?_
          have s71 := s70.sub (.cons (t := 2) rfl (.cons (t := 7) rfl (.cons (t := 8) rfl .nil))); clear s70
          refine wp_block ?_
          have s72 := s71.perm (toFront [_] (toFront [] (List.Perm.refl _))); clear s71
          refine wp_loop_fuel (fun m (q : Int × wire_Reader) => caballaw10_WireCut.l1 k p1 m q.1 q.2) r (fun _ => rfl) (fun q a w => St ⟨78, w0, ok, []⟩ [BF b1 65 k_caballaw10_Item p1, BF b3 101 k_wire_Reader q.2] [(2, (ptrB b1 0)), (7, (ptrB b3 0)), (8, ((kint .i64).V q.1))] a w) ?_ k ((0 : Int), x9) _ _ h20 (s72.sub (.cons rfl (.cons rfl (.cons rfl .nil))))
          rintro n1 ⟨y2, y3⟩ a73 w73 h21 s73 K20 hK20
          replace h21 : caballaw10_WireCut.l1 k p1 (n1 + 1) y2 y3 = some r := h21; rw [caballaw10_WireCut.l1] at h21
          have h22 := h21; clear h21
          refine wp_seq_k fun K21 hK21 => ?_
          refine wp_seq_k fun K22 hK22 => ?_
          refine wp_region_lit ?_
          refine seq_op s73 rfl rfl (of_decide_eq_true rfl) (ob_move rfl (.tmp rfl)) fun a74 w74 s74 => ?_; clear s73
          refine seq_op s74 rfl rfl (of_decide_eq_true rfl) (ob_fieldAddr (off' := 2) rfl Try.underlying65 rfl sz62 (by decide) (.tmp rfl) rfl) fun a75 w75 s75 => ?_; clear s74
          refine seq_op s75 rfl rfl (of_decide_eq_true rfl) (ob_load rfl tk62 (.tmp rfl) (.head _) (lg_caballaw10_Item_Numbers p1)) fun a76 w76 s76 => ?_; clear s75
          refine seq_op s76 rfl rfl (of_decide_eq_true rfl) (ob_lens rfl Try.underlying62 (.tmp rfl)) fun a77 w77 s77 => ?_; clear s76
          refine seq_op s77 rfl rfl (of_decide_eq_true rfl) (ob_lss rfl (.tmp rfl) (.tmp rfl)) fun a78 w78 s78 => ?_; clear s77
          refine wpList_nil ?_
          refine then_normal ?_
          refine hK22 _ _ ?_
          have s79 := s78.sub (.cons (t := 2) rfl (.cons (t := 7) rfl (.cons (t := 8) rfl (.cons (t := 42) rfl .nil)))); clear s78
          refine cond_split s79 (.tmp rfl) (fun hc5 => ?_) (fun hc5 => ?_)
          · replace h22 := ite_t hc5 h22
            have h23 := h22; clear h22
            refine wp_skip ?_
            refine then_normal ?_
            refine hK21 _ _ ?_
            have s80 := s79.sub (.cons (t := 2) rfl (.cons (t := 7) rfl (.cons (t := 8) rfl .nil))); clear s79
            refine wp_seq_k fun K23 hK23 => ?_
            refine wp_block ?_
            refine wp_region_lit ?_
            refine seq_op s80 rfl rfl (of_decide_eq_true rfl) (ob_move rfl (.tmp rfl)) fun a81 w81 s81 => ?_; clear s80
            obtain ⟨x12, e_x12, h24⟩ := bind_some h23; clear h23
            refine seq_opx (B' := (fun _ : Unit => [BF b3 101 k_wire_Reader x12.2, BF b1 65 k_caballaw10_Item p1])) s81 rfl rfl (of_decide_eq_true rfl) (ob_callL (args := [_]) (L := [_]) rfl .direct hb34 (toFront [_] (List.Perm.refl _)) (fun a w s fs gs hf hg => by obtain rfl := hf.unnil; obtain rfl := hg.unnil; exact c_wire_Reader_Number k _ _ e_x12 _ _ _ _ (ownL s) (disL s) (nodL s) (s.arg (.tmp rfl))) (by exact fun _ => rfl)) fun _ a82 w82 s82 => ?_; clear s81
            refine wpList_nil ?_
            refine in_normal ?_
            refine then_normal ?_
            refine hK23 _ _ ?_
            have s83 := s82.sub (.cons (t := 2) rfl (.cons (t := 7) rfl (.cons (t := 8) rfl .nil))); clear s82
            refine wp_region_lit ?_
            refine seq_op s83 rfl rfl (of_decide_eq_true rfl) (ob_move rfl (.tmp rfl)) fun a84 w84 s84 => ?_; clear s83
            refine seq_op s84 rfl rfl (of_decide_eq_true rfl) (ob_add rfl (.tmp rfl) (opd_int rfl)) fun a85 w85 s85 => ?_; clear s84
            refine seq_op s85 rfl rfl (of_decide_eq_true rfl) (ob_assign rfl (.tmp rfl)) fun a86 w86 s86 => ?_; clear s85
            refine wpList_nil ?_
            refine then_normal ?_
            have s87 := s86.perm (toFront [_] (toFront [] (List.Perm.refl _))); clear s86
            exact hK20 ((iadd .i64 y2 (1 : Int)), x12.2) _ _ h24 (s87.sub (.cons rfl (.cons rfl (.cons rfl .nil))))
          · replace h22 := ite_f hc5 h22
            have h25 := h22; clear h22
            refine wp_exit ?_
            refine (then_exit (then_exit (in_here ?_)))
            refine in_normal ?_
            refine then_normal ?_
            have s88 := St.drop (A := []) s79; clear s79
            exact hj1 y3 _ _ h25 (s88.sub (.cons rfl .nil))
        · replace h16 := ite_f hc4 h16
          have h26 := h16; clear h16
          refine wp_seq_k fun K24 hK24 => ?_
          refine wp_region_lit ?_
          refine seq_op s69 rfl rfl (of_decide_eq_true rfl) (ob_eql rfl (.tmp rfl) (opd_int rfl)) fun a89 w89 s89 => ?_; clear s69
          refine seq_op s89 rfl rfl (of_decide_eq_true rfl) (ob_assign rfl (.tmp rfl)) fun a90 w90 s90 => ?_; clear s89
          refine wpList_nil ?_
          refine then_normal ?_
          refine hK24 _ _ ?_
          have s91 := s90.sub (.cons (t := 2) rfl (.cons (t := 7) rfl (.cons (t := 35) rfl (.cons (t := 47) rfl .nil)))); clear s90
          refine cond_split s91 (.tmp rfl) (fun hc6 => ?_) (fun hc6 => ?_)
          · replace h26 := ite_t hc6 h26
            have h27 := h26; clear h26
            refine wp_seq_k fun K25 hK25 => ?_
            refine wp_region_lit ?_
            refine seq_op s91 rfl rfl (of_decide_eq_true rfl) (ob_move rfl (.tmp rfl)) fun a92 w92 s92 => ?_; clear s91
            obtain ⟨x13, e_x13, h28⟩ := bind_some h27; clear h27
            refine seq_opx (B' := (fun _ : Unit => [BF b3 101 k_wire_Reader x13.2, BF b1 65 k_caballaw10_Item p1])) s92 rfl rfl (of_decide_eq_true rfl) (ob_callL (args := [_, _]) (L := [_]) rfl .direct hb35 (List.Perm.refl _) (fun a w s fs gs hf hg => by obtain rfl := hf.unnil; obtain rfl := hg.unnil; exact c_wire_Reader_Text k _ _ _ e_x13 _ _ _ _ _ (ownL s) (disL s) (nodL s) (s.arg (.tmp rfl)) (s.arg (opd_int rfl))) (by exact fun _ => rfl)) fun _ a93 w93 s93 => ?_; clear s92
            refine wpList_nil ?_
            refine then_normal ?_
            refine hK25 _ _ ?_
            have s94 := s93.sub (.cons (t := 7) rfl .nil); clear s93
            have s95 := St.drop (A := [_]) s94; clear s94
            refine wp_region_lit ?_
            refine seq_op s95 rfl rfl (of_decide_eq_true rfl) (ob_move rfl (.tmp rfl)) fun a96 w96 s96 => ?_; clear s95
            obtain ⟨x14, e_x14, h29⟩ := bind_some h28; clear h28
            refine seq_opx (B' := (fun _ : Unit => [BF b3 101 k_wire_Reader x14.2])) s96 rfl rfl (of_decide_eq_true rfl) (ob_callL (args := [_, _]) (L := [_]) rfl .direct hb35 (List.Perm.refl _) (fun a w s fs gs hf hg => by obtain rfl := hf.unnil; obtain rfl := hg.unnil; exact c_wire_Reader_Text k _ _ _ e_x14 _ _ _ _ _ (ownL s) (disL s) (nodL s) (s.arg (.tmp rfl)) (s.arg (opd_int rfl))) (by exact fun _ => rfl)) fun _ a97 w97 s97 => ?_; clear s96
            refine wpList_nil ?_
            refine in_normal ?_
            refine then_normal ?_
            exact hj1 x14.2 _ _ h29 (s97.sub (.cons rfl .nil))
          · replace h26 := ite_f hc6 h26
            have h30 := h26; clear h26
            refine wp_seq_k fun K26 hK26 => ?_
            refine wp_region_lit ?_
            refine seq_op s91 rfl rfl (of_decide_eq_true rfl) (ob_eql rfl (.tmp rfl) (opd_int rfl)) fun a98 w98 s98 => ?_; clear s91
            refine seq_op s98 rfl rfl (of_decide_eq_true rfl) (ob_assign rfl (.tmp rfl)) fun a99 w99 s99 => ?_; clear s98
            refine wpList_nil ?_
            refine then_normal ?_
            refine hK26 _ _ ?_
            have s100 := s99.sub (.cons (t := 2) rfl (.cons (t := 7) rfl (.cons (t := 35) rfl (.cons (t := 53) rfl .nil)))); clear s99
            refine cond_split s100 (.tmp rfl) (fun hc7 => ?_) (fun hc7 => ?_)
            · replace h30 := ite_t hc7 h30
              have h31 := h30; clear h30
              refine wp_seq_k fun K27 hK27 => ?_
              refine wp_region_lit ?_
              refine seq_op s100 rfl rfl (of_decide_eq_true rfl) (ob_assign rfl (opd_int rfl)) fun a101 w101 s101 => ?_; clear s100
              refine wpList_nil ?_
              refine then_normal ?_
              refine hK27 _ _ ?_
              have s102 := s101.sub (.cons (t := 2) rfl (.cons (t := 7) rfl (.cons (t := 9) rfl .nil))); clear s101
              refine wp_block ?_
              have s103 := s102.perm (toFront [_] (toFront [] (List.Perm.refl _))); clear s102
              refine wp_loop_fuel (fun m (q : Int × wire_Reader) => caballaw10_WireCut.l2 k p1 m q.1 q.2) r (fun _ => rfl) (fun q a w => St ⟨78, w0, ok, []⟩ [BF b1 65 k_caballaw10_Item p1, BF b3 101 k_wire_Reader q.2] [(2, (ptrB b1 0)), (7, (ptrB b3 0)), (9, ((kint .i64).V q.1))] a w) ?_ k ((0 : Int), x9) _ _ h31 (s103.sub (.cons rfl (.cons rfl (.cons rfl .nil))))
              rintro n2 ⟨y4, y5⟩ a104 w104 h32 s104 K28 hK28
              replace h32 : caballaw10_WireCut.l2 k p1 (n2 + 1) y4 y5 = some r := h32; rw [caballaw10_WireCut.l2] at h32
              have h33 := h32; clear h32
              refine wp_seq_k fun K29 hK29 => ?_
              refine wp_seq_k fun K30 hK30 => ?_
              refine wp_region_lit ?_
              refine seq_op s104 rfl rfl (of_decide_eq_true rfl) (ob_move rfl (.tmp rfl)) fun a105 w105 s105 => ?_; clear s104
              refine seq_op s105 rfl rfl (of_decide_eq_true rfl) (ob_fieldAddr (off' := 4) rfl Try.underlying65 rfl sz63 (by decide) (.tmp rfl) rfl) fun a106 w106 s106 => ?_; clear s105
              refine seq_op s106 rfl rfl (of_decide_eq_true rfl) (ob_load rfl tk63 (.tmp rfl) (.head _) (lg_caballaw10_Item_Keys p1)) fun a107 w107 s107 => ?_; clear s106
              refine seq_op s107 rfl rfl (of_decide_eq_true rfl) (ob_lens rfl Try.underlying63 (.tmp rfl)) fun a108 w108 s108 => ?_; clear s107
              refine seq_op s108 rfl rfl (of_decide_eq_true rfl) (ob_lss rfl (.tmp rfl) (.tmp rfl)) fun a109 w109 s109 => ?_; clear s108
              refine wpList_nil ?_
              refine then_normal ?_
              refine hK30 _ _ ?_
              have s110 := s109.sub (.cons (t := 2) rfl (.cons (t := 7) rfl (.cons (t := 9) rfl (.cons (t := 59) rfl .nil)))); clear s109
              refine cond_split s110 (.tmp rfl) (fun hc8 => ?_) (fun hc8 => ?_)
              · replace h33 := ite_t hc8 h33
                have h34 := h33; clear h33
                refine wp_skip ?_
                refine then_normal ?_
                refine hK29 _ _ ?_
                have s111 := s110.sub (.cons (t := 2) rfl (.cons (t := 7) rfl (.cons (t := 9) rfl .nil))); clear s110
                refine wp_seq_k fun K31 hK31 => ?_
                refine wp_block ?_
                refine wp_region_lit ?_
                refine seq_op s111 rfl rfl (of_decide_eq_true rfl) (ob_move rfl (.tmp rfl)) fun a112 w112 s112 => ?_; clear s111
                obtain ⟨x15, e_x15, h35⟩ := bind_some h34; clear h34
                refine seq_opx (B' := (fun _ : Unit => [BF b3 101 k_wire_Reader x15.2, BF b1 65 k_caballaw10_Item p1])) s112 rfl rfl (of_decide_eq_true rfl) (ob_callL (args := [_]) (L := [_]) rfl .direct hb36 (toFront [_] (List.Perm.refl _)) (fun a w s fs gs hf hg => by obtain rfl := hf.unnil; obtain rfl := hg.unnil; exact c_wire_Reader_Key k _ _ e_x15 _ _ _ _ (ownL s) (disL s) (nodL s) (s.arg (.tmp rfl))) (by exact fun _ => rfl)) fun _ a113 w113 s113 => ?_; clear s112
                refine wpList_nil ?_
                refine in_normal ?_
                refine then_normal ?_
                refine hK31 _ _ ?_
                have s114 := s113.sub (.cons (t := 2) rfl (.cons (t := 7) rfl (.cons (t := 9) rfl .nil))); clear s113
                refine wp_region_lit ?_
                refine seq_op s114 rfl rfl (of_decide_eq_true rfl) (ob_move rfl (.tmp rfl)) fun a115 w115 s115 => ?_; clear s114
                refine seq_op s115 rfl rfl (of_decide_eq_true rfl) (ob_add rfl (.tmp rfl) (opd_int rfl)) fun a116 w116 s116 => ?_; clear s115
                refine seq_op s116 rfl rfl (of_decide_eq_true rfl) (ob_assign rfl (.tmp rfl)) fun a117 w117 s117 => ?_; clear s116
                refine wpList_nil ?_
                refine then_normal ?_
                have s118 := s117.perm (toFront [_] (toFront [] (List.Perm.refl _))); clear s117
                exact hK28 ((iadd .i64 y4 (1 : Int)), x15.2) _ _ h35 (s118.sub (.cons rfl (.cons rfl (.cons rfl .nil))))
              · replace h33 := ite_f hc8 h33
                have h36 := h33; clear h33
                refine wp_exit ?_
                refine (then_exit (then_exit (in_here ?_)))
                refine in_normal ?_
                refine then_normal ?_
                have s119 := St.drop (A := []) s110; clear s110
                exact hj1 y5 _ _ h36 (s119.sub (.cons rfl .nil))
            · replace h30 := ite_f hc7 h30
              have h37 := h30; clear h30
              refine wp_seq_k fun K32 hK32 => ?_
              refine wp_region_lit ?_
              refine seq_op s100 rfl rfl (of_decide_eq_true rfl) (ob_eql rfl (.tmp rfl) (opd_int rfl)) fun a120 w120 s120 => ?_; clear s100
              refine seq_op s120 rfl rfl (of_decide_eq_true rfl) (ob_assign rfl (.tmp rfl)) fun a121 w121 s121 => ?_; clear s120
              refine wpList_nil ?_
              refine then_normal ?_
              refine hK32 _ _ ?_
              have s122 := s121.sub (.cons (t := 7) rfl (.cons (t := 35) rfl (.cons (t := 64) rfl .nil))); clear s121
              have s123 := St.drop (A := [_]) s122; clear s122
              refine cond_split s123 (.tmp rfl) (fun hc9 => ?_) (fun hc9 => ?_)
              · replace h37 := ite_t hc9 h37
                have h38 := h37; clear h37
                refine wp_region_lit ?_
                refine seq_op s123 rfl rfl (of_decide_eq_true rfl) (ob_move rfl (.tmp rfl)) fun a124 w124 s124 => ?_; clear s123
                obtain ⟨x16, e_x16, h39⟩ := bind_some h38; clear h38
                refine seq_opx (B' := (fun v2 : Value => [RowF v2 72 (karr 32 (kint .u8)) x16.1, BF b3 101 k_wire_Reader x16.2])) s124 rfl rfl (of_decide_eq_true rfl) (ob_callL (args := [_, _]) (L := [_]) rfl .direct hb37 (List.Perm.refl _) (fun a w s fs gs hf hg => by obtain rfl := hf.unnil; obtain rfl := hg.unnil; exact c_wire_Reader_KeyList k _ _ _ e_x16 _ _ _ _ _ (ownL s) (disL s) (nodL s) (s.arg (.tmp rfl)) (s.arg (opd_int rfl))) (by exact fun _ => rfl)) fun v2 a125 w125 s125 => ?_; clear s124
                refine wpList_nil ?_
                refine in_normal ?_
                refine then_normal ?_
                have s126 := St.drop (A := []) s125; clear s125
                exact hj1 x16.2 _ _ h39 (s126.sub (.cons rfl .nil))
              · replace h37 := ite_f hc9 h37
                have h40 := h37; clear h37
                refine wp_seq_k fun K33 hK33 => ?_
                refine wp_region_lit ?_
                refine seq_op s123 rfl rfl (of_decide_eq_true rfl) (ob_eql rfl (.tmp rfl) (opd_int rfl)) fun a127 w127 s127 => ?_; clear s123
                refine seq_op s127 rfl rfl (of_decide_eq_true rfl) (ob_assign rfl (.tmp rfl)) fun a128 w128 s128 => ?_; clear s127
                refine wpList_nil ?_
                refine then_normal ?_
                refine hK33 _ _ ?_
                have s129 := s128.sub (.cons (t := 7) rfl (.cons (t := 68) rfl .nil)); clear s128
                refine cond_split s129 (.tmp rfl) (fun hc10 => ?_) (fun hc10 => ?_)
                · replace h40 := ite_t hc10 h40
                  have h41 := h40; clear h40
                  refine wp_region_lit ?_
                  refine seq_op s129 rfl rfl (of_decide_eq_true rfl) (ob_move rfl (.tmp rfl)) fun a130 w130 s130 => ?_; clear s129
                  obtain ⟨x17, e_x17, h42⟩ := bind_some h41; clear h41
                  refine seq_opx (B' := (fun v3 : Value => [RowF v3 69 (kint .u32) x17.1, BF b3 101 k_wire_Reader x17.2])) s130 rfl rfl (of_decide_eq_true rfl) (ob_callL (args := [_, _]) (L := [_]) rfl .direct hb38 (List.Perm.refl _) (fun a w s fs gs hf hg => by obtain rfl := hf.unnil; obtain rfl := hg.unnil; exact c_wire_Reader_NumberList k _ _ _ e_x17 _ _ _ _ _ (ownL s) (disL s) (nodL s) (s.arg (.tmp rfl)) (s.arg (opd_int rfl))) (by exact fun _ => rfl)) fun v3 a131 w131 s131 => ?_; clear s130
                  refine wpList_nil ?_
                  refine in_normal ?_
                  refine then_normal ?_
                  have s132 := St.drop (A := []) s131; clear s131
                  exact hj1 x17.2 _ _ h42 (s132.sub (.cons rfl .nil))
                · replace h40 := ite_f hc10 h40
                  have h43 := h40; clear h40
                  refine wp_skip ?_
                  refine in_normal ?_
                  refine then_normal ?_
                  exact hj1 x9 _ _ h43 (s129.sub (.cons rfl .nil))

/- 37 (*cabal/wire.Reader).KeyList -/
theorem c_wire_Reader_KeyList_w2 (k : Nat) (p1 : wire_Reader) (p2 : Int) (r : ((List (List Int)) × wire_Reader)) (h0 : wire_Reader_KeyList_w2 k p1 p2 = some r) (ok : Ok) (w0 : World) (z0 : Value) (z1 : Value) (b00 : Nat) (l0 : ∀ q, q ∈ [BF b00 101 k_wire_Reader p1] → q.holds ok w0) (d0 : ∀ c, c ∈ idsOf [BF b00 101 k_wire_Reader p1] → ¬ ok c) (nd : (idsOf [BF b00 101 k_wire_Reader p1]).Nodup) (u0 : (ptrB b00 0).holds ok w0 z0) (u1 : ((kint .i64).V p2).holds ok w0 z1) :
    GivesX Try.prog 37 [z0, z1] ok w0 [BF b00 101 k_wire_Reader p1] (fun g : Unit => resFact [(ksl (karr 32 (kint .u8))).V r.1]) (fun g : Unit => [BF b00 101 k_wire_Reader r.2]) := by
  unfold wire_Reader_KeyList_w2 at h0
  refine enterX (N := 10) Try.func37 rfl rfl (of_decide_eq_true rfl) (.cons u0 (.cons u1 .nil)) nd l0 d0 fun a1 s1 => ?_
  refine wp_seq_k fun K1 hK1 => ?_
  refine wp_region_lit ?_
  refine seq_op s1 rfl rfl (of_decide_eq_true rfl) (ob_assign rfl opd_is) fun a2 w2 s2 => ?_; clear s1
  have s3 := St.adopt s2 (G := RowF (nilRow 13) 72 (karr 32 (kint .u8)) []) rfl (rowNilN _ _ _ _ _); clear s2
  refine wpList_nil ?_
  refine then_normal ?_
  refine hK1 _ _ ?_
  have s4 := s3.sub (.cons (t := 0) rfl (.cons (t := 1) rfl .nil)); clear s3
  have s5 := St.drop (A := []) s4; clear s4
  refine wp_seq_k fun K2 hK2 => ?_
  refine wp_region_lit ?_
  refine seq_op s5 rfl rfl (of_decide_eq_true rfl) (ob_move rfl (.tmp rfl)) fun a6 w6 s6 => ?_; clear s5
  refine seq_op s6 rfl rfl (of_decide_eq_true rfl) (ob_move rfl (.tmp rfl)) fun a7 w7 s7 => ?_; clear s6
  refine seq_op s7 rfl rfl (of_decide_eq_true rfl) (ob_move rfl (.tmp rfl)) fun a8 w8 s8 => ?_; clear s7
  refine seq_op s8 rfl rfl (of_decide_eq_true rfl) (ob_makeFn (xs := [_]) (ys := []) rfl (.cons (.tmp rfl) .nil) .nil) fun a9 w9 s9 => ?_; clear s8
  obtain ⟨x1, e_x1, h1⟩ := bind_some h0; clear h0
  refine seq_opx (B' := (fun v1 : Value => [RowF v1 72 (karr 32 (kint .u8)) x1.1, BF b00 101 k_wire_Reader x1.2])) s9 rfl rfl (of_decide_eq_true rfl) (ob_callL (args := [_, _, _]) (L := [_]) rfl .direct hb63 (List.Perm.refl _) (fun a w s fs gs hf hg => by obtain rfl := hf.unnil; obtain rfl := hg.unnil; exact c_wire_list_api_Key_wire_Reader_Key k _ _ _ e_x1 _ _ _ _ _ _ (ownL s) (disL s) (nodL s) (s.arg (.tmp rfl)) (s.arg (.tmp rfl)) (s.arg (.tmp rfl))) (by exact fun _ => rfl)) fun v1 a10 w10 s10 => ?_; clear s9
  refine seq_op s10 rfl rfl (of_decide_eq_true rfl) (ob_assign rfl (.tmp rfl)) fun a11 w11 s11 => ?_; clear s10
  refine wpList_nil ?_
  refine then_normal ?_
  refine hK2 _ _ ?_
  have s12 := s11.sub (.cons (t := 4) rfl .nil); clear s11
  refine wp_ret ?_
  have s13 := St.freezeAllM (A := []) s12 (ts := [4]) (.cons rfl .nil); clear s12
  obtain rfl := Option.some.inj h1
  exact leaveXD (D := []) () s13 rfl (.inl rfl) rfl (.cons (.tmp rfl) .nil) rfl

/- 40 cabal/cabalref08.SameKeys -/
theorem c_cabalref08_SameKeys (k : Nat) (p1 : (List (List Int))) (p2 : (List (List Int))) (r : Bool) (h0 : cabalref08_SameKeys k p1 p2 = some r) (ok : Ok) (w0 : World) (z0 : Value) (z1 : Value) (u0 : ((ksl (karr 32 (kint .u8))).V p1).holds ok w0 z0) (u1 : ((ksl (karr 32 (kint .u8))).V p2).holds ok w0 z1) :
    Gives Try.prog 40 [z0, z1] ok w0 (resFact [kbool.V r]) := by
  unfold cabalref08_SameKeys at h0
  refine enter (N := 26) Try.func40 rfl rfl (of_decide_eq_true rfl) (.cons u0 (.cons u1 .nil)) fun a1 s1 => ?_
  refine wp_seq_k fun K1 hK1 => ?_
  refine wp_region_lit ?_
  refine seq_op s1 rfl rfl (of_decide_eq_true rfl) (ob_assign rfl opd_bool) fun a2 w2 s2 => ?_; clear s1
  refine wpList_nil ?_
  refine then_normal ?_
  refine hK1 _ _ ?_
  have s3 := s2.sub (.cons (t := 0) rfl (.cons (t := 1) rfl .nil)); clear s2
  refine wp_seq_k fun K2 hK2 => ?_
  refine wp_seq_k fun K3 hK3 => ?_
  refine wp_region_lit ?_
  refine seq_op s3 rfl rfl (of_decide_eq_true rfl) (ob_move rfl (.tmp rfl)) fun a4 w4 s4 => ?_; clear s3
  refine seq_op s4 rfl rfl (of_decide_eq_true rfl) (ob_lens rfl Try.underlying63 (.tmp rfl)) fun a5 w5 s5 => ?_; clear s4
  refine seq_op s5 rfl rfl (of_decide_eq_true rfl) (ob_move rfl (.tmp rfl)) fun a6 w6 s6 => ?_; clear s5
  refine seq_op s6 rfl rfl (of_decide_eq_true rfl) (ob_lens rfl Try.underlying63 (.tmp rfl)) fun a7 w7 s7 => ?_; clear s6
  refine seq_op s7 rfl rfl (of_decide_eq_true rfl) (ob_neq rfl (.tmp rfl) (.tmp rfl)) fun a8 w8 s8 => ?_; clear s7
  refine wpList_nil ?_
  refine then_normal ?_
  refine hK3 _ _ ?_
  have s9 := s8.sub (.cons (t := 0) rfl (.cons (t := 1) rfl (.cons (t := 10) rfl .nil))); clear s8
  refine cond_split s9 (.tmp rfl) (fun hc1 => ?_) (fun hc1 => ?_)
  · replace h0 := ite_t hc1 h0
    have h1 := h0; clear h0
    refine wp_seq_k fun K4 hK4 => ?_
    refine wp_region_lit ?_
    refine seq_op s9 rfl rfl (of_decide_eq_true rfl) (ob_assign rfl opd_bool) fun a10 w10 s10 => ?_; clear s9
    refine wpList_nil ?_
    refine then_normal ?_
    refine hK4 _ _ ?_
    have s11 := s10.sub (.cons (t := 4) rfl .nil); clear s10
    refine wp_ret ?_
    obtain rfl := Option.some.inj h1
    exact leave s11 (.inl rfl) rfl (.cons (.tmp rfl) .nil)
  · replace h0 := ite_f hc1 h0
    have h2 := h0; clear h0
    refine wp_skip ?_
    refine then_normal ?_
    refine hK2 _ _ ?_
    have s12 := s9.sub (.cons (t := 0) rfl (.cons (t := 1) rfl .nil)); clear s9
    refine wp_seq_k fun K5 hK5 => ?_
    refine wp_seq_k fun K6 hK6 => ?_
    refine wp_region_lit ?_
    refine seq_op s12 rfl rfl (of_decide_eq_true rfl) (ob_assign rfl (opd_int rfl)) fun a13 w13 s13 => ?_; clear s12
    refine wpList_nil ?_
    refine then_normal ?_
    refine hK6 _ _ ?_
    have s14 := s13.sub (.cons (t := 0) rfl (.cons (t := 1) rfl (.cons (t := 5) rfl .nil))); clear s13
    have hj1 : ∀ (a : Act) (w : World), (cabalref08_SameKeys.j1 k) = some r → St ⟨26, w0, ok, []⟩ [] [] a w → K5 a w := by
      intro a15 w15 h3 s15
      unfold cabalref08_SameKeys.j1 at h3
      refine hK5 _ _ ?_
      refine wp_seq_k fun K7 hK7 => ?_
      refine wp_region_lit ?_
      refine seq_op s15 rfl rfl (of_decide_eq_true rfl) (ob_assign rfl opd_bool) fun a16 w16 s16 => ?_; clear s15
      refine wpList_nil ?_
      refine then_normal ?_
      refine hK7 _ _ ?_
      have s17 := s16.sub (.cons (t := 4) rfl .nil); clear s16
      refine wp_ret ?_
      obtain rfl := Option.some.inj h3
      exact leave s17 (.inl rfl) rfl (.cons (.tmp rfl) .nil)
    refine wp_block ?_
    refine wp_loop_fuel (fun m (q : Int) => cabalref08_SameKeys.l1 k p1 p2 m q) r (fun _ => rfl) (fun q a w => St ⟨26, w0, ok, []⟩ [] [(0, ((ksl (karr 32 (kint .u8))).V p1)), (1, ((ksl (karr 32 (kint .u8))).V p2)), (5, ((kint .i64).V q))] a w) ?_ k (0 : Int) _ _ h2 (s14.sub (.cons rfl (.cons rfl (.cons rfl .nil))))
    rintro n1 y1 a18 w18 h4 s18 K8 hK8
    replace h4 : cabalref08_SameKeys.l1 k p1 p2 (n1 + 1) y1 = some r := h4; rw [cabalref08_SameKeys.l1] at h4
    have h5 := h4; clear h4
    refine wp_seq_k fun K9 hK9 => ?_
    refine wp_seq_k fun K10 hK10 => ?_
    refine wp_region_lit ?_
    refine seq_op s18 rfl rfl (of_decide_eq_true rfl) (ob_move rfl (.tmp rfl)) fun a19 w19 s19 => ?_; clear s18
    refine seq_op s19 rfl rfl (of_decide_eq_true rfl) (ob_move rfl (.tmp rfl)) fun a20 w20 s20 => ?_; clear s19
    refine seq_op s20 rfl rfl (of_decide_eq_true rfl) (ob_lens rfl Try.underlying63 (.tmp rfl)) fun a21 w21 s21 => ?_; clear s20
    refine seq_op s21 rfl rfl (of_decide_eq_true rfl) (ob_lss rfl (.tmp rfl) (.tmp rfl)) fun a22 w22 s22 => ?_; clear s21
    refine wpList_nil ?_
    refine then_normal ?_
    refine hK10 _ _ ?_
    have s23 := s22.sub (.cons (t := 0) rfl (.cons (t := 1) rfl (.cons (t := 5) rfl (.cons (t := 14) rfl .nil)))); clear s22
    refine cond_split s23 (.tmp rfl) (fun hc2 => ?_) (fun hc2 => ?_)
    · replace h5 := ite_t hc2 h5
      have h6 := h5; clear h5
      refine wp_skip ?_
      refine then_normal ?_
      refine hK9 _ _ ?_
      have s24 := s23.sub (.cons (t := 0) rfl (.cons (t := 1) rfl (.cons (t := 5) rfl .nil))); clear s23
      refine wp_seq_k fun K11 hK11 => ?_
      refine wp_block ?_
      refine wp_seq_k fun K12 hK12 => ?_
      obtain ⟨x1, e_x1, h7⟩ := bind_some h6; clear h6
      obtain ⟨x2, e_x2, h8⟩ := bind_some h7; clear h7
      refine wp_goes (Fs := [((ksl (karr 32 (kint .u8))).V p1), ((kint .i64).V y1), (ptrTo (karr 32 (kint .u8)) x1), ((karr 32 (kint .u8)).V x1), ((ksl (karr 32 (kint .u8))).V p2), ((kint .i64).V y1), (ptrTo (karr 32 (kint .u8)) x2), ((karr 32 (kint .u8)).V x2)]) (bits := [0, 0, 3, 7, 0, 0, 48, 112, 255]) (m := 8) (todo := 0) mx s24 ?_; clear s24
      refine goes_last (by kernel_rfl) rfl (opsS_cons (.plain _ (Av.old (t := 0) rfl rfl Av.nil) rfl rfl (ob_move rfl (.tmp rfl))) (opsS_cons (.plain _ (Av.old (t := 5) rfl rfl Av.nil) rfl rfl (ob_move rfl (.tmp rfl))) (opsS_cons (.plain _ (Av.new (j := 0) rfl rfl rfl (Av.new (j := 1) rfl rfl rfl Av.nil)) rfl rfl (ob_indexAddrs rfl Try.underlying63 sz72 (.tmp rfl) (.tmp rfl) e_x1)) (opsS_cons (.plain _ (Av.new (j := 2) rfl rfl rfl Av.nil) rfl rfl (ob_loadr rfl tk72 (.tmp rfl))) (opsS_cons (.plain _ (Av.old (t := 1) rfl rfl Av.nil) rfl rfl (ob_move rfl (.tmp rfl))) (opsS_cons (.plain _ (Av.old (t := 5) rfl rfl Av.nil) rfl rfl (ob_move rfl (.tmp rfl))) (opsS_cons (.plain _ (Av.new (j := 4) rfl rfl rfl (Av.new (j := 5) rfl rfl rfl Av.nil)) rfl rfl (ob_indexAddrs rfl Try.underlying63 sz72 (.tmp rfl) (.tmp rfl) e_x2)) (opsS_cons (.plain _ (Av.new (j := 6) rfl rfl rfl Av.nil) rfl rfl (ob_loadr rfl tk72 (.tmp rfl))) opsS_nil)))))))) (out_old (t := 0) rfl rfl (out_old (t := 1) rfl rfl (out_old (t := 5) rfl rfl (out_new (i := 3) (by decide) rfl rfl (out_new (i := 7) (by decide) rfl rfl out_nil))))) fun a25 w25 s25 => ?_
      refine seq_op s25 rfl rfl (of_decide_eq_true rfl) (ob_neqAgg rfl rfl (by kernel_rfl) eq72 (by decide) (.tmp rfl) (.tmp rfl)) fun a26 w26 s26 => ?_; clear s25
      refine wpList_nil ?_
      refine then_normal ?_
      refine hK12 _ _ ?_
      have s27 := s26.sub (.cons (t := 0) rfl (.cons (t := 1) rfl (.cons (t := 5) rfl (.cons (t := 25) rfl .nil)))); clear s26
      refine cond_split s27 (.tmp rfl) (fun hc3 => ?_) (fun hc3 => ?_)
      · replace h8 := ite_t hc3 h8
        have h9 := h8; clear h8
        refine wp_seq_k fun K13 hK13 => ?_
        refine wp_region_lit ?_
        refine seq_op s27 rfl rfl (of_decide_eq_true rfl) (ob_assign rfl opd_bool) fun a28 w28 s28 => ?_; clear s27
        refine wpList_nil ?_
        refine then_normal ?_
        refine hK13 _ _ ?_
        have s29 := s28.sub (.cons (t := 4) rfl .nil); clear s28
        refine wp_ret ?_
        obtain rfl := Option.some.inj h9
        exact leave s29 (.inl rfl) rfl (.cons (.tmp rfl) .nil)
      · replace h8 := ite_f hc3 h8
        have h10 := h8; clear h8
        refine wp_skip ?_
        refine in_normal ?_
        refine then_normal ?_
        refine hK11 _ _ ?_
        have s30 := s27.sub (.cons (t := 0) rfl (.cons (t := 1) rfl (.cons (t := 5) rfl .nil))); clear s27
        refine wp_region_lit ?_
        refine seq_op s30 rfl rfl (of_decide_eq_true rfl) (ob_move rfl (.tmp rfl)) fun a31 w31 s31 => ?_; clear s30
        refine seq_op s31 rfl rfl (of_decide_eq_true rfl) (ob_add rfl (.tmp rfl) (opd_int rfl)) fun a32 w32 s32 => ?_; clear s31
        refine seq_op s32 rfl rfl (of_decide_eq_true rfl) (ob_assign rfl (.tmp rfl)) fun a33 w33 s33 => ?_; clear s32
        refine wpList_nil ?_
        refine then_normal ?_
        exact hK8 (iadd .i64 y1 (1 : Int)) _ _ h10 (s33.sub (.cons rfl (.cons rfl (.cons rfl .nil))))
    · replace h5 := ite_f hc2 h5
      have h11 := h5; clear h5
      refine wp_exit ?_
      refine (then_exit (then_exit (in_here ?_)))
      refine then_normal ?_
      exact hj1 _ _ h11 (s23.sub .nil)

/- 38 (*cabal/wire.Reader).NumberList -/
theorem c_wire_Reader_NumberList_w2 (k : Nat) (p1 : wire_Reader) (p2 : Int) (r : ((List Int) × wire_Reader)) (h0 : wire_Reader_NumberList_w2 k p1 p2 = some r) (ok : Ok) (w0 : World) (z0 : Value) (z1 : Value) (b00 : Nat) (l0 : ∀ q, q ∈ [BF b00 101 k_wire_Reader p1] → q.holds ok w0) (d0 : ∀ c, c ∈ idsOf [BF b00 101 k_wire_Reader p1] → ¬ ok c) (nd : (idsOf [BF b00 101 k_wire_Reader p1]).Nodup) (u0 : (ptrB b00 0).holds ok w0 z0) (u1 : ((kint .i64).V p2).holds ok w0 z1) :
    GivesX Try.prog 38 [z0, z1] ok w0 [BF b00 101 k_wire_Reader p1] (fun g : Unit => resFact [(ksl (kint .u32)).V r.1]) (fun g : Unit => [BF b00 101 k_wire_Reader r.2]) := by
  unfold wire_Reader_NumberList_w2 at h0
  refine enterX (N := 10) Try.func38 rfl rfl (of_decide_eq_true rfl) (.cons u0 (.cons u1 .nil)) nd l0 d0 fun a1 s1 => ?_
  refine wp_seq_k fun K1 hK1 => ?_
  refine wp_region_lit ?_
  refine seq_op s1 rfl rfl (of_decide_eq_true rfl) (ob_assign rfl opd_is) fun a2 w2 s2 => ?_; clear s1
  have s3 := St.adopt s2 (G := RowF (nilRow 14) 69 (kint .u32) []) rfl (rowNilN _ _ _ _ _); clear s2
  refine wpList_nil ?_
  refine then_normal ?_
  refine hK1 _ _ ?_
  have s4 := s3.sub (.cons (t := 0) rfl (.cons (t := 1) rfl .nil)); clear s3
  have s5 := St.drop (A := []) s4; clear s4
  refine wp_seq_k fun K2 hK2 => ?_
  refine wp_region_lit ?_
  refine seq_op s5 rfl rfl (of_decide_eq_true rfl) (ob_move rfl (.tmp rfl)) fun a6 w6 s6 => ?_; clear s5
  refine seq_op s6 rfl rfl (of_decide_eq_true rfl) (ob_move rfl (.tmp rfl)) fun a7 w7 s7 => ?_; clear s6
  refine seq_op s7 rfl rfl (of_decide_eq_true rfl) (ob_move rfl (.tmp rfl)) fun a8 w8 s8 => ?_; clear s7
  refine seq_op s8 rfl rfl (of_decide_eq_true rfl) (ob_makeFn (xs := [_]) (ys := []) rfl (.cons (.tmp rfl) .nil) .nil) fun a9 w9 s9 => ?_; clear s8
  obtain ⟨x1, e_x1, h1⟩ := bind_some h0; clear h0
  refine seq_opx (B' := (fun v1 : Value => [RowF v1 69 (kint .u32) x1.1, BF b00 101 k_wire_Reader x1.2])) s9 rfl rfl (of_decide_eq_true rfl) (ob_callL (args := [_, _, _]) (L := [_]) rfl .direct hb64 (List.Perm.refl _) (fun a w s fs gs hf hg => by obtain rfl := hf.unnil; obtain rfl := hg.unnil; exact c_wire_list_uint32_wire_Reader_Number k _ _ _ e_x1 _ _ _ _ _ _ (ownL s) (disL s) (nodL s) (s.arg (.tmp rfl)) (s.arg (.tmp rfl)) (s.arg (.tmp rfl))) (by exact fun _ => rfl)) fun v1 a10 w10 s10 => ?_; clear s9
  refine seq_op s10 rfl rfl (of_decide_eq_true rfl) (ob_assign rfl (.tmp rfl)) fun a11 w11 s11 => ?_; clear s10
  refine wpList_nil ?_
  refine then_normal ?_
  refine hK2 _ _ ?_
  have s12 := s11.sub (.cons (t := 4) rfl .nil); clear s11
  refine wp_ret ?_
  have s13 := St.freezeAllM (A := []) s12 (ts := [4]) (.cons rfl .nil); clear s12
  obtain rfl := Option.some.inj h1
  exact leaveXD (D := []) () s13 rfl (.inl rfl) rfl (.cons (.tmp rfl) .nil) rfl

/- 41 cabal/cabalref10.SameNumbers -/
theorem c_cabalref10_SameNumbers (k : Nat) (p1 : (List Int)) (p2 : (List Int)) (r : Bool) (h0 : cabalref10_SameNumbers k p1 p2 = some r) (ok : Ok) (w0 : World) (z0 : Value) (z1 : Value) (u0 : ((ksl (kint .u32)).V p1).holds ok w0 z0) (u1 : ((ksl (kint .u32)).V p2).holds ok w0 z1) :
    Gives Try.prog 41 [z0, z1] ok w0 (resFact [kbool.V r]) := by
  unfold cabalref10_SameNumbers at h0
  refine enter (N := 26) Try.func41 rfl rfl (of_decide_eq_true rfl) (.cons u0 (.cons u1 .nil)) fun a1 s1 => ?_
  refine wp_seq_k fun K1 hK1 => ?_
  refine wp_region_lit ?_
  refine seq_op s1 rfl rfl (of_decide_eq_true rfl) (ob_assign rfl opd_bool) fun a2 w2 s2 => ?_; clear s1
  refine wpList_nil ?_
  refine then_normal ?_
  refine hK1 _ _ ?_
  have s3 := s2.sub (.cons (t := 0) rfl (.cons (t := 1) rfl .nil)); clear s2
  refine wp_seq_k fun K2 hK2 => ?_
  refine wp_seq_k fun K3 hK3 => ?_
  refine wp_region_lit ?_
  refine seq_op s3 rfl rfl (of_decide_eq_true rfl) (ob_move rfl (.tmp rfl)) fun a4 w4 s4 => ?_; clear s3
  refine seq_op s4 rfl rfl (of_decide_eq_true rfl) (ob_lens rfl Try.underlying62 (.tmp rfl)) fun a5 w5 s5 => ?_; clear s4
  refine seq_op s5 rfl rfl (of_decide_eq_true rfl) (ob_move rfl (.tmp rfl)) fun a6 w6 s6 => ?_; clear s5
  refine seq_op s6 rfl rfl (of_decide_eq_true rfl) (ob_lens rfl Try.underlying62 (.tmp rfl)) fun a7 w7 s7 => ?_; clear s6
  refine seq_op s7 rfl rfl (of_decide_eq_true rfl) (ob_neq rfl (.tmp rfl) (.tmp rfl)) fun a8 w8 s8 => ?_; clear s7
  refine wpList_nil ?_
  refine then_normal ?_
  refine hK3 _ _ ?_
  have s9 := s8.sub (.cons (t := 0) rfl (.cons (t := 1) rfl (.cons (t := 10) rfl .nil))); clear s8
  refine cond_split s9 (.tmp rfl) (fun hc1 => ?_) (fun hc1 => ?_)
  · replace h0 := ite_t hc1 h0
    have h1 := h0; clear h0
    refine wp_seq_k fun K4 hK4 => ?_
    refine wp_region_lit ?_
    refine seq_op s9 rfl rfl (of_decide_eq_true rfl) (ob_assign rfl opd_bool) fun a10 w10 s10 => ?_; clear s9
    refine wpList_nil ?_
    refine then_normal ?_
    refine hK4 _ _ ?_
    have s11 := s10.sub (.cons (t := 4) rfl .nil); clear s10
    refine wp_ret ?_
    obtain rfl := Option.some.inj h1
    exact leave s11 (.inl rfl) rfl (.cons (.tmp rfl) .nil)
  · replace h0 := ite_f hc1 h0
    have h2 := h0; clear h0
    refine wp_skip ?_
    refine then_normal ?_
    refine hK2 _ _ ?_
    have s12 := s9.sub (.cons (t := 0) rfl (.cons (t := 1) rfl .nil)); clear s9
    refine wp_seq_k fun K5 hK5 => ?_
    refine wp_seq_k fun K6 hK6 => ?_
    refine wp_region_lit ?_
    refine seq_op s12 rfl rfl (of_decide_eq_true rfl) (ob_assign rfl (opd_int rfl)) fun a13 w13 s13 => ?_; clear s12
    refine wpList_nil ?_
    refine then_normal ?_
    refine hK6 _ _ ?_
    have s14 := s13.sub (.cons (t := 0) rfl (.cons (t := 1) rfl (.cons (t := 5) rfl .nil))); clear s13
    have hj1 : ∀ (a : Act) (w : World), (cabalref10_SameNumbers.j1 k) = some r → St ⟨26, w0, ok, []⟩ [] [] a w → K5 a w := by
      intro a15 w15 h3 s15
      unfold cabalref10_SameNumbers.j1 at h3
      refine hK5 _ _ ?_
      refine wp_seq_k fun K7 hK7 => ?_
      refine wp_region_lit ?_
      refine seq_op s15 rfl rfl (of_decide_eq_true rfl) (ob_assign rfl opd_bool) fun a16 w16 s16 => ?_; clear s15
      refine wpList_nil ?_
      refine then_normal ?_
      refine hK7 _ _ ?_
      have s17 := s16.sub (.cons (t := 4) rfl .nil); clear s16
      refine wp_ret ?_
      obtain rfl := Option.some.inj h3
      exact leave s17 (.inl rfl) rfl (.cons (.tmp rfl) .nil)
    refine wp_block ?_
    refine wp_loop_fuel (fun m (q : Int) => cabalref10_SameNumbers.l1 k p1 p2 m q) r (fun _ => rfl) (fun q a w => St ⟨26, w0, ok, []⟩ [] [(0, ((ksl (kint .u32)).V p1)), (1, ((ksl (kint .u32)).V p2)), (5, ((kint .i64).V q))] a w) ?_ k (0 : Int) _ _ h2 (s14.sub (.cons rfl (.cons rfl (.cons rfl .nil))))
    rintro n1 y1 a18 w18 h4 s18 K8 hK8
    replace h4 : cabalref10_SameNumbers.l1 k p1 p2 (n1 + 1) y1 = some r := h4; rw [cabalref10_SameNumbers.l1] at h4
    have h5 := h4; clear h4
    refine wp_seq_k fun K9 hK9 => ?_
    refine wp_seq_k fun K10 hK10 => ?_
    refine wp_region_lit ?_
    refine seq_op s18 rfl rfl (of_decide_eq_true rfl) (ob_move rfl (.tmp rfl)) fun a19 w19 s19 => ?_; clear s18
    refine seq_op s19 rfl rfl (of_decide_eq_true rfl) (ob_move rfl (.tmp rfl)) fun a20 w20 s20 => ?_; clear s19
    refine seq_op s20 rfl rfl (of_decide_eq_true rfl) (ob_lens rfl Try.underlying62 (.tmp rfl)) fun a21 w21 s21 => ?_; clear s20
    refine seq_op s21 rfl rfl (of_decide_eq_true rfl) (ob_lss rfl (.tmp rfl) (.tmp rfl)) fun a22 w22 s22 => ?_; clear s21
    refine wpList_nil ?_
    refine then_normal ?_
    refine hK10 _ _ ?_
    have s23 := s22.sub (.cons (t := 0) rfl (.cons (t := 1) rfl (.cons (t := 5) rfl (.cons (t := 14) rfl .nil)))); clear s22
    refine cond_split s23 (.tmp rfl) (fun hc2 => ?_) (fun hc2 => ?_)
    · replace h5 := ite_t hc2 h5
      have h6 := h5; clear h5
      refine wp_skip ?_
      refine then_normal ?_
      refine hK9 _ _ ?_
      have s24 := s23.sub (.cons (t := 0) rfl (.cons (t := 1) rfl (.cons (t := 5) rfl .nil))); clear s23
      refine wp_seq_k fun K11 hK11 => ?_
      refine wp_block ?_
      refine wp_seq_k fun K12 hK12 => ?_
      obtain ⟨x1, e_x1, h7⟩ := bind_some h6; clear h6
      obtain ⟨x2, e_x2, h8⟩ := bind_some h7; clear h7
      refine wp_goes (Fs := [((ksl (kint .u32)).V p1), ((kint .i64).V y1), (ptrTo (kint .u32) x1), ((kint .u32).V x1), ((ksl (kint .u32)).V p2), ((kint .i64).V y1), (ptrTo (kint .u32) x2), ((kint .u32).V x2)]) (bits := [0, 0, 3, 7, 0, 0, 48, 112, 255]) (m := 8) (todo := 0) mx s24 ?_; clear s24
      refine goes_last (by kernel_rfl) rfl (opsS_cons (.plain _ (Av.old (t := 0) rfl rfl Av.nil) rfl rfl (ob_move rfl (.tmp rfl))) (opsS_cons (.plain _ (Av.old (t := 5) rfl rfl Av.nil) rfl rfl (ob_move rfl (.tmp rfl))) (opsS_cons (.plain _ (Av.new (j := 0) rfl rfl rfl (Av.new (j := 1) rfl rfl rfl Av.nil)) rfl rfl (ob_indexAddrs rfl Try.underlying62 sz69 (.tmp rfl) (.tmp rfl) e_x1)) (opsS_cons (.plain _ (Av.new (j := 2) rfl rfl rfl Av.nil) rfl rfl (ob_loadr rfl tk69 (.tmp rfl))) (opsS_cons (.plain _ (Av.old (t := 1) rfl rfl Av.nil) rfl rfl (ob_move rfl (.tmp rfl))) (opsS_cons (.plain _ (Av.old (t := 5) rfl rfl Av.nil) rfl rfl (ob_move rfl (.tmp rfl))) (opsS_cons (.plain _ (Av.new (j := 4) rfl rfl rfl (Av.new (j := 5) rfl rfl rfl Av.nil)) rfl rfl (ob_indexAddrs rfl Try.underlying62 sz69 (.tmp rfl) (.tmp rfl) e_x2)) (opsS_cons (.plain _ (Av.new (j := 6) rfl rfl rfl Av.nil) rfl rfl (ob_loadr rfl tk69 (.tmp rfl))) opsS_nil)))))))) (out_old (t := 0) rfl rfl (out_old (t := 1) rfl rfl (out_old (t := 5) rfl rfl (out_new (i := 3) (by decide) rfl rfl (out_new (i := 7) (by decide) rfl rfl out_nil))))) fun a25 w25 s25 => ?_
      refine seq_op s25 rfl rfl (of_decide_eq_true rfl) (ob_neq rfl (.tmp rfl) (.tmp rfl)) fun a26 w26 s26 => ?_; clear s25
      refine wpList_nil ?_
      refine then_normal ?_
      refine hK12 _ _ ?_
      have s27 := s26.sub (.cons (t := 0) rfl (.cons (t := 1) rfl (.cons (t := 5) rfl (.cons (t := 25) rfl .nil)))); clear s26
      refine cond_split s27 (.tmp rfl) (fun hc3 => ?_) (fun hc3 => ?_)
      · replace h8 := ite_t hc3 h8
        have h9 := h8; clear h8
        refine wp_seq_k fun K13 hK13 => ?_
        refine wp_region_lit ?_
        refine seq_op s27 rfl rfl (of_decide_eq_true rfl) (ob_assign rfl opd_bool) fun a28 w28 s28 => ?_; clear s27
        refine wpList_nil ?_
        refine then_normal ?_
        refine hK13 _ _ ?_
        have s29 := s28.sub (.cons (t := 4) rfl .nil); clear s28
        refine wp_ret ?_
        obtain rfl := Option.some.inj h9
        exact leave s29 (.inl rfl) rfl (.cons (.tmp rfl) .nil)
      · replace h8 := ite_f hc3 h8
        have h10 := h8; clear h8
        refine wp_skip ?_
        refine in_normal ?_
        refine then_normal ?_
        refine hK11 _ _ ?_
        have s30 := s27.sub (.cons (t := 0) rfl (.cons (t := 1) rfl (.cons (t := 5) rfl .nil))); clear s27
        refine wp_region_lit ?_
        refine seq_op s30 rfl rfl (of_decide_eq_true rfl) (ob_move rfl (.tmp rfl)) fun a31 w31 s31 => ?_; clear s30
        refine seq_op s31 rfl rfl (of_decide_eq_true rfl) (ob_add rfl (.tmp rfl) (opd_int rfl)) fun a32 w32 s32 => ?_; clear s31
        refine seq_op s32 rfl rfl (of_decide_eq_true rfl) (ob_assign rfl (.tmp rfl)) fun a33 w33 s33 => ?_; clear s32
        refine wpList_nil ?_
        refine then_normal ?_
        exact hK8 (iadd .i64 y1 (1 : Int)) _ _ h10 (s33.sub (.cons rfl (.cons rfl (.cons rfl .nil))))
    · replace h5 := ite_f hc2 h5
      have h11 := h5; clear h5
      refine wp_exit ?_
      refine (then_exit (then_exit (in_here ?_)))
      refine then_normal ?_
      exact hj1 _ _ h11 (s23.sub .nil)

/- 42 (*cabal/wire.Reader).Left -/
theorem c_wire_Reader_Left (k : Nat) (p1 : wire_Reader) (r : Int) (h0 : wire_Reader_Left k p1 = some r) (ok : Ok) (w0 : World) (z0 : Value) (u0 : (ptrTo k_wire_Reader p1).holds ok w0 z0) :
    Gives Try.prog 42 [z0] ok w0 (resFact [(kint .i64).V r]) := by
  unfold wire_Reader_Left at h0
  refine enter (N := 8) Try.func42 rfl rfl (of_decide_eq_true rfl) (.cons u0 .nil) fun a1 s1 => ?_
  refine wp_seq_k fun K1 hK1 => ?_
  refine wp_region_lit ?_
  refine seq_op s1 rfl rfl (of_decide_eq_true rfl) (ob_assign rfl (opd_int rfl)) fun a2 w2 s2 => ?_; clear s1
  refine wpList_nil ?_
  refine then_normal ?_
  refine hK1 _ _ ?_
  have s3 := s2.sub (.cons (t := 0) rfl .nil); clear s2
  refine wp_seq_k fun K2 hK2 => ?_
  refine wp_region_lit ?_
  refine seq_op s3 rfl rfl (of_decide_eq_true rfl) (ob_move rfl (.tmp rfl)) fun a4 w4 s4 => ?_; clear s3
  refine seq_op s4 rfl rfl (of_decide_eq_true rfl) (ob_nilCheckr rfl (.tmp rfl)) fun a5 w5 s5 => ?_; clear s4
  refine seq_op s5 rfl rfl (of_decide_eq_true rfl) (ob_fieldAddrr rfl Try.underlying101 rfl sz9 (by decide) (.tmp rfl) (lg_wire_Reader_s p1)) fun a6 w6 s6 => ?_; clear s5
  refine seq_op s6 rfl rfl (of_decide_eq_true rfl) (ob_loadr rfl tk9 (.tmp rfl)) fun a7 w7 s7 => ?_; clear s6
  refine seq_op s7 rfl rfl (of_decide_eq_true rfl) (ob_lenStr rfl Try.underlying9 (.tmp rfl)) fun a8 w8 s8 => ?_; clear s7
  refine seq_op s8 rfl rfl (of_decide_eq_true rfl) (ob_assign rfl (.tmp rfl)) fun a9 w9 s9 => ?_; clear s8
  refine wpList_nil ?_
  refine then_normal ?_
  refine hK2 _ _ ?_
  have s10 := s9.sub (.cons (t := 2) rfl .nil); clear s9
  refine wp_ret ?_
  obtain rfl := Option.some.inj h0
  exact leave s10 (.inl rfl) rfl (.cons (.tmp rfl) .nil)

/- 9 cabal/caballaw10.WireBack -/
theorem c_caballaw10_WireBack (k : Nat) (p1 : (List caballaw10_Item)) (r : Bool) (h0 : caballaw10_WireBack k p1 = some r) (ok : Ok) (w0 : World) (z0 : Value) (u0 : ((ksl k_caballaw10_Item).V p1).holds ok w0 z0) :
    Gives Try.prog 9 [z0] ok w0 (resFact [kbool.V r]) := by
  unfold caballaw10_WireBack at h0
  refine enter (N := 119) Try.func9 rfl rfl (of_decide_eq_true rfl) (.cons u0 .nil) fun a1 s1 => ?_
  refine wp_seq_k fun K1 hK1 => ?_
  refine wp_region_lit ?_
  refine seq_op s1 rfl rfl (of_decide_eq_true rfl) (ob_assign rfl opd_bool) fun a2 w2 s2 => ?_; clear s1
  refine wpList_nil ?_
  refine then_normal ?_
  refine hK1 _ _ ?_
  have s3 := s2.sub (.cons (t := 0) rfl .nil); clear s2
  refine wp_seq_k fun K2 hK2 => ?_
  refine wp_seq_k fun K3 hK3 => ?_
  refine wp_region_lit ?_
  obtain ⟨x1, e_x1, h1⟩ := bind_some h0; clear h0
  refine seq_op s3 rfl rfl (of_decide_eq_true rfl) (ob_callD (args := []) rfl .direct hb29 (fun a w s fs gs hf hg => by obtain rfl := hf.unnil; obtain rfl := hg.unnil; exact c_caballaw10_alive k _ e_x1 _ _)) fun a4 w4 s4 => ?_; clear s3
  refine seq_op s4 rfl rfl (of_decide_eq_true rfl) (ob_not rfl (.tmp rfl)) fun a5 w5 s5 => ?_; clear s4
  refine wpList_nil ?_
  refine then_normal ?_
  refine hK3 _ _ ?_
  have s6 := s5.sub (.cons (t := 0) rfl (.cons (t := 11) rfl .nil)); clear s5
  refine cond_split s6 (.tmp rfl) (fun hc1 => ?_) (fun hc1 => ?_)
  · replace h1 := ite_t hc1 h1
    have h2 := h1; clear h1
    refine wp_seq_k fun K4 hK4 => ?_
    refine wp_region_lit ?_
    refine seq_op s6 rfl rfl (of_decide_eq_true rfl) (ob_assign rfl opd_bool) fun a7 w7 s7 => ?_; clear s6
    refine wpList_nil ?_
    refine then_normal ?_
    refine hK4 _ _ ?_
    have s8 := s7.sub (.cons (t := 2) rfl .nil); clear s7
    refine wp_ret ?_
    obtain rfl := Option.some.inj h2
    exact leave s8 (.inl rfl) rfl (.cons (.tmp rfl) .nil)
  · replace h1 := ite_f hc1 h1
    have h3 := h1; clear h1
    refine wp_skip ?_
    refine then_normal ?_
    refine hK2 _ _ ?_
    have s9 := s6.sub (.cons (t := 0) rfl .nil); clear s6
    refine wp_seq_k fun K5 hK5 => ?_
    refine wp_seq_k fun K6 hK6 => ?_
    refine wp_region_lit ?_
    refine seq_op s9 rfl rfl (of_decide_eq_true rfl) (ob_move rfl (.tmp rfl)) fun a10 w10 s10 => ?_; clear s9
    obtain ⟨x2, e_x2, h4⟩ := bind_some h3; clear h3
    refine seq_op s10 rfl rfl (of_decide_eq_true rfl) (ob_callD (args := [_]) rfl .direct hb30 (fun a w s fs gs hf hg => by obtain rfl := hf.unnil; obtain rfl := hg.unnil; exact c_caballaw10_great k _ _ e_x2 _ _ _ (s.arg (.tmp rfl)))) fun a11 w11 s11 => ?_; clear s10
    refine wpList_nil ?_
    refine then_normal ?_
    refine hK6 _ _ ?_
    have s12 := s11.sub (.cons (t := 0) rfl (.cons (t := 13) rfl .nil)); clear s11
    refine cond_split s12 (.tmp rfl) (fun hc2 => ?_) (fun hc2 => ?_)
    · replace h4 := ite_t hc2 h4
      have h5 := h4; clear h4
      refine wp_seq_k fun K7 hK7 => ?_
      refine wp_region_lit ?_
      obtain ⟨x3, e_x3, h6⟩ := bind_some h5; clear h5
      refine seq_op s12 rfl rfl (of_decide_eq_true rfl) (ob_callD (args := []) rfl .direct hb29 (fun a w s fs gs hf hg => by obtain rfl := hf.unnil; obtain rfl := hg.unnil; exact c_caballaw10_alive k _ e_x3 _ _)) fun a13 w13 s13 => ?_; clear s12
      refine seq_op s13 rfl rfl (of_decide_eq_true rfl) (ob_assign rfl (.tmp rfl)) fun a14 w14 s14 => ?_; clear s13
      refine wpList_nil ?_
      refine then_normal ?_
      refine hK7 _ _ ?_
      have s15 := s14.sub (.cons (t := 2) rfl .nil); clear s14
      refine wp_ret ?_
      obtain rfl := Option.some.inj h6
      exact leave s15 (.inl rfl) rfl (.cons (.tmp rfl) .nil)
    · replace h4 := ite_f hc2 h4
      have h7 := h4; clear h4
      refine wp_skip ?_
      refine then_normal ?_
      refine hK5 _ _ ?_
      have s16 := s12.sub (.cons (t := 0) rfl .nil); clear s12
      refine wp_seq_k fun K8 hK8 => ?_
      refine wp_region_lit ?_
      have s17 := St.adopt s16 (G := RowF (nilRow 12) 5 (kint .u8) []) rfl (rowNilN _ _ _ _ _); clear s16
      refine seq_opx (B' := (fun b1 : Nat => [BF b1 59 (ko_wire_Writer_0 (nilRow 12)) (⟨[]⟩ : wire_Writer), RowF (nilRow 12) 5 (kint .u8) ([] : (List Int))])) s17 rfl rfl (of_decide_eq_true rfl) (ob_new (k := (ko_wire_Writer_0 (nilRow 12))) rfl zz59 (Zr.iso (f := to_wire_Writer_0) (x := (⟨[]⟩ : wire_Writer)) (Zr.pair (Zr.kis 12) Zr.nil))) fun b1 a18 w18 s18 => ?_; clear s17
      refine wpList_nil ?_
      refine then_normal ?_
      refine hK8 _ _ ?_
      have s19 := s18.sub (.cons (t := 0) rfl (.cons (t := 3) rfl .nil)); clear s18
      refine wp_seq_k fun K9 hK9 => ?_
      refine wp_seq_k fun K10 hK10 => ?_
      refine wp_region_lit ?_
      refine seq_op s19 rfl rfl (of_decide_eq_true rfl) (ob_assign rfl (opd_int rfl)) fun a20 w20 s20 => ?_; clear s19
      refine wpList_nil ?_
      refine then_normal ?_
      refine hK10 _ _ ?_
      have s21 := s20.sub (.cons (t := 0) rfl (.cons (t := 3) rfl (.cons (t := 4) rfl .nil))); clear s20
      have hj1 : ∀ (y1 : (List Int)) (v1 : Value) (a : Act) (w : World), (caballaw10_WireBack.j1 k p1) y1 = some r → St ⟨119, w0, ok, []⟩ [BF b1 59 (ko_wire_Writer_0 v1) (⟨[]⟩ : wire_Writer), RowF v1 5 (kint .u8) y1] [(0, ((ksl k_caballaw10_Item).V p1)), (3, (ptrB b1 0))] a w → K9 a w := by
        intro y1 v1 a22 w22 h8 s22
        unfold caballaw10_WireBack.j1 at h8
        refine hK9 _ _ ?_
        refine wp_seq_k fun K11 hK11 => ?_
        refine wp_region_lit ?_
        obtain ⟨x4, e_x4, h9⟩ := bind_some h8; clear h8
        refine seq_op s22 rfl rfl (of_decide_eq_true rfl) ((ob_lendG (L := [_, _]) (List.Perm.refl _) (.cons (t := 3) rfl (lendObj (K' := k_wire_Writer) (X' := (⟨y1⟩ : wire_Writer)) (.head _) rfl (upo_wire_Writer_0 rfl (.row (LetAll.row (.tail _ (.head _)))))) .nil) (Flat.res1 (Flat.V KFlat.str)) (fun _ => ob_callD (args := [_]) rfl .direct hb32 (fun a w s fs gs hf hg => by obtain rfl := hf.unnil; obtain rfl := hg.unnil; exact c_wire_Writer_String k _ _ e_x4 _ _ _ (s.arg (.tmp rfl)))))) fun a23 w23 s23 => ?_; clear s22
        obtain ⟨x5, e_x5, h10⟩ := bind_some h9; clear h9
        refine seq_opx (B' := (fun b2 : Nat => [BF b2 101 k_wire_Reader x5, BF b1 59 (ko_wire_Writer_0 v1) (⟨[]⟩ : wire_Writer), RowF v1 5 (kint .u8) y1])) s23 rfl rfl (of_decide_eq_true rfl) (ob_callL (args := [_]) (L := []) rfl .direct hb33 (List.Perm.refl _) (fun a w s fs gs hf hg => by obtain rfl := hf.unnil; obtain rfl := hg.unnil; exact c_wire_NewReader k _ _ e_x5 _ _ _ (s.arg (.tmp rfl))) (by exact fun _ => rfl)) fun b2 a24 w24 s24 => ?_; clear s23
        refine seq_op s24 rfl rfl (of_decide_eq_true rfl) (ob_assign rfl (.tmp rfl)) fun a25 w25 s25 => ?_; clear s24
        refine wpList_nil ?_
        refine then_normal ?_
        refine hK11 _ _ ?_
        have s26 := s25.sub (.cons (t := 0) rfl (.cons (t := 5) rfl .nil)); clear s25
        have s27 := St.drop (A := [_]) s26; clear s26
        have s28 := St.drop (A := [_]) s27; clear s27
        refine wp_seq_k fun K12 hK12 => ?_
        refine wp_seq_k fun K13 hK13 => ?_
        refine wp_region_lit ?_
        refine seq_op s28 rfl rfl (of_decide_eq_true rfl) (ob_assign rfl (opd_int rfl)) fun a29 w29 s29 => ?_; clear s28
        refine wpList_nil ?_
        refine then_normal ?_
        refine hK13 _ _ ?_
        have s30 := s29.sub (.cons (t := 0) rfl (.cons (t := 5) rfl (.cons (t := 6) rfl .nil))); clear s29
        have hj2 : ∀ (y2 : wire_Reader) (a : Act) (w : World), (caballaw10_WireBack.j2 k) y2 = some r → St ⟨119, w0, ok, []⟩ [BF b2 101 k_wire_Reader y2] [(5, (ptrB b2 0))] a w → K12 a w := by
          intro y2 a31 w31 h11 s31
          unfold caballaw10_WireBack.j2 at h11
          refine hK12 _ _ ?_
          refine wp_seq_k fun K14 hK14 => ?_
          refine wp_region_lit ?_
          obtain ⟨x6, e_x6, h12⟩ := bind_some h11; clear h11
          refine seq_op s31 rfl rfl (of_decide_eq_true rfl) (ob_callD (args := []) rfl .direct hb29 (fun a w s fs gs hf hg => by obtain rfl := hf.unnil; obtain rfl := hg.unnil; exact c_caballaw10_alive k _ e_x6 _ _)) fun a32 w32 s32 => ?_; clear s31
          refine seq_op s32 rfl rfl (of_decide_eq_true rfl) (ob_move rfl (.tmp rfl)) fun a33 w33 s33 => ?_; clear s32
          refine seq_opg s33 rfl rfl rfl rfl (of_decide_eq_true rfl) (fun hb => ob_move rfl (.tmp rfl)) fun a34 w34 s34 => ?_; clear s33
          obtain ⟨x7, e_x7, h13⟩ := bind_some h12; clear h12
          refine seq_opg s34 rfl rfl rfl rfl (of_decide_eq_true rfl) (fun hb => (Ob.uncond (t := 110) hb rfl ((ob_lendG (L := [_]) (List.Perm.refl _) (.cons (t := 110) rfl (lendPtrB (.head _) (LG.refl _ _)) .nil) (Flat.res1 (Flat.V (KFlat.int _))) (fun _ => ob_callD (args := [_]) rfl .direct hb39 (fun a w s fs gs hf hg => by obtain rfl := hf.unnil; obtain rfl := hg.unnil; exact c_wire_Reader_End k _ _ (ite_t hb e_x7) _ _ _ (s.arg (.tmp rfl)))))))) fun a35 w35 s35 => ?_; clear s34
          refine seq_opg s35 rfl rfl rfl rfl (of_decide_eq_true rfl) (fun hb => (Ob.uncond (t := 111) hb rfl (ob_eql rfl (.tmp rfl) (opd_int rfl)))) fun a36 w36 s36 => ?_; clear s35
          refine seq_op s36 rfl rfl (of_decide_eq_true rfl) (ob_and2 rfl (.tmp rfl) (.tmp rfl) opd_bool) fun a37 w37 s37 => ?_; clear s36
          refine seq_op s37 rfl rfl (of_decide_eq_true rfl) (ob_move rfl (.tmp rfl)) fun a38 w38 s38 => ?_; clear s37
          refine seq_opg s38 rfl rfl rfl rfl (of_decide_eq_true rfl) (fun hb => ob_move rfl (.tmp rfl)) fun a39 w39 s39 => ?_; clear s38
          obtain ⟨x8, e_x8, h14⟩ := bind_some h13; clear h13
          refine seq_opg s39 rfl rfl rfl rfl (of_decide_eq_true rfl) (fun hb => (Ob.uncond (t := 115) hb rfl ((ob_lendG (L := [_]) (List.Perm.refl _) (.cons (t := 115) rfl (lendPtrB (.head _) (LG.refl _ _)) .nil) (Flat.res1 (Flat.V (KFlat.int _))) (fun _ => ob_callD (args := [_]) rfl .direct hb42 (fun a w s fs gs hf hg => by obtain rfl := hf.unnil; obtain rfl := hg.unnil; exact c_wire_Reader_Left k _ _ (ite_t hb e_x8) _ _ _ (s.arg (.tmp rfl)))))))) fun a40 w40 s40 => ?_; clear s39
          refine seq_opg s40 rfl rfl rfl rfl (of_decide_eq_true rfl) (fun hb => (Ob.uncond (t := 116) hb rfl (ob_eql rfl (.tmp rfl) (opd_int rfl)))) fun a41 w41 s41 => ?_; clear s40
          obtain ⟨x9, e_x9, h15⟩ := bind_some h14; clear h14; replace e_x9 := Option.some.inj e_x9
          refine seq_op s41 rfl rfl (of_decide_eq_true rfl) ((ob_and2 rfl (.tmp rfl) (.tmp rfl) opd_bool).nm e_x9) fun a42 w42 s42 => ?_; clear s41
          refine seq_op s42 rfl rfl (of_decide_eq_true rfl) (ob_assign rfl (.tmp rfl)) fun a43 w43 s43 => ?_; clear s42
          refine wpList_nil ?_
          refine then_normal ?_
          refine hK14 _ _ ?_
          have s44 := s43.sub (.cons (t := 2) rfl .nil); clear s43
          have s45 := St.drop (A := []) s44; clear s44
          refine wp_ret ?_
          obtain rfl := Option.some.inj h15
          exact leave s45 (.inl rfl) rfl (.cons (.tmp rfl) .nil)
        refine wp_block ?_
        refine wp_loop_fuel (fun m (q : Int × wire_Reader) => caballaw10_WireBack.l1 k p1 m q.1 q.2) r (fun _ => rfl) (fun q a w => St ⟨119, w0, ok, []⟩ [BF b2 101 k_wire_Reader q.2] [(0, ((ksl k_caballaw10_Item).V p1)), (5, (ptrB b2 0)), (6, ((kint .i64).V q.1))] a w) ?_ k ((0 : Int), x5) _ _ h10 (s30.sub (.cons rfl (.cons rfl (.cons rfl .nil))))
        rintro n1 ⟨y3, y4⟩ a46 w46 h16 s46 K15 hK15
        replace h16 : caballaw10_WireBack.l1 k p1 (n1 + 1) y3 y4 = some r := h16; rw [caballaw10_WireBack.l1] at h16
        have h17 := h16; clear h16
        refine wp_seq_k fun K16 hK16 => ?_
        refine wp_seq_k fun K17 hK17 => ?_
        refine wp_region_lit ?_
        refine seq_op s46 rfl rfl (of_decide_eq_true rfl) (ob_move rfl (.tmp rfl)) fun a47 w47 s47 => ?_; clear s46
        refine seq_op s47 rfl rfl (of_decide_eq_true rfl) (ob_move rfl (.tmp rfl)) fun a48 w48 s48 => ?_; clear s47
        refine seq_op s48 rfl rfl (of_decide_eq_true rfl) (ob_lens rfl Try.underlying56 (.tmp rfl)) fun a49 w49 s49 => ?_; clear s48
        refine seq_op s49 rfl rfl (of_decide_eq_true rfl) (ob_lss rfl (.tmp rfl) (.tmp rfl)) fun a50 w50 s50 => ?_; clear s49
        refine wpList_nil ?_
        refine then_normal ?_
        refine hK17 _ _ ?_
        have s51 := s50.sub (.cons (t := 0) rfl (.cons (t := 5) rfl (.cons (t := 6) rfl (.cons (t := 31) rfl .nil)))); clear s50
        refine cond_split s51 (.tmp rfl) (fun hc3 => ?_) (fun hc3 => ?_)
        · replace h17 := ite_t hc3 h17
          have h18 := h17; clear h17
          refine wp_skip ?_
          refine then_normal ?_
          refine hK16 _ _ ?_
          have s52 := s51.sub (.cons (t := 0) rfl (.cons (t := 5) rfl (.cons (t := 6) rfl .nil))); clear s51
          refine wp_seq_k fun K18 hK18 => ?_
          have hj3 : ∀ (y5 : wire_Reader) (a : Act) (w : World), (caballaw10_WireBack.j3 k y3 (caballaw10_WireBack.l1 k p1 n1)) y5 = some r → St ⟨119, w0, ok, []⟩ [BF b2 101 k_wire_Reader y5] [(0, ((ksl k_caballaw10_Item).V p1)), (5, (ptrB b2 0)), (6, ((kint .i64).V y3))] a w → K18 a w := by
            intro y5 a53 w53 h19 s53
            unfold caballaw10_WireBack.j3 at h19
            refine hK18 _ _ ?_
            refine wp_region_lit ?_
            refine seq_op s53 rfl rfl (of_decide_eq_true rfl) (ob_move rfl (.tmp rfl)) fun a54 w54 s54 => ?_; clear s53
            refine seq_op s54 rfl rfl (of_decide_eq_true rfl) (ob_add rfl (.tmp rfl) (opd_int rfl)) fun a55 w55 s55 => ?_; clear s54
            refine seq_op s55 rfl rfl (of_decide_eq_true rfl) (ob_assign rfl (.tmp rfl)) fun a56 w56 s56 => ?_; clear s55
            refine wpList_nil ?_
            refine then_normal ?_
            exact hK15 ((iadd .i64 y3 (1 : Int)), y5) _ _ h19 (s56.sub (.cons rfl (.cons rfl (.cons rfl .nil))))
          refine wp_block ?_
          refine wp_seq_k fun K19 hK19 => ?_
          refine wp_region_lit ?_
          refine seq_op s52 rfl rfl (of_decide_eq_true rfl) (ob_move rfl (.tmp rfl)) fun a57 w57 s57 => ?_; clear s52
          refine seq_op s57 rfl rfl (of_decide_eq_true rfl) (ob_move rfl (.tmp rfl)) fun a58 w58 s58 => ?_; clear s57
          obtain ⟨x10, e_x10, h20⟩ := bind_some h18; clear h18
          refine seq_op s58 rfl rfl (of_decide_eq_true rfl) (ob_indexAddrs rfl Try.underlying56 sz65 (.tmp rfl) (.tmp rfl) e_x10) fun a59 w59 s59 => ?_; clear s58
          refine seq_op s59 rfl rfl (of_decide_eq_true rfl) (ob_loadr rfl tk65 (.tmp rfl)) fun a60 w60 s60 => ?_; clear s59
          refine seq_opx (B' := (fun b3 : Nat => [BF b3 65 k_caballaw10_Item (⟨(0 : Int), (0 : Int), [], [], []⟩ : caballaw10_Item), BF b2 101 k_wire_Reader y4])) s60 rfl rfl (of_decide_eq_true rfl) (ob_new (k := k_caballaw10_Item) rfl zz65 (Zr.iso (f := t_caballaw10_Item) (x := (⟨(0 : Int), (0 : Int), [], [], []⟩ : caballaw10_Item)) (Zr.pair (Zr.int .i64) (Zr.pair (Zr.int .i64) (Zr.pair (Zr.sl _) (Zr.pair Zr.str (Zr.pair (Zr.sl _) Zr.nil))))))) fun b3 a61 w61 s61 => ?_; clear s60
          refine seq_opx0 (B' := (fun _ : Unit => [BF b3 65 k_caballaw10_Item x10, BF b2 101 k_wire_Reader y4])) s61 rfl rfl (ob_store (A := []) rfl tk65 (.tmp rfl) (.tmp rfl) rfl (LS.refl _ _ _) rfl) fun _ a62 w62 s62 => ?_; clear s61
          refine wpList_nil ?_
          refine then_normal ?_
          refine hK19 _ _ ?_
          have s63 := s62.sub (.cons (t := 0) rfl (.cons (t := 5) rfl (.cons (t := 6) rfl (.cons (t := 7) rfl .nil)))); clear s62
          refine wp_seq_k fun K20 hK20 => ?_
          refine wp_region_lit ?_
          refine seq_op s63 rfl rfl (of_decide_eq_true rfl) (ob_fieldAddr (off' := 0) rfl Try.underlying65 rfl sz3 (by decide) (.tmp rfl) rfl) fun a64 w64 s64 => ?_; clear s63
          refine seq_op s64 rfl rfl (of_decide_eq_true rfl) (ob_load rfl tk3 (.tmp rfl) (.head _) (lg_caballaw10_Item_Kind x10)) fun a65 w65 s65 => ?_; clear s64
          refine seq_op s65 rfl rfl (of_decide_eq_true rfl) (ob_rem rfl (.tmp rfl) (opd_int rfl) (by decide)) fun a66 w66 s66 => ?_; clear s65
          refine wpList_nil ?_
          refine then_normal ?_
          refine hK20 _ _ ?_
          have s67 := s66.sub (.cons (t := 0) rfl (.cons (t := 5) rfl (.cons (t := 6) rfl (.cons (t := 7) rfl (.cons (t := 40) rfl .nil))))); clear s66
          refine wp_block ?_
          refine wp_seq_k fun K21 hK21 => ?_
          refine wp_region_lit ?_
          refine seq_op s67 rfl rfl (of_decide_eq_true rfl) (ob_eql rfl (.tmp rfl) (opd_int rfl)) fun a68 w68 s68 => ?_; clear s67
          refine seq_op s68 rfl rfl (of_decide_eq_true rfl) (ob_assign rfl (.tmp rfl)) fun a69 w69 s69 => ?_; clear s68
          refine wpList_nil ?_
          refine then_normal ?_
          refine hK21 _ _ ?_
          have s70 := s69.sub (.cons (t := 0) rfl (.cons (t := 5) rfl (.cons (t := 6) rfl (.cons (t := 7) rfl (.cons (t := 40) rfl (.cons (t := 41) rfl .nil)))))); clear s69
          refine cond_split s70 (.tmp rfl) (fun hc4 => ?_) (fun hc4 => ?_)
          · replace h20 := ite_t hc4 h20
            have h21 := h20; clear h20
            refine wp_seq_k fun K22 hK22 => ?_
            refine wp_region_lit ?_
            refine seq_op s70 rfl rfl (of_decide_eq_true rfl) (ob_assign rfl (opd_int rfl)) fun a71 w71 s71 => ?_; clear s70
            refine wpList_nil ?_
            refine then_normal ?_
            refine hK22 _ _ ?_
            have s72 := s71.sub (.cons (t := 0) rfl (.cons (t := 5) rfl (.cons (t := 6) rfl (.cons (t := 7) rfl (.cons (t := 8) rfl .nil))))); clear s71
            refine wp_block ?_
            have s73 := s72.perm (toFront [_] (toFront [] (List.Perm.refl _))); clear s72
            refine wp_loop_fuel (fun m (q : Int × wire_Reader) => caballaw10_WireBack.l2 k x10 y3 (caballaw10_WireBack.l1 k p1 n1) m q.1 q.2) r (fun _ => rfl) (fun q a w => St ⟨119, w0, ok, []⟩ [BF b2 101 k_wire_Reader q.2, BF b3 65 k_caballaw10_Item x10] [(0, ((ksl k_caballaw10_Item).V p1)), (5, (ptrB b2 0)), (6, ((kint .i64).V y3)), (7, (ptrB b3 0)), (8, ((kint .i64).V q.1))] a w) ?_ k ((0 : Int), y4) _ _ h21 (s73.sub (.cons rfl (.cons rfl (.cons rfl (.cons rfl (.cons rfl .nil))))))
            rintro n2 ⟨y6, y7⟩ a74 w74 h22 s74 K23 hK23
            replace h22 : caballaw10_WireBack.l2 k x10 y3 (caballaw10_WireBack.l1 k p1 n1) (n2 + 1) y6 y7 = some r := h22; rw [caballaw10_WireBack.l2] at h22
            have h23 := h22; clear h22
            refine wp_seq_k fun K24 hK24 => ?_
            refine wp_seq_k fun K25 hK25 => ?_
            refine wp_region_lit ?_
            refine seq_op s74 rfl rfl (of_decide_eq_true rfl) (ob_move rfl (.tmp rfl)) fun a75 w75 s75 => ?_; clear s74
            refine seq_op s75 rfl rfl (of_decide_eq_true rfl) (ob_fieldAddr (off' := 2) rfl Try.underlying65 rfl sz62 (by decide) (.tmp rfl) rfl) fun a76 w76 s76 => ?_; clear s75
            refine seq_op s76 rfl rfl (of_decide_eq_true rfl) (ob_load rfl tk62 (.tmp rfl) (.tail _ (.head _)) (lg_caballaw10_Item_Numbers x10)) fun a77 w77 s77 => ?_; clear s76
            refine seq_op s77 rfl rfl (of_decide_eq_true rfl) (ob_lens rfl Try.underlying62 (.tmp rfl)) fun a78 w78 s78 => ?_; clear s77
            refine seq_op s78 rfl rfl (of_decide_eq_true rfl) (ob_lss rfl (.tmp rfl) (.tmp rfl)) fun a79 w79 s79 => ?_; clear s78
            refine wpList_nil ?_
            refine then_normal ?_
            refine hK25 _ _ ?_
            have s80 := s79.sub (.cons (t := 0) rfl (.cons (t := 5) rfl (.cons (t := 6) rfl (.cons (t := 7) rfl (.cons (t := 8) rfl (.cons (t := 47) rfl .nil)))))); clear s79
            refine cond_split s80 (.tmp rfl) (fun hc5 => ?_) (fun hc5 => ?_)
            · replace h23 := ite_t hc5 h23
              have h24 := h23; clear h23
              refine wp_skip ?_
              refine then_normal ?_
              refine hK24 _ _ ?_
              have s81 := s80.sub (.cons (t := 0) rfl (.cons (t := 5) rfl (.cons (t := 6) rfl (.cons (t := 7) rfl (.cons (t := 8) rfl .nil))))); clear s80
              refine wp_seq_k fun K26 hK26 => ?_
              refine wp_block ?_
              refine wp_seq_k fun K27 hK27 => ?_
              obtain ⟨x11, e_x11, h25⟩ := bind_some h24; clear h24
              obtain ⟨x12, e_x12, h26⟩ := bind_some h25; clear h25
              refine wp_goes (Fs := [(ptrB b2 0), nofact, (ptrB b3 2), ((ksl (kint .u32)).V x10.Numbers), ((kint .i64).V y6), (ptrTo (kint .u32) x12), ((kint .u32).V x12)]) (bits := [0, 1, 0, 4, 0, 28, 60, 127]) (m := 7) (todo := 2) mx s81 ?_; clear s81
              refine goes_turn (B' := (fun _ : Unit => [BF b2 101 k_wire_Reader x11.2, BF b3 65 k_caballaw10_Item x10])) (Fs' := (fun _ : Unit => setAll ([(ptrB b2 0), nofact, (ptrB b3 2), ((ksl (kint .u32)).V x10.Numbers), ((kint .i64).V y6), (ptrTo (kint .u32) x12), ((kint .u32).V x12)]) [(1, ((kint .u32).V x11.1))])) 1 2 3 0 (by kernel_rfl) rfl rfl rfl (opsS_cons (.plain _ (Av.old (t := 5) rfl rfl Av.nil) rfl rfl (ob_move rfl (.tmp rfl))) (opsS_skip (by rfl) (opsS_cons (.plain _ (Av.old (t := 7) rfl rfl Av.nil) rfl rfl (ob_fieldAddr (off' := 2) rfl Try.underlying65 rfl sz62 (by decide) (.tmp rfl) rfl)) (opsS_cons (.plain _ (Av.new (j := 2) rfl rfl rfl Av.nil) rfl rfl (ob_load rfl tk62 (.tmp rfl) (.tail _ (.head _)) (lg_caballaw10_Item_Numbers x10))) (opsS_cons (.plain _ (Av.old (t := 8) rfl rfl Av.nil) rfl rfl (ob_move rfl (.tmp rfl))) (opsS_cons (.plain _ (Av.new (j := 3) rfl rfl rfl (Av.new (j := 4) rfl rfl rfl Av.nil)) rfl rfl (ob_indexAddrs rfl Try.underlying62 sz69 (.tmp rfl) (.tmp rfl) e_x12)) (opsS_cons (.plain _ (Av.new (j := 5) rfl rfl rfl Av.nil) rfl rfl (ob_loadr rfl tk69 (.tmp rfl))) opsS_nil))))))) (.plain _ (Av.new (j := 0) rfl rfl rfl Av.nil) rfl (fun _ => rfl) (fun R => ob_callL (args := [_]) (L := [_]) rfl .direct hb34 (List.Perm.refl _) (fun a w s fs gs hf hg => by obtain rfl := hf.unnil; obtain rfl := hg.unnil; exact c_wire_Reader_Number k _ _ e_x11 _ _ _ _ (ownL s) (disL s) (nodL s) (s.arg (.tmp rfl))) (by exact fun _ => rfl))) (setAll_same (us := (fun _ : Unit => [(1, ((kint .u32).V x11.1))])) fun _ => by kernel_rfl) fun _ => ?_
              refine goes_last (by kernel_rfl) rfl (opsS_skip (by rfl) (opsS_skip (by rfl) (opsS_cons (.plain _ (Av.old (t := 7) rfl rfl Av.nil) rfl rfl (ob_fieldAddr (off' := 2) rfl Try.underlying65 rfl sz62 (by decide) (.tmp rfl) rfl)) (opsS_cons (.plain _ (Av.new (j := 2) rfl rfl rfl Av.nil) rfl rfl (ob_load rfl tk62 (.tmp rfl) (.tail _ (.head _)) (lg_caballaw10_Item_Numbers x10))) (opsS_cons (.plain _ (Av.old (t := 8) rfl rfl Av.nil) rfl rfl (ob_move rfl (.tmp rfl))) (opsS_cons (.plain _ (Av.new (j := 3) rfl rfl rfl (Av.new (j := 4) rfl rfl rfl Av.nil)) rfl rfl (ob_indexAddrs rfl Try.underlying62 sz69 (.tmp rfl) (.tmp rfl) e_x12)) (opsS_cons (.plain _ (Av.new (j := 5) rfl rfl rfl Av.nil) rfl rfl (ob_loadr rfl tk69 (.tmp rfl))) opsS_nil))))))) (out_old (t := 0) rfl rfl (out_old (t := 5) rfl rfl (out_old (t := 6) rfl rfl (out_old (t := 7) rfl rfl (out_old (t := 8) rfl rfl (out_new (i := 1) (by decide) rfl rfl (out_new (i := 6) (by decide) rfl rfl out_nil))))))) fun a82 w82 s82 => ?_
              refine seq_op s82 rfl rfl (of_decide_eq_true rfl) (ob_neq rfl (.tmp rfl) (.tmp rfl)) fun a83 w83 s83 => ?_; clear s82
              refine wpList_nil ?_
              refine then_normal ?_
              refine hK27 _ _ ?_
              have s84 := s83.sub (.cons (t := 0) rfl (.cons (t := 5) rfl (.cons (t := 6) rfl (.cons (t := 7) rfl (.cons (t := 8) rfl (.cons (t := 57) rfl .nil)))))); clear s83
              refine cond_split s84 (.tmp rfl) (fun hc6 => ?_) (fun hc6 => ?_)
              · replace h26 := ite_t hc6 h26
                have h27 := h26; clear h26
                refine wp_seq_k fun K28 hK28 => ?_
                refine wp_region_lit ?_
                refine seq_op s84 rfl rfl (of_decide_eq_true rfl) (ob_assign rfl opd_bool) fun a85 w85 s85 => ?_; clear s84
                refine wpList_nil ?_
                refine then_normal ?_
                refine hK28 _ _ ?_
                have s86 := s85.sub (.cons (t := 2) rfl .nil); clear s85
                have s87 := St.drop (A := []) s86; clear s86
                have s88 := St.drop (A := []) s87; clear s87
                refine wp_ret ?_
                obtain rfl := Option.some.inj h27
                exact leave s88 (.inl rfl) rfl (.cons (.tmp rfl) .nil)
              · replace h26 := ite_f hc6 h26
                have h28 := h26; clear h26
                refine wp_skip ?_
                refine in_normal ?_
                refine then_normal ?_
                refine hK26 _ _ ?_
                have s89 := s84.sub (.cons (t := 0) rfl (.cons (t := 5) rfl (.cons (t := 6) rfl (.cons (t := 7) rfl (.cons (t := 8) rfl (.cons (t := 57) rfl .nil)))))); clear s84
                refine wp_region_lit ?_
                refine seq_op s89 rfl rfl (of_decide_eq_true rfl) (ob_move rfl (.tmp rfl)) fun a90 w90 s90 => ?_; clear s89
                refine seq_op s90 rfl rfl (of_decide_eq_true rfl) (ob_add rfl (.tmp rfl) (opd_int rfl)) fun a91 w91 s91 => ?_; clear s90
                refine seq_op s91 rfl rfl (of_decide_eq_true rfl) (ob_assign rfl (.tmp rfl)) fun a92 w92 s92 => ?_; clear s91
                refine wpList_nil ?_
                refine then_normal ?_
                exact hK23 ((iadd .i64 y6 (1 : Int)), x11.2) _ _ h28 (s92.sub (.cons rfl (.cons rfl (.cons rfl (.cons rfl (.cons rfl .nil))))))
            · replace h23 := ite_f hc5 h23
              have h29 := h23; clear h23
              refine wp_exit ?_
              refine (then_exit (then_exit (in_here ?_)))
              refine in_normal ?_
              refine in_normal ?_
              refine then_normal ?_
              have s93 := St.drop (A := [_]) s80; clear s80
              exact hj3 y7 _ _ h29 (s93.sub (.cons rfl (.cons rfl (.cons rfl .nil))))
          · replace h20 := ite_f hc4 h20
            have h30 := h20; clear h20
            refine wp_seq_k fun K29 hK29 => ?_
            refine wp_region_lit ?_
            refine seq_op s70 rfl rfl (of_decide_eq_true rfl) (ob_eql rfl (.tmp rfl) (opd_int rfl)) fun a94 w94 s94 => ?_; clear s70
            refine seq_op s94 rfl rfl (of_decide_eq_true rfl) (ob_assign rfl (.tmp rfl)) fun a95 w95 s95 => ?_; clear s94
            refine wpList_nil ?_
            refine then_normal ?_
            refine hK29 _ _ ?_
            have s96 := s95.sub (.cons (t := 0) rfl (.cons (t := 5) rfl (.cons (t := 6) rfl (.cons (t := 7) rfl (.cons (t := 40) rfl (.cons (t := 58) rfl .nil)))))); clear s95
            refine cond_split s96 (.tmp rfl) (fun hc7 => ?_) (fun hc7 => ?_)
            · replace h30 := ite_t hc7 h30
              have h31 := h30; clear h30
              refine wp_seq_k fun K30 hK30 => ?_
              have s97 := s96.perm (toFront [_] (List.Perm.refl _)); clear s96
              obtain ⟨x13, e_x13, h32⟩ := bind_some h31; clear h31
              obtain ⟨x14, e_x14, h33⟩ := bind_some h32; clear h32
              refine wp_goes (Fs := [(ptrB b2 0), nofact, (ptrB b3 3), (kstr.V x10.Text), nofact, nofact, nofact, nofact, nofact, nofact, nofact, nofact, nofact]) (bits := [0, 1, 0, 4, 15, 31, 63, 63, 191, 447, 1023, 63, 2111, 8191, 16383]) (m := 13) (todo := 1026) mx s97 ?_; clear s97
              refine goes_turn (B' := (fun _ : Unit => [BF b2 101 k_wire_Reader x13.2, BF b3 65 k_caballaw10_Item x10])) (Fs' := (fun _ : Unit => setAll ([(ptrB b2 0), nofact, (ptrB b3 3), (kstr.V x10.Text), nofact, nofact, nofact, nofact, nofact, nofact, nofact, nofact, nofact]) [(1, (kstr.V x13.1)), (4, (kbool.V (!decide (x13.1 = x10.Text)))), (5, (kbool.V (!decide (x13.1 = x10.Text)))), (6, (Fact.when ((!decide (x13.1 = x10.Text)) == false) (ptrB b2 0))), (7, (Fact.when ((!decide (x13.1 = x10.Text)) == false) (ptrB b3 3))), (8, (Fact.when ((!decide (x13.1 = x10.Text)) == false) (kstr.V x10.Text))), (9, (Fact.when ((!decide (x13.1 = x10.Text)) == false) ((kint .i64).V (x10.Text.length : Int)))), (11, (Fact.when ((!decide (x13.1 = x10.Text)) == false) (ptrB b3 3))), (12, (Fact.when ((!decide (x13.1 = x10.Text)) == false) (kstr.V x10.Text)))])) 1 8178 3 1024 (by kernel_rfl) rfl rfl rfl (opsS_cons (.plain _ (Av.old (t := 5) rfl rfl Av.nil) rfl rfl (ob_move rfl (.tmp rfl))) (opsS_skip (by rfl) (opsS_cons (.plain _ (Av.old (t := 7) rfl rfl Av.nil) rfl rfl (ob_fieldAddr (off' := 3) rfl Try.underlying65 rfl sz9 (by decide) (.tmp rfl) rfl)) (opsS_cons (.plain _ (Av.new (j := 2) rfl rfl rfl Av.nil) rfl rfl (ob_load rfl tk9 (.tmp rfl) (.tail _ (.head _)) (lg_caballaw10_Item_Text x10))) (opsS_skip (by rfl) (opsS_skip (by rfl) (opsS_skip (by rfl) (opsS_skip (by rfl) (opsS_skip (by rfl) (opsS_skip (by rfl) (opsS_skip (by rfl) (opsS_skip (by rfl) (opsS_skip (by rfl) opsS_nil))))))))))))) (.plain _ (Av.new (j := 0) rfl rfl rfl Av.nil) rfl (fun _ => rfl) (fun R => ob_callL (args := [_, _]) (L := [_]) rfl .direct hb35 (List.Perm.refl _) (fun a w s fs gs hf hg => by obtain rfl := hf.unnil; obtain rfl := hg.unnil; exact c_wire_Reader_Text k _ _ _ e_x13 _ _ _ _ _ (ownL s) (disL s) (nodL s) (s.arg (.tmp rfl)) (s.arg (opd_int rfl))) (by exact fun _ => rfl))) (setAll_same (us := (fun _ : Unit => [(1, (kstr.V x13.1)), (4, (kbool.V (!decide (x13.1 = x10.Text)))), (5, (kbool.V (!decide (x13.1 = x10.Text)))), (6, (Fact.when ((!decide (x13.1 = x10.Text)) == false) (ptrB b2 0))), (7, (Fact.when ((!decide (x13.1 = x10.Text)) == false) (ptrB b3 3))), (8, (Fact.when ((!decide (x13.1 = x10.Text)) == false) (kstr.V x10.Text))), (9, (Fact.when ((!decide (x13.1 = x10.Text)) == false) ((kint .i64).V (x10.Text.length : Int)))), (11, (Fact.when ((!decide (x13.1 = x10.Text)) == false) (ptrB b3 3))), (12, (Fact.when ((!decide (x13.1 = x10.Text)) == false) (kstr.V x10.Text)))])) fun _ => by kernel_rfl) fun _ => ?_
              refine goes_turn (B' := (fun _ : Unit => [BF b2 101 k_wire_Reader x14.2, BF b3 65 k_caballaw10_Item x10])) (Fs' := (fun _ : Unit => setAll (setAll ([(ptrB b2 0), nofact, (ptrB b3 3), (kstr.V x10.Text), nofact, nofact, nofact, nofact, nofact, nofact, nofact, nofact, nofact]) [(1, (kstr.V x13.1)), (4, (kbool.V (!decide (x13.1 = x10.Text)))), (5, (kbool.V (!decide (x13.1 = x10.Text)))), (6, (Fact.when ((!decide (x13.1 = x10.Text)) == false) (ptrB b2 0))), (7, (Fact.when ((!decide (x13.1 = x10.Text)) == false) (ptrB b3 3))), (8, (Fact.when ((!decide (x13.1 = x10.Text)) == false) (kstr.V x10.Text))), (9, (Fact.when ((!decide (x13.1 = x10.Text)) == false) ((kint .i64).V (x10.Text.length : Int)))), (11, (Fact.when ((!decide (x13.1 = x10.Text)) == false) (ptrB b3 3))), (12, (Fact.when ((!decide (x13.1 = x10.Text)) == false) (kstr.V x10.Text)))]) [(10, (Fact.when ((!decide (x13.1 = x10.Text)) == false) (kstr.V x14.1)))])) 10 1027 2047 0 (by kernel_rfl) rfl rfl rfl (opsS_skip (by rfl) (opsS_skip (by rfl) (opsS_cons (.plain _ (Av.old (t := 7) rfl rfl Av.nil) rfl rfl (ob_fieldAddr (off' := 3) rfl Try.underlying65 rfl sz9 (by decide) (.tmp rfl) rfl)) (opsS_cons (.plain _ (Av.new (j := 2) rfl rfl rfl Av.nil) rfl rfl (ob_load rfl tk9 (.tmp rfl) (.tail _ (.head _)) (lg_caballaw10_Item_Text x10))) (opsS_cons (.plain _ (Av.new (j := 1) rfl rfl rfl (Av.new (j := 3) rfl rfl rfl Av.nil)) rfl rfl (ob_sneq rfl (.tmp rfl) (.tmp rfl))) (opsS_cons (.plain _ (Av.new (j := 4) rfl rfl rfl Av.nil) rfl rfl (ob_move rfl (.tmp rfl))) (opsS_cons (.guarded _ (Av.old (t := 5) rfl rfl (Av.new (j := 5) rfl rfl rfl Av.nil)) rfl rfl rfl rfl (fun hb => ob_move rfl (.tmp rfl))) (opsS_cons (.guarded _ (Av.old (t := 7) rfl rfl (Av.new (j := 5) rfl rfl rfl Av.nil)) rfl rfl rfl rfl (fun hb => ob_fieldAddr (off' := 3) rfl Try.underlying65 rfl sz9 (by decide) (.tmp rfl) rfl)) (opsS_cons (.guarded _ (Av.new (j := 5) rfl rfl rfl (Av.new (j := 7) rfl rfl rfl Av.nil)) rfl rfl rfl rfl (fun hb => (Ob.uncond (t := 67) hb rfl (ob_load rfl tk9 (.tmp rfl) (.tail _ (.head _)) (lg_caballaw10_Item_Text x10))))) (opsS_cons (.guarded _ (Av.new (j := 5) rfl rfl rfl (Av.new (j := 8) rfl rfl rfl Av.nil)) rfl rfl rfl rfl (fun hb => (Ob.uncond (t := 68) hb rfl (ob_lenStr rfl Try.underlying9 (.tmp rfl))))) (opsS_skip (by rfl) (opsS_cons (.guarded _ (Av.old (t := 7) rfl rfl (Av.new (j := 5) rfl rfl rfl Av.nil)) rfl rfl rfl rfl (fun hb => ob_fieldAddr (off' := 3) rfl Try.underlying65 rfl sz9 (by decide) (.tmp rfl) rfl)) (opsS_cons (.guarded _ (Av.new (j := 5) rfl rfl rfl (Av.new (j := 11) rfl rfl rfl Av.nil)) rfl rfl rfl rfl (fun hb => (Ob.uncond (t := 71) hb rfl (ob_load rfl tk9 (.tmp rfl) (.tail _ (.head _)) (lg_caballaw10_Item_Text x10))))) opsS_nil))))))))))))) (.guarded _ (Av.new (j := 5) rfl rfl rfl (Av.new (j := 6) rfl rfl rfl (Av.new (j := 9) rfl rfl rfl Av.nil))) rfl rfl rfl (fun _ => rfl) (fun hb R => (ObX.uncond (t := 69) hb rfl ((ObX.uncond (t := 66) hb rfl (ob_callL (args := [_, _]) (L := [_]) rfl .direct hb35 (List.Perm.refl _) (fun a w s fs gs hf hg => by obtain rfl := hf.unnil; obtain rfl := hg.unnil; exact c_wire_Reader_Text k _ _ _ (ite_t hb e_x14) _ _ _ _ _ (ownL s) (disL s) (nodL s) (s.arg (.tmp rfl)) (s.arg (.tmp rfl))) (by exact fun _ => rfl)))))) (fun hb0 => by obtain rfl := Option.some.inj (ite_f hb0 e_x14); exact ⟨(), rfl⟩)) (setAll_same (us := (fun _ : Unit => [(10, (Fact.when ((!decide (x13.1 = x10.Text)) == false) (kstr.V x14.1)))])) fun _ => by kernel_rfl) fun _ => ?_
              refine goes_last (by kernel_rfl) rfl (opsS_skip (by rfl) (opsS_skip (by rfl) (opsS_skip (by rfl) (opsS_skip (by rfl) (opsS_skip (by rfl) (opsS_skip (by rfl) (opsS_skip (by rfl) (opsS_skip (by rfl) (opsS_skip (by rfl) (opsS_skip (by rfl) (opsS_skip (by rfl) (opsS_cons (.guarded _ (Av.old (t := 7) rfl rfl (Av.new (j := 5) rfl rfl rfl Av.nil)) rfl rfl rfl rfl (fun hb => ob_fieldAddr (off' := 3) rfl Try.underlying65 rfl sz9 (by decide) (.tmp rfl) rfl)) (opsS_cons (.guarded _ (Av.new (j := 5) rfl rfl rfl (Av.new (j := 11) rfl rfl rfl Av.nil)) rfl rfl rfl rfl (fun hb => (Ob.uncond (t := 71) hb rfl (ob_load rfl tk9 (.tmp rfl) (.tail _ (.head _)) (lg_caballaw10_Item_Text x10))))) opsS_nil))))))))))))) (out_old (t := 0) rfl rfl (out_old (t := 5) rfl rfl (out_old (t := 6) rfl rfl (out_old (t := 58) rfl rfl (out_new (i := 5) (by decide) rfl rfl (out_new (i := 10) (by decide) rfl rfl (out_new (i := 12) (by decide) rfl rfl out_nil))))))) fun a98 w98 s98 => ?_
              refine seq_opg s98 rfl rfl rfl rfl (of_decide_eq_true rfl) (fun hb => (Ob.uncond (t := 72) hb rfl ((Ob.uncond (t := 70) hb rfl (ob_sneq rfl (.tmp rfl) (.tmp rfl)))))) fun a99 w99 s99 => ?_; clear s98
              obtain ⟨x15, e_x15, h34⟩ := bind_some h33; clear h33; replace e_x15 := Option.some.inj e_x15
              refine seq_op s99 rfl rfl (of_decide_eq_true rfl) ((ob_or2 rfl (.tmp rfl) opd_bool (.tmp rfl)).nm e_x15) fun a100 w100 s100 => ?_; clear s99
              refine wpList_nil ?_
              refine then_normal ?_
              refine hK30 _ _ ?_
              have s101 := s100.sub (.cons (t := 0) rfl (.cons (t := 5) rfl (.cons (t := 6) rfl (.cons (t := 58) rfl (.cons (t := 74) rfl .nil))))); clear s100
              have s102 := St.drop (A := [_]) s101; clear s101
              refine cond_split s102 (.tmp rfl) (fun hc8 => ?_) (fun hc8 => ?_)
              · replace h34 := ite_t hc8 h34
                have h35 := h34; clear h34
                refine wp_seq_k fun K31 hK31 => ?_
                refine wp_region_lit ?_
                refine seq_op s102 rfl rfl (of_decide_eq_true rfl) (ob_assign rfl opd_bool) fun a103 w103 s103 => ?_; clear s102
                refine wpList_nil ?_
                refine then_normal ?_
                refine hK31 _ _ ?_
                have s104 := s103.sub (.cons (t := 2) rfl .nil); clear s103
                have s105 := St.drop (A := []) s104; clear s104
                refine wp_ret ?_
                obtain rfl := Option.some.inj h35
                exact leave s105 (.inl rfl) rfl (.cons (.tmp rfl) .nil)
              · replace h34 := ite_f hc8 h34
                have h36 := h34; clear h34
                refine wp_skip ?_
                refine in_normal ?_
                refine in_normal ?_
                refine then_normal ?_
                exact hj3 x14.2 _ _ h36 (s102.sub (.cons rfl (.cons rfl (.cons rfl .nil))))
            · replace h30 := ite_f hc7 h30
              have h37 := h30; clear h30
              refine wp_seq_k fun K32 hK32 => ?_
              refine wp_region_lit ?_
              refine seq_op s96 rfl rfl (of_decide_eq_true rfl) (ob_eql rfl (.tmp rfl) (opd_int rfl)) fun a106 w106 s106 => ?_; clear s96
              refine seq_op s106 rfl rfl (of_decide_eq_true rfl) (ob_assign rfl (.tmp rfl)) fun a107 w107 s107 => ?_; clear s106
              refine wpList_nil ?_
              refine then_normal ?_
              refine hK32 _ _ ?_
              have s108 := s107.sub (.cons (t := 0) rfl (.cons (t := 5) rfl (.cons (t := 6) rfl (.cons (t := 7) rfl (.cons (t := 40) rfl (.cons (t := 58) rfl (.cons (t := 75) rfl .nil))))))); clear s107
              refine cond_split s108 (.tmp rfl) (fun hc9 => ?_) (fun hc9 => ?_)
              · replace h37 := ite_t hc9 h37
                have h38 := h37; clear h37
                refine wp_seq_k fun K33 hK33 => ?_
                refine wp_region_lit ?_
                refine seq_op s108 rfl rfl (of_decide_eq_true rfl) (ob_assign rfl (opd_int rfl)) fun a109 w109 s109 => ?_; clear s108
                refine wpList_nil ?_
                refine then_normal ?_
                refine hK33 _ _ ?_
                have s110 := s109.sub (.cons (t := 0) rfl (.cons (t := 5) rfl (.cons (t := 6) rfl (.cons (t := 7) rfl (.cons (t := 9) rfl (.cons (t := 58) rfl (.cons (t := 75) rfl .nil))))))); clear s109
                refine wp_block ?_
                have s111 := s110.perm (toFront [_] (toFront [] (List.Perm.refl _))); clear s110
                refine wp_loop_fuel (fun m (q : Int × wire_Reader) => caballaw10_WireBack.l3 k x10 y3 (caballaw10_WireBack.l1 k p1 n1) m q.1 q.2) r (fun _ => rfl) (fun q a w => St ⟨119, w0, ok, []⟩ [BF b2 101 k_wire_Reader q.2, BF b3 65 k_caballaw10_Item x10] [(0, ((ksl k_caballaw10_Item).V p1)), (5, (ptrB b2 0)), (6, ((kint .i64).V y3)), (7, (ptrB b3 0)), (9, ((kint .i64).V q.1)), (58, (kbool.V ((irem x10.Kind (5 : Int)) == (1 : Int)))), (75, (kbool.V ((irem x10.Kind (5 : Int)) == (2 : Int))))] a w) ?_ k ((0 : Int), y4) _ _ h38 (s111.sub (.cons rfl (.cons rfl (.cons rfl (.cons rfl (.cons rfl (.cons rfl (.cons rfl .nil))))))))
                rintro n3 ⟨y8, y9⟩ a112 w112 h39 s112 K34 hK34
                replace h39 : caballaw10_WireBack.l3 k x10 y3 (caballaw10_WireBack.l1 k p1 n1) (n3 + 1) y8 y9 = some r := h39; rw [caballaw10_WireBack.l3] at h39
                have h40 := h39; clear h39
                refine wp_seq_k fun K35 hK35 => ?_
                refine wp_seq_k fun K36 hK36 => ?_
                refine wp_region_lit ?_
                refine seq_op s112 rfl rfl (of_decide_eq_true rfl) (ob_move rfl (.tmp rfl)) fun a113 w113 s113 => ?_; clear s112
                refine seq_op s113 rfl rfl (of_decide_eq_true rfl) (ob_fieldAddr (off' := 4) rfl Try.underlying65 rfl sz63 (by decide) (.tmp rfl) rfl) fun a114 w114 s114 => ?_; clear s113
                refine seq_op s114 rfl rfl (of_decide_eq_true rfl) (ob_load rfl tk63 (.tmp rfl) (.tail _ (.head _)) (lg_caballaw10_Item_Keys x10)) fun a115 w115 s115 => ?_; clear s114
                refine seq_op s115 rfl rfl (of_decide_eq_true rfl) (ob_lens rfl Try.underlying63 (.tmp rfl)) fun a116 w116 s116 => ?_; clear s115
                refine seq_op s116 rfl rfl (of_decide_eq_true rfl) (ob_lss rfl (.tmp rfl) (.tmp rfl)) fun a117 w117 s117 => ?_; clear s116
                refine wpList_nil ?_
                refine then_normal ?_
                refine hK36 _ _ ?_
                have s118 := s117.sub (.cons (t := 0) rfl (.cons (t := 5) rfl (.cons (t := 6) rfl (.cons (t := 7) rfl (.cons (t := 9) rfl (.cons (t := 58) rfl (.cons (t := 75) rfl (.cons (t := 81) rfl .nil)))))))); clear s117
                refine cond_split s118 (.tmp rfl) (fun hc10 => ?_) (fun hc10 => ?_)
                · replace h40 := ite_t hc10 h40
                  have h41 := h40; clear h40
                  refine wp_skip ?_
                  refine then_normal ?_
                  refine hK35 _ _ ?_
                  have s119 := s118.sub (.cons (t := 0) rfl (.cons (t := 5) rfl (.cons (t := 6) rfl (.cons (t := 7) rfl (.cons (t := 9) rfl (.cons (t := 58) rfl (.cons (t := 75) rfl .nil))))))); clear s118
                  refine wp_seq_k fun K37 hK37 => ?_
                  refine wp_block ?_
                  refine wp_seq_k fun K38 hK38 => ?_
                  obtain ⟨x16, e_x16, h42⟩ := bind_some h41; clear h41
                  obtain ⟨x17, e_x17, h43⟩ := bind_some h42; clear h42
                  refine wp_goes (Fs := [(ptrB b2 0), nofact, (ptrB b3 4), ((ksl (karr 32 (kint .u8))).V x10.Keys), ((kint .i64).V y8), (ptrTo (karr 32 (kint .u8)) x17), ((karr 32 (kint .u8)).V x17)]) (bits := [0, 1, 0, 4, 0, 28, 60, 127]) (m := 7) (todo := 2) mx s119 ?_; clear s119
                  refine goes_turn (B' := (fun _ : Unit => [BF b2 101 k_wire_Reader x16.2, BF b3 65 k_caballaw10_Item x10])) (Fs' := (fun _ : Unit => setAll ([(ptrB b2 0), nofact, (ptrB b3 4), ((ksl (karr 32 (kint .u8))).V x10.Keys), ((kint .i64).V y8), (ptrTo (karr 32 (kint .u8)) x17), ((karr 32 (kint .u8)).V x17)]) [(1, ((karr 32 (kint .u8)).V x16.1))])) 1 2 3 0 (by kernel_rfl) rfl rfl rfl (opsS_cons (.plain _ (Av.old (t := 5) rfl rfl Av.nil) rfl rfl (ob_move rfl (.tmp rfl))) (opsS_skip (by rfl) (opsS_cons (.plain _ (Av.old (t := 7) rfl rfl Av.nil) rfl rfl (ob_fieldAddr (off' := 4) rfl Try.underlying65 rfl sz63 (by decide) (.tmp rfl) rfl)) (opsS_cons (.plain _ (Av.new (j := 2) rfl rfl rfl Av.nil) rfl rfl (ob_load rfl tk63 (.tmp rfl) (.tail _ (.head _)) (lg_caballaw10_Item_Keys x10))) (opsS_cons (.plain _ (Av.old (t := 9) rfl rfl Av.nil) rfl rfl (ob_move rfl (.tmp rfl))) (opsS_cons (.plain _ (Av.new (j := 3) rfl rfl rfl (Av.new (j := 4) rfl rfl rfl Av.nil)) rfl rfl (ob_indexAddrs rfl Try.underlying63 sz72 (.tmp rfl) (.tmp rfl) e_x17)) (opsS_cons (.plain _ (Av.new (j := 5) rfl rfl rfl Av.nil) rfl rfl (ob_loadr rfl tk72 (.tmp rfl))) opsS_nil))))))) (.plain _ (Av.new (j := 0) rfl rfl rfl Av.nil) rfl (fun _ => rfl) (fun R => ob_callL (args := [_]) (L := [_]) rfl .direct hb36 (List.Perm.refl _) (fun a w s fs gs hf hg => by obtain rfl := hf.unnil; obtain rfl := hg.unnil; exact c_wire_Reader_Key k _ _ e_x16 _ _ _ _ (ownL s) (disL s) (nodL s) (s.arg (.tmp rfl))) (by exact fun _ => rfl))) (setAll_same (us := (fun _ : Unit => [(1, ((karr 32 (kint .u8)).V x16.1))])) fun _ => by kernel_rfl) fun _ => ?_
                  refine goes_last (by kernel_rfl) rfl (opsS_skip (by rfl) (opsS_skip (by rfl) (opsS_cons (.plain _ (Av.old (t := 7) rfl rfl Av.nil) rfl rfl (ob_fieldAddr (off' := 4) rfl Try.underlying65 rfl sz63 (by decide) (.tmp rfl) rfl)) (opsS_cons (.plain _ (Av.new (j := 2) rfl rfl rfl Av.nil) rfl rfl (ob_load rfl tk63 (.tmp rfl) (.tail _ (.head _)) (lg_caballaw10_Item_Keys x10))) (opsS_cons (.plain _ (Av.old (t := 9) rfl rfl Av.nil) rfl rfl (ob_move rfl (.tmp rfl))) (opsS_cons (.plain _ (Av.new (j := 3) rfl rfl rfl (Av.new (j := 4) rfl rfl rfl Av.nil)) rfl rfl (ob_indexAddrs rfl Try.underlying63 sz72 (.tmp rfl) (.tmp rfl) e_x17)) (opsS_cons (.plain _ (Av.new (j := 5) rfl rfl rfl Av.nil) rfl rfl (ob_loadr rfl tk72 (.tmp rfl))) opsS_nil))))))) (out_old (t := 0) rfl rfl (out_old (t := 5) rfl rfl (out_old (t := 6) rfl rfl (out_old (t := 7) rfl rfl (out_old (t := 9) rfl rfl (out_old (t := 58) rfl rfl (out_old (t := 75) rfl rfl (out_new (i := 1) (by decide) rfl rfl (out_new (i := 6) (by decide) rfl rfl out_nil))))))))) fun a120 w120 s120 => ?_
                  refine seq_op s120 rfl rfl (of_decide_eq_true rfl) (ob_neqAgg rfl rfl (by kernel_rfl) eq72 (by decide) (.tmp rfl) (.tmp rfl)) fun a121 w121 s121 => ?_; clear s120
                  refine wpList_nil ?_
                  refine then_normal ?_
                  refine hK38 _ _ ?_
                  have s122 := s121.sub (.cons (t := 0) rfl (.cons (t := 5) rfl (.cons (t := 6) rfl (.cons (t := 7) rfl (.cons (t := 9) rfl (.cons (t := 58) rfl (.cons (t := 75) rfl (.cons (t := 91) rfl .nil)))))))); clear s121
                  refine cond_split s122 (.tmp rfl) (fun hc11 => ?_) (fun hc11 => ?_)
                  · replace h43 := ite_t hc11 h43
                    have h44 := h43; clear h43
                    refine wp_seq_k fun K39 hK39 => ?_
                    refine wp_region_lit ?_
                    refine seq_op s122 rfl rfl (of_decide_eq_true rfl) (ob_assign rfl opd_bool) fun a123 w123 s123 => ?_; clear s122
                    refine wpList_nil ?_
                    refine then_normal ?_
                    refine hK39 _ _ ?_
                    have s124 := s123.sub (.cons (t := 2) rfl .nil); clear s123
                    have s125 := St.drop (A := []) s124; clear s124
                    have s126 := St.drop (A := []) s125; clear s125
                    refine wp_ret ?_
                    obtain rfl := Option.some.inj h44
                    exact leave s126 (.inl rfl) rfl (.cons (.tmp rfl) .nil)
                  · replace h43 := ite_f hc11 h43
                    have h45 := h43; clear h43
                    refine wp_skip ?_
                    refine in_normal ?_
                    refine then_normal ?_
                    refine hK37 _ _ ?_
                    have s127 := s122.sub (.cons (t := 0) rfl (.cons (t := 5) rfl (.cons (t := 6) rfl (.cons (t := 7) rfl (.cons (t := 9) rfl (.cons (t := 58) rfl (.cons (t := 75) rfl (.cons (t := 91) rfl .nil)))))))); clear s122
                    refine wp_region_lit ?_
                    refine seq_op s127 rfl rfl (of_decide_eq_true rfl) (ob_move rfl (.tmp rfl)) fun a128 w128 s128 => ?_; clear s127
                    refine seq_op s128 rfl rfl (of_decide_eq_true rfl) (ob_add rfl (.tmp rfl) (opd_int rfl)) fun a129 w129 s129 => ?_; clear s128
                    refine seq_op s129 rfl rfl (of_decide_eq_true rfl) (ob_assign rfl (.tmp rfl)) fun a130 w130 s130 => ?_; clear s129
                    refine wpList_nil ?_
                    refine then_normal ?_
                    exact hK34 ((iadd .i64 y8 (1 : Int)), x16.2) _ _ h45 (s130.sub (.cons rfl (.cons rfl (.cons rfl (.cons rfl (.cons rfl (.cons rfl (.cons rfl .nil))))))))
                · replace h40 := ite_f hc10 h40
                  have h46 := h40; clear h40
                  refine wp_exit ?_
                  refine (then_exit (then_exit (in_here ?_)))
                  refine in_normal ?_
                  refine in_normal ?_
                  refine then_normal ?_
                  have s131 := St.drop (A := [_]) s118; clear s118
                  exact hj3 y9 _ _ h46 (s131.sub (.cons rfl (.cons rfl (.cons rfl .nil))))
              · replace h37 := ite_f hc9 h37
                have h47 := h37; clear h37
                refine wp_seq_k fun K40 hK40 => ?_
                refine wp_region_lit ?_
                refine seq_op s108 rfl rfl (of_decide_eq_true rfl) (ob_eql rfl (.tmp rfl) (opd_int rfl)) fun a132 w132 s132 => ?_; clear s108
                refine seq_op s132 rfl rfl (of_decide_eq_true rfl) (ob_assign rfl (.tmp rfl)) fun a133 w133 s133 => ?_; clear s132
                refine wpList_nil ?_
                refine then_normal ?_
                refine hK40 _ _ ?_
                have s134 := s133.sub (.cons (t := 0) rfl (.cons (t := 5) rfl (.cons (t := 6) rfl (.cons (t := 7) rfl (.cons (t := 40) rfl (.cons (t := 58) rfl (.cons (t := 75) rfl (.cons (t := 92) rfl .nil)))))))); clear s133
                refine cond_split s134 (.tmp rfl) (fun hc12 => ?_) (fun hc12 => ?_)
                · replace h47 := ite_t hc12 h47
                  have h48 := h47; clear h47
                  refine wp_seq_k fun K41 hK41 => ?_
                  obtain ⟨x18, e_x18, h49⟩ := bind_some h48; clear h48
                  refine wp_goes (Fs := [(ptrB b2 0), nofact, (ptrB b3 4), ((ksl (karr 32 (kint .u8))).V x10.Keys)]) (bits := [0, 1, 0, 4, 15, 31]) (m := 4) (todo := 2) mx s134 ?_; clear s134
                  refine goes_turn (B' := (fun _ : Unit => [BF b2 101 k_wire_Reader x18.2, BF b3 65 k_caballaw10_Item x10])) (Fs' := (fun _ : Unit => setAll ([(ptrB b2 0), nofact, (ptrB b3 4), ((ksl (karr 32 (kint .u8))).V x10.Keys)]) [(1, ((ksl (karr 32 (kint .u8))).V x18.1))])) 1 2 3 0 (by kernel_rfl) rfl rfl rfl (opsS_cons (.plain _ (Av.old (t := 5) rfl rfl Av.nil) rfl rfl (ob_move rfl (.tmp rfl))) (opsS_skip (by rfl) (opsS_cons (.plain _ (Av.old (t := 7) rfl rfl Av.nil) rfl rfl (ob_fieldAddr (off' := 4) rfl Try.underlying65 rfl sz63 (by decide) (.tmp rfl) rfl)) (opsS_cons (.plain _ (Av.new (j := 2) rfl rfl rfl Av.nil) rfl rfl (ob_load rfl tk63 (.tmp rfl) (.head _) (lg_caballaw10_Item_Keys x10))) opsS_nil)))) (.plain _ (Av.new (j := 0) rfl rfl rfl Av.nil) rfl (fun _ => rfl) (fun R => ob_callL (args := [_, _]) (L := [_]) rfl .direct hb37 (toFront [_] (List.Perm.refl _)) (fun a w s fs gs hf hg => by obtain rfl := hf.unnil; obtain rfl := hg.unnil; exact c_wire_Reader_KeyList_w2 k _ _ _ e_x18 _ _ _ _ _ (ownL s) (disL s) (nodL s) (s.arg (.tmp rfl)) (s.arg (opd_int rfl))) (by exact fun _ => rfl))) (setAll_same (us := (fun _ : Unit => [(1, ((ksl (karr 32 (kint .u8))).V x18.1))])) fun _ => by kernel_rfl) fun _ => ?_
                  refine goes_last (by kernel_rfl) rfl (opsS_skip (by rfl) (opsS_skip (by rfl) (opsS_cons (.plain _ (Av.old (t := 7) rfl rfl Av.nil) rfl rfl (ob_fieldAddr (off' := 4) rfl Try.underlying65 rfl sz63 (by decide) (.tmp rfl) rfl)) (opsS_cons (.plain _ (Av.new (j := 2) rfl rfl rfl Av.nil) rfl rfl (ob_load rfl tk63 (.tmp rfl) (.tail _ (.head _)) (lg_caballaw10_Item_Keys x10))) opsS_nil)))) (out_old (t := 0) rfl rfl (out_old (t := 5) rfl rfl (out_old (t := 6) rfl rfl (out_old (t := 58) rfl rfl (out_old (t := 75) rfl rfl (out_old (t := 92) rfl rfl (out_new (i := 1) (by decide) rfl rfl (out_new (i := 3) (by decide) rfl rfl out_nil)))))))) fun a135 w135 s135 => ?_
                  obtain ⟨x19, e_x19, h50⟩ := bind_some h49; clear h49
                  refine seq_op s135 rfl rfl (of_decide_eq_true rfl) (ob_callD (args := [_, _]) rfl .direct hb40 (fun a w s fs gs hf hg => by obtain rfl := hf.unnil; obtain rfl := hg.unnil; exact c_cabalref08_SameKeys k _ _ _ e_x19 _ _ _ _ (s.arg (.tmp rfl)) (s.arg (.tmp rfl)))) fun a136 w136 s136 => ?_; clear s135
                  refine seq_op s136 rfl rfl (of_decide_eq_true rfl) (ob_not rfl (.tmp rfl)) fun a137 w137 s137 => ?_; clear s136
                  refine wpList_nil ?_
                  refine then_normal ?_
                  refine hK41 _ _ ?_
                  have s138 := s137.sub (.cons (t := 0) rfl (.cons (t := 5) rfl (.cons (t := 6) rfl (.cons (t := 58) rfl (.cons (t := 75) rfl (.cons (t := 92) rfl (.cons (t := 99) rfl .nil))))))); clear s137
                  have s139 := St.drop (A := [_]) s138; clear s138
                  refine cond_split s139 (.tmp rfl) (fun hc13 => ?_) (fun hc13 => ?_)
                  · replace h50 := ite_t hc13 h50
                    have h51 := h50; clear h50
                    refine wp_seq_k fun K42 hK42 => ?_
                    refine wp_region_lit ?_
                    refine seq_op s139 rfl rfl (of_decide_eq_true rfl) (ob_assign rfl opd_bool) fun a140 w140 s140 => ?_; clear s139
                    refine wpList_nil ?_
                    refine then_normal ?_
                    refine hK42 _ _ ?_
                    have s141 := s140.sub (.cons (t := 2) rfl .nil); clear s140
                    have s142 := St.drop (A := []) s141; clear s141
                    refine wp_ret ?_
                    obtain rfl := Option.some.inj h51
                    exact leave s142 (.inl rfl) rfl (.cons (.tmp rfl) .nil)
                  · replace h50 := ite_f hc13 h50
                    have h52 := h50; clear h50
                    refine wp_skip ?_
                    refine in_normal ?_
                    refine in_normal ?_
                    refine then_normal ?_
                    exact hj3 x18.2 _ _ h52 (s139.sub (.cons rfl (.cons rfl (.cons rfl .nil))))
                · replace h47 := ite_f hc12 h47
                  have h53 := h47; clear h47
                  refine wp_seq_k fun K43 hK43 => ?_
                  refine wp_region_lit ?_
                  refine seq_op s134 rfl rfl (of_decide_eq_true rfl) (ob_eql rfl (.tmp rfl) (opd_int rfl)) fun a143 w143 s143 => ?_; clear s134
                  refine seq_op s143 rfl rfl (of_decide_eq_true rfl) (ob_assign rfl (.tmp rfl)) fun a144 w144 s144 => ?_; clear s143
                  refine wpList_nil ?_
                  refine then_normal ?_
                  refine hK43 _ _ ?_
                  have s145 := s144.sub (.cons (t := 0) rfl (.cons (t := 5) rfl (.cons (t := 6) rfl (.cons (t := 7) rfl (.cons (t := 58) rfl (.cons (t := 75) rfl (.cons (t := 92) rfl (.cons (t := 100) rfl .nil)))))))); clear s144
                  refine cond_split s145 (.tmp rfl) (fun hc14 => ?_) (fun hc14 => ?_)
                  · replace h53 := ite_t hc14 h53
                    have h54 := h53; clear h53
                    refine wp_seq_k fun K44 hK44 => ?_
                    obtain ⟨x20, e_x20, h55⟩ := bind_some h54; clear h54
                    refine wp_goes (Fs := [(ptrB b2 0), nofact, (ptrB b3 2), ((ksl (kint .u32)).V x10.Numbers)]) (bits := [0, 1, 0, 4, 15, 31]) (m := 4) (todo := 2) mx s145 ?_; clear s145
                    refine goes_turn (B' := (fun _ : Unit => [BF b2 101 k_wire_Reader x20.2, BF b3 65 k_caballaw10_Item x10])) (Fs' := (fun _ : Unit => setAll ([(ptrB b2 0), nofact, (ptrB b3 2), ((ksl (kint .u32)).V x10.Numbers)]) [(1, ((ksl (kint .u32)).V x20.1))])) 1 2 3 0 (by kernel_rfl) rfl rfl rfl (opsS_cons (.plain _ (Av.old (t := 5) rfl rfl Av.nil) rfl rfl (ob_move rfl (.tmp rfl))) (opsS_skip (by rfl) (opsS_cons (.plain _ (Av.old (t := 7) rfl rfl Av.nil) rfl rfl (ob_fieldAddr (off' := 2) rfl Try.underlying65 rfl sz62 (by decide) (.tmp rfl) rfl)) (opsS_cons (.plain _ (Av.new (j := 2) rfl rfl rfl Av.nil) rfl rfl (ob_load rfl tk62 (.tmp rfl) (.head _) (lg_caballaw10_Item_Numbers x10))) opsS_nil)))) (.plain _ (Av.new (j := 0) rfl rfl rfl Av.nil) rfl (fun _ => rfl) (fun R => ob_callL (args := [_, _]) (L := [_]) rfl .direct hb38 (toFront [_] (List.Perm.refl _)) (fun a w s fs gs hf hg => by obtain rfl := hf.unnil; obtain rfl := hg.unnil; exact c_wire_Reader_NumberList_w2 k _ _ _ e_x20 _ _ _ _ _ (ownL s) (disL s) (nodL s) (s.arg (.tmp rfl)) (s.arg (opd_int rfl))) (by exact fun _ => rfl))) (setAll_same (us := (fun _ : Unit => [(1, ((ksl (kint .u32)).V x20.1))])) fun _ => by kernel_rfl) fun _ => ?_
                    refine goes_last (by kernel_rfl) rfl (opsS_skip (by rfl) (opsS_skip (by rfl) (opsS_cons (.plain _ (Av.old (t := 7) rfl rfl Av.nil) rfl rfl (ob_fieldAddr (off' := 2) rfl Try.underlying65 rfl sz62 (by decide) (.tmp rfl) rfl)) (opsS_cons (.plain _ (Av.new (j := 2) rfl rfl rfl Av.nil) rfl rfl (ob_load rfl tk62 (.tmp rfl) (.tail _ (.head _)) (lg_caballaw10_Item_Numbers x10))) opsS_nil)))) (out_old (t := 0) rfl rfl (out_old (t := 5) rfl rfl (out_old (t := 6) rfl rfl (out_old (t := 58) rfl rfl (out_old (t := 75) rfl rfl (out_old (t := 92) rfl rfl (out_old (t := 100) rfl rfl (out_new (i := 1) (by decide) rfl rfl (out_new (i := 3) (by decide) rfl rfl out_nil))))))))) fun a146 w146 s146 => ?_
                    obtain ⟨x21, e_x21, h56⟩ := bind_some h55; clear h55
                    refine seq_op s146 rfl rfl (of_decide_eq_true rfl) (ob_callD (args := [_, _]) rfl .direct hb41 (fun a w s fs gs hf hg => by obtain rfl := hf.unnil; obtain rfl := hg.unnil; exact c_cabalref10_SameNumbers k _ _ _ e_x21 _ _ _ _ (s.arg (.tmp rfl)) (s.arg (.tmp rfl)))) fun a147 w147 s147 => ?_; clear s146
                    refine seq_op s147 rfl rfl (of_decide_eq_true rfl) (ob_not rfl (.tmp rfl)) fun a148 w148 s148 => ?_; clear s147
                    refine wpList_nil ?_
                    refine then_normal ?_
                    refine hK44 _ _ ?_
                    have s149 := s148.sub (.cons (t := 0) rfl (.cons (t := 5) rfl (.cons (t := 6) rfl (.cons (t := 58) rfl (.cons (t := 75) rfl (.cons (t := 92) rfl (.cons (t := 100) rfl (.cons (t := 107) rfl .nil)))))))); clear s148
                    have s150 := St.drop (A := [_]) s149; clear s149
                    refine cond_split s150 (.tmp rfl) (fun hc15 => ?_) (fun hc15 => ?_)
                    · replace h56 := ite_t hc15 h56
                      have h57 := h56; clear h56
                      refine wp_seq_k fun K45 hK45 => ?_
                      refine wp_region_lit ?_
                      refine seq_op s150 rfl rfl (of_decide_eq_true rfl) (ob_assign rfl opd_bool) fun a151 w151 s151 => ?_; clear s150
                      refine wpList_nil ?_
                      refine then_normal ?_
                      refine hK45 _ _ ?_
                      have s152 := s151.sub (.cons (t := 2) rfl .nil); clear s151
                      have s153 := St.drop (A := []) s152; clear s152
                      refine wp_ret ?_
                      obtain rfl := Option.some.inj h57
                      exact leave s153 (.inl rfl) rfl (.cons (.tmp rfl) .nil)
                    · replace h56 := ite_f hc15 h56
                      have h58 := h56; clear h56
                      refine wp_skip ?_
                      refine in_normal ?_
                      refine in_normal ?_
                      refine then_normal ?_
                      exact hj3 x20.2 _ _ h58 (s150.sub (.cons rfl (.cons rfl (.cons rfl .nil))))
                  · replace h53 := ite_f hc14 h53
                    have h59 := h53; clear h53
                    refine wp_skip ?_
                    refine in_normal ?_
                    refine in_normal ?_
                    refine then_normal ?_
                    have s154 := St.drop (A := []) s145; clear s145
                    exact hj3 y4 _ _ h59 (s154.sub (.cons rfl (.cons rfl (.cons rfl .nil))))
        · replace h17 := ite_f hc3 h17
          have h60 := h17; clear h17
          refine wp_exit ?_
          refine (then_exit (then_exit (in_here ?_)))
          refine then_normal ?_
          exact hj2 y4 _ _ h60 (s51.sub (.cons rfl .nil))
      refine wp_block ?_
      refine wp_loop_fuel (fun m (q : Int × (List Int)) => caballaw10_WireBack.l4 k p1 m q.1 q.2) r (fun _ => rfl) (fun q a w => ∃ (v2 : Value), St ⟨119, w0, ok, []⟩ [BF b1 59 (ko_wire_Writer_0 v2) (⟨[]⟩ : wire_Writer), RowF v2 5 (kint .u8) q.2] [(0, ((ksl k_caballaw10_Item).V p1)), (3, (ptrB b1 0)), (4, ((kint .i64).V q.1))] a w) ?_ k ((0 : Int), ([] : (List Int))) _ _ h7 ⟨(nilRow 12), (s21.sub (.cons rfl (.cons rfl (.cons rfl .nil))))⟩
      rintro n4 ⟨y10, y11⟩ a155 w155 h61 ⟨v2, s155⟩ K46 hK46
      replace h61 : caballaw10_WireBack.l4 k p1 (n4 + 1) y10 y11 = some r := h61; rw [caballaw10_WireBack.l4] at h61
      have h62 := h61; clear h61
      refine wp_seq_k fun K47 hK47 => ?_
      refine wp_seq_k fun K48 hK48 => ?_
      refine wp_region_lit ?_
      refine seq_op s155 rfl rfl (of_decide_eq_true rfl) (ob_move rfl (.tmp rfl)) fun a156 w156 s156 => ?_; clear s155
      refine seq_op s156 rfl rfl (of_decide_eq_true rfl) (ob_move rfl (.tmp rfl)) fun a157 w157 s157 => ?_; clear s156
      refine seq_op s157 rfl rfl (of_decide_eq_true rfl) (ob_lens rfl Try.underlying56 (.tmp rfl)) fun a158 w158 s158 => ?_; clear s157
      refine seq_op s158 rfl rfl (of_decide_eq_true rfl) (ob_lss rfl (.tmp rfl) (.tmp rfl)) fun a159 w159 s159 => ?_; clear s158
      refine wpList_nil ?_
      refine then_normal ?_
      refine hK48 _ _ ?_
      have s160 := s159.sub (.cons (t := 0) rfl (.cons (t := 3) rfl (.cons (t := 4) rfl (.cons (t := 18) rfl .nil)))); clear s159
      refine cond_split s160 (.tmp rfl) (fun hc16 => ?_) (fun hc16 => ?_)
      · replace h62 := ite_t hc16 h62
        have h63 := h62; clear h62
        refine wp_skip ?_
        refine then_normal ?_
        refine hK47 _ _ ?_
        have s161 := s160.sub (.cons (t := 0) rfl (.cons (t := 3) rfl (.cons (t := 4) rfl .nil))); clear s160
        refine wp_seq_k fun K49 hK49 => ?_
        refine wp_block ?_
        refine wp_region_lit ?_
        refine seq_op s161 rfl rfl (of_decide_eq_true rfl) (ob_move rfl (.tmp rfl)) fun a162 w162 s162 => ?_; clear s161
        refine seq_op s162 rfl rfl (of_decide_eq_true rfl) (ob_move rfl (.tmp rfl)) fun a163 w163 s163 => ?_; clear s162
        obtain ⟨x22, e_x22, h64⟩ := bind_some h63; clear h63
        refine seq_op s163 rfl rfl (of_decide_eq_true rfl) (ob_indexAddrs rfl Try.underlying56 sz65 (.tmp rfl) (.tmp rfl) e_x22) fun a164 w164 s164 => ?_; clear s163
        refine seq_op s164 rfl rfl (of_decide_eq_true rfl) (ob_loadr rfl tk65 (.tmp rfl)) fun a165 w165 s165 => ?_; clear s164
        obtain ⟨x23, e_x23, h65⟩ := bind_some h64; clear h64
        refine seq_opx (B' := (fun v3 : Value => [BF b1 59 (ko_wire_Writer_0 v3) (⟨[]⟩ : wire_Writer), RowF v3 5 (kint .u8) x23.2.out])) s165 rfl rfl (of_decide_eq_true rfl) (ob_callL (args := [_, _]) (L := [_, _]) rfl .direct hb31 (List.Perm.refl _) (fun a w s fs gs hf hg => by obtain rfl := hf.unnil; obtain rfl := hg.unnil; exact c_caballaw10_write k _ _ _ e_x23 _ _ _ _ _ _ (ownL s) (disL s) (nodL s) (s.arg (.tmp rfl)) (s.arg (.tmp rfl))) (by exact fun _ => rfl)) fun v3 a166 w166 s166 => ?_; clear s165
        refine wpList_nil ?_
        refine in_normal ?_
        refine then_normal ?_
        refine hK49 _ _ ?_
        have s167 := s166.sub (.cons (t := 0) rfl (.cons (t := 3) rfl (.cons (t := 4) rfl .nil))); clear s166
        refine wp_region_lit ?_
        refine seq_op s167 rfl rfl (of_decide_eq_true rfl) (ob_move rfl (.tmp rfl)) fun a168 w168 s168 => ?_; clear s167
        refine seq_op s168 rfl rfl (of_decide_eq_true rfl) (ob_add rfl (.tmp rfl) (opd_int rfl)) fun a169 w169 s169 => ?_; clear s168
        refine seq_op s169 rfl rfl (of_decide_eq_true rfl) (ob_assign rfl (.tmp rfl)) fun a170 w170 s170 => ?_; clear s169
        refine wpList_nil ?_
        refine then_normal ?_
        exact hK46 ((iadd .i64 y10 (1 : Int)), x23.2.out) _ _ h65 ⟨v3, (s170.sub (.cons rfl (.cons rfl (.cons rfl .nil))))⟩
      · replace h62 := ite_f hc16 h62
        have h66 := h62; clear h62
        refine wp_exit ?_
        refine (then_exit (then_exit (in_here ?_)))
        refine then_normal ?_
        exact hj1 y11 v2 _ _ h66 (s160.sub (.cons rfl (.cons rfl .nil)))

/- 10 cabal/caballaw10.WireOne -/
theorem c_caballaw10_WireOne (k : Nat) (p1 : (List Int)) (p2 : Int) (r : Bool) (h0 : caballaw10_WireOne k p1 p2 = some r) (ok : Ok) (w0 : World) (z0 : Value) (z1 : Value) (u0 : (kstr.V p1).holds ok w0 z0) (u1 : ((kint .i64).V p2).holds ok w0 z1) :
    Gives Try.prog 10 [z0, z1] ok w0 (resFact [kbool.V r]) := by
  unfold caballaw10_WireOne at h0
  refine enter (N := 64) Try.func10 rfl rfl (of_decide_eq_true rfl) (.cons u0 (.cons u1 .nil)) fun a1 s1 => ?_
  refine wp_seq_k fun K1 hK1 => ?_
  refine wp_region_lit ?_
  refine seq_op s1 rfl rfl (of_decide_eq_true rfl) (ob_assign rfl opd_bool) fun a2 w2 s2 => ?_; clear s1
  refine wpList_nil ?_
  refine then_normal ?_
  refine hK1 _ _ ?_
  have s3 := s2.sub (.cons (t := 0) rfl (.cons (t := 1) rfl .nil)); clear s2
  refine wp_seq_k fun K2 hK2 => ?_
  refine wp_seq_k fun K3 hK3 => ?_
  refine wp_region_lit ?_
  obtain ⟨x1, e_x1, h1⟩ := bind_some h0; clear h0
  refine seq_op s3 rfl rfl (of_decide_eq_true rfl) (ob_callD (args := []) rfl .direct hb29 (fun a w s fs gs hf hg => by obtain rfl := hf.unnil; obtain rfl := hg.unnil; exact c_caballaw10_alive k _ e_x1 _ _)) fun a4 w4 s4 => ?_; clear s3
  refine seq_op s4 rfl rfl (of_decide_eq_true rfl) (ob_not rfl (.tmp rfl)) fun a5 w5 s5 => ?_; clear s4
  refine wpList_nil ?_
  refine then_normal ?_
  refine hK3 _ _ ?_
  have s6 := s5.sub (.cons (t := 0) rfl (.cons (t := 1) rfl (.cons (t := 8) rfl .nil))); clear s5
  refine cond_split s6 (.tmp rfl) (fun hc1 => ?_) (fun hc1 => ?_)
  · replace h1 := ite_t hc1 h1
    have h2 := h1; clear h1
    refine wp_seq_k fun K4 hK4 => ?_
    refine wp_region_lit ?_
    refine seq_op s6 rfl rfl (of_decide_eq_true rfl) (ob_assign rfl opd_bool) fun a7 w7 s7 => ?_; clear s6
    refine wpList_nil ?_
    refine then_normal ?_
    refine hK4 _ _ ?_
    have s8 := s7.sub (.cons (t := 4) rfl .nil); clear s7
    refine wp_ret ?_
    obtain rfl := Option.some.inj h2
    exact leave s8 (.inl rfl) rfl (.cons (.tmp rfl) .nil)
  · replace h1 := ite_f hc1 h1
    have h3 := h1; clear h1
    refine wp_skip ?_
    refine then_normal ?_
    refine hK2 _ _ ?_
    have s9 := s6.sub (.cons (t := 0) rfl (.cons (t := 1) rfl .nil)); clear s6
    refine wp_seq_k fun K5 hK5 => ?_
    refine wp_seq_k fun K6 hK6 => ?_
    refine wp_region_lit ?_
    refine seq_op s9 rfl rfl (of_decide_eq_true rfl) (ob_move rfl (.tmp rfl)) fun a10 w10 s10 => ?_; clear s9
    refine seq_op s10 rfl rfl (of_decide_eq_true rfl) (ob_lenStr rfl Try.underlying9 (.tmp rfl)) fun a11 w11 s11 => ?_; clear s10
    refine seq_op s11 rfl rfl (of_decide_eq_true rfl) (ob_gtr rfl (.tmp rfl) (opd_int rfl)) fun a12 w12 s12 => ?_; clear s11
    refine wpList_nil ?_
    refine then_normal ?_
    refine hK6 _ _ ?_
    have s13 := s12.sub (.cons (t := 0) rfl (.cons (t := 1) rfl (.cons (t := 11) rfl .nil))); clear s12
    refine cond_split s13 (.tmp rfl) (fun hc2 => ?_) (fun hc2 => ?_)
    · replace h3 := ite_t hc2 h3
      have h4 := h3; clear h3
      refine wp_seq_k fun K7 hK7 => ?_
      refine wp_region_lit ?_
      obtain ⟨x2, e_x2, h5⟩ := bind_some h4; clear h4
      refine seq_op s13 rfl rfl (of_decide_eq_true rfl) (ob_callD (args := []) rfl .direct hb29 (fun a w s fs gs hf hg => by obtain rfl := hf.unnil; obtain rfl := hg.unnil; exact c_caballaw10_alive k _ e_x2 _ _)) fun a14 w14 s14 => ?_; clear s13
      refine seq_op s14 rfl rfl (of_decide_eq_true rfl) (ob_assign rfl (.tmp rfl)) fun a15 w15 s15 => ?_; clear s14
      refine wpList_nil ?_
      refine then_normal ?_
      refine hK7 _ _ ?_
      have s16 := s15.sub (.cons (t := 4) rfl .nil); clear s15
      refine wp_ret ?_
      obtain rfl := Option.some.inj h5
      exact leave s16 (.inl rfl) rfl (.cons (.tmp rfl) .nil)
    · replace h3 := ite_f hc2 h3
      have h6 := h3; clear h3
      refine wp_skip ?_
      refine then_normal ?_
      refine hK5 _ _ ?_
      have s17 := s13.sub (.cons (t := 0) rfl (.cons (t := 1) rfl .nil)); clear s13
      refine wp_seq_k fun K8 hK8 => ?_
      refine wp_region_lit ?_
      refine seq_op s17 rfl rfl (of_decide_eq_true rfl) (ob_move rfl (.tmp rfl)) fun a18 w18 s18 => ?_; clear s17
      obtain ⟨x3, e_x3, h7⟩ := bind_some h6; clear h6
      refine seq_opx (B' := (fun b1 : Nat => [BF b1 101 k_wire_Reader x3])) s18 rfl rfl (of_decide_eq_true rfl) (ob_callL (args := [_]) (L := []) rfl .direct hb33 (List.Perm.refl _) (fun a w s fs gs hf hg => by obtain rfl := hf.unnil; obtain rfl := hg.unnil; exact c_wire_NewReader k _ _ e_x3 _ _ _ (s.arg (.tmp rfl))) (by exact fun _ => rfl)) fun b1 a19 w19 s19 => ?_; clear s18
      refine seq_op s19 rfl rfl (of_decide_eq_true rfl) (ob_assign rfl (.tmp rfl)) fun a20 w20 s20 => ?_; clear s19
      refine wpList_nil ?_
      refine then_normal ?_
      refine hK8 _ _ ?_
      have s21 := s20.sub (.cons (t := 0) rfl (.cons (t := 1) rfl (.cons (t := 5) rfl .nil))); clear s20
      refine wp_seq_k fun K9 hK9 => ?_
      refine wp_region_lit ?_
      have s22 := St.adopt s21 (G := RowF (nilRow 15) 5 (kint .u8) []) rfl (rowNilN _ _ _ _ _); clear s21
      refine seq_opx (B' := (fun b2 : Nat => [BF b2 59 (ko_wire_Writer_0 (nilRow 15)) (⟨[]⟩ : wire_Writer), RowF (nilRow 15) 5 (kint .u8) ([] : (List Int)), BF b1 101 k_wire_Reader x3])) s22 rfl rfl (of_decide_eq_true rfl) (ob_new (k := (ko_wire_Writer_0 (nilRow 15))) rfl zz59 (Zr.iso (f := to_wire_Writer_0) (x := (⟨[]⟩ : wire_Writer)) (Zr.pair (Zr.kis 15) Zr.nil))) fun b2 a23 w23 s23 => ?_; clear s22
      refine wpList_nil ?_
      refine then_normal ?_
      refine hK9 _ _ ?_
      have s24 := s23.sub (.cons (t := 0) rfl (.cons (t := 1) rfl (.cons (t := 5) rfl (.cons (t := 6) rfl .nil)))); clear s23
      refine wp_seq_k fun K10 hK10 => ?_
      refine wp_seq_k fun K11 hK11 => ?_
      refine wp_region_lit ?_
      refine seq_op s24 rfl rfl (of_decide_eq_true rfl) (ob_move rfl (.tmp rfl)) fun a25 w25 s25 => ?_; clear s24
      refine seq_op s25 rfl rfl (of_decide_eq_true rfl) (ob_rem rfl (.tmp rfl) (opd_int rfl) (by decide)) fun a26 w26 s26 => ?_; clear s25
      refine wpList_nil ?_
      refine then_normal ?_
      refine hK11 _ _ ?_
      have s27 := s26.sub (.cons (t := 0) rfl (.cons (t := 1) rfl (.cons (t := 5) rfl (.cons (t := 6) rfl (.cons (t := 16) rfl .nil))))); clear s26
      have hj1 : ∀ (y1 : wire_Reader) (y2 : (List Int)) (v1 : Value) (a : Act) (w : World), (caballaw10_WireOne.j1 k p2 p1) y1 y2 = some r → St ⟨64, w0, ok, []⟩ [BF b1 101 k_wire_Reader y1, BF b2 59 (ko_wire_Writer_0 v1) (⟨[]⟩ : wire_Writer), RowF v1 5 (kint .u8) y2] [(0, (kstr.V p1)), (1, ((kint .i64).V p2)), (5, (ptrB b1 0)), (6, (ptrB b2 0))] a w → K10 a w := by
        intro y1 y2 v1 a28 w28 h8 s28
        unfold caballaw10_WireOne.j1 at h8
        refine hK10 _ _ ?_
        refine wp_seq_k fun K12 hK12 => ?_
        refine wp_seq_k fun K13 hK13 => ?_
        refine wp_region_lit ?_
        refine seq_op s28 rfl rfl (of_decide_eq_true rfl) (ob_move rfl (.tmp rfl)) fun a29 w29 s29 => ?_; clear s28
        refine seq_op s29 rfl rfl (of_decide_eq_true rfl) (ob_lss rfl (.tmp rfl) (opd_int rfl)) fun a30 w30 s30 => ?_; clear s29
        refine seq_op s30 rfl rfl (of_decide_eq_true rfl) (ob_move rfl (.tmp rfl)) fun a31 w31 s31 => ?_; clear s30
        refine seq_opg s31 rfl rfl rfl rfl (of_decide_eq_true rfl) (fun hb => ob_move rfl (.tmp rfl)) fun a32 w32 s32 => ?_; clear s31
        obtain ⟨x4, e_x4, h9⟩ := bind_some h8; clear h8
        refine seq_opg s32 rfl rfl rfl rfl (of_decide_eq_true rfl) (fun hb => (Ob.uncond (t := 42) hb rfl ((ob_lendG (L := [_]) (List.Perm.refl _) (.cons (t := 42) rfl (lendPtrB (.head _) (LG.refl _ _)) .nil) (Flat.res1 (Flat.V (KFlat.int _))) (fun _ => ob_callD (args := [_]) rfl .direct hb39 (fun a w s fs gs hf hg => by obtain rfl := hf.unnil; obtain rfl := hg.unnil; exact c_wire_Reader_End k _ _ (ite_t hb e_x4) _ _ _ (s.arg (.tmp rfl)))))))) fun a33 w33 s33 => ?_; clear s32
        refine seq_opg s33 rfl rfl rfl rfl (of_decide_eq_true rfl) (fun hb => (Ob.uncond (t := 43) hb rfl (ob_neq rfl (.tmp rfl) (opd_int rfl)))) fun a34 w34 s34 => ?_; clear s33
        refine seq_opg s34 rfl rfl rfl rfl (of_decide_eq_true rfl) (fun hb => (Ob.uncond (t := 44) hb rfl (ob_move rfl (.tmp rfl)))) fun a35 w35 s35 => ?_; clear s34
        refine seq_opg2 s35 rfl rfl rfl rfl (of_decide_eq_true rfl) (fun hb => ob_move rfl (.tmp rfl)) fun a36 w36 s36 => ?_; clear s35
        obtain ⟨x5, e_x5, h10⟩ := bind_some h9; clear h9
        refine seq_opg2 s36 rfl rfl rfl rfl (of_decide_eq_true rfl) (fun hb => (Ob.uncond (t := 46) hb rfl ((ob_lendG (L := [_]) (List.Perm.refl _) (.cons (t := 46) rfl (lendPtrB (.head _) (LG.refl _ _)) .nil) (Flat.res1 (Flat.V (KFlat.int _))) (fun _ => ob_callD (args := [_]) rfl .direct hb39 (fun a w s fs gs hf hg => by obtain rfl := hf.unnil; obtain rfl := hg.unnil; exact c_wire_Reader_End k _ _ (ite_t hb e_x5) _ _ _ (s.arg (.tmp rfl)))))))) fun a37 w37 s37 => ?_; clear s36
        refine seq_opg2 s37 rfl rfl rfl rfl (of_decide_eq_true rfl) (fun hb => (Ob.uncond (t := 47) hb rfl (ob_neq rfl (.tmp rfl) (opd_int rfl)))) fun a38 w38 s38 => ?_; clear s37
        refine seq_opg s38 rfl rfl rfl rfl (of_decide_eq_true rfl) (fun hb => (Ob.uncond (t := 45) hb rfl (ob_and3 hb rfl (.tmp rfl) (.tmp rfl) opd_bool))) fun a39 w39 s39 => ?_; clear s38
        obtain ⟨x6, e_x6, h11⟩ := bind_some h10; clear h10; replace e_x6 := Option.some.inj e_x6
        refine seq_op s39 rfl rfl (of_decide_eq_true rfl) ((ob_or2 rfl (.tmp rfl) opd_bool (.tmp rfl)).nm e_x6) fun a40 w40 s40 => ?_; clear s39
        refine wpList_nil ?_
        refine then_normal ?_
        refine hK13 _ _ ?_
        have s41 := s40.sub (.cons (t := 0) rfl (.cons (t := 5) rfl (.cons (t := 6) rfl (.cons (t := 50) rfl .nil)))); clear s40
        refine cond_split s41 (.tmp rfl) (fun hc3 => ?_) (fun hc3 => ?_)
        · replace h11 := ite_t hc3 h11
          have h12 := h11; clear h11
          refine wp_seq_k fun K14 hK14 => ?_
          refine wp_region_lit ?_
          obtain ⟨x7, e_x7, h13⟩ := bind_some h12; clear h12
          refine seq_op s41 rfl rfl (of_decide_eq_true rfl) (ob_callD (args := []) rfl .direct hb29 (fun a w s fs gs hf hg => by obtain rfl := hf.unnil; obtain rfl := hg.unnil; exact c_caballaw10_alive k _ e_x7 _ _)) fun a42 w42 s42 => ?_; clear s41
          refine seq_op s42 rfl rfl (of_decide_eq_true rfl) (ob_assign rfl (.tmp rfl)) fun a43 w43 s43 => ?_; clear s42
          refine wpList_nil ?_
          refine then_normal ?_
          refine hK14 _ _ ?_
          have s44 := s43.sub (.cons (t := 4) rfl .nil); clear s43
          have s45 := St.drop (A := []) s44; clear s44
          have s46 := St.drop (A := []) s45; clear s45
          have s47 := St.drop (A := []) s46; clear s46
          refine wp_ret ?_
          obtain rfl := Option.some.inj h13
          exact leave s47 (.inl rfl) rfl (.cons (.tmp rfl) .nil)
        · replace h11 := ite_f hc3 h11
          have h14 := h11; clear h11
          refine wp_skip ?_
          refine then_normal ?_
          refine hK12 _ _ ?_
          have s48 := s41.sub (.cons (t := 0) rfl (.cons (t := 5) rfl (.cons (t := 6) rfl .nil))); clear s41
          refine wp_seq_k fun K15 hK15 => ?_
          refine wp_region_lit ?_
          obtain ⟨x8, e_x8, h15⟩ := bind_some h14; clear h14
          refine seq_op s48 rfl rfl (of_decide_eq_true rfl) (ob_callD (args := []) rfl .direct hb29 (fun a w s fs gs hf hg => by obtain rfl := hf.unnil; obtain rfl := hg.unnil; exact c_caballaw10_alive k _ e_x8 _ _)) fun a49 w49 s49 => ?_; clear s48
          refine seq_op s49 rfl rfl (of_decide_eq_true rfl) (ob_move rfl (.tmp rfl)) fun a50 w50 s50 => ?_; clear s49
          obtain ⟨x9, e_x9, h16⟩ := bind_some h15; clear h15
          refine seq_opg s50 rfl rfl rfl rfl (of_decide_eq_true rfl) (fun hb => (ob_lendG (L := [_, _]) (toFront [_] (toFront [_] (List.Perm.refl _))) (.cons (t := 6) rfl (lendObj (K' := k_wire_Writer) (X' := (⟨y2⟩ : wire_Writer)) (.head _) rfl (upo_wire_Writer_0 rfl (.row (LetAll.row (.tail _ (.head _)))))) .nil) (Flat.res1 (Flat.V KFlat.str)) (fun _ => ob_callD (args := [_]) rfl .direct hb32 (fun a w s fs gs hf hg => by obtain rfl := hf.unnil; obtain rfl := hg.unnil; exact c_wire_Writer_String k _ _ (ite_t hb e_x9) _ _ _ (s.arg (.tmp rfl)))))) fun a51 w51 s51 => ?_; clear s50
          refine seq_opg s51 rfl rfl rfl rfl (of_decide_eq_true rfl) (fun hb => ob_move rfl (.tmp rfl)) fun a52 w52 s52 => ?_; clear s51
          refine seq_opg s52 rfl rfl rfl rfl (of_decide_eq_true rfl) (fun hb => ob_move rfl (.tmp rfl)) fun a53 w53 s53 => ?_; clear s52
          refine seq_opg s53 rfl rfl rfl rfl (of_decide_eq_true rfl) (fun hb => (Ob.uncond (t := 56) hb rfl (ob_lenStr rfl Try.underlying9 (.tmp rfl)))) fun a54 w54 s54 => ?_; clear s53
          refine seq_opg s54 rfl rfl rfl rfl (of_decide_eq_true rfl) (fun hb => ob_move rfl (.tmp rfl)) fun a55 w55 s55 => ?_; clear s54
          obtain ⟨x10, e_x10, h17⟩ := bind_some h16; clear h16
          refine seq_opg s55 rfl rfl rfl rfl (of_decide_eq_true rfl) (fun hb => (Ob.uncond (t := 58) hb rfl ((ob_lendG (L := [_]) (List.Perm.refl _) (.cons (t := 58) rfl (lendPtrB (.head _) (LG.refl _ _)) .nil) (Flat.res1 (Flat.V (KFlat.int _))) (fun _ => ob_callD (args := [_]) rfl .direct hb42 (fun a w s fs gs hf hg => by obtain rfl := hf.unnil; obtain rfl := hg.unnil; exact c_wire_Reader_Left k _ _ (ite_t hb e_x10) _ _ _ (s.arg (.tmp rfl)))))))) fun a56 w56 s56 => ?_; clear s55
          refine seq_opg s56 rfl rfl rfl rfl (of_decide_eq_true rfl) (fun hb => (Ob.uncond (t := 59) hb rfl ((Ob.uncond (t := 57) hb rfl (ob_sub rfl (.tmp rfl) (.tmp rfl)))))) fun a57 w57 s57 => ?_; clear s56
          obtain ⟨x11, e_x11, h18⟩ := bind_some h17; clear h17
          refine seq_opg s57 rfl rfl rfl rfl (of_decide_eq_true rfl) (fun hb => (Ob.uncond (t := 60) hb rfl ((Ob.uncond (t := 55) hb rfl (ob_cutStr rfl Try.underlying9 (.tmp rfl) .none (.some (.tmp rfl)) (ite_t hb e_x11)))))) fun a58 w58 s58 => ?_; clear s57
          refine seq_opg s58 rfl rfl rfl rfl (of_decide_eq_true rfl) (fun hb => (Ob.uncond (t := 61) hb rfl ((Ob.uncond (t := 54) hb rfl (ob_seql rfl (.tmp rfl) (.tmp rfl)))))) fun a59 w59 s59 => ?_; clear s58
          refine seq_op s59 rfl rfl (of_decide_eq_true rfl) (ob_and2 rfl (.tmp rfl) (.tmp rfl) opd_bool) fun a60 w60 s60 => ?_; clear s59
          refine seq_op s60 rfl rfl (of_decide_eq_true rfl) (ob_assign rfl (.tmp rfl)) fun a61 w61 s61 => ?_; clear s60
          refine wpList_nil ?_
          refine then_normal ?_
          refine hK15 _ _ ?_
          have s62 := s61.sub (.cons (t := 4) rfl .nil); clear s61
          have s63 := St.drop (A := []) s62; clear s62
          have s64 := St.drop (A := []) s63; clear s63
          have s65 := St.drop (A := []) s64; clear s64
          refine wp_ret ?_
          obtain rfl := Option.some.inj h18
          exact leave s65 (.inl rfl) rfl (.cons (.tmp rfl) .nil)
      refine wp_block ?_
      refine wp_seq_k fun K16 hK16 => ?_
      refine wp_region_lit ?_
      refine seq_op s27 rfl rfl (of_decide_eq_true rfl) (ob_eql rfl (.tmp rfl) (opd_int rfl)) fun a66 w66 s66 => ?_; clear s27
      refine seq_op s66 rfl rfl (of_decide_eq_true rfl) (ob_assign rfl (.tmp rfl)) fun a67 w67 s67 => ?_; clear s66
      refine wpList_nil ?_
      refine then_normal ?_
      refine hK16 _ _ ?_
      have s68 := s67.sub (.cons (t := 0) rfl (.cons (t := 1) rfl (.cons (t := 5) rfl (.cons (t := 6) rfl (.cons (t := 16) rfl (.cons (t := 17) rfl .nil)))))); clear s67
      refine cond_split s68 (.tmp rfl) (fun hc4 => ?_) (fun hc4 => ?_)
      · replace h7 := ite_t hc4 h7
        have h19 := h7; clear h7
        refine wp_region_lit ?_
        refine seq_op s68 rfl rfl (of_decide_eq_true rfl) (ob_move rfl (.tmp rfl)) fun a69 w69 s69 => ?_; clear s68
        obtain ⟨x12, e_x12, h20⟩ := bind_some h19; clear h19
        refine seq_opx (B' := (fun _ : Unit => [BF b1 101 k_wire_Reader x12.2, BF b2 59 (ko_wire_Writer_0 (nilRow 15)) (⟨[]⟩ : wire_Writer), RowF (nilRow 15) 5 (kint .u8) ([] : (List Int))])) s69 rfl rfl (of_decide_eq_true rfl) (ob_callL (args := [_]) (L := [_]) rfl .direct hb34 (toFront [_, _] (List.Perm.refl _)) (fun a w s fs gs hf hg => by obtain rfl := hf.unnil; obtain rfl := hg.unnil; exact c_wire_Reader_Number k _ _ e_x12 _ _ _ _ (ownL s) (disL s) (nodL s) (s.arg (.tmp rfl))) (by exact fun _ => rfl)) fun _ a70 w70 s70 => ?_; clear s69
        refine seq_op s70 rfl rfl (of_decide_eq_true rfl) (ob_mkSlice (k := (kint .u32)) (xs := ([x12.1] : (List Int))) rfl Try.underlying62 zz69 sz69 (Zr.int .u32) (by decide) (by decide) (.cons (.tmp rfl) rfl (LS.arr' (i := 0) (ys := ([x12.1] : (List Int))) (by simp) (by rfl)) (.nil _))) fun a71 w71 s71 => ?_; clear s70
        obtain ⟨x13, e_x13, h21⟩ := bind_some h20; clear h20
        refine seq_opx (B' := (fun v2 : Value => [BF b2 59 (ko_wire_Writer_0 v2) (⟨[]⟩ : wire_Writer), RowF v2 5 (kint .u8) x13.out, BF b1 101 k_wire_Reader x12.2])) s71 rfl rfl (of_decide_eq_true rfl) (ob_callL (args := [_, _]) (L := [_, _]) rfl .direct hb43 (toFront [_] (toFront [_] (List.Perm.refl _))) (fun a w s fs gs hf hg => by obtain rfl := hf.unnil; obtain rfl := hg.unnil; exact c_wire_Writer_Numbers k _ _ _ e_x13 _ _ _ _ _ _ (ownL s) (disL s) (nodL s) (s.arg (.tmp rfl)) (s.arg (.tmp rfl))) (by exact fun _ => rfl)) fun v2 a72 w72 s72 => ?_; clear s71
        refine wpList_nil ?_
        refine in_normal ?_
        refine then_normal ?_
        have s73 := s72.perm (toFront [_, _] (toFront [] (toFront [] (List.Perm.refl _)))); clear s72
        exact hj1 x12.2 x13.out v2 _ _ h21 (s73.sub (.cons rfl (.cons rfl (.cons rfl (.cons rfl .nil)))))
      · replace h7 := ite_f hc4 h7
        have h22 := h7; clear h7
        refine wp_seq_k fun K17 hK17 => ?_
        refine wp_region_lit ?_
        refine seq_op s68 rfl rfl (of_decide_eq_true rfl) (ob_eql rfl (.tmp rfl) (opd_int rfl)) fun a74 w74 s74 => ?_; clear s68
        refine seq_op s74 rfl rfl (of_decide_eq_true rfl) (ob_assign rfl (.tmp rfl)) fun a75 w75 s75 => ?_; clear s74
        refine wpList_nil ?_
        refine then_normal ?_
        refine hK17 _ _ ?_
        have s76 := s75.sub (.cons (t := 0) rfl (.cons (t := 1) rfl (.cons (t := 5) rfl (.cons (t := 6) rfl (.cons (t := 16) rfl (.cons (t := 23) rfl .nil)))))); clear s75
        refine cond_split s76 (.tmp rfl) (fun hc5 => ?_) (fun hc5 => ?_)
        · replace h22 := ite_t hc5 h22
          have h23 := h22; clear h22
          refine wp_region_lit ?_
          refine seq_op s76 rfl rfl (of_decide_eq_true rfl) (ob_move rfl (.tmp rfl)) fun a77 w77 s77 => ?_; clear s76
          obtain ⟨x14, e_x14, h24⟩ := bind_some h23; clear h23
          refine seq_opx (B' := (fun _ : Unit => [BF b1 101 k_wire_Reader x14.2, BF b2 59 (ko_wire_Writer_0 (nilRow 15)) (⟨[]⟩ : wire_Writer), RowF (nilRow 15) 5 (kint .u8) ([] : (List Int))])) s77 rfl rfl (of_decide_eq_true rfl) (ob_callL (args := [_, _]) (L := [_]) rfl .direct hb35 (toFront [_, _] (List.Perm.refl _)) (fun a w s fs gs hf hg => by obtain rfl := hf.unnil; obtain rfl := hg.unnil; exact c_wire_Reader_Text k _ _ _ e_x14 _ _ _ _ _ (ownL s) (disL s) (nodL s) (s.arg (.tmp rfl)) (s.arg (opd_int rfl))) (by exact fun _ => rfl)) fun _ a78 w78 s78 => ?_; clear s77
          refine seq_op s78 rfl rfl (of_decide_eq_true rfl) (ob_mkSlice (k := kstr) (xs := ([x14.1] : (List (List Int)))) rfl Try.underlying49 zz9 sz9 Zr.str (by decide) (by decide) (.cons (.tmp rfl) rfl (LS.arr' (i := 0) (ys := ([x14.1] : (List (List Int)))) (by simp) (by rfl)) (.nil _))) fun a79 w79 s79 => ?_; clear s78
          obtain ⟨x15, e_x15, h25⟩ := bind_some h24; clear h24
          refine seq_opx (B' := (fun v3 : Value => [BF b2 59 (ko_wire_Writer_0 v3) (⟨[]⟩ : wire_Writer), RowF v3 5 (kint .u8) x15.out, BF b1 101 k_wire_Reader x14.2])) s79 rfl rfl (of_decide_eq_true rfl) (ob_callL (args := [_, _]) (L := [_, _]) rfl .direct hb44 (toFront [_] (toFront [_] (List.Perm.refl _))) (fun a w s fs gs hf hg => by obtain rfl := hf.unnil; obtain rfl := hg.unnil; exact c_wire_Writer_Texts k _ _ _ e_x15 _ _ _ _ _ _ (ownL s) (disL s) (nodL s) (s.arg (.tmp rfl)) (s.arg (.tmp rfl))) (by exact fun _ => rfl)) fun v3 a80 w80 s80 => ?_; clear s79
          refine wpList_nil ?_
          refine in_normal ?_
          refine then_normal ?_
          have s81 := s80.perm (toFront [_, _] (toFront [] (toFront [] (List.Perm.refl _)))); clear s80
          exact hj1 x14.2 x15.out v3 _ _ h25 (s81.sub (.cons rfl (.cons rfl (.cons rfl (.cons rfl .nil)))))
        · replace h22 := ite_f hc5 h22
          have h26 := h22; clear h22
          refine wp_seq_k fun K18 hK18 => ?_
          refine wp_region_lit ?_
          refine seq_op s76 rfl rfl (of_decide_eq_true rfl) (ob_eql rfl (.tmp rfl) (opd_int rfl)) fun a82 w82 s82 => ?_; clear s76
          refine seq_op s82 rfl rfl (of_decide_eq_true rfl) (ob_assign rfl (.tmp rfl)) fun a83 w83 s83 => ?_; clear s82
          refine wpList_nil ?_
          refine then_normal ?_
          refine hK18 _ _ ?_
          have s84 := s83.sub (.cons (t := 0) rfl (.cons (t := 1) rfl (.cons (t := 5) rfl (.cons (t := 6) rfl (.cons (t := 16) rfl (.cons (t := 29) rfl .nil)))))); clear s83
          refine cond_split s84 (.tmp rfl) (fun hc6 => ?_) (fun hc6 => ?_)
          · replace h26 := ite_t hc6 h26
            have h27 := h26; clear h26
            refine wp_region_lit ?_
            refine seq_op s84 rfl rfl (of_decide_eq_true rfl) (ob_move rfl (.tmp rfl)) fun a85 w85 s85 => ?_; clear s84
            obtain ⟨x16, e_x16, h28⟩ := bind_some h27; clear h27
            refine seq_opx (B' := (fun v4 : Value => [RowF v4 72 (karr 32 (kint .u8)) x16.1, BF b1 101 k_wire_Reader x16.2, BF b2 59 (ko_wire_Writer_0 (nilRow 15)) (⟨[]⟩ : wire_Writer), RowF (nilRow 15) 5 (kint .u8) ([] : (List Int))])) s85 rfl rfl (of_decide_eq_true rfl) (ob_callL (args := [_, _]) (L := [_]) rfl .direct hb37 (toFront [_, _] (List.Perm.refl _)) (fun a w s fs gs hf hg => by obtain rfl := hf.unnil; obtain rfl := hg.unnil; exact c_wire_Reader_KeyList k _ _ _ e_x16 _ _ _ _ _ (ownL s) (disL s) (nodL s) (s.arg (.tmp rfl)) (s.arg (opd_int rfl))) (by exact fun _ => rfl)) fun v4 a86 w86 s86 => ?_; clear s85
            obtain ⟨x17, e_x17, h29⟩ := bind_some h28; clear h28
            refine seq_opx (B' := (fun v5 : Value => [RowF v4 72 (karr 32 (kint .u8)) x16.1, BF b1 101 k_wire_Reader x16.2, BF b2 59 (ko_wire_Writer_0 v5) (⟨[]⟩ : wire_Writer), RowF v5 5 (kint .u8) x17.out])) s86 rfl rfl (of_decide_eq_true rfl) ((ob_lendX (L := [_, _]) (List.Perm.refl _) (.cons (t := 32) rfl (lendRow (.head _)) .nil) (fun _ => (Flat.res0)) (fun _ => (.cons (FlatO.bf (KFlat.iso (KFlat.pair (KFlat.kis _) KFlat.nil))) (.cons (FlatO.row (KFlat.int _)) FlatL.nil))) (fun _ _ => ob_callL (args := [_, _]) (L := [_, _]) (D := []) rfl .direct hb45 (List.Perm.refl _) (fun a w s fs gs hf hg => by obtain rfl := hf.unnil; obtain rfl := hg.unnil; exact c_wire_Writer_KeyList k _ _ _ e_x17 _ _ _ _ _ _ (ownL s) (disL s) (nodL s) (s.arg (.tmp rfl)) (s.arg (.tmp rfl))) (by exact fun _ => rfl)))) fun v5 a87 w87 s87 => ?_; clear s86
            refine wpList_nil ?_
            refine in_normal ?_
            refine then_normal ?_
            have s88 := St.drop (A := []) s87; clear s87
            exact hj1 x16.2 x17.out v5 _ _ h29 (s88.sub (.cons rfl (.cons rfl (.cons rfl (.cons rfl .nil)))))
          · replace h26 := ite_f hc6 h26
            have h30 := h26; clear h26
            refine wp_seq_k fun K19 hK19 => ?_
            refine wp_region_lit ?_
            refine seq_op s84 rfl rfl (of_decide_eq_true rfl) (ob_eql rfl (.tmp rfl) (opd_int rfl)) fun a89 w89 s89 => ?_; clear s84
            refine seq_op s89 rfl rfl (of_decide_eq_true rfl) (ob_assign rfl (.tmp rfl)) fun a90 w90 s90 => ?_; clear s89
            refine wpList_nil ?_
            refine then_normal ?_
            refine hK19 _ _ ?_
            have s91 := s90.sub (.cons (t := 0) rfl (.cons (t := 1) rfl (.cons (t := 5) rfl (.cons (t := 6) rfl (.cons (t := 34) rfl .nil))))); clear s90
            refine cond_split s91 (.tmp rfl) (fun hc7 => ?_) (fun hc7 => ?_)
            · replace h30 := ite_t hc7 h30
              have h31 := h30; clear h30
              refine wp_region_lit ?_
              refine seq_op s91 rfl rfl (of_decide_eq_true rfl) (ob_move rfl (.tmp rfl)) fun a92 w92 s92 => ?_; clear s91
              obtain ⟨x18, e_x18, h32⟩ := bind_some h31; clear h31
              refine seq_opx (B' := (fun v6 : Value => [RowF v6 69 (kint .u32) x18.1, BF b1 101 k_wire_Reader x18.2, BF b2 59 (ko_wire_Writer_0 (nilRow 15)) (⟨[]⟩ : wire_Writer), RowF (nilRow 15) 5 (kint .u8) ([] : (List Int))])) s92 rfl rfl (of_decide_eq_true rfl) (ob_callL (args := [_, _]) (L := [_]) rfl .direct hb38 (toFront [_, _] (List.Perm.refl _)) (fun a w s fs gs hf hg => by obtain rfl := hf.unnil; obtain rfl := hg.unnil; exact c_wire_Reader_NumberList k _ _ _ e_x18 _ _ _ _ _ (ownL s) (disL s) (nodL s) (s.arg (.tmp rfl)) (s.arg (opd_int rfl))) (by exact fun _ => rfl)) fun v6 a93 w93 s93 => ?_; clear s92
              obtain ⟨x19, e_x19, h33⟩ := bind_some h32; clear h32
              refine seq_opx (B' := (fun v7 : Value => [RowF v6 69 (kint .u32) x18.1, BF b1 101 k_wire_Reader x18.2, BF b2 59 (ko_wire_Writer_0 v7) (⟨[]⟩ : wire_Writer), RowF v7 5 (kint .u8) x19.out])) s93 rfl rfl (of_decide_eq_true rfl) ((ob_lendX (L := [_, _]) (List.Perm.refl _) (.cons (t := 37) rfl (lendRow (.head _)) .nil) (fun _ => (Flat.res0)) (fun _ => (.cons (FlatO.bf (KFlat.iso (KFlat.pair (KFlat.kis _) KFlat.nil))) (.cons (FlatO.row (KFlat.int _)) FlatL.nil))) (fun _ _ => ob_callL (args := [_, _]) (L := [_, _]) (D := []) rfl .direct hb46 (List.Perm.refl _) (fun a w s fs gs hf hg => by obtain rfl := hf.unnil; obtain rfl := hg.unnil; exact c_wire_Writer_NumberList k _ _ _ e_x19 _ _ _ _ _ _ (ownL s) (disL s) (nodL s) (s.arg (.tmp rfl)) (s.arg (.tmp rfl))) (by exact fun _ => rfl)))) fun v7 a94 w94 s94 => ?_; clear s93
              refine wpList_nil ?_
              refine in_normal ?_
              refine then_normal ?_
              have s95 := St.drop (A := []) s94; clear s94
              exact hj1 x18.2 x19.out v7 _ _ h33 (s95.sub (.cons rfl (.cons rfl (.cons rfl (.cons rfl .nil)))))
            · replace h30 := ite_f hc7 h30
              have h34 := h30; clear h30
              refine wp_skip ?_
              refine in_normal ?_
              refine then_normal ?_
              have s96 := s91.perm (toFront [_, _] (toFront [] (toFront [] (List.Perm.refl _)))); clear s91
              exact hj1 x3 ([] : (List Int)) (nilRow 15) _ _ h34 (s96.sub (.cons rfl (.cons rfl (.cons rfl (.cons rfl .nil)))))

end Go.Proofs.Ytlcddcamnkgeeaa
