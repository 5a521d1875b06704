/- Each function's code comes to what its plain function answers. No condition. -/
import Derived.Test.YtlcddcamnkgeeaaSFacts
namespace Go.Proofs.Ytlcddcamnkgeeaa
open Go Go.RowKit Go.Proofs.Kit Go.Proofs.Pure
set_option linter.unusedVariables false
set_option linter.unusedSimpArgs false
set_option maxRecDepth 100000
set_option maxHeartbeats 2000000

/- 12 cabal/disk.New -/
theorem c_disk_New (k : Nat) (p1 : Int) (r : disk_Disk) (h0 : disk_New k p1 = some r) (ok : Ok) (w0 : World) (z0 : Value) (u0 : ((kint .i64).V p1).holds ok w0 z0) :
    GivesX Try.prog 12 [z0] ok w0 [] (fun g : Nat × Value × Value => resFact [ptrB g.1 0]) (fun g : Nat × Value × Value => [BF g.1 87 (ko_disk_Disk_0_1 (g.2.1) (g.2.2)) (⟨[], [], r.fuse, r.dead⟩ : disk_Disk), RowF (g.2.1) 91 (karr 256 (kint .u8)) r.firm, RowF (g.2.2) 93 k_disk_write r.loose]) := by
  unfold disk_New at h0
  refine enterX (N := 9) Try.func12 rfl rfl (of_decide_eq_true rfl) (.cons u0 .nil) List.nodup_nil (fun _ h => by cases h) (fun _ h => by cases h) fun a1 s1 => ?_
  refine wp_seq_k fun K1 hK1 => ?_
  refine wp_region_lit ?_
  refine seq_op s1 rfl rfl (of_decide_eq_true rfl) (ob_assign rfl opd_is) fun a2 w2 s2 => ?_; clear s1
  refine wpList_nil ?_
  refine then_normal ?_
  refine hK1 _ _ ?_
  have s3 := s2.sub (.cons (t := 0) rfl .nil); clear s2
  refine wp_seq_k fun K2 hK2 => ?_
  refine wp_region_lit ?_
  refine seq_op s3 rfl rfl (of_decide_eq_true rfl) (ob_move rfl (.tmp rfl)) fun a4 w4 s4 => ?_; clear s3
  refine seq_op s4 rfl rfl (of_decide_eq_true rfl) (ob_max rfl (.tmp rfl) (opd_int rfl)) fun a5 w5 s5 => ?_; clear s4
  obtain ⟨x1, e_x1, h1⟩ := bind_some h0; clear h0; replace e_x1 := Option.some.inj e_x1
  refine seq_op s5 rfl rfl (of_decide_eq_true rfl) ((ob_min rfl (.tmp rfl) (opd_int rfl)).nm e_x1) fun a6 w6 s6 => ?_; clear s5
  obtain ⟨g1, h2⟩ := guard_some h1; clear h1
  refine seq_opx (B' := (fun v1 : Value => [RowF v1 91 (karr 256 (kint .u8)) (List.replicate x1.toNat (List.replicate 256 (0 : Int)))])) s6 rfl rfl (of_decide_eq_true rfl) (ob_makeRow (T8 := 0) rfl Try.underlying84 ap91 (Zr.arr 256 (Zr.int .u8)) (by decide) (.tmp rfl) g1) fun v1 a7 w7 s7 => ?_; clear s6
  have s8 := St.adopt s7 (G := RowF (nilRow 1) 91 (karr 256 (kint .u8)) []) rfl (rowNilN _ _ _ _ _); clear s7
  have s9 := St.adopt s8 (G := RowF (nilRow 2) 93 k_disk_write []) rfl (rowNilN _ _ _ _ _); clear s8
  have s10 := s9.kisRow (t := 6) (.tail _ (.tail _ (.head _))) rfl; clear s9
  refine seq_op s10 rfl rfl (of_decide_eq_true rfl) ((ob_mkObj (K0 := (ko_disk_Disk_0_1 (nilRow 1) (nilRow 2))) (K := (ko_disk_Disk_0_1 v1 (nilRow 2))) (X := (⟨[], [], (-1 : Int), false⟩ : disk_Disk)) rfl Try.underlying87 zz87 rfl rfl pl87 (Zr.iso (f := to_disk_Disk_0_1) (x := (⟨[], [], (0 : Int), false⟩ : disk_Disk)) (Zr.pair (Zr.kis 1) (Zr.pair (Zr.kis 2) (Zr.pair (Zr.int .i64) (Zr.pair Zr.bool Zr.nil))))) (.cons (.tmp rfl) rfl (lsk_disk_Disk_0_1_to_0_1_at0 (⟨[], [], (0 : Int), false⟩ : disk_Disk)) (.cons (opd_int rfl) rfl (LSK.of (lso_disk_Disk_0_1_fuse (⟨[], [], (0 : Int), false⟩ : disk_Disk) (-1 : Int))) (.nil _ _))))) fun a11 w11 s11 => ?_; clear s10
  refine seq_opx (B' := (fun b1 : Nat => [BF b1 87 (ko_disk_Disk_0_1 v1 (nilRow 2)) (⟨[], [], (-1 : Int), false⟩ : disk_Disk), RowF (nilRow 2) 93 k_disk_write ([] : (List disk_write)), RowF (nilRow 1) 91 (karr 256 (kint .u8)) ([] : (List (List Int))), RowF v1 91 (karr 256 (kint .u8)) (List.replicate x1.toNat (List.replicate 256 (0 : Int)))])) s11 rfl rfl (of_decide_eq_true rfl) (ob_box rfl (.tmp rfl)) fun b1 a12 w12 s12 => ?_; clear s11
  refine seq_op s12 rfl rfl (of_decide_eq_true rfl) (ob_assign rfl (.tmp rfl)) fun a13 w13 s13 => ?_; clear s12
  refine wpList_nil ?_
  refine then_normal ?_
  refine hK2 _ _ ?_
  have s14 := s13.sub (.cons (t := 2) rfl .nil); clear s13
  have s15 := St.drop (A := [_, _]) s14; clear s14
  refine wp_ret ?_
  have s16 := s15.perm (toFront [] (toFront [_] (toFront [] (List.Perm.refl _)))); clear s15
  obtain rfl := Option.some.inj h2
  exact leaveXD (D := []) ⟨b1, v1, (nilRow 2)⟩ s16 rfl (.inl rfl) rfl (.cons (.tmp rfl) .nil) rfl

/- 16 cabal/caballaw12.data -/
theorem c_caballaw12_data (k : Nat) (p1 : Int) (p2 : Int) (r : (List Int)) (h0 : caballaw12_data k p1 p2 = some r) (ok : Ok) (w0 : World) (z0 : Value) (z1 : Value) (u0 : ((kint .u8).V p1).holds ok w0 z0) (u1 : ((kint .i8).V p2).holds ok w0 z1) :
    Gives Try.prog 16 [z0, z1] ok w0 (resFact [kstr.V r]) := by
  unfold caballaw12_data at h0
  refine enter (N := 28) Try.func16 rfl rfl (of_decide_eq_true rfl) (.cons u0 (.cons u1 .nil)) fun a1 s1 => ?_
  refine wp_seq_k fun K1 hK1 => ?_
  refine wp_region_lit ?_
  refine seq_op s1 rfl rfl (of_decide_eq_true rfl) (ob_assign rfl (opd_str (by rfl) (by decide))) fun a2 w2 s2 => ?_; clear s1
  refine wpList_nil ?_
  refine then_normal ?_
  refine hK1 _ _ ?_
  have s3 := s2.sub (.cons (t := 0) rfl (.cons (t := 1) rfl .nil)); clear s2
  refine wp_seq_k fun K2 hK2 => ?_
  refine wp_region_lit ?_
  refine seq_op s3 rfl rfl (of_decide_eq_true rfl) (ob_move rfl (.tmp rfl)) fun a4 w4 s4 => ?_; clear s3
  refine seq_op s4 rfl rfl (of_decide_eq_true rfl) (ob_conv rfl _ Try.underlying28 Try.underlying3 (.tmp rfl)) fun a5 w5 s5 => ?_; clear s4
  refine seq_op s5 rfl rfl (of_decide_eq_true rfl) (ob_add rfl (opd_int rfl) (.tmp rfl)) fun a6 w6 s6 => ?_; clear s5
  refine seq_op s6 rfl rfl (of_decide_eq_true rfl) (ob_assign rfl (.tmp rfl)) fun a7 w7 s7 => ?_; clear s6
  refine wpList_nil ?_
  refine then_normal ?_
  refine hK2 _ _ ?_
  have s8 := s7.sub (.cons (t := 0) rfl (.cons (t := 5) rfl .nil)); clear s7
  refine wp_seq_k fun K3 hK3 => ?_
  refine wp_region_lit ?_
  refine seq_op s8 rfl rfl (of_decide_eq_true rfl) (ob_move rfl (.tmp rfl)) fun a9 w9 s9 => ?_; clear s8
  obtain ⟨g1, h1⟩ := guard_some h0; clear h0
  refine seq_opx (B' := (fun v1 : Value => [RowF v1 5 (kint .u8) (List.replicate (iadd .i64 (256 : Int) (IntKind.wrap .i64 p2)).toNat (0 : Int))])) s9 rfl rfl (of_decide_eq_true rfl) (ob_makeRow (T8 := 0) rfl Try.underlying23 ap5 (Zr.int .u8) (by decide) (.tmp rfl) g1) fun v1 a10 w10 s10 => ?_; clear s9
  refine seq_op s10 rfl rfl (of_decide_eq_true rfl) (ob_assign rfl (.tmp rfl)) fun a11 w11 s11 => ?_; clear s10
  refine wpList_nil ?_
  refine then_normal ?_
  refine hK3 _ _ ?_
  have s12 := s11.sub (.cons (t := 0) rfl (.cons (t := 5) rfl (.cons (t := 6) rfl .nil))); clear s11
  refine wp_seq_k fun K4 hK4 => ?_
  refine wp_seq_k fun K5 hK5 => ?_
  refine wp_region_lit ?_
  refine seq_op s12 rfl rfl (of_decide_eq_true rfl) (ob_assign rfl (opd_int rfl)) fun a13 w13 s13 => ?_; clear s12
  refine wpList_nil ?_
  refine then_normal ?_
  refine hK5 _ _ ?_
  have s14 := s13.sub (.cons (t := 0) rfl (.cons (t := 5) rfl (.cons (t := 6) rfl (.cons (t := 7) rfl .nil)))); clear s13
  have hj1 : ∀ (y1 : (List Int)) (a : Act) (w : World), (caballaw12_data.j1 k) y1 = some r → St ⟨28, w0, ok, []⟩ [RowF v1 5 (kint .u8) y1] [(6, (is v1))] a w → K4 a w := by
    intro y1 a15 w15 h2 s15
    unfold caballaw12_data.j1 at h2
    refine hK4 _ _ ?_
    refine wp_seq_k fun K6 hK6 => ?_
    refine wp_region_lit ?_
    refine seq_op s15 rfl rfl (of_decide_eq_true rfl) (ob_move rfl (.tmp rfl)) fun a16 w16 s16 => ?_; clear s15
    refine seq_op s16 rfl rfl (of_decide_eq_true rfl) ((ob_lendG (L := [_]) (List.Perm.refl _) (.cons (t := 26) rfl (lendRow (.head _)) .nil) (Flat.V KFlat.str) (fun _ => ob_bytesToStr rfl Try.underlying23 Try.underlying9 Try.underlying5 (.tmp rfl)))) fun a17 w17 s17 => ?_; clear s16
    refine seq_op s17 rfl rfl (of_decide_eq_true rfl) (ob_assign rfl (.tmp rfl)) fun a18 w18 s18 => ?_; clear s17
    refine wpList_nil ?_
    refine then_normal ?_
    refine hK6 _ _ ?_
    have s19 := s18.sub (.cons (t := 4) rfl .nil); clear s18
    have s20 := St.drop (A := []) s19; clear s19
    refine wp_ret ?_
    obtain rfl := Option.some.inj h2
    exact leave s20 (.inl rfl) rfl (.cons (.tmp rfl) .nil)
  refine wp_block ?_
  refine wp_loop_fuel (fun m (q : Int × (List Int)) => caballaw12_data.l1 k p2 p1 m q.1 q.2) r (fun _ => rfl) (fun q a w => St ⟨28, w0, ok, []⟩ [RowF v1 5 (kint .u8) q.2] [(0, ((kint .u8).V p1)), (5, ((kint .i64).V (iadd .i64 (256 : Int) (IntKind.wrap .i64 p2)))), (6, (is v1)), (7, ((kint .i64).V q.1))] a w) ?_ k ((0 : Int), (List.replicate (iadd .i64 (256 : Int) (IntKind.wrap .i64 p2)).toNat (0 : Int))) _ _ h1 (s14.sub (.cons rfl (.cons rfl (.cons rfl (.cons rfl .nil)))))
  rintro n1 ⟨y2, y3⟩ a21 w21 h3 s21 K7 hK7
  replace h3 : caballaw12_data.l1 k p2 p1 (n1 + 1) y2 y3 = some r := h3; rw [caballaw12_data.l1] at h3
  have h4 := h3; clear h3
  refine wp_seq_k fun K8 hK8 => ?_
  refine wp_seq_k fun K9 hK9 => ?_
  refine wp_region_lit ?_
  refine seq_op s21 rfl rfl (of_decide_eq_true rfl) (ob_move rfl (.tmp rfl)) fun a22 w22 s22 => ?_; clear s21
  refine seq_op s22 rfl rfl (of_decide_eq_true rfl) (ob_move rfl (.tmp rfl)) fun a23 w23 s23 => ?_; clear s22
  refine seq_op s23 rfl rfl (of_decide_eq_true rfl) (ob_lss rfl (.tmp rfl) (.tmp rfl)) fun a24 w24 s24 => ?_; clear s23
  refine wpList_nil ?_
  refine then_normal ?_
  refine hK9 _ _ ?_
  have s25 := s24.sub (.cons (t := 0) rfl (.cons (t := 5) rfl (.cons (t := 6) rfl (.cons (t := 7) rfl (.cons (t := 15) rfl .nil))))); clear s24
  refine cond_split s25 (.tmp rfl) (fun hc1 => ?_) (fun hc1 => ?_)
  · replace h4 := ite_t hc1 h4
    have h5 := h4; clear h4
    refine wp_skip ?_
    refine then_normal ?_
    refine hK8 _ _ ?_
    have s26 := s25.sub (.cons (t := 0) rfl (.cons (t := 5) rfl (.cons (t := 6) rfl (.cons (t := 7) rfl .nil)))); clear s25
    refine wp_seq_k fun K10 hK10 => ?_
    refine wp_block ?_
    refine wp_region_lit ?_
    refine seq_op s26 rfl rfl (of_decide_eq_true rfl) (ob_move rfl (.tmp rfl)) fun a27 w27 s27 => ?_; clear s26
    refine seq_op s27 rfl rfl (of_decide_eq_true rfl) (ob_move rfl (.tmp rfl)) fun a28 w28 s28 => ?_; clear s27
    refine seq_op s28 rfl rfl (of_decide_eq_true rfl) (ob_move rfl (.tmp rfl)) fun a29 w29 s29 => ?_; clear s28
    refine seq_op s29 rfl rfl (of_decide_eq_true rfl) (ob_move rfl (.tmp rfl)) fun a30 w30 s30 => ?_; clear s29
    refine seq_op s30 rfl rfl (of_decide_eq_true rfl) (ob_quo rfl (.tmp rfl) (opd_int rfl) (by decide)) fun a31 w31 s31 => ?_; clear s30
    refine seq_op s31 rfl rfl (of_decide_eq_true rfl) (ob_conv rfl _ Try.underlying3 Try.underlying5 (.tmp rfl)) fun a32 w32 s32 => ?_; clear s31
    refine seq_op s32 rfl rfl (of_decide_eq_true rfl) (ob_add rfl (.tmp rfl) (.tmp rfl)) fun a33 w33 s33 => ?_; clear s32
    obtain ⟨g2, h6⟩ := guard_some h5; clear h5
    refine seq_op s33 rfl rfl (of_decide_eq_true rfl) (ob_rowAt rfl Try.underlying23 sz5 (.tmp rfl) (.head _) (.tmp rfl) g2) fun a34 w34 s34 => ?_; clear s33
    obtain ⟨x1, e_x1, h7⟩ := bind_some h6; clear h6
    refine seq_opx0 (B' := (fun _ : Unit => [RowF v1 5 (kint .u8) x1])) s34 rfl rfl (ob_rowStore (A := []) rfl tk5 (.tmp rfl) (.tmp rfl) rfl (LS.arrS e_x1) rfl) fun _ a35 w35 s35 => ?_; clear s34
    refine wpList_nil ?_
    refine in_normal ?_
    refine then_normal ?_
    refine hK10 _ _ ?_
    have s36 := s35.sub (.cons (t := 0) rfl (.cons (t := 5) rfl (.cons (t := 6) rfl (.cons (t := 7) rfl .nil)))); clear s35
    refine wp_region_lit ?_
    refine seq_op s36 rfl rfl (of_decide_eq_true rfl) (ob_move rfl (.tmp rfl)) fun a37 w37 s37 => ?_; clear s36
    refine seq_op s37 rfl rfl (of_decide_eq_true rfl) (ob_add rfl (.tmp rfl) (opd_int rfl)) fun a38 w38 s38 => ?_; clear s37
    refine seq_op s38 rfl rfl (of_decide_eq_true rfl) (ob_assign rfl (.tmp rfl)) fun a39 w39 s39 => ?_; clear s38
    refine wpList_nil ?_
    refine then_normal ?_
    exact hK7 ((iadd .i64 y2 (1 : Int)), x1) _ _ h7 (s39.sub (.cons rfl (.cons rfl (.cons rfl (.cons rfl .nil)))))
  · replace h4 := ite_f hc1 h4
    have h8 := h4; clear h4
    refine wp_exit ?_
    refine (then_exit (then_exit (in_here ?_)))
    refine then_normal ?_
    exact hj1 y3 _ _ h8 (s25.sub (.cons rfl .nil))

/- 26 (*cabal/disk.Disk).Blocks -/
theorem c_disk_Disk_Blocks (k : Nat) (p1 : disk_Disk) (r : Int) (h0 : disk_Disk_Blocks k p1 = some r) (ok : Ok) (w0 : World) (z0 : Value) (u0 : (ptrTo k_disk_Disk p1).holds ok w0 z0) :
    Gives Try.prog 26 [z0] ok w0 (resFact [(kint .i64).V r]) := by
  unfold disk_Disk_Blocks at h0
  refine enter (N := 10) Try.func26 rfl rfl (of_decide_eq_true rfl) (.cons u0 .nil) fun a1 s1 => ?_
  refine wp_seq_k fun K1 hK1 => ?_
  refine wp_region_lit ?_
  refine seq_op s1 rfl rfl (of_decide_eq_true rfl) (ob_assign rfl (opd_int rfl)) fun a2 w2 s2 => ?_; clear s1
  refine wpList_nil ?_
  refine then_normal ?_
  refine hK1 _ _ ?_
  have s3 := s2.sub (.cons (t := 0) rfl .nil); clear s2
  refine wp_seq_k fun K2 hK2 => ?_
  refine wp_seq_k fun K3 hK3 => ?_
  refine wp_region_lit ?_
  refine seq_op s3 rfl rfl (of_decide_eq_true rfl) (ob_move rfl (.tmp rfl)) fun a4 w4 s4 => ?_; clear s3
  refine seq_op s4 rfl rfl (of_decide_eq_true rfl) (ob_ptrrNil rfl pt25 (.tmp rfl) opd_is) fun a5 w5 s5 => ?_; clear s4
  refine wpList_nil ?_
  refine then_normal ?_
  refine hK3 _ _ ?_
  have s6 := s5.sub (.cons (t := 0) rfl (.cons (t := 4) rfl .nil)); clear s5
  refine cond_f s6 (.tmp rfl) ?_
  refine wp_skip ?_
  refine then_normal ?_
  refine hK2 _ _ ?_
  have s7 := s6.sub (.cons (t := 0) rfl .nil); clear s6
  refine wp_seq_k fun K4 hK4 => ?_
  refine wp_region_lit ?_
  refine seq_op s7 rfl rfl (of_decide_eq_true rfl) (ob_move rfl (.tmp rfl)) fun a8 w8 s8 => ?_; clear s7
  refine seq_op s8 rfl rfl (of_decide_eq_true rfl) (ob_nilCheckr rfl (.tmp rfl)) fun a9 w9 s9 => ?_; clear s8
  refine seq_op s9 rfl rfl (of_decide_eq_true rfl) (ob_fieldAddrr rfl Try.underlying87 rfl sz84 (by decide) (.tmp rfl) (lg_disk_Disk_firm p1)) fun a10 w10 s10 => ?_; clear s9
  refine seq_op s10 rfl rfl (of_decide_eq_true rfl) (ob_loadr rfl tk84 (.tmp rfl)) fun a11 w11 s11 => ?_; clear s10
  refine seq_op s11 rfl rfl (of_decide_eq_true rfl) (ob_lens rfl Try.underlying84 (.tmp rfl)) fun a12 w12 s12 => ?_; clear s11
  refine seq_op s12 rfl rfl (of_decide_eq_true rfl) (ob_assign rfl (.tmp rfl)) fun a13 w13 s13 => ?_; clear s12
  refine wpList_nil ?_
  refine then_normal ?_
  refine hK4 _ _ ?_
  have s14 := s13.sub (.cons (t := 2) rfl .nil); clear s13
  refine wp_ret ?_
  obtain rfl := Option.some.inj h0
  exact leave s14 (.inl rfl) rfl (.cons (.tmp rfl) .nil)

/- 50 (*cabal/disk.Disk).has -/
theorem c_disk_Disk_has (k : Nat) (p1 : disk_Disk) (p2 : Int) (r : Bool) (h0 : disk_Disk_has k p1 p2 = some r) (ok : Ok) (w0 : World) (z0 : Value) (z1 : Value) (u0 : (ptrTo k_disk_Disk p1).holds ok w0 z0) (u1 : ((kint .i64).V p2).holds ok w0 z1) :
    Gives Try.prog 50 [z0, z1] ok w0 (resFact [kbool.V r]) := by
  unfold disk_Disk_has at h0
  refine enter (N := 13) Try.func50 rfl rfl (of_decide_eq_true rfl) (.cons u0 (.cons u1 .nil)) fun a1 s1 => ?_
  refine wp_seq_k fun K1 hK1 => ?_
  refine wp_region_lit ?_
  refine seq_op s1 rfl rfl (of_decide_eq_true rfl) (ob_assign rfl opd_bool) fun a2 w2 s2 => ?_; clear s1
  refine wpList_nil ?_
  refine then_normal ?_
  refine hK1 _ _ ?_
  have s3 := s2.sub (.cons (t := 0) rfl (.cons (t := 1) rfl .nil)); clear s2
  refine wp_seq_k fun K2 hK2 => ?_
  refine wp_region_lit ?_
  refine seq_op s3 rfl rfl (of_decide_eq_true rfl) (ob_move rfl (.tmp rfl)) fun a4 w4 s4 => ?_; clear s3
  refine seq_op s4 rfl rfl (of_decide_eq_true rfl) (ob_geq rfl (.tmp rfl) (opd_int rfl)) fun a5 w5 s5 => ?_; clear s4
  refine seq_op s5 rfl rfl (of_decide_eq_true rfl) (ob_move rfl (.tmp rfl)) fun a6 w6 s6 => ?_; clear s5
  refine seq_opg s6 rfl rfl rfl rfl (of_decide_eq_true rfl) (fun hb => ob_move rfl (.tmp rfl)) fun a7 w7 s7 => ?_; clear s6
  refine seq_opg s7 rfl rfl rfl rfl (of_decide_eq_true rfl) (fun hb => ob_move rfl (.tmp rfl)) fun a8 w8 s8 => ?_; clear s7
  obtain ⟨x1, e_x1, h1⟩ := bind_some h0; clear h0
  refine seq_opg s8 rfl rfl rfl rfl (of_decide_eq_true rfl) (fun hb => (Ob.uncond (t := 9) hb rfl (ob_callD (args := [_]) rfl .direct hb26 (fun a w s fs gs hf hg => by obtain rfl := hf.unnil; obtain rfl := hg.unnil; exact c_disk_Disk_Blocks k _ _ (ite_t hb e_x1) _ _ _ (s.arg (.tmp rfl)))))) fun a9 w9 s9 => ?_; clear s8
  refine seq_opg s9 rfl rfl rfl rfl (of_decide_eq_true rfl) (fun hb => (Ob.uncond (t := 10) hb rfl ((Ob.uncond (t := 8) hb rfl (ob_lss rfl (.tmp rfl) (.tmp rfl)))))) fun a10 w10 s10 => ?_; clear s9
  refine seq_op s10 rfl rfl (of_decide_eq_true rfl) (ob_and2 rfl (.tmp rfl) (.tmp rfl) opd_bool) fun a11 w11 s11 => ?_; clear s10
  refine seq_op s11 rfl rfl (of_decide_eq_true rfl) (ob_assign rfl (.tmp rfl)) fun a12 w12 s12 => ?_; clear s11
  refine wpList_nil ?_
  refine then_normal ?_
  refine hK2 _ _ ?_
  have s13 := s12.sub (.cons (t := 4) rfl .nil); clear s12
  refine wp_ret ?_
  obtain rfl := Option.some.inj h1
  exact leave s13 (.inl rfl) rfl (.cons (.tmp rfl) .nil)

/- 47 (*cabal/disk.Disk).burn -/
theorem c_disk_Disk_burn (k : Nat) (p1 : disk_Disk) (r : (Bool × disk_Disk)) (h0 : disk_Disk_burn k p1 = some r) (ok : Ok) (w0 : World) (z0 : Value) (b00 : Nat) (w0_0 : Value) (w0_1 : Value) (l0 : ∀ q, q ∈ [BF b00 87 (ko_disk_Disk_0_1 w0_0 w0_1) (⟨[], [], p1.fuse, p1.dead⟩ : disk_Disk), RowF w0_0 91 (karr 256 (kint .u8)) p1.firm, RowF w0_1 93 k_disk_write p1.loose] → q.holds ok w0) (d0 : ∀ c, c ∈ idsOf [BF b00 87 (ko_disk_Disk_0_1 w0_0 w0_1) (⟨[], [], p1.fuse, p1.dead⟩ : disk_Disk), RowF w0_0 91 (karr 256 (kint .u8)) p1.firm, RowF w0_1 93 k_disk_write p1.loose] → ¬ ok c) (nd : (idsOf [BF b00 87 (ko_disk_Disk_0_1 w0_0 w0_1) (⟨[], [], p1.fuse, p1.dead⟩ : disk_Disk), RowF w0_0 91 (karr 256 (kint .u8)) p1.firm, RowF w0_1 93 k_disk_write p1.loose]).Nodup) (u0 : (ptrB b00 0).holds ok w0 z0) :
    GivesX Try.prog 47 [z0] ok w0 [BF b00 87 (ko_disk_Disk_0_1 w0_0 w0_1) (⟨[], [], p1.fuse, p1.dead⟩ : disk_Disk), RowF w0_0 91 (karr 256 (kint .u8)) p1.firm, RowF w0_1 93 k_disk_write p1.loose] (fun g : Value × Value => resFact [kbool.V r.1]) (fun g : Value × Value => [BF b00 87 (ko_disk_Disk_0_1 (g.1) (g.2)) (⟨[], [], r.2.fuse, r.2.dead⟩ : disk_Disk), RowF (g.1) 91 (karr 256 (kint .u8)) r.2.firm, RowF (g.2) 93 k_disk_write r.2.loose]) := by
  unfold disk_Disk_burn at h0
  refine enterX (N := 30) Try.func47 rfl rfl (of_decide_eq_true rfl) (.cons u0 .nil) nd l0 d0 fun a1 s1 => ?_
  refine wp_seq_k fun K1 hK1 => ?_
  refine wp_region_lit ?_
  refine seq_op s1 rfl rfl (of_decide_eq_true rfl) (ob_assign rfl opd_bool) fun a2 w2 s2 => ?_; clear s1
  refine wpList_nil ?_
  refine then_normal ?_
  refine hK1 _ _ ?_
  have s3 := s2.sub (.cons (t := 0) rfl .nil); clear s2
  refine wp_seq_k fun K2 hK2 => ?_
  have hj1 : ∀ (y1 : Int) (y2 : Bool) (a : Act) (w : World), (disk_Disk_burn.j1 k p1) y1 y2 = some r → St ⟨30, w0, ok, (idsOf [BF b00 87 (ko_disk_Disk_0_1 w0_0 w0_1) (⟨[], [], p1.fuse, p1.dead⟩ : disk_Disk), RowF w0_0 91 (karr 256 (kint .u8)) p1.firm, RowF w0_1 93 k_disk_write p1.loose])⟩ [BF b00 87 (ko_disk_Disk_0_1 w0_0 w0_1) (⟨[], [], y1, y2⟩ : disk_Disk), RowF w0_0 91 (karr 256 (kint .u8)) p1.firm, RowF w0_1 93 k_disk_write p1.loose] [(0, (ptrB b00 0))] a w → K2 a w := by
    intro y1 y2 a4 w4 h1 s4
    unfold disk_Disk_burn.j1 at h1
    refine hK2 _ _ ?_
    refine wp_seq_k fun K3 hK3 => ?_
    refine wp_region_lit ?_
    refine seq_op s4 rfl rfl (of_decide_eq_true rfl) (ob_move rfl (.tmp rfl)) fun a5 w5 s5 => ?_; clear s4
    refine seq_op s5 rfl rfl (of_decide_eq_true rfl) (ob_nilCheck rfl (.tmp rfl)) fun a6 w6 s6 => ?_; clear s5
    refine seq_op s6 rfl rfl (of_decide_eq_true rfl) (ob_fieldAddr (off' := 3) rfl Try.underlying87 rfl sz4 (by decide) (.tmp rfl) rfl) fun a7 w7 s7 => ?_; clear s6
    refine seq_op s7 rfl rfl (of_decide_eq_true rfl) (ob_load rfl tk4 (.tmp rfl) (.head _) (lgo_disk_Disk_0_1_dead (⟨[], [], y1, y2⟩ : disk_Disk))) fun a8 w8 s8 => ?_; clear s7
    refine seq_op s8 rfl rfl (of_decide_eq_true rfl) (ob_not rfl (.tmp rfl)) fun a9 w9 s9 => ?_; clear s8
    refine seq_op s9 rfl rfl (of_decide_eq_true rfl) (ob_assign rfl (.tmp rfl)) fun a10 w10 s10 => ?_; clear s9
    refine wpList_nil ?_
    refine then_normal ?_
    refine hK3 _ _ ?_
    have s11 := s10.sub (.cons (t := 2) rfl .nil); clear s10
    refine wp_ret ?_
    obtain rfl := Option.some.inj h1
    exact leaveXD (D := []) ⟨w0_0, w0_1⟩ s11 rfl (.inl rfl) rfl (.cons (.tmp rfl) .nil) rfl
  refine wp_block ?_
  refine wp_seq_k fun K4 hK4 => ?_
  refine wp_region_lit ?_
  refine seq_op s3 rfl rfl (of_decide_eq_true rfl) (ob_move rfl (.tmp rfl)) fun a12 w12 s12 => ?_; clear s3
  refine seq_op s12 rfl rfl (of_decide_eq_true rfl) (ob_nilCheck rfl (.tmp rfl)) fun a13 w13 s13 => ?_; clear s12
  refine seq_op s13 rfl rfl (of_decide_eq_true rfl) (ob_fieldAddr (off' := 2) rfl Try.underlying87 rfl sz3 (by decide) (.tmp rfl) rfl) fun a14 w14 s14 => ?_; clear s13
  refine seq_op s14 rfl rfl (of_decide_eq_true rfl) (ob_load rfl tk3 (.tmp rfl) (.head _) (lgo_disk_Disk_0_1_fuse (⟨[], [], p1.fuse, p1.dead⟩ : disk_Disk))) fun a15 w15 s15 => ?_; clear s14
  refine seq_op s15 rfl rfl (of_decide_eq_true rfl) (ob_eql rfl (.tmp rfl) (opd_int rfl)) fun a16 w16 s16 => ?_; clear s15
  refine seq_op s16 rfl rfl (of_decide_eq_true rfl) (ob_assign rfl (.tmp rfl)) fun a17 w17 s17 => ?_; clear s16
  refine wpList_nil ?_
  refine then_normal ?_
  refine hK4 _ _ ?_
  have s18 := s17.sub (.cons (t := 0) rfl (.cons (t := 3) rfl .nil)); clear s17
  refine cond_split s18 (.tmp rfl) (fun hc1 => ?_) (fun hc1 => ?_)
  · replace h0 := ite_t hc1 h0
    have h2 := h0; clear h0
    refine wp_region_lit ?_
    refine seq_op s18 rfl rfl (of_decide_eq_true rfl) (ob_move rfl (.tmp rfl)) fun a19 w19 s19 => ?_; clear s18
    refine seq_op s19 rfl rfl (of_decide_eq_true rfl) (ob_nilCheck rfl (.tmp rfl)) fun a20 w20 s20 => ?_; clear s19
    refine seq_op s20 rfl rfl (of_decide_eq_true rfl) (ob_fieldAddr (off' := 3) rfl Try.underlying87 rfl sz4 (by decide) (.tmp rfl) rfl) fun a21 w21 s21 => ?_; clear s20
    refine seq_opx0 (B' := (fun _ : Unit => [BF b00 87 (ko_disk_Disk_0_1 w0_0 w0_1) (⟨[], [], p1.fuse, true⟩ : disk_Disk), RowF w0_0 91 (karr 256 (kint .u8)) p1.firm, RowF w0_1 93 k_disk_write p1.loose])) s21 rfl rfl (ob_store (A := []) rfl tk4 (.tmp rfl) opd_bool rfl (lso_disk_Disk_0_1_dead (⟨[], [], p1.fuse, p1.dead⟩ : disk_Disk) true) rfl) fun _ a22 w22 s22 => ?_; clear s21
    refine wpList_nil ?_
    refine in_normal ?_
    refine then_normal ?_
    exact hj1 p1.fuse true _ _ h2 (s22.sub (.cons rfl .nil))
  · replace h0 := ite_f hc1 h0
    have h3 := h0; clear h0
    refine wp_seq_k fun K5 hK5 => ?_
    refine wp_region_lit ?_
    refine seq_op s18 rfl rfl (of_decide_eq_true rfl) (ob_move rfl (.tmp rfl)) fun a23 w23 s23 => ?_; clear s18
    refine seq_op s23 rfl rfl (of_decide_eq_true rfl) (ob_nilCheck rfl (.tmp rfl)) fun a24 w24 s24 => ?_; clear s23
    refine seq_op s24 rfl rfl (of_decide_eq_true rfl) (ob_fieldAddr (off' := 2) rfl Try.underlying87 rfl sz3 (by decide) (.tmp rfl) rfl) fun a25 w25 s25 => ?_; clear s24
    refine seq_op s25 rfl rfl (of_decide_eq_true rfl) (ob_load rfl tk3 (.tmp rfl) (.head _) (lgo_disk_Disk_0_1_fuse (⟨[], [], p1.fuse, p1.dead⟩ : disk_Disk))) fun a26 w26 s26 => ?_; clear s25
    refine seq_op s26 rfl rfl (of_decide_eq_true rfl) (ob_gtr rfl (.tmp rfl) (opd_int rfl)) fun a27 w27 s27 => ?_; clear s26
    refine seq_op s27 rfl rfl (of_decide_eq_true rfl) (ob_assign rfl (.tmp rfl)) fun a28 w28 s28 => ?_; clear s27
    refine wpList_nil ?_
    refine then_normal ?_
    refine hK5 _ _ ?_
    have s29 := s28.sub (.cons (t := 0) rfl (.cons (t := 12) rfl .nil)); clear s28
    refine cond_split s29 (.tmp rfl) (fun hc2 => ?_) (fun hc2 => ?_)
    · replace h3 := ite_t hc2 h3
      have h4 := h3; clear h3
      refine wp_region_lit ?_
      refine seq_op s29 rfl rfl (of_decide_eq_true rfl) (ob_move rfl (.tmp rfl)) fun a30 w30 s30 => ?_; clear s29
      refine seq_op s30 rfl rfl (of_decide_eq_true rfl) (ob_nilCheck rfl (.tmp rfl)) fun a31 w31 s31 => ?_; clear s30
      refine seq_op s31 rfl rfl (of_decide_eq_true rfl) (ob_fieldAddr (off' := 2) rfl Try.underlying87 rfl sz3 (by decide) (.tmp rfl) rfl) fun a32 w32 s32 => ?_; clear s31
      refine seq_op s32 rfl rfl (of_decide_eq_true rfl) (ob_load rfl tk3 (.tmp rfl) (.head _) (lgo_disk_Disk_0_1_fuse (⟨[], [], p1.fuse, p1.dead⟩ : disk_Disk))) fun a33 w33 s33 => ?_; clear s32
      refine seq_op s33 rfl rfl (of_decide_eq_true rfl) (ob_sub rfl (.tmp rfl) (opd_int rfl)) fun a34 w34 s34 => ?_; clear s33
      refine seq_op s34 rfl rfl (of_decide_eq_true rfl) (ob_nilCheck rfl (.tmp rfl)) fun a35 w35 s35 => ?_; clear s34
      refine seq_op s35 rfl rfl (of_decide_eq_true rfl) (ob_fieldAddr (off' := 2) rfl Try.underlying87 rfl sz3 (by decide) (.tmp rfl) rfl) fun a36 w36 s36 => ?_; clear s35
      refine seq_opx0 (B' := (fun _ : Unit => [BF b00 87 (ko_disk_Disk_0_1 w0_0 w0_1) (⟨[], [], (isub .i64 p1.fuse (1 : Int)), p1.dead⟩ : disk_Disk), RowF w0_0 91 (karr 256 (kint .u8)) p1.firm, RowF w0_1 93 k_disk_write p1.loose])) s36 rfl rfl (ob_store (A := []) rfl tk3 (.tmp rfl) (.tmp rfl) rfl (lso_disk_Disk_0_1_fuse (⟨[], [], p1.fuse, p1.dead⟩ : disk_Disk) (isub .i64 p1.fuse (1 : Int))) rfl) fun _ a37 w37 s37 => ?_; clear s36
      refine wpList_nil ?_
      refine in_normal ?_
      refine then_normal ?_
      exact hj1 (isub .i64 p1.fuse (1 : Int)) p1.dead _ _ h4 (s37.sub (.cons rfl .nil))
    · replace h3 := ite_f hc2 h3
      have h5 := h3; clear h3
      refine wp_skip ?_
      refine in_normal ?_
      refine then_normal ?_
      exact hj1 p1.fuse p1.dead _ _ h5 (s29.sub (.cons rfl .nil))

/- 15 (*cabal/disk.Disk).Write -/
theorem c_disk_Disk_Write (k : Nat) (p1 : disk_Disk) (p2 : Int) (p3 : (List Int)) (r : (Int × disk_Disk)) (h0 : disk_Disk_Write k p1 p2 p3 = some r) (ok : Ok) (w0 : World) (z0 : Value) (z1 : Value) (z2 : Value) (b00 : Nat) (w0_0 : Value) (w0_1 : Value) (l0 : ∀ q, q ∈ [BF b00 87 (ko_disk_Disk_0_1 w0_0 w0_1) (⟨[], [], p1.fuse, p1.dead⟩ : disk_Disk), RowF w0_0 91 (karr 256 (kint .u8)) p1.firm, RowF w0_1 93 k_disk_write p1.loose] → q.holds ok w0) (d0 : ∀ c, c ∈ idsOf [BF b00 87 (ko_disk_Disk_0_1 w0_0 w0_1) (⟨[], [], p1.fuse, p1.dead⟩ : disk_Disk), RowF w0_0 91 (karr 256 (kint .u8)) p1.firm, RowF w0_1 93 k_disk_write p1.loose] → ¬ ok c) (nd : (idsOf [BF b00 87 (ko_disk_Disk_0_1 w0_0 w0_1) (⟨[], [], p1.fuse, p1.dead⟩ : disk_Disk), RowF w0_0 91 (karr 256 (kint .u8)) p1.firm, RowF w0_1 93 k_disk_write p1.loose]).Nodup) (u0 : (ptrB b00 0).holds ok w0 z0) (u1 : ((kint .i64).V p2).holds ok w0 z1) (u2 : (kstr.V p3).holds ok w0 z2) :
    GivesX Try.prog 15 [z0, z1, z2] ok w0 [BF b00 87 (ko_disk_Disk_0_1 w0_0 w0_1) (⟨[], [], p1.fuse, p1.dead⟩ : disk_Disk), RowF w0_0 91 (karr 256 (kint .u8)) p1.firm, RowF w0_1 93 k_disk_write p1.loose] (fun g : Value × Value => resFact [(kint .i64).V r.1]) (fun g : Value × Value => [BF b00 87 (ko_disk_Disk_0_1 (g.1) (g.2)) (⟨[], [], r.2.fuse, r.2.dead⟩ : disk_Disk), RowF (g.1) 91 (karr 256 (kint .u8)) r.2.firm, RowF (g.2) 93 k_disk_write r.2.loose]) := by
  unfold disk_Disk_Write at h0
  refine enterX (N := 42) Try.func15 rfl rfl (of_decide_eq_true rfl) (.cons u0 (.cons u1 (.cons u2 .nil))) nd l0 d0 fun a1 s1 => ?_
  refine wp_seq_k fun K1 hK1 => ?_
  refine wp_region_lit ?_
  refine seq_op s1 rfl rfl (of_decide_eq_true rfl) (ob_assign rfl (opd_int rfl)) fun a2 w2 s2 => ?_; clear s1
  refine wpList_nil ?_
  refine then_normal ?_
  refine hK1 _ _ ?_
  have s3 := s2.sub (.cons (t := 0) rfl (.cons (t := 1) rfl (.cons (t := 2) rfl .nil))); clear s2
  refine wp_seq_k fun K2 hK2 => ?_
  refine wp_block ?_
  refine wp_seq_k fun K3 hK3 => ?_
  refine wp_region_lit ?_
  refine seq_op s3 rfl rfl (of_decide_eq_true rfl) (ob_move rfl (.tmp rfl)) fun a4 w4 s4 => ?_; clear s3
  refine seq_op s4 rfl rfl (of_decide_eq_true rfl) (ob_move rfl (.tmp rfl)) fun a5 w5 s5 => ?_; clear s4
  obtain ⟨x1, e_x1, h1⟩ := bind_some h0; clear h0
  refine seq_op s5 rfl rfl (of_decide_eq_true rfl) ((ob_lendG (L := [_, _, _]) (List.Perm.refl _) (.cons (t := 9) rfl (lendObj (K' := k_disk_Disk) (X' := p1) (.head _) rfl (upo_disk_Disk_0_1 rfl (.row (LetAll.row (.tail _ (.head _)))) (.row (LetAll.row (.tail _ (.tail _ (.head _))))))) .nil) (Flat.res1 (Flat.V KFlat.bool)) (fun _ => ob_callD (args := [_, _]) rfl .direct hb50 (fun a w s fs gs hf hg => by obtain rfl := hf.unnil; obtain rfl := hg.unnil; exact c_disk_Disk_has k _ _ _ e_x1 _ _ _ _ (s.arg (.tmp rfl)) (s.arg (.tmp rfl)))))) fun a6 w6 s6 => ?_; clear s5
  refine seq_op s6 rfl rfl (of_decide_eq_true rfl) (ob_not rfl (.tmp rfl)) fun a7 w7 s7 => ?_; clear s6
  refine seq_op s7 rfl rfl (of_decide_eq_true rfl) (ob_move rfl (.tmp rfl)) fun a8 w8 s8 => ?_; clear s7
  refine seq_opg s8 rfl rfl rfl rfl (of_decide_eq_true rfl) (fun hb => ob_move rfl (.tmp rfl)) fun a9 w9 s9 => ?_; clear s8
  refine seq_opg s9 rfl rfl rfl rfl (of_decide_eq_true rfl) (fun hb => (Ob.uncond (t := 14) hb rfl (ob_lenStr rfl Try.underlying9 (.tmp rfl)))) fun a10 w10 s10 => ?_; clear s9
  refine seq_opg s10 rfl rfl rfl rfl (of_decide_eq_true rfl) (fun hb => (Ob.uncond (t := 15) hb rfl (ob_neq rfl (.tmp rfl) (opd_int rfl)))) fun a11 w11 s11 => ?_; clear s10
  refine seq_op s11 rfl rfl (of_decide_eq_true rfl) (ob_or2 rfl (.tmp rfl) opd_bool (.tmp rfl)) fun a12 w12 s12 => ?_; clear s11
  refine seq_op s12 rfl rfl (of_decide_eq_true rfl) (ob_assign rfl (.tmp rfl)) fun a13 w13 s13 => ?_; clear s12
  refine wpList_nil ?_
  refine then_normal ?_
  refine hK3 _ _ ?_
  have s14 := s13.sub (.cons (t := 0) rfl (.cons (t := 1) rfl (.cons (t := 2) rfl (.cons (t := 8) rfl .nil)))); clear s13
  refine cond_split s14 (.tmp rfl) (fun hc1 => ?_) (fun hc1 => ?_)
  · replace h1 := ite_t hc1 h1
    have h2 := h1; clear h1
    refine wp_seq_k fun K4 hK4 => ?_
    refine wp_region_lit ?_
    refine seq_op s14 rfl rfl (of_decide_eq_true rfl) (ob_assign rfl (opd_int rfl)) fun a15 w15 s15 => ?_; clear s14
    refine wpList_nil ?_
    refine then_normal ?_
    refine hK4 _ _ ?_
    have s16 := s15.sub (.cons (t := 6) rfl .nil); clear s15
    refine wp_ret ?_
    obtain rfl := Option.some.inj h2
    exact leaveXD (D := []) ⟨w0_0, w0_1⟩ s16 rfl (.inl rfl) rfl (.cons (.tmp rfl) .nil) rfl
  · replace h1 := ite_f hc1 h1
    have h3 := h1; clear h1
    refine wp_seq_k fun K5 hK5 => ?_
    refine wp_region_lit ?_
    refine seq_op s14 rfl rfl (of_decide_eq_true rfl) (ob_move rfl (.tmp rfl)) fun a17 w17 s17 => ?_; clear s14
    refine seq_op s17 rfl rfl (of_decide_eq_true rfl) (ob_nilCheck rfl (.tmp rfl)) fun a18 w18 s18 => ?_; clear s17
    refine seq_op s18 rfl rfl (of_decide_eq_true rfl) (ob_fieldAddr (off' := 3) rfl Try.underlying87 rfl sz4 (by decide) (.tmp rfl) rfl) fun a19 w19 s19 => ?_; clear s18
    refine seq_op s19 rfl rfl (of_decide_eq_true rfl) (ob_load rfl tk4 (.tmp rfl) (.head _) (lgo_disk_Disk_0_1_dead (⟨[], [], p1.fuse, p1.dead⟩ : disk_Disk))) fun a20 w20 s20 => ?_; clear s19
    refine seq_op s20 rfl rfl (of_decide_eq_true rfl) (ob_assign rfl (.tmp rfl)) fun a21 w21 s21 => ?_; clear s20
    refine wpList_nil ?_
    refine then_normal ?_
    refine hK5 _ _ ?_
    have s22 := s21.sub (.cons (t := 0) rfl (.cons (t := 1) rfl (.cons (t := 2) rfl (.cons (t := 18) rfl .nil)))); clear s21
    refine cond_split s22 (.tmp rfl) (fun hc2 => ?_) (fun hc2 => ?_)
    · replace h3 := ite_t hc2 h3
      have h4 := h3; clear h3
      refine wp_seq_k fun K6 hK6 => ?_
      refine wp_region_lit ?_
      refine seq_op s22 rfl rfl (of_decide_eq_true rfl) (ob_assign rfl (opd_int rfl)) fun a23 w23 s23 => ?_; clear s22
      refine wpList_nil ?_
      refine then_normal ?_
      refine hK6 _ _ ?_
      have s24 := s23.sub (.cons (t := 6) rfl .nil); clear s23
      refine wp_ret ?_
      obtain rfl := Option.some.inj h4
      exact leaveXD (D := []) ⟨w0_0, w0_1⟩ s24 rfl (.inl rfl) rfl (.cons (.tmp rfl) .nil) rfl
    · replace h3 := ite_f hc2 h3
      have h5 := h3; clear h3
      refine wp_skip ?_
      refine in_normal ?_
      refine then_normal ?_
      refine hK2 _ _ ?_
      have s25 := s22.sub (.cons (t := 0) rfl (.cons (t := 1) rfl (.cons (t := 2) rfl .nil))); clear s22
      refine wp_seq_k fun K7 hK7 => ?_
      refine wp_region_lit ?_
      refine seq_op s25 rfl rfl (of_decide_eq_true rfl) (ob_move rfl (.tmp rfl)) fun a26 w26 s26 => ?_; clear s25
      refine seq_op s26 rfl rfl (of_decide_eq_true rfl) (ob_mkStruct (K := k_disk_write) (X0 := (⟨(0 : Int), (List.replicate 256 (0 : Int))⟩ : disk_write)) rfl Try.underlying93 zz93 rfl pl93 (Zr.iso (f := t_disk_write) (x := (⟨(0 : Int), (List.replicate 256 (0 : Int))⟩ : disk_write)) (Zr.pair (Zr.int .i64) (Zr.pair (Zr.arr 256 (Zr.int .u8)) Zr.nil))) (.cons (.tmp rfl) rfl (ls_disk_write_at_ (⟨(0 : Int), (List.replicate 256 (0 : Int))⟩ : disk_write) p2) (.nil _))) fun a27 w27 s27 => ?_; clear s26
      refine seq_opx (B' := (fun b1 : Nat => [BF b1 93 k_disk_write (⟨(0 : Int), (List.replicate 256 (0 : Int))⟩ : disk_write), BF b00 87 (ko_disk_Disk_0_1 w0_0 w0_1) (⟨[], [], p1.fuse, p1.dead⟩ : disk_Disk), RowF w0_0 91 (karr 256 (kint .u8)) p1.firm, RowF w0_1 93 k_disk_write p1.loose])) s27 rfl rfl (of_decide_eq_true rfl) (ob_new (k := k_disk_write) rfl zz93 (Zr.iso (f := t_disk_write) (x := (⟨(0 : Int), (List.replicate 256 (0 : Int))⟩ : disk_write)) (Zr.pair (Zr.int .i64) (Zr.pair (Zr.arr 256 (Zr.int .u8)) Zr.nil)))) fun b1 a28 w28 s28 => ?_; clear s27
      refine seq_opx0 (B' := (fun _ : Unit => [BF b1 93 k_disk_write (⟨p2, (List.replicate 256 (0 : Int))⟩ : disk_write), BF b00 87 (ko_disk_Disk_0_1 w0_0 w0_1) (⟨[], [], p1.fuse, p1.dead⟩ : disk_Disk), RowF w0_0 91 (karr 256 (kint .u8)) p1.firm, RowF w0_1 93 k_disk_write p1.loose])) s28 rfl rfl (ob_store (A := []) rfl tk93 (.tmp rfl) (.tmp rfl) rfl (LS.refl _ _ _) rfl) fun _ a29 w29 s29 => ?_; clear s28
      refine wpList_nil ?_
      refine then_normal ?_
      refine hK7 _ _ ?_
      have s30 := s29.sub (.cons (t := 0) rfl (.cons (t := 2) rfl (.cons (t := 7) rfl .nil))); clear s29
      refine wp_seq_k fun K8 hK8 => ?_
      refine wp_region_lit ?_
      refine seq_op s30 rfl rfl (of_decide_eq_true rfl) (ob_fieldAddr (off' := 1) rfl Try.underlying93 rfl sz91 (by decide) (.tmp rfl) rfl) fun a31 w31 s31 => ?_; clear s30
      refine seq_op s31 rfl rfl (of_decide_eq_true rfl) (ob_sliceArr rfl Try.underlying91 sz5 (.tmp rfl) .none .none (show (0 : Int) ≤ (0 : Int) ∧ (0 : Int) ≤ (256 : Int) ∧ (256 : Int) ≤ ((256 : Nat) : Int) by decide)) fun a32 w32 s32 => ?_; clear s31
      refine seq_op s32 rfl rfl (of_decide_eq_true rfl) (ob_move rfl (.tmp rfl)) fun a33 w33 s33 => ?_; clear s32
      obtain ⟨g1, h6⟩ := guard_some h5; clear h5
      obtain ⟨x2, e_x2, h7⟩ := bind_some h6; clear h6; replace e_x2 := Option.some.inj e_x2
      refine seq_opx (B' := (fun _ : Unit => [BF b1 93 k_disk_write x2, BF b00 87 (ko_disk_Disk_0_1 w0_0 w0_1) (⟨[], [], p1.fuse, p1.dead⟩ : disk_Disk), RowF w0_0 91 (karr 256 (kint .u8)) p1.firm, RowF w0_1 93 k_disk_write p1.loose])) s33 rfl rfl (of_decide_eq_true rfl) (ob_copyB (A := []) rfl Try.underlying23 sz5 rfl (.tmp rfl) (srcStr (.tmp rfl)) rfl rfl (sl_fit (show (0 : Int) ≤ (0 : Int) ∧ (0 : Int) ≤ (256 : Int) ∧ (256 : Int) ≤ ((256 : Nat) : Int) by decide)) g1 (lg_disk_write_data (⟨p2, (List.replicate 256 (0 : Int))⟩ : disk_write)) (LS.to (ls_disk_write_data (⟨p2, (List.replicate 256 (0 : Int))⟩ : disk_write) (((⟨p2, (List.replicate 256 (0 : Int))⟩ : disk_write).data).take (0 : Int).toNat ++ p3 ++ ((⟨p2, (List.replicate 256 (0 : Int))⟩ : disk_write).data).drop ((0 : Int).toNat + p3.length))) e_x2) rfl (by decide)) fun _ a34 w34 s34 => ?_; clear s33
      refine wpList_nil ?_
      refine then_normal ?_
      refine hK8 _ _ ?_
      have s35 := s34.sub (.cons (t := 0) rfl (.cons (t := 7) rfl .nil)); clear s34
      refine wp_seq_k fun K9 hK9 => ?_
      obtain ⟨g2, h8⟩ := guard_some h7; clear h7
      refine wp_goes (Fs := [(ptrB b00 0), (ptrB b00 0), (ptrB b00 0), (ptrB b00 1), (is w0_1), (k_disk_write.V x2), ((ksl k_disk_write).V ([x2] : (List disk_write))), nofact]) (bits := [0, 0, 2, 6, 14, 0, 32, 126, 255, 511, 1023]) (m := 8) (todo := 128) mx s35 ?_; clear s35
      refine goes_turn (B' := (fun v1 : Value => [BF b1 93 k_disk_write x2, BF b00 87 (ko_disk_Disk_0_1 w0_0 w0_1) (⟨[], [], p1.fuse, p1.dead⟩ : disk_Disk), RowF w0_0 91 (karr 256 (kint .u8)) p1.firm, RowF v1 93 k_disk_write (p1.loose ++ ([x2] : (List disk_write)))])) (Fs' := (fun v1 : Value => setAll ([(ptrB b00 0), (ptrB b00 0), (ptrB b00 0), (ptrB b00 1), (is w0_1), (k_disk_write.V x2), ((ksl k_disk_write).V ([x2] : (List disk_write))), nofact]) [(7, (is v1))])) 7 128 254 0 (by kernel_rfl) rfl rfl rfl (opsS_cons (.plain _ (Av.old (t := 0) rfl rfl Av.nil) rfl rfl (ob_move rfl (.tmp rfl))) (opsS_cons (.plain _ (Av.old (t := 0) rfl rfl Av.nil) rfl rfl (ob_move rfl (.tmp rfl))) (opsS_cons (.plain _ (Av.new (j := 1) rfl rfl rfl Av.nil) rfl rfl (ob_nilCheck rfl (.tmp rfl))) (opsS_cons (.plain _ (Av.new (j := 2) rfl rfl rfl Av.nil) rfl rfl (ob_fieldAddr (off' := 1) rfl Try.underlying87 rfl sz85 (by decide) (.tmp rfl) rfl)) (opsS_cons (.plain _ (Av.new (j := 3) rfl rfl rfl Av.nil) rfl rfl (ob_loadRowV rfl (tkr85 _) (.tmp rfl) (.tail _ (.head _)) (lgo_disk_Disk_0_1_loose (⟨[], [], p1.fuse, p1.dead⟩ : disk_Disk)))) (opsS_cons (.plain _ (Av.old (t := 7) rfl rfl Av.nil) rfl rfl (ob_load rfl tk93 (.tmp rfl) (.head _) (LG.refl _ _))) (opsS_cons (.plain _ (Av.new (j := 5) rfl rfl rfl Av.nil) rfl rfl (ob_mkSlice (k := k_disk_write) (xs := ([x2] : (List disk_write))) rfl Try.underlying85 zz93 sz93 (Zr.iso (f := t_disk_write) (x := (⟨(0 : Int), (List.replicate 256 (0 : Int))⟩ : disk_write)) (Zr.pair (Zr.int .i64) (Zr.pair (Zr.arr 256 (Zr.int .u8)) Zr.nil))) (by decide) (by decide) (.cons (.tmp rfl) rfl (LS.arr' (i := 0) (ys := ([x2] : (List disk_write))) (by simp) (by rfl)) (.nil _)))) (opsS_skip (by rfl) opsS_nil)))))))) (.plain _ (Av.new (j := 4) rfl rfl rfl (Av.new (j := 6) rfl rfl rfl Av.nil)) rfl (fun _ => rfl) (fun R => ob_appendL2 (A := [_, _, _]) rfl Try.underlying85 ap93 (Zr.iso (f := t_disk_write) (x := (⟨(0 : Int), (List.replicate 256 (0 : Int))⟩ : disk_write)) (Zr.pair (Zr.int .i64) (Zr.pair (Zr.arr 256 (Zr.int .u8)) Zr.nil))) (by decide) (.tmp rfl) (.tmp rfl) rfl g2)) (setAll_same (us := (fun v1 : Value => [(7, (is v1))])) fun _ => by kernel_rfl) fun v1 => ?_
      refine goes_last (by kernel_rfl) rfl (opsS_cons (.plain _ (Av.old (t := 0) rfl rfl Av.nil) rfl rfl (ob_move rfl (.tmp rfl))) (opsS_skip (by rfl) (opsS_skip (by rfl) (opsS_skip (by rfl) (opsS_skip (by rfl) (opsS_skip (by rfl) (opsS_skip (by rfl) (opsS_skip (by rfl) opsS_nil)))))))) (out_old (t := 0) rfl rfl (out_new (i := 0) (by decide) rfl rfl (out_new (i := 7) (by decide) rfl rfl out_nil))) fun a36 w36 s36 => ?_
      refine seq_op s36 rfl rfl (of_decide_eq_true rfl) (ob_nilCheck rfl (.tmp rfl)) fun a37 w37 s37 => ?_; clear s36
      refine seq_op s37 rfl rfl (of_decide_eq_true rfl) (ob_fieldAddr (off' := 1) rfl Try.underlying87 rfl sz85 (by decide) (.tmp rfl) rfl) fun a38 w38 s38 => ?_; clear s37
      refine seq_opx0 (B' := (fun _ : Unit => [BF b1 93 k_disk_write x2, BF b00 87 (ko_disk_Disk_0_1 w0_0 v1) (⟨[], [], p1.fuse, p1.dead⟩ : disk_Disk), RowF w0_0 91 (karr 256 (kint .u8)) p1.firm, RowF v1 93 k_disk_write (p1.loose ++ ([x2] : (List disk_write)))])) s38 rfl rfl (ob_storeRowV (A := [_]) rfl (tkr85 _) (.tmp rfl) (.tmp rfl) (.tail _ (.tail _ (.tail _ (.head _)))) rfl (lsk_disk_Disk_0_1_to_0_1_at1 (⟨[], [], p1.fuse, p1.dead⟩ : disk_Disk)) rfl) fun _ a39 w39 s39 => ?_; clear s38
      refine wpList_nil ?_
      refine then_normal ?_
      refine hK9 _ _ ?_
      have s40 := s39.sub (.cons (t := 0) rfl .nil); clear s39
      have s41 := St.drop (A := []) s40; clear s40
      refine wp_seq_k fun K10 hK10 => ?_
      refine wp_seq_k fun K11 hK11 => ?_
      refine wp_region_lit ?_
      refine seq_op s41 rfl rfl (of_decide_eq_true rfl) (ob_move rfl (.tmp rfl)) fun a42 w42 s42 => ?_; clear s41
      obtain ⟨x3, e_x3, h9⟩ := bind_some h8; clear h8
      refine seq_opx (B' := (fun gg : Value × Value => [BF b00 87 (ko_disk_Disk_0_1 gg.1 gg.2) (⟨[], [], x3.2.fuse, x3.2.dead⟩ : disk_Disk), RowF gg.1 91 (karr 256 (kint .u8)) x3.2.firm, RowF gg.2 93 k_disk_write x3.2.loose])) s42 rfl rfl (of_decide_eq_true rfl) (ob_callL (args := [_]) (L := [_, _, _]) rfl .direct hb47 (List.Perm.refl _) (fun a w s fs gs hf hg => by obtain rfl := hf.unnil; obtain rfl := hg.unnil; exact c_disk_Disk_burn k _ _ e_x3 _ _ _ _ _ _ (ownL s) (disL s) (nodL s) (s.arg (.tmp rfl))) (by exact fun _ => rfl)) fun gg43 a43 w43 s43 => ?_; clear s42
      obtain ⟨v2, v3⟩ := gg43
      refine seq_op s43 rfl rfl (of_decide_eq_true rfl) (ob_not rfl (.tmp rfl)) fun a44 w44 s44 => ?_; clear s43
      refine wpList_nil ?_
      refine then_normal ?_
      refine hK11 _ _ ?_
      have s45 := s44.sub (.cons (t := 41) rfl .nil); clear s44
      refine cond_split s45 (.tmp rfl) (fun hc3 => ?_) (fun hc3 => ?_)
      · replace h9 := ite_t hc3 h9
        have h10 := h9; clear h9
        refine wp_seq_k fun K12 hK12 => ?_
        refine wp_region_lit ?_
        refine seq_op s45 rfl rfl (of_decide_eq_true rfl) (ob_assign rfl (opd_int rfl)) fun a46 w46 s46 => ?_; clear s45
        refine wpList_nil ?_
        refine then_normal ?_
        refine hK12 _ _ ?_
        have s47 := s46.sub (.cons (t := 6) rfl .nil); clear s46
        refine wp_ret ?_
        obtain rfl := Option.some.inj h10
        exact leaveXD (D := []) ⟨v2, v3⟩ s47 rfl (.inl rfl) rfl (.cons (.tmp rfl) .nil) rfl
      · replace h9 := ite_f hc3 h9
        have h11 := h9; clear h9
        refine wp_skip ?_
        refine then_normal ?_
        refine hK10 _ _ ?_
        have s48 := s45.sub .nil; clear s45
        refine wp_seq_k fun K13 hK13 => ?_
        refine wp_region_lit ?_
        refine seq_op s48 rfl rfl (of_decide_eq_true rfl) (ob_assign rfl (opd_int rfl)) fun a49 w49 s49 => ?_; clear s48
        refine wpList_nil ?_
        refine then_normal ?_
        refine hK13 _ _ ?_
        have s50 := s49.sub (.cons (t := 6) rfl .nil); clear s49
        refine wp_ret ?_
        obtain rfl := Option.some.inj h11
        exact leaveXD (D := []) ⟨v2, v3⟩ s50 rfl (.inl rfl) rfl (.cons (.tmp rfl) .nil) rfl

/- 51 (*cabal/disk.Disk).Crash$1 -/
theorem c_disk_Disk_Crash_1 (k : Nat) (p1 : Int) (p2 : (List Int)) (r : Int) (h0 : disk_Disk_Crash_1 k p1 p2 = some r) (ok : Ok) (w0 : World) (z0 : Value) (z1 : Value) (u0 : ((kint .i64).V p1).holds ok w0 z0) (u1 : (ptrTo (ksl (kint .u8)) p2).holds ok w0 z1) :
    Gives Try.prog 51 [z0, z1] ok w0 (resFact [(kint .i64).V r]) := by
  unfold disk_Disk_Crash_1 at h0
  refine enter (N := 14) Try.func51 rfl rfl (of_decide_eq_true rfl) (.cons u0 (.cons u1 .nil)) fun a1 s1 => ?_
  refine wp_seq_k fun K1 hK1 => ?_
  refine wp_region_lit ?_
  refine seq_op s1 rfl rfl (of_decide_eq_true rfl) (ob_assign rfl (opd_int rfl)) fun a2 w2 s2 => ?_; clear s1
  refine wpList_nil ?_
  refine then_normal ?_
  refine hK1 _ _ ?_
  have s3 := s2.sub (.cons (t := 0) rfl (.cons (t := 1) rfl .nil)); clear s2
  refine wp_seq_k fun K2 hK2 => ?_
  refine wp_seq_k fun K3 hK3 => ?_
  refine wp_region_lit ?_
  refine seq_op s3 rfl rfl (of_decide_eq_true rfl) (ob_move rfl (.tmp rfl)) fun a4 w4 s4 => ?_; clear s3
  refine seq_op s4 rfl rfl (of_decide_eq_true rfl) (ob_loadr rfl tk23 (.tmp rfl)) fun a5 w5 s5 => ?_; clear s4
  refine seq_op s5 rfl rfl (of_decide_eq_true rfl) (ob_lens rfl Try.underlying23 (.tmp rfl)) fun a6 w6 s6 => ?_; clear s5
  refine seq_op s6 rfl rfl (of_decide_eq_true rfl) (ob_lss rfl (.tmp rfl) (.tmp rfl)) fun a7 w7 s7 => ?_; clear s6
  refine wpList_nil ?_
  refine then_normal ?_
  refine hK3 _ _ ?_
  have s8 := s7.sub (.cons (t := 0) rfl (.cons (t := 1) rfl (.cons (t := 7) rfl .nil))); clear s7
  refine cond_split s8 (.tmp rfl) (fun hc1 => ?_) (fun hc1 => ?_)
  · replace h0 := ite_t hc1 h0
    have h1 := h0; clear h0
    refine wp_seq_k fun K4 hK4 => ?_
    refine wp_region_lit ?_
    refine seq_op s8 rfl rfl (of_decide_eq_true rfl) (ob_loadr rfl tk23 (.tmp rfl)) fun a9 w9 s9 => ?_; clear s8
    refine seq_op s9 rfl rfl (of_decide_eq_true rfl) (ob_move rfl (.tmp rfl)) fun a10 w10 s10 => ?_; clear s9
    obtain ⟨x1, e_x1, h2⟩ := bind_some h1; clear h1
    refine seq_op s10 rfl rfl (of_decide_eq_true rfl) (ob_indexAddrs rfl Try.underlying23 sz5 (.tmp rfl) (.tmp rfl) e_x1) fun a11 w11 s11 => ?_; clear s10
    refine seq_op s11 rfl rfl (of_decide_eq_true rfl) (ob_loadr rfl tk5 (.tmp rfl)) fun a12 w12 s12 => ?_; clear s11
    refine seq_op s12 rfl rfl (of_decide_eq_true rfl) (ob_rem rfl (.tmp rfl) (opd_int rfl) (by decide)) fun a13 w13 s13 => ?_; clear s12
    refine seq_op s13 rfl rfl (of_decide_eq_true rfl) (ob_conv rfl _ Try.underlying5 Try.underlying3 (.tmp rfl)) fun a14 w14 s14 => ?_; clear s13
    refine seq_op s14 rfl rfl (of_decide_eq_true rfl) (ob_assign rfl (.tmp rfl)) fun a15 w15 s15 => ?_; clear s14
    refine wpList_nil ?_
    refine then_normal ?_
    refine hK4 _ _ ?_
    have s16 := s15.sub (.cons (t := 3) rfl .nil); clear s15
    refine wp_ret ?_
    obtain rfl := Option.some.inj h2
    exact leave s16 (.inl rfl) rfl (.cons (.tmp rfl) .nil)
  · replace h0 := ite_f hc1 h0
    have h3 := h0; clear h0
    refine wp_skip ?_
    refine then_normal ?_
    refine hK2 _ _ ?_
    have s17 := s8.sub .nil; clear s8
    refine wp_seq_k fun K5 hK5 => ?_
    refine wp_region_lit ?_
    refine seq_op s17 rfl rfl (of_decide_eq_true rfl) (ob_assign rfl (opd_int rfl)) fun a18 w18 s18 => ?_; clear s17
    refine wpList_nil ?_
    refine then_normal ?_
    refine hK5 _ _ ?_
    have s19 := s18.sub (.cons (t := 3) rfl .nil); clear s18
    refine wp_ret ?_
    obtain rfl := Option.some.inj h3
    exact leave s19 (.inl rfl) rfl (.cons (.tmp rfl) .nil)

/- 48 (*cabal/disk.Disk).settle -/
theorem c_disk_Disk_settle_disk_Disk_Crash_1 (k : Nat) (p1 : disk_Disk) (p2 : (List Int)) (r : disk_Disk) (h0 : disk_Disk_settle_disk_Disk_Crash_1 k p1 p2 = some r) (ok : Ok) (w0 : World) (z0 : Value) (z1 : Value) (b00 : Nat) (w0_0 : Value) (w0_1 : Value) (l0 : ∀ q, q ∈ [BF b00 87 (ko_disk_Disk_0_1 w0_0 w0_1) (⟨[], [], p1.fuse, p1.dead⟩ : disk_Disk), RowF w0_0 91 (karr 256 (kint .u8)) p1.firm, RowF w0_1 93 k_disk_write p1.loose] → q.holds ok w0) (d0 : ∀ c, c ∈ idsOf [BF b00 87 (ko_disk_Disk_0_1 w0_0 w0_1) (⟨[], [], p1.fuse, p1.dead⟩ : disk_Disk), RowF w0_0 91 (karr 256 (kint .u8)) p1.firm, RowF w0_1 93 k_disk_write p1.loose] → ¬ ok c) (nd : (idsOf [BF b00 87 (ko_disk_Disk_0_1 w0_0 w0_1) (⟨[], [], p1.fuse, p1.dead⟩ : disk_Disk), RowF w0_0 91 (karr 256 (kint .u8)) p1.firm, RowF w0_1 93 k_disk_write p1.loose]).Nodup) (u0 : (ptrB b00 0).holds ok w0 z0) (u1 : (cloF 51 [] [(ptrTo (ksl (kint .u8)) p2)]).holds ok w0 z1) :
    GivesX Try.prog 48 [z0, z1] ok w0 [BF b00 87 (ko_disk_Disk_0_1 w0_0 w0_1) (⟨[], [], p1.fuse, p1.dead⟩ : disk_Disk), RowF w0_0 91 (karr 256 (kint .u8)) p1.firm, RowF w0_1 93 k_disk_write p1.loose] (fun g : Value × Value => resFact []) (fun g : Value × Value => [BF b00 87 (ko_disk_Disk_0_1 (g.1) (g.2)) (⟨[], [], r.fuse, r.dead⟩ : disk_Disk), RowF (g.1) 91 (karr 256 (kint .u8)) r.firm, RowF (g.2) 93 k_disk_write r.loose]) := by
  unfold disk_Disk_settle_disk_Disk_Crash_1 at h0
  refine enterX (N := 38) Try.func48 rfl rfl (of_decide_eq_true rfl) (.cons u0 (.cons u1 .nil)) nd l0 d0 fun a1 s1 => ?_
  refine wp_seq_k fun K1 hK1 => ?_
  refine wp_seq_k fun K2 hK2 => ?_
  refine wp_region_lit ?_
  refine seq_op s1 rfl rfl (of_decide_eq_true rfl) (ob_move rfl (.tmp rfl)) fun a2 w2 s2 => ?_; clear s1
  refine seq_op s2 rfl rfl (of_decide_eq_true rfl) (ob_nilCheck rfl (.tmp rfl)) fun a3 w3 s3 => ?_; clear s2
  refine seq_op s3 rfl rfl (of_decide_eq_true rfl) (ob_fieldAddr (off' := 1) rfl Try.underlying87 rfl sz85 (by decide) (.tmp rfl) rfl) fun a4 w4 s4 => ?_; clear s3
  refine seq_op s4 rfl rfl (of_decide_eq_true rfl) (ob_loadRowV rfl (tkr85 _) (.tmp rfl) (.head _) (lgo_disk_Disk_0_1_loose (⟨[], [], p1.fuse, p1.dead⟩ : disk_Disk))) fun a5 w5 s5 => ?_; clear s4
  refine seq_op s5 rfl rfl (of_decide_eq_true rfl) (ob_lenRow rfl Try.underlying85 (.tmp rfl) (.tail _ (.tail _ (.head _)))) fun a6 w6 s6 => ?_; clear s5
  refine seq_op s6 rfl rfl (of_decide_eq_true rfl) (ob_move rfl (opd_int rfl)) fun a7 w7 s7 => ?_; clear s6
  refine wpList_nil ?_
  refine then_normal ?_
  refine hK2 _ _ ?_
  have s8 := s7.sub (.cons (t := 0) rfl (.cons (t := 1) rfl (.cons (t := 10) rfl (.cons (t := 11) rfl (.cons (t := 12) rfl .nil))))); clear s7
  have hj1 : ∀ (y1 : (List (List Int))) (a : Act) (w : World), (disk_Disk_settle_disk_Disk_Crash_1.j1 k p1) y1 = some r → St ⟨38, w0, ok, (idsOf [BF b00 87 (ko_disk_Disk_0_1 w0_0 w0_1) (⟨[], [], p1.fuse, p1.dead⟩ : disk_Disk), RowF w0_0 91 (karr 256 (kint .u8)) p1.firm, RowF w0_1 93 k_disk_write p1.loose])⟩ [BF b00 87 (ko_disk_Disk_0_1 w0_0 w0_1) (⟨[], [], p1.fuse, p1.dead⟩ : disk_Disk), RowF w0_0 91 (karr 256 (kint .u8)) y1, RowF w0_1 93 k_disk_write p1.loose] [(0, (ptrB b00 0))] a w → K1 a w := by
    intro y1 a9 w9 h1 s9
    unfold disk_Disk_settle_disk_Disk_Crash_1.j1 at h1
    refine hK1 _ _ ?_
    refine wp_region_lit ?_
    refine seq_op s9 rfl rfl (of_decide_eq_true rfl) (ob_move rfl (.tmp rfl)) fun a10 w10 s10 => ?_; clear s9
    refine seq_op s10 rfl rfl (of_decide_eq_true rfl) (ob_nilCheck rfl (.tmp rfl)) fun a11 w11 s11 => ?_; clear s10
    refine seq_op s11 rfl rfl (of_decide_eq_true rfl) (ob_fieldAddr (off' := 1) rfl Try.underlying87 rfl sz85 (by decide) (.tmp rfl) rfl) fun a12 w12 s12 => ?_; clear s11
    have s13 := St.adopt s12 (G := RowF (nilRow 3) 93 k_disk_write []) rfl (rowNilN _ _ _ _ _); clear s12
    refine seq_opx0 (B' := (fun _ : Unit => [RowF (nilRow 3) 93 k_disk_write ([] : (List disk_write)), BF b00 87 (ko_disk_Disk_0_1 w0_0 (nilRow 3)) (⟨[], [], p1.fuse, p1.dead⟩ : disk_Disk), RowF w0_0 91 (karr 256 (kint .u8)) y1, RowF w0_1 93 k_disk_write p1.loose])) s13 rfl rfl (ob_storeRowV (A := [_]) rfl (tkr85 _) (.tmp rfl) opd_is (.head _) rfl (lsk_disk_Disk_0_1_to_0_1_at1 (⟨[], [], p1.fuse, p1.dead⟩ : disk_Disk)) rfl) fun _ a14 w14 s14 => ?_; clear s13
    refine wpList_nil ?_
    have s15 := s14.perm (toFront [_] (toFront [_] (toFront [] (List.Perm.refl _)))); clear s14
    obtain rfl := Option.some.inj h1
    exact leaveXD (D := [_]) ⟨w0_0, (nilRow 3)⟩ s15 rfl (.inr rfl) rfl .nil rfl
  refine wp_block ?_
  have s16 := s8.perm (toFront [] (toFront [_] (toFront [] (List.Perm.refl _)))); clear s8
  refine wp_loop_fuel (fun m (q : Int × (List (List Int))) => disk_Disk_settle_disk_Disk_Crash_1.l1 k p1 p2 m q.1 q.2) r (fun _ => rfl) (fun q a w => St ⟨38, w0, ok, (idsOf [BF b00 87 (ko_disk_Disk_0_1 w0_0 w0_1) (⟨[], [], p1.fuse, p1.dead⟩ : disk_Disk), RowF w0_0 91 (karr 256 (kint .u8)) p1.firm, RowF w0_1 93 k_disk_write p1.loose])⟩ [BF b00 87 (ko_disk_Disk_0_1 w0_0 w0_1) (⟨[], [], p1.fuse, p1.dead⟩ : disk_Disk), RowF w0_1 93 k_disk_write p1.loose, RowF w0_0 91 (karr 256 (kint .u8)) q.2] [(0, (ptrB b00 0)), (1, (cloF 51 [] [(ptrTo (ksl (kint .u8)) p2)])), (10, (is w0_1)), (11, ((kint .i64).V (p1.loose.length : Int))), (12, ((kint .i64).V q.1))] a w) ?_ k ((0 : Int), p1.firm) _ _ h0 (s16.sub (.cons rfl (.cons rfl (.cons rfl (.cons rfl (.cons rfl .nil))))))
  rintro n1 ⟨y2, y3⟩ a17 w17 h2 s17 K3 hK3
  replace h2 : disk_Disk_settle_disk_Disk_Crash_1.l1 k p1 p2 (n1 + 1) y2 y3 = some r := h2; rw [disk_Disk_settle_disk_Disk_Crash_1.l1] at h2
  have h3 := h2; clear h2
  refine wp_seq_k fun K4 hK4 => ?_
  refine wp_region_lit ?_
  refine seq_op s17 rfl rfl (of_decide_eq_true rfl) (ob_lss rfl (.tmp rfl) (.tmp rfl)) fun a18 w18 s18 => ?_; clear s17
  refine wpList_nil ?_
  refine then_normal ?_
  refine hK4 _ _ ?_
  have s19 := s18.sub (.cons (t := 0) rfl (.cons (t := 1) rfl (.cons (t := 10) rfl (.cons (t := 11) rfl (.cons (t := 12) rfl (.cons (t := 13) rfl .nil)))))); clear s18
  refine wp_seq_k fun K5 hK5 => ?_
  refine cond_split s19 (.tmp rfl) (fun hc1 => ?_) (fun hc1 => ?_)
  · replace h3 := ite_t hc1 h3
    have h4 := h3; clear h3
    refine wp_skip ?_
    refine then_normal ?_
    refine hK5 _ _ ?_
    have s20 := s19.sub (.cons (t := 0) rfl (.cons (t := 1) rfl (.cons (t := 10) rfl (.cons (t := 11) rfl (.cons (t := 12) rfl .nil))))); clear s19
    refine wp_seq_k fun K6 hK6 => ?_
    refine wp_block ?_
    refine wp_seq_k fun K7 hK7 => ?_
    refine wp_region_lit ?_
    refine seq_op s20 rfl rfl (of_decide_eq_true rfl) (ob_move rfl (.tmp rfl)) fun a21 w21 s21 => ?_; clear s20
    obtain ⟨g1, h5⟩ := guard_some h4; clear h4
    refine seq_op s21 rfl rfl (of_decide_eq_true rfl) (ob_rowAt rfl Try.underlying85 sz93 (.tmp rfl) (.tail _ (.head _)) (.tmp rfl) g1) fun a22 w22 s22 => ?_; clear s21
    obtain ⟨x1, e_x1, h6⟩ := bind_some h5; clear h5
    refine seq_op s22 rfl rfl (of_decide_eq_true rfl) (ob_rowLoad rfl tk93 (.tmp rfl) (.tail _ (.head _)) (LG.arrA e_x1)) fun a23 w23 s23 => ?_; clear s22
    refine seq_opx (B' := (fun b1 : Nat => [BF b1 93 k_disk_write (⟨(0 : Int), (List.replicate 256 (0 : Int))⟩ : disk_write), BF b00 87 (ko_disk_Disk_0_1 w0_0 w0_1) (⟨[], [], p1.fuse, p1.dead⟩ : disk_Disk), RowF w0_1 93 k_disk_write p1.loose, RowF w0_0 91 (karr 256 (kint .u8)) y3])) s23 rfl rfl (of_decide_eq_true rfl) (ob_new (k := k_disk_write) rfl zz93 (Zr.iso (f := t_disk_write) (x := (⟨(0 : Int), (List.replicate 256 (0 : Int))⟩ : disk_write)) (Zr.pair (Zr.int .i64) (Zr.pair (Zr.arr 256 (Zr.int .u8)) Zr.nil)))) fun b1 a24 w24 s24 => ?_; clear s23
    refine seq_op s24 rfl rfl (of_decide_eq_true rfl) (ob_assign rfl (.tmp rfl)) fun a25 w25 s25 => ?_; clear s24
    refine seq_opx0 (B' := (fun _ : Unit => [BF b1 93 k_disk_write x1, BF b00 87 (ko_disk_Disk_0_1 w0_0 w0_1) (⟨[], [], p1.fuse, p1.dead⟩ : disk_Disk), RowF w0_1 93 k_disk_write p1.loose, RowF w0_0 91 (karr 256 (kint .u8)) y3])) s25 rfl rfl (ob_store (A := []) rfl tk93 (.tmp rfl) (.tmp rfl) rfl (LS.refl _ _ _) rfl) fun _ a26 w26 s26 => ?_; clear s25
    refine wpList_nil ?_
    refine then_normal ?_
    refine hK7 _ _ ?_
    have s27 := s26.sub (.cons (t := 0) rfl (.cons (t := 1) rfl (.cons (t := 4) rfl (.cons (t := 5) rfl (.cons (t := 10) rfl (.cons (t := 11) rfl (.cons (t := 12) rfl .nil))))))); clear s26
    refine wp_seq_k fun K8 hK8 => ?_
    refine wp_region_lit ?_
    refine seq_op s27 rfl rfl (of_decide_eq_true rfl) (ob_move rfl (.tmp rfl)) fun a28 w28 s28 => ?_; clear s27
    refine seq_op s28 rfl rfl (of_decide_eq_true rfl) (ob_move rfl (.tmp rfl)) fun a29 w29 s29 => ?_; clear s28
    obtain ⟨x2, e_x2, h7⟩ := bind_some h6; clear h6
    refine seq_op s29 rfl rfl (of_decide_eq_true rfl) (ob_callD (args := [_]) rfl (.clo (.tmp rfl)) hb51 (fun a w s fs gs hf hg => by obtain rfl := hf.unnil; obtain ⟨u0, _, rfl, fu0, hg⟩ := hg.uncons; obtain rfl := hg.unnil; exact c_disk_Disk_Crash_1 k _ _ _ e_x2 _ _ _ _ (s.arg (.tmp rfl)) fu0)) fun a30 w30 s30 => ?_; clear s29
    refine seq_op s30 rfl rfl (of_decide_eq_true rfl) (ob_mul rfl (.tmp rfl) (opd_int rfl)) fun a31 w31 s31 => ?_; clear s30
    refine seq_op s31 rfl rfl (of_decide_eq_true rfl) (ob_assign rfl (.tmp rfl)) fun a32 w32 s32 => ?_; clear s31
    refine wpList_nil ?_
    refine then_normal ?_
    refine hK8 _ _ ?_
    have s33 := s32.sub (.cons (t := 0) rfl (.cons (t := 1) rfl (.cons (t := 5) rfl (.cons (t := 6) rfl (.cons (t := 10) rfl (.cons (t := 11) rfl (.cons (t := 12) rfl .nil))))))); clear s32
    obtain ⟨g2, h8⟩ := guard_some h7; clear h7
    obtain ⟨g3, h9⟩ := guard_some h8; clear h8
    obtain ⟨g4, h10⟩ := guard_some h9; clear h9
    refine wp_goes (Fs := [(ptrB b00 0), (ptrB b00 0), (ptrB b00 0), (is w0_0), (ptrB b1 0), ((kint .i64).V x1.at_), (ptrR w0_0 (x1.at_.toNat * 256)), ((kint .i64).V (imul .i64 x2 (64 : Int))), (slR w0_0 (soff 256 (x1.at_.toNat * 256) (0 : Int).toNat 1) ((imul .i64 x2 (64 : Int)).toNat - (0 : Int).toNat) (256 - (0 : Int).toNat)), (ptrB b1 1), ((kint .i64).V (imul .i64 x2 (64 : Int))), (is (.slice (some ⟨b1, soff 256 1 (0 : Int).toNat 1, none⟩) ((imul .i64 x2 (64 : Int)).toNat - (0 : Int).toNat) (256 - (0 : Int).toNat)))]) (bits := [0, 1, 3, 7, 0, 16, 63, 0, 255, 0, 0, 1536, 4095]) (m := 12) (todo := 0) mx s33 ?_; clear s33
    refine goes_last (by kernel_rfl) rfl (opsS_cons (.plain _ (Av.old (t := 0) rfl rfl Av.nil) rfl rfl (ob_move rfl (.tmp rfl))) (opsS_cons (.plain _ (Av.new (j := 0) rfl rfl rfl Av.nil) rfl rfl (ob_nilCheck rfl (.tmp rfl))) (opsS_cons (.plain _ (Av.new (j := 1) rfl rfl rfl Av.nil) rfl rfl (ob_fieldAddr (off' := 0) rfl Try.underlying87 rfl sz84 (by decide) (.tmp rfl) rfl)) (opsS_cons (.plain _ (Av.new (j := 2) rfl rfl rfl Av.nil) rfl rfl (ob_loadRowV rfl (tkr84 _) (.tmp rfl) (.tail _ (.head _)) (lgo_disk_Disk_0_1_firm (⟨[], [], p1.fuse, p1.dead⟩ : disk_Disk)))) (opsS_cons (.plain _ (Av.old (t := 5) rfl rfl Av.nil) rfl rfl (ob_fieldAddr (off' := 0) rfl Try.underlying93 rfl sz3 (by decide) (.tmp rfl) rfl)) (opsS_cons (.plain _ (Av.new (j := 4) rfl rfl rfl Av.nil) rfl rfl (ob_load rfl tk3 (.tmp rfl) (.head _) (lg_disk_write_at_ x1))) (opsS_cons (.plain _ (Av.new (j := 3) rfl rfl rfl (Av.new (j := 5) rfl rfl rfl Av.nil)) rfl rfl (ob_rowAt rfl Try.underlying84 sz91 (.tmp rfl) (.tail _ (.tail _ (.tail _ (.head _)))) (.tmp rfl) g2)) (opsS_cons (.plain _ (Av.old (t := 6) rfl rfl Av.nil) rfl rfl (ob_move rfl (.tmp rfl))) (opsS_cons (.plain _ (Av.new (j := 6) rfl rfl rfl (Av.new (j := 7) rfl rfl rfl Av.nil)) rfl rfl (ob_sliceRow rfl Try.underlying91 sz5 (.tmp rfl) .none (.some (.tmp rfl)) g3)) (opsS_cons (.plain _ (Av.old (t := 5) rfl rfl Av.nil) rfl rfl (ob_fieldAddr (off' := 1) rfl Try.underlying93 rfl sz91 (by decide) (.tmp rfl) rfl)) (opsS_cons (.plain _ (Av.old (t := 6) rfl rfl Av.nil) rfl rfl (ob_move rfl (.tmp rfl))) (opsS_cons (.plain _ (Av.new (j := 9) rfl rfl rfl (Av.new (j := 10) rfl rfl rfl Av.nil)) rfl rfl (ob_sliceArr rfl Try.underlying91 sz5 (.tmp rfl) .none (.some (.tmp rfl)) g4)) opsS_nil)))))))))))) (out_old (t := 0) rfl rfl (out_old (t := 1) rfl rfl (out_old (t := 10) rfl rfl (out_old (t := 11) rfl rfl (out_old (t := 12) rfl rfl (out_new (i := 8) (by decide) rfl rfl (out_new (i := 11) (by decide) rfl rfl out_nil))))))) fun a34 w34 s34 => ?_
    obtain ⟨x3, e_x3, h11⟩ := bind_some h10; clear h10
    obtain ⟨g5, h12⟩ := guard_some h11; clear h11
    obtain ⟨x4, e_x4, h13⟩ := bind_some h12; clear h12
    obtain ⟨x5, e_x5, h14⟩ := bind_some h13; clear h13
    refine seq_opx (B' := (fun _ : Unit => [BF b1 93 k_disk_write x1, BF b00 87 (ko_disk_Disk_0_1 w0_0 w0_1) (⟨[], [], p1.fuse, p1.dead⟩ : disk_Disk), RowF w0_1 93 k_disk_write p1.loose, RowF w0_0 91 (karr 256 (kint .u8)) x5])) s34 rfl rfl (of_decide_eq_true rfl) ((ob_lendX (L := [_, _, _]) (List.Perm.refl _) (.cons (t := 32) rfl (lendSlB (.head _) (lg_disk_write_data x1) e_x3 rfl (cut_len e_x3) (cut_cap e_x3 g4 (by decide))) .nil) (fun _ => (Flat.V (KFlat.int _))) (fun _ => (.cons (FlatO.row (KFlat.arr (KFlat.int _))) FlatL.nil)) (fun _ _ => ob_copyR (A := []) rfl Try.underlying23 sz5 rfl (.tmp rfl) (srcSl rfl (.tmp rfl)) rfl rfl (sl_fit g3) g5 (LG.arrA e_x4) (LS.arrS e_x5) rfl (by decide)))) fun _ a35 w35 s35 => ?_; clear s34
    refine wpList_nil ?_
    refine in_normal ?_
    refine then_normal ?_
    refine hK6 _ _ ?_
    have s36 := s35.sub (.cons (t := 0) rfl (.cons (t := 1) rfl (.cons (t := 10) rfl (.cons (t := 11) rfl (.cons (t := 12) rfl .nil))))); clear s35
    have s37 := St.drop (A := []) s36; clear s36
    refine wp_region_lit ?_
    refine seq_op s37 rfl rfl (of_decide_eq_true rfl) (ob_add rfl (.tmp rfl) (opd_int rfl)) fun a38 w38 s38 => ?_; clear s37
    refine seq_op s38 rfl rfl (of_decide_eq_true rfl) (ob_move rfl (.tmp rfl)) fun a39 w39 s39 => ?_; clear s38
    refine wpList_nil ?_
    refine then_normal ?_
    exact hK3 ((iadd .i64 y2 (1 : Int)), x5) _ _ h14 (s39.sub (.cons rfl (.cons rfl (.cons rfl (.cons rfl (.cons rfl .nil))))))
  · replace h3 := ite_f hc1 h3
    have h15 := h3; clear h3
    refine wp_exit ?_
    refine (then_exit (then_exit (in_here ?_)))
    refine then_normal ?_
    have s40 := s19.perm (toFront [] (toFront [_] (toFront [] (List.Perm.refl _)))); clear s19
    exact hj1 y3 _ _ h15 (s40.sub (.cons rfl .nil))

/- 17 (*cabal/disk.Disk).Crash -/
theorem c_disk_Disk_Crash (k : Nat) (p1 : disk_Disk) (p2 : (List Int)) (r : disk_Disk) (h0 : disk_Disk_Crash k p1 p2 = some r) (ok : Ok) (w0 : World) (z0 : Value) (z1 : Value) (b00 : Nat) (w0_0 : Value) (w0_1 : Value) (l0 : ∀ q, q ∈ [BF b00 87 (ko_disk_Disk_0_1 w0_0 w0_1) (⟨[], [], p1.fuse, p1.dead⟩ : disk_Disk), RowF w0_0 91 (karr 256 (kint .u8)) p1.firm, RowF w0_1 93 k_disk_write p1.loose] → q.holds ok w0) (d0 : ∀ c, c ∈ idsOf [BF b00 87 (ko_disk_Disk_0_1 w0_0 w0_1) (⟨[], [], p1.fuse, p1.dead⟩ : disk_Disk), RowF w0_0 91 (karr 256 (kint .u8)) p1.firm, RowF w0_1 93 k_disk_write p1.loose] → ¬ ok c) (nd : (idsOf [BF b00 87 (ko_disk_Disk_0_1 w0_0 w0_1) (⟨[], [], p1.fuse, p1.dead⟩ : disk_Disk), RowF w0_0 91 (karr 256 (kint .u8)) p1.firm, RowF w0_1 93 k_disk_write p1.loose]).Nodup) (u0 : (ptrB b00 0).holds ok w0 z0) (u1 : ((ksl (kint .u8)).V p2).holds ok w0 z1) :
    GivesX Try.prog 17 [z0, z1] ok w0 [BF b00 87 (ko_disk_Disk_0_1 w0_0 w0_1) (⟨[], [], p1.fuse, p1.dead⟩ : disk_Disk), RowF w0_0 91 (karr 256 (kint .u8)) p1.firm, RowF w0_1 93 k_disk_write p1.loose] (fun g : Value × Value => resFact []) (fun g : Value × Value => [BF b00 87 (ko_disk_Disk_0_1 (g.1) (g.2)) (⟨[], [], r.fuse, r.dead⟩ : disk_Disk), RowF (g.1) 91 (karr 256 (kint .u8)) r.firm, RowF (g.2) 93 k_disk_write r.loose]) := by
  unfold disk_Disk_Crash at h0
  refine enterX (N := 15) Try.func17 rfl rfl (of_decide_eq_true rfl) (.cons u0 (.cons u1 .nil)) nd l0 d0 fun a1 s1 => ?_
  refine wp_seq_k fun K1 hK1 => ?_
  refine wp_region_lit ?_
  refine seq_opx (B' := (fun b1 : Nat => [BF b1 23 (ksl (kint .u8)) p2, BF b00 87 (ko_disk_Disk_0_1 w0_0 w0_1) (⟨[], [], p1.fuse, p1.dead⟩ : disk_Disk), RowF w0_0 91 (karr 256 (kint .u8)) p1.firm, RowF w0_1 93 k_disk_write p1.loose])) s1 rfl rfl (of_decide_eq_true rfl) (ob_box rfl (.tmp rfl)) fun b1 a2 w2 s2 => ?_; clear s1
  refine wpList_nil ?_
  refine then_normal ?_
  refine hK1 _ _ ?_
  have s3 := s2.sub (.cons (t := 0) rfl (.cons (t := 3) rfl .nil)); clear s2
  refine wp_seq_k fun K2 hK2 => ?_
  refine wp_seq_k fun K3 hK3 => ?_
  refine wp_region_lit ?_
  refine seq_op s3 rfl rfl (of_decide_eq_true rfl) (ob_move rfl (.tmp rfl)) fun a4 w4 s4 => ?_; clear s3
  refine seq_op s4 rfl rfl (of_decide_eq_true rfl) (ob_ptrNil (p := some _) rfl pt25 (.tmp rfl) opd_is) fun a5 w5 s5 => ?_; clear s4
  refine wpList_nil ?_
  refine then_normal ?_
  refine hK3 _ _ ?_
  have s6 := s5.sub (.cons (t := 0) rfl (.cons (t := 3) rfl (.cons (t := 5) rfl .nil))); clear s5
  refine cond_f s6 (.tmp rfl) ?_
  refine wp_skip ?_
  refine then_normal ?_
  refine hK2 _ _ ?_
  have s7 := s6.sub (.cons (t := 0) rfl (.cons (t := 3) rfl .nil)); clear s6
  refine wp_seq_k fun K4 hK4 => ?_
  refine wp_region_lit ?_
  refine seq_op s7 rfl rfl (of_decide_eq_true rfl) (ob_move rfl (.tmp rfl)) fun a8 w8 s8 => ?_; clear s7
  refine seq_op s8 rfl rfl (of_decide_eq_true rfl) (ob_makeFn (xs := []) (ys := [_]) rfl .nil (.cons (.tmp rfl) .nil)) fun a9 w9 s9 => ?_; clear s8
  obtain ⟨x1, e_x1, h1⟩ := bind_some h0; clear h0
  refine seq_opx (B' := (fun gg : Value × Value => [BF b1 23 (ksl (kint .u8)) p2, BF b00 87 (ko_disk_Disk_0_1 gg.1 gg.2) (⟨[], [], x1.fuse, x1.dead⟩ : disk_Disk), RowF gg.1 91 (karr 256 (kint .u8)) x1.firm, RowF gg.2 93 k_disk_write x1.loose])) s9 rfl rfl (of_decide_eq_true rfl) ((ob_lendX (L := [_]) (List.Perm.refl _) (.cons (t := 7) rfl (lendClo .nil (.cons (lendPtrB (.head _) (LG.refl _ _)) .nil)) .nil) (fun _ => (Flat.res0)) (fun _ => (.cons (FlatO.bf (KFlat.iso (KFlat.pair (KFlat.kis _) (KFlat.pair (KFlat.kis _) (KFlat.pair (KFlat.int _) (KFlat.pair KFlat.bool KFlat.nil)))))) (.cons (FlatO.row (KFlat.arr (KFlat.int _))) (.cons (FlatO.row kf_disk_write) FlatL.nil)))) (fun _ _ => ob_callL (args := [_, _]) (L := [_, _, _]) (D := []) rfl .direct hb48 (List.Perm.refl _) (fun a w s fs gs hf hg => by obtain rfl := hf.unnil; obtain rfl := hg.unnil; exact c_disk_Disk_settle_disk_Disk_Crash_1 k _ _ _ e_x1 _ _ _ _ _ _ _ (ownL s) (disL s) (nodL s) (s.arg (.tmp rfl)) (s.arg (.tmp rfl))) (by exact fun _ => rfl)))) fun gg10 a10 w10 s10 => ?_; clear s9
  obtain ⟨v1, v2⟩ := gg10
  refine wpList_nil ?_
  refine then_normal ?_
  refine hK4 _ _ ?_
  have s11 := s10.sub (.cons (t := 0) rfl .nil); clear s10
  have s12 := St.drop (A := []) s11; clear s11
  refine wp_region_lit ?_
  refine seq_op s12 rfl rfl (of_decide_eq_true rfl) (ob_move rfl (.tmp rfl)) fun a13 w13 s13 => ?_; clear s12
  refine seq_op s13 rfl rfl (of_decide_eq_true rfl) (ob_move rfl (.tmp rfl)) fun a14 w14 s14 => ?_; clear s13
  refine seq_op s14 rfl rfl (of_decide_eq_true rfl) (ob_nilCheck rfl (.tmp rfl)) fun a15 w15 s15 => ?_; clear s14
  refine seq_op s15 rfl rfl (of_decide_eq_true rfl) (ob_fieldAddr (off' := 2) rfl Try.underlying87 rfl sz3 (by decide) (.tmp rfl) rfl) fun a16 w16 s16 => ?_; clear s15
  refine seq_opx0 (B' := (fun _ : Unit => [BF b00 87 (ko_disk_Disk_0_1 v1 v2) (⟨[], [], (-1 : Int), x1.dead⟩ : disk_Disk), RowF v1 91 (karr 256 (kint .u8)) x1.firm, RowF v2 93 k_disk_write x1.loose])) s16 rfl rfl (ob_store (A := []) rfl tk3 (.tmp rfl) (opd_int rfl) rfl (lso_disk_Disk_0_1_fuse (⟨[], [], x1.fuse, x1.dead⟩ : disk_Disk) (-1 : Int)) rfl) fun _ a17 w17 s17 => ?_; clear s16
  refine seq_op s17 rfl rfl (of_decide_eq_true rfl) (ob_nilCheck rfl (.tmp rfl)) fun a18 w18 s18 => ?_; clear s17
  refine seq_op s18 rfl rfl (of_decide_eq_true rfl) (ob_fieldAddr (off' := 3) rfl Try.underlying87 rfl sz4 (by decide) (.tmp rfl) rfl) fun a19 w19 s19 => ?_; clear s18
  refine seq_opx0 (B' := (fun _ : Unit => [BF b00 87 (ko_disk_Disk_0_1 v1 v2) (⟨[], [], (-1 : Int), false⟩ : disk_Disk), RowF v1 91 (karr 256 (kint .u8)) x1.firm, RowF v2 93 k_disk_write x1.loose])) s19 rfl rfl (ob_store (A := []) rfl tk4 (.tmp rfl) opd_bool rfl (lso_disk_Disk_0_1_dead (⟨[], [], (-1 : Int), x1.dead⟩ : disk_Disk) false) rfl) fun _ a20 w20 s20 => ?_; clear s19
  refine wpList_nil ?_
  obtain rfl := Option.some.inj h1
  exact leaveXD (D := []) ⟨v1, v2⟩ s20 rfl (.inr rfl) rfl .nil rfl

/- 18 (*cabal/disk.Disk).Settled -/
theorem c_disk_Disk_Settled (k : Nat) (p1 : disk_Disk) (p2 : Int) (r : (List Int)) (h0 : disk_Disk_Settled k p1 p2 = some r) (ok : Ok) (w0 : World) (z0 : Value) (z1 : Value) (u0 : (ptrTo k_disk_Disk p1).holds ok w0 z0) (u1 : ((kint .i64).V p2).holds ok w0 z1) :
    Gives Try.prog 18 [z0, z1] ok w0 (resFact [kstr.V r]) := by
  unfold disk_Disk_Settled at h0
  refine enter (N := 17) Try.func18 rfl rfl (of_decide_eq_true rfl) (.cons u0 (.cons u1 .nil)) fun a1 s1 => ?_
  refine wp_seq_k fun K1 hK1 => ?_
  refine wp_region_lit ?_
  refine seq_op s1 rfl rfl (of_decide_eq_true rfl) (ob_assign rfl (opd_str (by rfl) (by decide))) fun a2 w2 s2 => ?_; clear s1
  refine wpList_nil ?_
  refine then_normal ?_
  refine hK1 _ _ ?_
  have s3 := s2.sub (.cons (t := 0) rfl (.cons (t := 1) rfl .nil)); clear s2
  refine wp_seq_k fun K2 hK2 => ?_
  refine wp_seq_k fun K3 hK3 => ?_
  refine wp_region_lit ?_
  refine seq_op s3 rfl rfl (of_decide_eq_true rfl) (ob_move rfl (.tmp rfl)) fun a4 w4 s4 => ?_; clear s3
  refine seq_op s4 rfl rfl (of_decide_eq_true rfl) (ob_move rfl (.tmp rfl)) fun a5 w5 s5 => ?_; clear s4
  obtain ⟨x1, e_x1, h1⟩ := bind_some h0; clear h0
  refine seq_op s5 rfl rfl (of_decide_eq_true rfl) (ob_callD (args := [_, _]) rfl .direct hb50 (fun a w s fs gs hf hg => by obtain rfl := hf.unnil; obtain rfl := hg.unnil; exact c_disk_Disk_has k _ _ _ e_x1 _ _ _ _ (s.arg (.tmp rfl)) (s.arg (.tmp rfl)))) fun a6 w6 s6 => ?_; clear s5
  refine seq_op s6 rfl rfl (of_decide_eq_true rfl) (ob_not rfl (.tmp rfl)) fun a7 w7 s7 => ?_; clear s6
  refine wpList_nil ?_
  refine then_normal ?_
  refine hK3 _ _ ?_
  have s8 := s7.sub (.cons (t := 0) rfl (.cons (t := 1) rfl (.cons (t := 8) rfl .nil))); clear s7
  refine cond_split s8 (.tmp rfl) (fun hc1 => ?_) (fun hc1 => ?_)
  · replace h1 := ite_t hc1 h1
    have h2 := h1; clear h1
    refine wp_seq_k fun K4 hK4 => ?_
    refine wp_region_lit ?_
    refine seq_op s8 rfl rfl (of_decide_eq_true rfl) (ob_assign rfl (opd_str (by rfl) (by decide))) fun a9 w9 s9 => ?_; clear s8
    refine wpList_nil ?_
    refine then_normal ?_
    refine hK4 _ _ ?_
    have s10 := s9.sub (.cons (t := 4) rfl .nil); clear s9
    refine wp_ret ?_
    obtain rfl := Option.some.inj h2
    exact leave s10 (.inl rfl) rfl (.cons (.tmp rfl) .nil)
  · replace h1 := ite_f hc1 h1
    have h3 := h1; clear h1
    refine wp_skip ?_
    refine then_normal ?_
    refine hK2 _ _ ?_
    have s11 := s8.sub (.cons (t := 0) rfl (.cons (t := 1) rfl .nil)); clear s8
    refine wp_seq_k fun K5 hK5 => ?_
    refine wp_region_lit ?_
    refine seq_op s11 rfl rfl (of_decide_eq_true rfl) (ob_move rfl (.tmp rfl)) fun a12 w12 s12 => ?_; clear s11
    refine seq_op s12 rfl rfl (of_decide_eq_true rfl) (ob_nilCheckr rfl (.tmp rfl)) fun a13 w13 s13 => ?_; clear s12
    refine seq_op s13 rfl rfl (of_decide_eq_true rfl) (ob_fieldAddrr rfl Try.underlying87 rfl sz84 (by decide) (.tmp rfl) (lg_disk_Disk_firm p1)) fun a14 w14 s14 => ?_; clear s13
    refine seq_op s14 rfl rfl (of_decide_eq_true rfl) (ob_loadr rfl tk84 (.tmp rfl)) fun a15 w15 s15 => ?_; clear s14
    refine seq_op s15 rfl rfl (of_decide_eq_true rfl) (ob_move rfl (.tmp rfl)) fun a16 w16 s16 => ?_; clear s15
    obtain ⟨x2, e_x2, h4⟩ := bind_some h3; clear h3
    refine seq_op s16 rfl rfl (of_decide_eq_true rfl) (ob_indexAddrs rfl Try.underlying84 sz91 (.tmp rfl) (.tmp rfl) e_x2) fun a17 w17 s17 => ?_; clear s16
    obtain ⟨x3, e_x3, h5⟩ := bind_some h4; clear h4
    refine seq_op s17 rfl rfl (of_decide_eq_true rfl) (ob_sliceArrr rfl Try.underlying91 sz5 (.tmp rfl) (by decide) .none .none e_x3) fun a18 w18 s18 => ?_; clear s17
    refine seq_op s18 rfl rfl (of_decide_eq_true rfl) (ob_bytesToStr rfl Try.underlying23 Try.underlying9 Try.underlying5 (.tmp rfl)) fun a19 w19 s19 => ?_; clear s18
    refine seq_op s19 rfl rfl (of_decide_eq_true rfl) (ob_assign rfl (.tmp rfl)) fun a20 w20 s20 => ?_; clear s19
    refine wpList_nil ?_
    refine then_normal ?_
    refine hK5 _ _ ?_
    have s21 := s20.sub (.cons (t := 4) rfl .nil); clear s20
    refine wp_ret ?_
    obtain rfl := Option.some.inj h5
    exact leave s21 (.inl rfl) rfl (.cons (.tmp rfl) .nil)

/- 25 (*cabal/disk.Disk).Dead -/
theorem c_disk_Disk_Dead (k : Nat) (p1 : disk_Disk) (r : Bool) (h0 : disk_Disk_Dead k p1 = some r) (ok : Ok) (w0 : World) (z0 : Value) (u0 : (ptrTo k_disk_Disk p1).holds ok w0 z0) :
    Gives Try.prog 25 [z0] ok w0 (resFact [kbool.V r]) := by
  unfold disk_Disk_Dead at h0
  refine enter (N := 11) Try.func25 rfl rfl (of_decide_eq_true rfl) (.cons u0 .nil) fun a1 s1 => ?_
  refine wp_seq_k fun K1 hK1 => ?_
  refine wp_region_lit ?_
  refine seq_op s1 rfl rfl (of_decide_eq_true rfl) (ob_assign rfl opd_bool) fun a2 w2 s2 => ?_; clear s1
  refine wpList_nil ?_
  refine then_normal ?_
  refine hK1 _ _ ?_
  have s3 := s2.sub (.cons (t := 0) rfl .nil); clear s2
  refine wp_seq_k fun K2 hK2 => ?_
  refine wp_region_lit ?_
  refine seq_op s3 rfl rfl (of_decide_eq_true rfl) (ob_move rfl (.tmp rfl)) fun a4 w4 s4 => ?_; clear s3
  refine seq_op s4 rfl rfl (of_decide_eq_true rfl) (ob_ptrrNil rfl pt25 (.tmp rfl) opd_is) fun a5 w5 s5 => ?_; clear s4
  refine seq_op s5 rfl rfl (of_decide_eq_true rfl) (ob_move rfl (.tmp rfl)) fun a6 w6 s6 => ?_; clear s5
  refine seq_opg s6 rfl rfl rfl rfl (of_decide_eq_true rfl) (fun hb => ob_move rfl (.tmp rfl)) fun a7 w7 s7 => ?_; clear s6
  refine seq_opg s7 rfl rfl rfl rfl (of_decide_eq_true rfl) (fun hb => (Ob.uncond (t := 6) hb rfl (ob_nilCheckr rfl (.tmp rfl)))) fun a8 w8 s8 => ?_; clear s7
  refine seq_opg s8 rfl rfl rfl rfl (of_decide_eq_true rfl) (fun hb => (Ob.uncond (t := 7) hb rfl (ob_fieldAddrr rfl Try.underlying87 rfl sz4 (by decide) (.tmp rfl) (lg_disk_Disk_dead p1)))) fun a9 w9 s9 => ?_; clear s8
  refine seq_opg s9 rfl rfl rfl rfl (of_decide_eq_true rfl) (fun hb => (Ob.uncond (t := 8) hb rfl (ob_loadr rfl tk4 (.tmp rfl)))) fun a10 w10 s10 => ?_; clear s9
  refine seq_op s10 rfl rfl (of_decide_eq_true rfl) (ob_or2 rfl (.tmp rfl) opd_bool (.tmp rfl)) fun a11 w11 s11 => ?_; clear s10
  refine seq_op s11 rfl rfl (of_decide_eq_true rfl) (ob_assign rfl (.tmp rfl)) fun a12 w12 s12 => ?_; clear s11
  refine wpList_nil ?_
  refine then_normal ?_
  refine hK2 _ _ ?_
  have s13 := s12.sub (.cons (t := 2) rfl .nil); clear s12
  refine wp_ret ?_
  obtain rfl := Option.some.inj h0
  exact leave s13 (.inl rfl) rfl (.cons (.tmp rfl) .nil)

/- 11 cabal/caballaw12.alive -/
theorem c_caballaw12_alive (k : Nat) (r : Bool) (h0 : caballaw12_alive k = some r) (ok : Ok) (w0 : World) :
    Gives Try.prog 11 [] ok w0 (resFact [kbool.V r]) := by
  unfold caballaw12_alive at h0
  refine enter (N := 45) Try.func11 rfl rfl (of_decide_eq_true rfl) .nil fun a1 s1 => ?_
  refine wp_seq_k fun K1 hK1 => ?_
  refine wp_region_lit ?_
  refine seq_op s1 rfl rfl (of_decide_eq_true rfl) (ob_assign rfl opd_bool) fun a2 w2 s2 => ?_; clear s1
  refine wpList_nil ?_
  refine then_normal ?_
  refine hK1 _ _ ?_
  have s3 := s2.sub .nil; clear s2
  refine wp_seq_k fun K2 hK2 => ?_
  refine wp_region_lit ?_
  obtain ⟨x1, e_x1, h1⟩ := bind_some h0; clear h0
  refine seq_opx (B' := (fun gg : Nat × Value × Value => [BF gg.1 87 (ko_disk_Disk_0_1 gg.2.1 gg.2.2) (⟨[], [], x1.fuse, x1.dead⟩ : disk_Disk), RowF gg.2.1 91 (karr 256 (kint .u8)) x1.firm, RowF gg.2.2 93 k_disk_write x1.loose])) s3 rfl rfl (of_decide_eq_true rfl) (ob_callL (args := [_]) (L := []) rfl .direct hb12 (List.Perm.refl _) (fun a w s fs gs hf hg => by obtain rfl := hf.unnil; obtain rfl := hg.unnil; exact c_disk_New k _ _ e_x1 _ _ _ (s.arg (opd_int rfl))) (by exact fun _ => rfl)) fun gg4 a4 w4 s4 => ?_; clear s3
  obtain ⟨b1, v1, v2⟩ := gg4
  refine seq_op s4 rfl rfl (of_decide_eq_true rfl) (ob_assign rfl (.tmp rfl)) fun a5 w5 s5 => ?_; clear s4
  refine wpList_nil ?_
  refine then_normal ?_
  refine hK2 _ _ ?_
  have s6 := s5.sub (.cons (t := 1) rfl .nil); clear s5
  refine wp_seq_k fun K3 hK3 => ?_
  refine wp_region_lit ?_
  refine seq_op s6 rfl rfl (of_decide_eq_true rfl) (ob_move rfl (.tmp rfl)) fun a7 w7 s7 => ?_; clear s6
  obtain ⟨x2, e_x2, h2⟩ := bind_some h1; clear h1
  refine seq_op s7 rfl rfl (of_decide_eq_true rfl) (ob_callD (args := [_, _]) rfl .direct hb16 (fun a w s fs gs hf hg => by obtain rfl := hf.unnil; obtain rfl := hg.unnil; exact c_caballaw12_data k _ _ _ e_x2 _ _ _ _ (s.arg (opd_int rfl)) (s.arg (opd_int rfl)))) fun a8 w8 s8 => ?_; clear s7
  obtain ⟨x3, e_x3, h3⟩ := bind_some h2; clear h2
  refine seq_opx (B' := (fun gg : Value × Value => [BF b1 87 (ko_disk_Disk_0_1 gg.1 gg.2) (⟨[], [], x3.2.fuse, x3.2.dead⟩ : disk_Disk), RowF gg.1 91 (karr 256 (kint .u8)) x3.2.firm, RowF gg.2 93 k_disk_write x3.2.loose])) s8 rfl rfl (of_decide_eq_true rfl) (ob_callL (args := [_, _, _]) (L := [_, _, _]) rfl .direct hb15 (List.Perm.refl _) (fun a w s fs gs hf hg => by obtain rfl := hf.unnil; obtain rfl := hg.unnil; exact c_disk_Disk_Write k _ _ _ _ e_x3 _ _ _ _ _ _ _ _ (ownL s) (disL s) (nodL s) (s.arg (.tmp rfl)) (s.arg (opd_int rfl)) (s.arg (.tmp rfl))) (by exact fun _ => rfl)) fun gg9 a9 w9 s9 => ?_; clear s8
  obtain ⟨v3, v4⟩ := gg9
  refine seq_op s9 rfl rfl (of_decide_eq_true rfl) (ob_assign rfl (.tmp rfl)) fun a10 w10 s10 => ?_; clear s9
  refine wpList_nil ?_
  refine then_normal ?_
  refine hK3 _ _ ?_
  have s11 := s10.sub (.cons (t := 1) rfl (.cons (t := 2) rfl .nil)); clear s10
  refine wp_seq_k fun K4 hK4 => ?_
  refine wp_region_lit ?_
  refine seq_op s11 rfl rfl (of_decide_eq_true rfl) (ob_move rfl (.tmp rfl)) fun a12 w12 s12 => ?_; clear s11
  refine seq_op s12 rfl rfl (of_decide_eq_true rfl) (ob_mkSlice (k := (kint .u8)) (xs := ([(2 : Int)] : (List Int))) rfl Try.underlying23 zz5 sz5 (Zr.int .u8) (by decide) (by decide) (.cons (opd_int rfl) rfl (LS.arr' (i := 0) (ys := ([(2 : Int)] : (List Int))) (by simp) (by rfl)) (.nil _))) fun a13 w13 s13 => ?_; clear s12
  obtain ⟨x4, e_x4, h4⟩ := bind_some h3; clear h3
  refine seq_opx (B' := (fun gg : Value × Value => [BF b1 87 (ko_disk_Disk_0_1 gg.1 gg.2) (⟨[], [], x4.fuse, x4.dead⟩ : disk_Disk), RowF gg.1 91 (karr 256 (kint .u8)) x4.firm, RowF gg.2 93 k_disk_write x4.loose])) s13 rfl rfl (of_decide_eq_true rfl) (ob_callL (args := [_, _]) (L := [_, _, _]) rfl .direct hb17 (List.Perm.refl _) (fun a w s fs gs hf hg => by obtain rfl := hf.unnil; obtain rfl := hg.unnil; exact c_disk_Disk_Crash k _ _ _ e_x4 _ _ _ _ _ _ _ (ownL s) (disL s) (nodL s) (s.arg (.tmp rfl)) (s.arg (.tmp rfl))) (by exact fun _ => rfl)) fun gg14 a14 w14 s14 => ?_; clear s13
  obtain ⟨v5, v6⟩ := gg14
  refine wpList_nil ?_
  refine then_normal ?_
  refine hK4 _ _ ?_
  have s15 := s14.sub (.cons (t := 1) rfl (.cons (t := 2) rfl .nil)); clear s14
  refine wp_seq_k fun K5 hK5 => ?_
  refine wp_region_lit ?_
  refine seq_op s15 rfl rfl (of_decide_eq_true rfl) (ob_move rfl (.tmp rfl)) fun a16 w16 s16 => ?_; clear s15
  obtain ⟨x5, e_x5, h5⟩ := bind_some h4; clear h4
  refine seq_op s16 rfl rfl (of_decide_eq_true rfl) ((ob_lendG (L := [_, _, _]) (List.Perm.refl _) (.cons (t := 11) rfl (lendObj (K' := k_disk_Disk) (X' := x4) (.head _) rfl (upo_disk_Disk_0_1 rfl (.row (LetAll.row (.tail _ (.head _)))) (.row (LetAll.row (.tail _ (.tail _ (.head _))))))) .nil) (Flat.res1 (Flat.V KFlat.str)) (fun _ => ob_callD (args := [_, _]) rfl .direct hb18 (fun a w s fs gs hf hg => by obtain rfl := hf.unnil; obtain rfl := hg.unnil; exact c_disk_Disk_Settled k _ _ _ e_x5 _ _ _ _ (s.arg (.tmp rfl)) (s.arg (opd_int rfl)))))) fun a17 w17 s17 => ?_; clear s16
  refine seq_op s17 rfl rfl (of_decide_eq_true rfl) (ob_assign rfl (.tmp rfl)) fun a18 w18 s18 => ?_; clear s17
  refine wpList_nil ?_
  refine then_normal ?_
  refine hK5 _ _ ?_
  have s19 := s18.sub (.cons (t := 1) rfl (.cons (t := 2) rfl (.cons (t := 3) rfl .nil))); clear s18
  refine wp_seq_k fun K6 hK6 => ?_
  refine wp_region_lit ?_
  refine seq_op s19 rfl rfl (of_decide_eq_true rfl) (ob_move rfl (.tmp rfl)) fun a20 w20 s20 => ?_; clear s19
  refine seq_op s20 rfl rfl (of_decide_eq_true rfl) (ob_eql rfl (.tmp rfl) (opd_int rfl)) fun a21 w21 s21 => ?_; clear s20
  refine seq_op s21 rfl rfl (of_decide_eq_true rfl) (ob_move rfl (.tmp rfl)) fun a22 w22 s22 => ?_; clear s21
  refine seq_opg s22 rfl rfl rfl rfl (of_decide_eq_true rfl) (fun hb => ob_move rfl (.tmp rfl)) fun a23 w23 s23 => ?_; clear s22
  obtain ⟨x6, e_x6, h6⟩ := bind_some h5; clear h5
  refine seq_opg s23 rfl rfl rfl rfl (of_decide_eq_true rfl) (fun hb => (Ob.uncond (t := 16) hb rfl ((ob_lendG (L := [_, _, _]) (List.Perm.refl _) (.cons (t := 16) rfl (lendObj (K' := k_disk_Disk) (X' := x4) (.head _) rfl (upo_disk_Disk_0_1 rfl (.row (LetAll.row (.tail _ (.head _)))) (.row (LetAll.row (.tail _ (.tail _ (.head _))))))) .nil) (Flat.res1 (Flat.V (KFlat.int _))) (fun _ => ob_callD (args := [_]) rfl .direct hb26 (fun a w s fs gs hf hg => by obtain rfl := hf.unnil; obtain rfl := hg.unnil; exact c_disk_Disk_Blocks k _ _ (ite_t hb e_x6) _ _ _ (s.arg (.tmp rfl)))))))) fun a24 w24 s24 => ?_; clear s23
  refine seq_opg s24 rfl rfl rfl rfl (of_decide_eq_true rfl) (fun hb => (Ob.uncond (t := 17) hb rfl (ob_eql rfl (.tmp rfl) (opd_int rfl)))) fun a25 w25 s25 => ?_; clear s24
  refine seq_op s25 rfl rfl (of_decide_eq_true rfl) (ob_and2 rfl (.tmp rfl) (.tmp rfl) opd_bool) fun a26 w26 s26 => ?_; clear s25
  refine seq_op s26 rfl rfl (of_decide_eq_true rfl) (ob_move rfl (.tmp rfl)) fun a27 w27 s27 => ?_; clear s26
  refine seq_opg s27 rfl rfl rfl rfl (of_decide_eq_true rfl) (fun hb => ob_move rfl (.tmp rfl)) fun a28 w28 s28 => ?_; clear s27
  refine seq_opg s28 rfl rfl rfl rfl (of_decide_eq_true rfl) (fun hb => (Ob.uncond (t := 21) hb rfl (ob_lenStr rfl Try.underlying9 (.tmp rfl)))) fun a29 w29 s29 => ?_; clear s28
  refine seq_opg s29 rfl rfl rfl rfl (of_decide_eq_true rfl) (fun hb => (Ob.uncond (t := 22) hb rfl (ob_eql rfl (.tmp rfl) (opd_int rfl)))) fun a30 w30 s30 => ?_; clear s29
  obtain ⟨x7, e_x7, h7⟩ := bind_some h6; clear h6; replace e_x7 := Option.some.inj e_x7
  refine seq_op s30 rfl rfl (of_decide_eq_true rfl) ((ob_and2 rfl (.tmp rfl) (.tmp rfl) opd_bool).nm e_x7) fun a31 w31 s31 => ?_; clear s30
  refine seq_op s31 rfl rfl (of_decide_eq_true rfl) (ob_move rfl (.tmp rfl)) fun a32 w32 s32 => ?_; clear s31
  refine seq_opg s32 rfl rfl rfl rfl (of_decide_eq_true rfl) (fun hb => ob_move rfl (.tmp rfl)) fun a33 w33 s33 => ?_; clear s32
  obtain ⟨x8, e_x8, h8⟩ := bind_some h7; clear h7
  refine seq_opg s33 rfl rfl rfl rfl (of_decide_eq_true rfl) (fun hb => (Ob.uncond (t := 26) hb rfl (ob_indexStr rfl Try.underlying9 (.tmp rfl) (opd_int rfl) (ite_t hb e_x8)))) fun a34 w34 s34 => ?_; clear s33
  refine seq_opg s34 rfl rfl rfl rfl (of_decide_eq_true rfl) (fun hb => (Ob.uncond (t := 27) hb rfl (ob_eql rfl (.tmp rfl) (opd_int rfl)))) fun a35 w35 s35 => ?_; clear s34
  refine seq_op s35 rfl rfl (of_decide_eq_true rfl) (ob_and2 rfl (.tmp rfl) (.tmp rfl) opd_bool) fun a36 w36 s36 => ?_; clear s35
  refine seq_op s36 rfl rfl (of_decide_eq_true rfl) (ob_move rfl (.tmp rfl)) fun a37 w37 s37 => ?_; clear s36
  refine seq_opg s37 rfl rfl rfl rfl (of_decide_eq_true rfl) (fun hb => ob_move rfl (.tmp rfl)) fun a38 w38 s38 => ?_; clear s37
  obtain ⟨x9, e_x9, h9⟩ := bind_some h8; clear h8
  refine seq_opg s38 rfl rfl rfl rfl (of_decide_eq_true rfl) (fun hb => (Ob.uncond (t := 31) hb rfl (ob_indexStr rfl Try.underlying9 (.tmp rfl) (opd_int rfl) (ite_t hb e_x9)))) fun a39 w39 s39 => ?_; clear s38
  refine seq_opg s39 rfl rfl rfl rfl (of_decide_eq_true rfl) (fun hb => (Ob.uncond (t := 32) hb rfl (ob_eql rfl (.tmp rfl) (opd_int rfl)))) fun a40 w40 s40 => ?_; clear s39
  obtain ⟨x10, e_x10, h10⟩ := bind_some h9; clear h9; replace e_x10 := Option.some.inj e_x10
  refine seq_op s40 rfl rfl (of_decide_eq_true rfl) ((ob_and2 rfl (.tmp rfl) (.tmp rfl) opd_bool).nm e_x10) fun a41 w41 s41 => ?_; clear s40
  refine seq_op s41 rfl rfl (of_decide_eq_true rfl) (ob_move rfl (.tmp rfl)) fun a42 w42 s42 => ?_; clear s41
  refine seq_opg s42 rfl rfl rfl rfl (of_decide_eq_true rfl) (fun hb => ob_move rfl (.tmp rfl)) fun a43 w43 s43 => ?_; clear s42
  obtain ⟨x11, e_x11, h11⟩ := bind_some h10; clear h10
  refine seq_opg s43 rfl rfl rfl rfl (of_decide_eq_true rfl) (fun hb => (Ob.uncond (t := 36) hb rfl (ob_indexStr rfl Try.underlying9 (.tmp rfl) (opd_int rfl) (ite_t hb e_x11)))) fun a44 w44 s44 => ?_; clear s43
  refine seq_opg s44 rfl rfl rfl rfl (of_decide_eq_true rfl) (fun hb => (Ob.uncond (t := 37) hb rfl (ob_eql rfl (.tmp rfl) (opd_int rfl)))) fun a45 w45 s45 => ?_; clear s44
  refine seq_op s45 rfl rfl (of_decide_eq_true rfl) (ob_and2 rfl (.tmp rfl) (.tmp rfl) opd_bool) fun a46 w46 s46 => ?_; clear s45
  refine seq_op s46 rfl rfl (of_decide_eq_true rfl) (ob_move rfl (.tmp rfl)) fun a47 w47 s47 => ?_; clear s46
  refine seq_opg s47 rfl rfl rfl rfl (of_decide_eq_true rfl) (fun hb => ob_move rfl (.tmp rfl)) fun a48 w48 s48 => ?_; clear s47
  obtain ⟨x12, e_x12, h12⟩ := bind_some h11; clear h11
  refine seq_opg s48 rfl rfl rfl rfl (of_decide_eq_true rfl) (fun hb => (Ob.uncond (t := 41) hb rfl ((ob_lendG (L := [_, _, _]) (List.Perm.refl _) (.cons (t := 41) rfl (lendObj (K' := k_disk_Disk) (X' := x4) (.head _) rfl (upo_disk_Disk_0_1 rfl (.row (LetAll.row (.tail _ (.head _)))) (.row (LetAll.row (.tail _ (.tail _ (.head _))))))) .nil) (Flat.res1 (Flat.V KFlat.bool)) (fun _ => ob_callD (args := [_]) rfl .direct hb25 (fun a w s fs gs hf hg => by obtain rfl := hf.unnil; obtain rfl := hg.unnil; exact c_disk_Disk_Dead k _ _ (ite_t hb e_x12) _ _ _ (s.arg (.tmp rfl)))))))) fun a49 w49 s49 => ?_; clear s48
  refine seq_opg s49 rfl rfl rfl rfl (of_decide_eq_true rfl) (fun hb => (Ob.uncond (t := 42) hb rfl (ob_not rfl (.tmp rfl)))) fun a50 w50 s50 => ?_; clear s49
  obtain ⟨x13, e_x13, h13⟩ := bind_some h12; clear h12; replace e_x13 := Option.some.inj e_x13
  refine seq_op s50 rfl rfl (of_decide_eq_true rfl) ((ob_and2 rfl (.tmp rfl) (.tmp rfl) opd_bool).nm e_x13) fun a51 w51 s51 => ?_; clear s50
  refine seq_op s51 rfl rfl (of_decide_eq_true rfl) (ob_assign rfl (.tmp rfl)) fun a52 w52 s52 => ?_; clear s51
  refine wpList_nil ?_
  refine then_normal ?_
  refine hK6 _ _ ?_
  have s53 := s52.sub (.cons (t := 0) rfl .nil); clear s52
  have s54 := St.drop (A := []) s53; clear s53
  have s55 := St.drop (A := []) s54; clear s54
  have s56 := St.drop (A := []) s55; clear s55
  refine wp_ret ?_
  obtain rfl := Option.some.inj h13
  exact leave s56 (.inl rfl) rfl (.cons (.tmp rfl) .nil)

/- 49 (*cabal/disk.Disk).Sync$1 -/
theorem c_disk_Disk_Sync_1 (k : Nat) (p1 : Int) (r : Int) (h0 : disk_Disk_Sync_1 k p1 = some r) (ok : Ok) (w0 : World) (z0 : Value) (u0 : ((kint .i64).V p1).holds ok w0 z0) :
    Gives Try.prog 49 [z0] ok w0 (resFact [(kint .i64).V r]) := by
  unfold disk_Disk_Sync_1 at h0
  refine enter (N := 3) Try.func49 rfl rfl (of_decide_eq_true rfl) (.cons u0 .nil) fun a1 s1 => ?_
  refine wp_seq_k fun K1 hK1 => ?_
  refine wp_region_lit ?_
  refine seq_op s1 rfl rfl (of_decide_eq_true rfl) (ob_assign rfl (opd_int rfl)) fun a2 w2 s2 => ?_; clear s1
  refine wpList_nil ?_
  refine then_normal ?_
  refine hK1 _ _ ?_
  have s3 := s2.sub .nil; clear s2
  refine wp_seq_k fun K2 hK2 => ?_
  refine wp_region_lit ?_
  refine seq_op s3 rfl rfl (of_decide_eq_true rfl) (ob_assign rfl (opd_int rfl)) fun a4 w4 s4 => ?_; clear s3
  refine wpList_nil ?_
  refine then_normal ?_
  refine hK2 _ _ ?_
  have s5 := s4.sub (.cons (t := 2) rfl .nil); clear s4
  refine wp_ret ?_
  obtain rfl := Option.some.inj h0
  exact leave s5 (.inl rfl) rfl (.cons (.tmp rfl) .nil)

/- 48 (*cabal/disk.Disk).settle -/
theorem c_disk_Disk_settle_disk_Disk_Sync_1 (k : Nat) (p1 : disk_Disk) (r : disk_Disk) (h0 : disk_Disk_settle_disk_Disk_Sync_1 k p1 = some r) (ok : Ok) (w0 : World) (z0 : Value) (z1 : Value) (b00 : Nat) (w0_0 : Value) (w0_1 : Value) (l0 : ∀ q, q ∈ [BF b00 87 (ko_disk_Disk_0_1 w0_0 w0_1) (⟨[], [], p1.fuse, p1.dead⟩ : disk_Disk), RowF w0_0 91 (karr 256 (kint .u8)) p1.firm, RowF w0_1 93 k_disk_write p1.loose] → q.holds ok w0) (d0 : ∀ c, c ∈ idsOf [BF b00 87 (ko_disk_Disk_0_1 w0_0 w0_1) (⟨[], [], p1.fuse, p1.dead⟩ : disk_Disk), RowF w0_0 91 (karr 256 (kint .u8)) p1.firm, RowF w0_1 93 k_disk_write p1.loose] → ¬ ok c) (nd : (idsOf [BF b00 87 (ko_disk_Disk_0_1 w0_0 w0_1) (⟨[], [], p1.fuse, p1.dead⟩ : disk_Disk), RowF w0_0 91 (karr 256 (kint .u8)) p1.firm, RowF w0_1 93 k_disk_write p1.loose]).Nodup) (u0 : (ptrB b00 0).holds ok w0 z0) (u1 : (is (.func (.func 49) #[] #[])).holds ok w0 z1) :
    GivesX Try.prog 48 [z0, z1] ok w0 [BF b00 87 (ko_disk_Disk_0_1 w0_0 w0_1) (⟨[], [], p1.fuse, p1.dead⟩ : disk_Disk), RowF w0_0 91 (karr 256 (kint .u8)) p1.firm, RowF w0_1 93 k_disk_write p1.loose] (fun g : Value × Value => resFact []) (fun g : Value × Value => [BF b00 87 (ko_disk_Disk_0_1 (g.1) (g.2)) (⟨[], [], r.fuse, r.dead⟩ : disk_Disk), RowF (g.1) 91 (karr 256 (kint .u8)) r.firm, RowF (g.2) 93 k_disk_write r.loose]) := by
  unfold disk_Disk_settle_disk_Disk_Sync_1 at h0
  refine enterX (N := 38) Try.func48 rfl rfl (of_decide_eq_true rfl) (.cons u0 (.cons u1 .nil)) nd l0 d0 fun a1 s1 => ?_
  refine wp_seq_k fun K1 hK1 => ?_
  refine wp_seq_k fun K2 hK2 => ?_
  refine wp_region_lit ?_
  refine seq_op s1 rfl rfl (of_decide_eq_true rfl) (ob_move rfl (.tmp rfl)) fun a2 w2 s2 => ?_; clear s1
  refine seq_op s2 rfl rfl (of_decide_eq_true rfl) (ob_nilCheck rfl (.tmp rfl)) fun a3 w3 s3 => ?_; clear s2
  refine seq_op s3 rfl rfl (of_decide_eq_true rfl) (ob_fieldAddr (off' := 1) rfl Try.underlying87 rfl sz85 (by decide) (.tmp rfl) rfl) fun a4 w4 s4 => ?_; clear s3
  refine seq_op s4 rfl rfl (of_decide_eq_true rfl) (ob_loadRowV rfl (tkr85 _) (.tmp rfl) (.head _) (lgo_disk_Disk_0_1_loose (⟨[], [], p1.fuse, p1.dead⟩ : disk_Disk))) fun a5 w5 s5 => ?_; clear s4
  refine seq_op s5 rfl rfl (of_decide_eq_true rfl) (ob_lenRow rfl Try.underlying85 (.tmp rfl) (.tail _ (.tail _ (.head _)))) fun a6 w6 s6 => ?_; clear s5
  refine seq_op s6 rfl rfl (of_decide_eq_true rfl) (ob_move rfl (opd_int rfl)) fun a7 w7 s7 => ?_; clear s6
  refine wpList_nil ?_
  refine then_normal ?_
  refine hK2 _ _ ?_
  have s8 := s7.sub (.cons (t := 0) rfl (.cons (t := 1) rfl (.cons (t := 10) rfl (.cons (t := 11) rfl (.cons (t := 12) rfl .nil))))); clear s7
  have hj1 : ∀ (y1 : (List (List Int))) (a : Act) (w : World), (disk_Disk_settle_disk_Disk_Sync_1.j1 k p1) y1 = some r → St ⟨38, w0, ok, (idsOf [BF b00 87 (ko_disk_Disk_0_1 w0_0 w0_1) (⟨[], [], p1.fuse, p1.dead⟩ : disk_Disk), RowF w0_0 91 (karr 256 (kint .u8)) p1.firm, RowF w0_1 93 k_disk_write p1.loose])⟩ [BF b00 87 (ko_disk_Disk_0_1 w0_0 w0_1) (⟨[], [], p1.fuse, p1.dead⟩ : disk_Disk), RowF w0_0 91 (karr 256 (kint .u8)) y1, RowF w0_1 93 k_disk_write p1.loose] [(0, (ptrB b00 0))] a w → K1 a w := by
    intro y1 a9 w9 h1 s9
    unfold disk_Disk_settle_disk_Disk_Sync_1.j1 at h1
    refine hK1 _ _ ?_
    refine wp_region_lit ?_
    refine seq_op s9 rfl rfl (of_decide_eq_true rfl) (ob_move rfl (.tmp rfl)) fun a10 w10 s10 => ?_; clear s9
    refine seq_op s10 rfl rfl (of_decide_eq_true rfl) (ob_nilCheck rfl (.tmp rfl)) fun a11 w11 s11 => ?_; clear s10
    refine seq_op s11 rfl rfl (of_decide_eq_true rfl) (ob_fieldAddr (off' := 1) rfl Try.underlying87 rfl sz85 (by decide) (.tmp rfl) rfl) fun a12 w12 s12 => ?_; clear s11
    have s13 := St.adopt s12 (G := RowF (nilRow 4) 93 k_disk_write []) rfl (rowNilN _ _ _ _ _); clear s12
    refine seq_opx0 (B' := (fun _ : Unit => [RowF (nilRow 4) 93 k_disk_write ([] : (List disk_write)), BF b00 87 (ko_disk_Disk_0_1 w0_0 (nilRow 4)) (⟨[], [], p1.fuse, p1.dead⟩ : disk_Disk), RowF w0_0 91 (karr 256 (kint .u8)) y1, RowF w0_1 93 k_disk_write p1.loose])) s13 rfl rfl (ob_storeRowV (A := [_]) rfl (tkr85 _) (.tmp rfl) opd_is (.head _) rfl (lsk_disk_Disk_0_1_to_0_1_at1 (⟨[], [], p1.fuse, p1.dead⟩ : disk_Disk)) rfl) fun _ a14 w14 s14 => ?_; clear s13
    refine wpList_nil ?_
    have s15 := s14.perm (toFront [_] (toFront [_] (toFront [] (List.Perm.refl _)))); clear s14
    obtain rfl := Option.some.inj h1
    exact leaveXD (D := [_]) ⟨w0_0, (nilRow 4)⟩ s15 rfl (.inr rfl) rfl .nil rfl
  refine wp_block ?_
  have s16 := s8.perm (toFront [] (toFront [_] (toFront [] (List.Perm.refl _)))); clear s8
  refine wp_loop_fuel (fun m (q : Int × (List (List Int))) => disk_Disk_settle_disk_Disk_Sync_1.l1 k p1 m q.1 q.2) r (fun _ => rfl) (fun q a w => St ⟨38, w0, ok, (idsOf [BF b00 87 (ko_disk_Disk_0_1 w0_0 w0_1) (⟨[], [], p1.fuse, p1.dead⟩ : disk_Disk), RowF w0_0 91 (karr 256 (kint .u8)) p1.firm, RowF w0_1 93 k_disk_write p1.loose])⟩ [BF b00 87 (ko_disk_Disk_0_1 w0_0 w0_1) (⟨[], [], p1.fuse, p1.dead⟩ : disk_Disk), RowF w0_1 93 k_disk_write p1.loose, RowF w0_0 91 (karr 256 (kint .u8)) q.2] [(0, (ptrB b00 0)), (1, (is (.func (.func 49) #[] #[]))), (10, (is w0_1)), (11, ((kint .i64).V (p1.loose.length : Int))), (12, ((kint .i64).V q.1))] a w) ?_ k ((0 : Int), p1.firm) _ _ h0 (s16.sub (.cons rfl (.cons rfl (.cons rfl (.cons rfl (.cons rfl .nil))))))
  rintro n1 ⟨y2, y3⟩ a17 w17 h2 s17 K3 hK3
  replace h2 : disk_Disk_settle_disk_Disk_Sync_1.l1 k p1 (n1 + 1) y2 y3 = some r := h2; rw [disk_Disk_settle_disk_Disk_Sync_1.l1] at h2
  have h3 := h2; clear h2
  refine wp_seq_k fun K4 hK4 => ?_
  refine wp_region_lit ?_
  refine seq_op s17 rfl rfl (of_decide_eq_true rfl) (ob_lss rfl (.tmp rfl) (.tmp rfl)) fun a18 w18 s18 => ?_; clear s17
  refine wpList_nil ?_
  refine then_normal ?_
  refine hK4 _ _ ?_
  have s19 := s18.sub (.cons (t := 0) rfl (.cons (t := 1) rfl (.cons (t := 10) rfl (.cons (t := 11) rfl (.cons (t := 12) rfl (.cons (t := 13) rfl .nil)))))); clear s18
  refine wp_seq_k fun K5 hK5 => ?_
  refine cond_split s19 (.tmp rfl) (fun hc1 => ?_) (fun hc1 => ?_)
  · replace h3 := ite_t hc1 h3
    have h4 := h3; clear h3
    refine wp_skip ?_
    refine then_normal ?_
    refine hK5 _ _ ?_
    have s20 := s19.sub (.cons (t := 0) rfl (.cons (t := 1) rfl (.cons (t := 10) rfl (.cons (t := 11) rfl (.cons (t := 12) rfl .nil))))); clear s19
    refine wp_seq_k fun K6 hK6 => ?_
    refine wp_block ?_
    refine wp_seq_k fun K7 hK7 => ?_
    refine wp_region_lit ?_
    refine seq_op s20 rfl rfl (of_decide_eq_true rfl) (ob_move rfl (.tmp rfl)) fun a21 w21 s21 => ?_; clear s20
    obtain ⟨g1, h5⟩ := guard_some h4; clear h4
    refine seq_op s21 rfl rfl (of_decide_eq_true rfl) (ob_rowAt rfl Try.underlying85 sz93 (.tmp rfl) (.tail _ (.head _)) (.tmp rfl) g1) fun a22 w22 s22 => ?_; clear s21
    obtain ⟨x1, e_x1, h6⟩ := bind_some h5; clear h5
    refine seq_op s22 rfl rfl (of_decide_eq_true rfl) (ob_rowLoad rfl tk93 (.tmp rfl) (.tail _ (.head _)) (LG.arrA e_x1)) fun a23 w23 s23 => ?_; clear s22
    refine seq_opx (B' := (fun b1 : Nat => [BF b1 93 k_disk_write (⟨(0 : Int), (List.replicate 256 (0 : Int))⟩ : disk_write), BF b00 87 (ko_disk_Disk_0_1 w0_0 w0_1) (⟨[], [], p1.fuse, p1.dead⟩ : disk_Disk), RowF w0_1 93 k_disk_write p1.loose, RowF w0_0 91 (karr 256 (kint .u8)) y3])) s23 rfl rfl (of_decide_eq_true rfl) (ob_new (k := k_disk_write) rfl zz93 (Zr.iso (f := t_disk_write) (x := (⟨(0 : Int), (List.replicate 256 (0 : Int))⟩ : disk_write)) (Zr.pair (Zr.int .i64) (Zr.pair (Zr.arr 256 (Zr.int .u8)) Zr.nil)))) fun b1 a24 w24 s24 => ?_; clear s23
    refine seq_op s24 rfl rfl (of_decide_eq_true rfl) (ob_assign rfl (.tmp rfl)) fun a25 w25 s25 => ?_; clear s24
    refine seq_opx0 (B' := (fun _ : Unit => [BF b1 93 k_disk_write x1, BF b00 87 (ko_disk_Disk_0_1 w0_0 w0_1) (⟨[], [], p1.fuse, p1.dead⟩ : disk_Disk), RowF w0_1 93 k_disk_write p1.loose, RowF w0_0 91 (karr 256 (kint .u8)) y3])) s25 rfl rfl (ob_store (A := []) rfl tk93 (.tmp rfl) (.tmp rfl) rfl (LS.refl _ _ _) rfl) fun _ a26 w26 s26 => ?_; clear s25
    refine wpList_nil ?_
    refine then_normal ?_
    refine hK7 _ _ ?_
    have s27 := s26.sub (.cons (t := 0) rfl (.cons (t := 1) rfl (.cons (t := 4) rfl (.cons (t := 5) rfl (.cons (t := 10) rfl (.cons (t := 11) rfl (.cons (t := 12) rfl .nil))))))); clear s26
    refine wp_seq_k fun K8 hK8 => ?_
    refine wp_region_lit ?_
    refine seq_op s27 rfl rfl (of_decide_eq_true rfl) (ob_move rfl (.tmp rfl)) fun a28 w28 s28 => ?_; clear s27
    refine seq_op s28 rfl rfl (of_decide_eq_true rfl) (ob_move rfl (.tmp rfl)) fun a29 w29 s29 => ?_; clear s28
    obtain ⟨x2, e_x2, h7⟩ := bind_some h6; clear h6
    refine seq_op s29 rfl rfl (of_decide_eq_true rfl) (ob_callD (args := [_]) rfl (.fn (.tmp rfl)) hb49 (fun a w s fs gs hf hg => by obtain rfl := hf.unnil; obtain rfl := hg.unnil; exact c_disk_Disk_Sync_1 k _ _ e_x2 _ _ _ (s.arg (.tmp rfl)))) fun a30 w30 s30 => ?_; clear s29
    refine seq_op s30 rfl rfl (of_decide_eq_true rfl) (ob_mul rfl (.tmp rfl) (opd_int rfl)) fun a31 w31 s31 => ?_; clear s30
    refine seq_op s31 rfl rfl (of_decide_eq_true rfl) (ob_assign rfl (.tmp rfl)) fun a32 w32 s32 => ?_; clear s31
    refine wpList_nil ?_
    refine then_normal ?_
    refine hK8 _ _ ?_
    have s33 := s32.sub (.cons (t := 0) rfl (.cons (t := 1) rfl (.cons (t := 5) rfl (.cons (t := 6) rfl (.cons (t := 10) rfl (.cons (t := 11) rfl (.cons (t := 12) rfl .nil))))))); clear s32
    obtain ⟨g2, h8⟩ := guard_some h7; clear h7
    obtain ⟨g3, h9⟩ := guard_some h8; clear h8
    obtain ⟨g4, h10⟩ := guard_some h9; clear h9
    refine wp_goes (Fs := [(ptrB b00 0), (ptrB b00 0), (ptrB b00 0), (is w0_0), (ptrB b1 0), ((kint .i64).V x1.at_), (ptrR w0_0 (x1.at_.toNat * 256)), ((kint .i64).V (imul .i64 x2 (64 : Int))), (slR w0_0 (soff 256 (x1.at_.toNat * 256) (0 : Int).toNat 1) ((imul .i64 x2 (64 : Int)).toNat - (0 : Int).toNat) (256 - (0 : Int).toNat)), (ptrB b1 1), ((kint .i64).V (imul .i64 x2 (64 : Int))), (is (.slice (some ⟨b1, soff 256 1 (0 : Int).toNat 1, none⟩) ((imul .i64 x2 (64 : Int)).toNat - (0 : Int).toNat) (256 - (0 : Int).toNat)))]) (bits := [0, 1, 3, 7, 0, 16, 63, 0, 255, 0, 0, 1536, 4095]) (m := 12) (todo := 0) mx s33 ?_; clear s33
    refine goes_last (by kernel_rfl) rfl (opsS_cons (.plain _ (Av.old (t := 0) rfl rfl Av.nil) rfl rfl (ob_move rfl (.tmp rfl))) (opsS_cons (.plain _ (Av.new (j := 0) rfl rfl rfl Av.nil) rfl rfl (ob_nilCheck rfl (.tmp rfl))) (opsS_cons (.plain _ (Av.new (j := 1) rfl rfl rfl Av.nil) rfl rfl (ob_fieldAddr (off' := 0) rfl Try.underlying87 rfl sz84 (by decide) (.tmp rfl) rfl)) (opsS_cons (.plain _ (Av.new (j := 2) rfl rfl rfl Av.nil) rfl rfl (ob_loadRowV rfl (tkr84 _) (.tmp rfl) (.tail _ (.head _)) (lgo_disk_Disk_0_1_firm (⟨[], [], p1.fuse, p1.dead⟩ : disk_Disk)))) (opsS_cons (.plain _ (Av.old (t := 5) rfl rfl Av.nil) rfl rfl (ob_fieldAddr (off' := 0) rfl Try.underlying93 rfl sz3 (by decide) (.tmp rfl) rfl)) (opsS_cons (.plain _ (Av.new (j := 4) rfl rfl rfl Av.nil) rfl rfl (ob_load rfl tk3 (.tmp rfl) (.head _) (lg_disk_write_at_ x1))) (opsS_cons (.plain _ (Av.new (j := 3) rfl rfl rfl (Av.new (j := 5) rfl rfl rfl Av.nil)) rfl rfl (ob_rowAt rfl Try.underlying84 sz91 (.tmp rfl) (.tail _ (.tail _ (.tail _ (.head _)))) (.tmp rfl) g2)) (opsS_cons (.plain _ (Av.old (t := 6) rfl rfl Av.nil) rfl rfl (ob_move rfl (.tmp rfl))) (opsS_cons (.plain _ (Av.new (j := 6) rfl rfl rfl (Av.new (j := 7) rfl rfl rfl Av.nil)) rfl rfl (ob_sliceRow rfl Try.underlying91 sz5 (.tmp rfl) .none (.some (.tmp rfl)) g3)) (opsS_cons (.plain _ (Av.old (t := 5) rfl rfl Av.nil) rfl rfl (ob_fieldAddr (off' := 1) rfl Try.underlying93 rfl sz91 (by decide) (.tmp rfl) rfl)) (opsS_cons (.plain _ (Av.old (t := 6) rfl rfl Av.nil) rfl rfl (ob_move rfl (.tmp rfl))) (opsS_cons (.plain _ (Av.new (j := 9) rfl rfl rfl (Av.new (j := 10) rfl rfl rfl Av.nil)) rfl rfl (ob_sliceArr rfl Try.underlying91 sz5 (.tmp rfl) .none (.some (.tmp rfl)) g4)) opsS_nil)))))))))))) (out_old (t := 0) rfl rfl (out_old (t := 1) rfl rfl (out_old (t := 10) rfl rfl (out_old (t := 11) rfl rfl (out_old (t := 12) rfl rfl (out_new (i := 8) (by decide) rfl rfl (out_new (i := 11) (by decide) rfl rfl out_nil))))))) fun a34 w34 s34 => ?_
    obtain ⟨x3, e_x3, h11⟩ := bind_some h10; clear h10
    obtain ⟨g5, h12⟩ := guard_some h11; clear h11
    obtain ⟨x4, e_x4, h13⟩ := bind_some h12; clear h12
    obtain ⟨x5, e_x5, h14⟩ := bind_some h13; clear h13
    refine seq_opx (B' := (fun _ : Unit => [BF b1 93 k_disk_write x1, BF b00 87 (ko_disk_Disk_0_1 w0_0 w0_1) (⟨[], [], p1.fuse, p1.dead⟩ : disk_Disk), RowF w0_1 93 k_disk_write p1.loose, RowF w0_0 91 (karr 256 (kint .u8)) x5])) s34 rfl rfl (of_decide_eq_true rfl) ((ob_lendX (L := [_, _, _]) (List.Perm.refl _) (.cons (t := 32) rfl (lendSlB (.head _) (lg_disk_write_data x1) e_x3 rfl (cut_len e_x3) (cut_cap e_x3 g4 (by decide))) .nil) (fun _ => (Flat.V (KFlat.int _))) (fun _ => (.cons (FlatO.row (KFlat.arr (KFlat.int _))) FlatL.nil)) (fun _ _ => ob_copyR (A := []) rfl Try.underlying23 sz5 rfl (.tmp rfl) (srcSl rfl (.tmp rfl)) rfl rfl (sl_fit g3) g5 (LG.arrA e_x4) (LS.arrS e_x5) rfl (by decide)))) fun _ a35 w35 s35 => ?_; clear s34
    refine wpList_nil ?_
    refine in_normal ?_
    refine then_normal ?_
    refine hK6 _ _ ?_
    have s36 := s35.sub (.cons (t := 0) rfl (.cons (t := 1) rfl (.cons (t := 10) rfl (.cons (t := 11) rfl (.cons (t := 12) rfl .nil))))); clear s35
    have s37 := St.drop (A := []) s36; clear s36
    refine wp_region_lit ?_
    refine seq_op s37 rfl rfl (of_decide_eq_true rfl) (ob_add rfl (.tmp rfl) (opd_int rfl)) fun a38 w38 s38 => ?_; clear s37
    refine seq_op s38 rfl rfl (of_decide_eq_true rfl) (ob_move rfl (.tmp rfl)) fun a39 w39 s39 => ?_; clear s38
    refine wpList_nil ?_
    refine then_normal ?_
    exact hK3 ((iadd .i64 y2 (1 : Int)), x5) _ _ h14 (s39.sub (.cons rfl (.cons rfl (.cons rfl (.cons rfl (.cons rfl .nil))))))
  · replace h3 := ite_f hc1 h3
    have h15 := h3; clear h3
    refine wp_exit ?_
    refine (then_exit (then_exit (in_here ?_)))
    refine then_normal ?_
    have s40 := s19.perm (toFront [] (toFront [_] (toFront [] (List.Perm.refl _)))); clear s19
    exact hj1 y3 _ _ h15 (s40.sub (.cons rfl .nil))

/- 13 (*cabal/disk.Disk).Sync -/
theorem c_disk_Disk_Sync (k : Nat) (p1 : disk_Disk) (r : (Int × disk_Disk)) (h0 : disk_Disk_Sync k p1 = some r) (ok : Ok) (w0 : World) (z0 : Value) (b00 : Nat) (w0_0 : Value) (w0_1 : Value) (l0 : ∀ q, q ∈ [BF b00 87 (ko_disk_Disk_0_1 w0_0 w0_1) (⟨[], [], p1.fuse, p1.dead⟩ : disk_Disk), RowF w0_0 91 (karr 256 (kint .u8)) p1.firm, RowF w0_1 93 k_disk_write p1.loose] → q.holds ok w0) (d0 : ∀ c, c ∈ idsOf [BF b00 87 (ko_disk_Disk_0_1 w0_0 w0_1) (⟨[], [], p1.fuse, p1.dead⟩ : disk_Disk), RowF w0_0 91 (karr 256 (kint .u8)) p1.firm, RowF w0_1 93 k_disk_write p1.loose] → ¬ ok c) (nd : (idsOf [BF b00 87 (ko_disk_Disk_0_1 w0_0 w0_1) (⟨[], [], p1.fuse, p1.dead⟩ : disk_Disk), RowF w0_0 91 (karr 256 (kint .u8)) p1.firm, RowF w0_1 93 k_disk_write p1.loose]).Nodup) (u0 : (ptrB b00 0).holds ok w0 z0) :
    GivesX Try.prog 13 [z0] ok w0 [BF b00 87 (ko_disk_Disk_0_1 w0_0 w0_1) (⟨[], [], p1.fuse, p1.dead⟩ : disk_Disk), RowF w0_0 91 (karr 256 (kint .u8)) p1.firm, RowF w0_1 93 k_disk_write p1.loose] (fun g : Value × Value => resFact [(kint .i64).V r.1]) (fun g : Value × Value => [BF b00 87 (ko_disk_Disk_0_1 (g.1) (g.2)) (⟨[], [], r.2.fuse, r.2.dead⟩ : disk_Disk), RowF (g.1) 91 (karr 256 (kint .u8)) r.2.firm, RowF (g.2) 93 k_disk_write r.2.loose]) := by
  unfold disk_Disk_Sync at h0
  refine enterX (N := 18) Try.func13 rfl rfl (of_decide_eq_true rfl) (.cons u0 .nil) nd l0 d0 fun a1 s1 => ?_
  refine wp_seq_k fun K1 hK1 => ?_
  refine wp_region_lit ?_
  refine seq_op s1 rfl rfl (of_decide_eq_true rfl) (ob_assign rfl (opd_int rfl)) fun a2 w2 s2 => ?_; clear s1
  refine wpList_nil ?_
  refine then_normal ?_
  refine hK1 _ _ ?_
  have s3 := s2.sub (.cons (t := 0) rfl .nil); clear s2
  refine wp_seq_k fun K2 hK2 => ?_
  refine wp_seq_k fun K3 hK3 => ?_
  refine wp_region_lit ?_
  refine seq_op s3 rfl rfl (of_decide_eq_true rfl) (ob_move rfl (.tmp rfl)) fun a4 w4 s4 => ?_; clear s3
  refine seq_op s4 rfl rfl (of_decide_eq_true rfl) (ob_ptrNil (p := some _) rfl pt25 (.tmp rfl) opd_is) fun a5 w5 s5 => ?_; clear s4
  refine seq_op s5 rfl rfl (of_decide_eq_true rfl) (ob_move rfl (.tmp rfl)) fun a6 w6 s6 => ?_; clear s5
  refine seq_opg s6 rfl rfl rfl rfl (of_decide_eq_true rfl) (fun hb => ob_move rfl (.tmp rfl)) fun a7 w7 s7 => ?_; clear s6
  refine seq_opg s7 rfl rfl rfl rfl (of_decide_eq_true rfl) (fun hb => (Ob.uncond (t := 6) hb rfl (ob_nilCheck rfl (.tmp rfl)))) fun a8 w8 s8 => ?_; clear s7
  refine seq_opg s8 rfl rfl rfl rfl (of_decide_eq_true rfl) (fun hb => (Ob.uncond (t := 7) hb rfl (ob_fieldAddr (off' := 3) rfl Try.underlying87 rfl sz4 (by decide) (.tmp rfl) rfl))) fun a9 w9 s9 => ?_; clear s8
  refine seq_opg s9 rfl rfl rfl rfl (of_decide_eq_true rfl) (fun hb => (Ob.uncond (t := 8) hb rfl (ob_load rfl tk4 (.tmp rfl) (.head _) (lgo_disk_Disk_0_1_dead (⟨[], [], p1.fuse, p1.dead⟩ : disk_Disk))))) fun a10 w10 s10 => ?_; clear s9
  refine seq_op s10 rfl rfl (of_decide_eq_true rfl) (ob_or2 rfl (.tmp rfl) opd_bool (.tmp rfl)) fun a11 w11 s11 => ?_; clear s10
  refine seq_op s11 rfl rfl (of_decide_eq_true rfl) (ob_move rfl (.tmp rfl)) fun a12 w12 s12 => ?_; clear s11
  refine seq_opg s12 rfl rfl rfl rfl (of_decide_eq_true rfl) (fun hb => ob_move rfl (.tmp rfl)) fun a13 w13 s13 => ?_; clear s12
  obtain ⟨x1, e_x1, h1⟩ := bind_some h0; clear h0
  refine seq_opxg (B1 := (fun gg : Value × Value => [BF b00 87 (ko_disk_Disk_0_1 gg.1 gg.2) (⟨[], [], x1.2.fuse, x1.2.dead⟩ : disk_Disk), RowF gg.1 91 (karr 256 (kint .u8)) x1.2.firm, RowF gg.2 93 k_disk_write x1.2.loose])) s13 rfl rfl rfl rfl (of_decide_eq_true rfl) (fun hb => (ObX.uncond (t := 12) hb rfl (ob_callL (args := [_]) (L := [_, _, _]) rfl .direct hb47 (List.Perm.refl _) (fun a w s fs gs hf hg => by obtain rfl := hf.unnil; obtain rfl := hg.unnil; exact c_disk_Disk_burn k _ _ (ite_t hb e_x1) _ _ _ _ _ _ (ownL s) (disL s) (nodL s) (s.arg (.tmp rfl))) (by exact fun _ => rfl)))) (fun hb0 => by obtain rfl := Option.some.inj (ite_f hb0 e_x1); exact ⟨⟨w0_0, w0_1⟩, rfl⟩) fun gg14 a14 w14 s14 => ?_; clear s13
  obtain ⟨v1, v2⟩ := gg14
  refine seq_opg s14 rfl rfl rfl rfl (of_decide_eq_true rfl) (fun hb => (Ob.uncond (t := 13) hb rfl (ob_not rfl (.tmp rfl)))) fun a15 w15 s15 => ?_; clear s14
  refine seq_op s15 rfl rfl (of_decide_eq_true rfl) (ob_or2 rfl (.tmp rfl) opd_bool (.tmp rfl)) fun a16 w16 s16 => ?_; clear s15
  refine wpList_nil ?_
  refine then_normal ?_
  refine hK3 _ _ ?_
  have s17 := s16.sub (.cons (t := 0) rfl (.cons (t := 15) rfl .nil)); clear s16
  refine cond_split s17 (.tmp rfl) (fun hc1 => ?_) (fun hc1 => ?_)
  · replace h1 := ite_t hc1 h1
    have h2 := h1; clear h1
    refine wp_seq_k fun K4 hK4 => ?_
    refine wp_region_lit ?_
    refine seq_op s17 rfl rfl (of_decide_eq_true rfl) (ob_assign rfl (opd_int rfl)) fun a18 w18 s18 => ?_; clear s17
    refine wpList_nil ?_
    refine then_normal ?_
    refine hK4 _ _ ?_
    have s19 := s18.sub (.cons (t := 2) rfl .nil); clear s18
    refine wp_ret ?_
    obtain rfl := Option.some.inj h2
    exact leaveXD (D := []) ⟨v1, v2⟩ s19 rfl (.inl rfl) rfl (.cons (.tmp rfl) .nil) rfl
  · replace h1 := ite_f hc1 h1
    have h3 := h1; clear h1
    refine wp_skip ?_
    refine then_normal ?_
    refine hK2 _ _ ?_
    have s20 := s17.sub (.cons (t := 0) rfl .nil); clear s17
    refine wp_seq_k fun K5 hK5 => ?_
    refine wp_region_lit ?_
    refine seq_op s20 rfl rfl (of_decide_eq_true rfl) (ob_move rfl (.tmp rfl)) fun a21 w21 s21 => ?_; clear s20
    obtain ⟨x2, e_x2, h4⟩ := bind_some h3; clear h3
    refine seq_opx (B' := (fun gg : Value × Value => [BF b00 87 (ko_disk_Disk_0_1 gg.1 gg.2) (⟨[], [], x2.fuse, x2.dead⟩ : disk_Disk), RowF gg.1 91 (karr 256 (kint .u8)) x2.firm, RowF gg.2 93 k_disk_write x2.loose])) s21 rfl rfl (of_decide_eq_true rfl) (ob_callL (args := [_, _]) (L := [_, _, _]) rfl .direct hb48 (List.Perm.refl _) (fun a w s fs gs hf hg => by obtain rfl := hf.unnil; obtain rfl := hg.unnil; exact c_disk_Disk_settle_disk_Disk_Sync_1 k _ _ e_x2 _ _ _ _ _ _ _ (ownL s) (disL s) (nodL s) (s.arg (.tmp rfl)) (s.arg .func)) (by exact fun _ => rfl)) fun gg22 a22 w22 s22 => ?_; clear s21
    obtain ⟨v3, v4⟩ := gg22
    refine wpList_nil ?_
    refine then_normal ?_
    refine hK5 _ _ ?_
    have s23 := s22.sub .nil; clear s22
    refine wp_seq_k fun K6 hK6 => ?_
    refine wp_region_lit ?_
    refine seq_op s23 rfl rfl (of_decide_eq_true rfl) (ob_assign rfl (opd_int rfl)) fun a24 w24 s24 => ?_; clear s23
    refine wpList_nil ?_
    refine then_normal ?_
    refine hK6 _ _ ?_
    have s25 := s24.sub (.cons (t := 2) rfl .nil); clear s24
    refine wp_ret ?_
    obtain rfl := Option.some.inj h4
    exact leaveXD (D := []) ⟨v3, v4⟩ s25 rfl (.inl rfl) rfl (.cons (.tmp rfl) .nil) rfl

/- 14 (*cabal/disk.Disk).Read -/
theorem c_disk_Disk_Read (k : Nat) (p1 : disk_Disk) (p2 : Int) (r : ((List Int) × Int)) (h0 : disk_Disk_Read k p1 p2 = some r) (ok : Ok) (w0 : World) (z0 : Value) (z1 : Value) (u0 : (ptrTo k_disk_Disk p1).holds ok w0 z0) (u1 : ((kint .i64).V p2).holds ok w0 z1) :
    Gives Try.prog 14 [z0, z1] ok w0 (resFact [kstr.V r.1, (kint .i64).V r.2]) := by
  unfold disk_Disk_Read at h0
  refine enter (N := 38) Try.func14 rfl rfl (of_decide_eq_true rfl) (.cons u0 (.cons u1 .nil)) fun a1 s1 => ?_
  refine wp_seq_k fun K1 hK1 => ?_
  refine wp_region_lit ?_
  refine seq_op s1 rfl rfl (of_decide_eq_true rfl) (ob_assign rfl (opd_str (by rfl) (by decide))) fun a2 w2 s2 => ?_; clear s1
  refine seq_op s2 rfl rfl (of_decide_eq_true rfl) (ob_assign rfl (opd_int rfl)) fun a3 w3 s3 => ?_; clear s2
  refine wpList_nil ?_
  refine then_normal ?_
  refine hK1 _ _ ?_
  have s4 := s3.sub (.cons (t := 0) rfl (.cons (t := 1) rfl .nil)); clear s3
  refine wp_seq_k fun K2 hK2 => ?_
  refine wp_seq_k fun K3 hK3 => ?_
  refine wp_region_lit ?_
  refine seq_op s4 rfl rfl (of_decide_eq_true rfl) (ob_move rfl (.tmp rfl)) fun a5 w5 s5 => ?_; clear s4
  refine seq_op s5 rfl rfl (of_decide_eq_true rfl) (ob_move rfl (.tmp rfl)) fun a6 w6 s6 => ?_; clear s5
  obtain ⟨x1, e_x1, h1⟩ := bind_some h0; clear h0
  refine seq_op s6 rfl rfl (of_decide_eq_true rfl) (ob_callD (args := [_, _]) rfl .direct hb50 (fun a w s fs gs hf hg => by obtain rfl := hf.unnil; obtain rfl := hg.unnil; exact c_disk_Disk_has k _ _ _ e_x1 _ _ _ _ (s.arg (.tmp rfl)) (s.arg (.tmp rfl)))) fun a7 w7 s7 => ?_; clear s6
  refine seq_op s7 rfl rfl (of_decide_eq_true rfl) (ob_not rfl (.tmp rfl)) fun a8 w8 s8 => ?_; clear s7
  refine wpList_nil ?_
  refine then_normal ?_
  refine hK3 _ _ ?_
  have s9 := s8.sub (.cons (t := 0) rfl (.cons (t := 1) rfl (.cons (t := 12) rfl .nil))); clear s8
  refine cond_split s9 (.tmp rfl) (fun hc1 => ?_) (fun hc1 => ?_)
  · replace h1 := ite_t hc1 h1
    have h2 := h1; clear h1
    refine wp_seq_k fun K4 hK4 => ?_
    refine wp_region_lit ?_
    refine seq_op s9 rfl rfl (of_decide_eq_true rfl) (ob_assign rfl (opd_str (by rfl) (by decide))) fun a10 w10 s10 => ?_; clear s9
    refine seq_op s10 rfl rfl (of_decide_eq_true rfl) (ob_assign rfl (opd_int rfl)) fun a11 w11 s11 => ?_; clear s10
    refine wpList_nil ?_
    refine then_normal ?_
    refine hK4 _ _ ?_
    have s12 := s11.sub (.cons (t := 4) rfl (.cons (t := 5) rfl .nil)); clear s11
    refine wp_ret ?_
    obtain rfl := Option.some.inj h2
    exact leave s12 (.inl rfl) rfl (.cons (.tmp rfl) (.cons (.tmp rfl) .nil))
  · replace h1 := ite_f hc1 h1
    have h3 := h1; clear h1
    refine wp_skip ?_
    refine then_normal ?_
    refine hK2 _ _ ?_
    have s13 := s9.sub (.cons (t := 0) rfl (.cons (t := 1) rfl .nil)); clear s9
    refine wp_seq_k fun K5 hK5 => ?_
    refine wp_region_lit ?_
    refine seq_op s13 rfl rfl (of_decide_eq_true rfl) (ob_move rfl (.tmp rfl)) fun a14 w14 s14 => ?_; clear s13
    refine seq_op s14 rfl rfl (of_decide_eq_true rfl) (ob_nilCheckr rfl (.tmp rfl)) fun a15 w15 s15 => ?_; clear s14
    refine seq_op s15 rfl rfl (of_decide_eq_true rfl) (ob_fieldAddrr rfl Try.underlying87 rfl sz84 (by decide) (.tmp rfl) (lg_disk_Disk_firm p1)) fun a16 w16 s16 => ?_; clear s15
    refine seq_op s16 rfl rfl (of_decide_eq_true rfl) (ob_loadr rfl tk84 (.tmp rfl)) fun a17 w17 s17 => ?_; clear s16
    refine seq_op s17 rfl rfl (of_decide_eq_true rfl) (ob_move rfl (.tmp rfl)) fun a18 w18 s18 => ?_; clear s17
    obtain ⟨x2, e_x2, h4⟩ := bind_some h3; clear h3
    refine seq_op s18 rfl rfl (of_decide_eq_true rfl) (ob_indexAddrs rfl Try.underlying84 sz91 (.tmp rfl) (.tmp rfl) e_x2) fun a19 w19 s19 => ?_; clear s18
    refine seq_op s19 rfl rfl (of_decide_eq_true rfl) (ob_loadr rfl tk91 (.tmp rfl)) fun a20 w20 s20 => ?_; clear s19
    refine seq_opx (B' := (fun b1 : Nat => [BF b1 91 (karr 256 (kint .u8)) (List.replicate 256 (0 : Int))])) s20 rfl rfl (of_decide_eq_true rfl) (ob_new (k := (karr 256 (kint .u8))) rfl zz91 (Zr.arr 256 (Zr.int .u8))) fun b1 a21 w21 s21 => ?_; clear s20
    refine seq_opx0 (B' := (fun _ : Unit => [BF b1 91 (karr 256 (kint .u8)) x2])) s21 rfl rfl (ob_store (A := []) rfl tk91 (.tmp rfl) (.tmp rfl) rfl (LS.refl _ _ _) rfl) fun _ a22 w22 s22 => ?_; clear s21
    refine wpList_nil ?_
    refine then_normal ?_
    refine hK5 _ _ ?_
    have s23 := s22.sub (.cons (t := 0) rfl (.cons (t := 1) rfl (.cons (t := 6) rfl .nil))); clear s22
    refine wp_seq_k fun K6 hK6 => ?_
    refine wp_seq_k fun K7 hK7 => ?_
    refine wp_region_lit ?_
    refine seq_op s23 rfl rfl (of_decide_eq_true rfl) (ob_move rfl (.tmp rfl)) fun a24 w24 s24 => ?_; clear s23
    refine seq_op s24 rfl rfl (of_decide_eq_true rfl) (ob_nilCheckr rfl (.tmp rfl)) fun a25 w25 s25 => ?_; clear s24
    refine seq_op s25 rfl rfl (of_decide_eq_true rfl) (ob_fieldAddrr rfl Try.underlying87 rfl sz85 (by decide) (.tmp rfl) (lg_disk_Disk_loose p1)) fun a26 w26 s26 => ?_; clear s25
    refine seq_op s26 rfl rfl (of_decide_eq_true rfl) (ob_loadr rfl tk85 (.tmp rfl)) fun a27 w27 s27 => ?_; clear s26
    refine seq_op s27 rfl rfl (of_decide_eq_true rfl) (ob_lens rfl Try.underlying85 (.tmp rfl)) fun a28 w28 s28 => ?_; clear s27
    refine seq_op s28 rfl rfl (of_decide_eq_true rfl) (ob_move rfl (opd_int rfl)) fun a29 w29 s29 => ?_; clear s28
    refine wpList_nil ?_
    refine then_normal ?_
    refine hK7 _ _ ?_
    have s30 := s29.sub (.cons (t := 1) rfl (.cons (t := 6) rfl (.cons (t := 23) rfl (.cons (t := 24) rfl (.cons (t := 25) rfl .nil))))); clear s29
    have hj1 : ∀ (y1 : (List Int)) (a : Act) (w : World), (disk_Disk_Read.j1 k) y1 = some r → St ⟨38, w0, ok, []⟩ [BF b1 91 (karr 256 (kint .u8)) y1] [(6, (ptrB b1 0))] a w → K6 a w := by
      intro y1 a31 w31 h5 s31
      unfold disk_Disk_Read.j1 at h5
      refine hK6 _ _ ?_
      refine wp_seq_k fun K8 hK8 => ?_
      refine wp_region_lit ?_
      refine seq_op s31 rfl rfl (of_decide_eq_true rfl) (ob_sliceArr rfl Try.underlying91 sz5 (.tmp rfl) .none .none (show (0 : Int) ≤ (0 : Int) ∧ (0 : Int) ≤ (256 : Int) ∧ (256 : Int) ≤ ((256 : Nat) : Int) by decide)) fun a32 w32 s32 => ?_; clear s31
      obtain ⟨x3, e_x3, h6⟩ := bind_some h5; clear h5
      refine seq_op s32 rfl rfl (of_decide_eq_true rfl) ((ob_lendG (L := [_]) (List.Perm.refl _) (.cons (t := 36) rfl (lendSlB (.head _) (LG.refl _ _) e_x3 rfl (cut_len e_x3) (cut_cap e_x3 (show (0 : Int) ≤ (0 : Int) ∧ (0 : Int) ≤ (256 : Int) ∧ (256 : Int) ≤ ((256 : Nat) : Int) by decide) (by decide))) .nil) (Flat.V KFlat.str) (fun _ => ob_bytesToStr rfl Try.underlying23 Try.underlying9 Try.underlying5 (.tmp rfl)))) fun a33 w33 s33 => ?_; clear s32
      refine seq_op s33 rfl rfl (of_decide_eq_true rfl) (ob_assign rfl (.tmp rfl)) fun a34 w34 s34 => ?_; clear s33
      refine seq_op s34 rfl rfl (of_decide_eq_true rfl) (ob_assign rfl (opd_int rfl)) fun a35 w35 s35 => ?_; clear s34
      refine wpList_nil ?_
      refine then_normal ?_
      refine hK8 _ _ ?_
      have s36 := s35.sub (.cons (t := 4) rfl (.cons (t := 5) rfl .nil)); clear s35
      have s37 := St.drop (A := []) s36; clear s36
      refine wp_ret ?_
      obtain rfl := Option.some.inj h6
      exact leave s37 (.inl rfl) rfl (.cons (.tmp rfl) (.cons (.tmp rfl) .nil))
    refine wp_block ?_
    refine wp_loop_fuel (fun m (q : Int × (List Int)) => disk_Disk_Read.l1 k p1 p2 m q.1 q.2) r (fun _ => rfl) (fun q a w => St ⟨38, w0, ok, []⟩ [BF b1 91 (karr 256 (kint .u8)) q.2] [(1, ((kint .i64).V p2)), (6, (ptrB b1 0)), (23, ((ksl k_disk_write).V p1.loose)), (24, ((kint .i64).V (p1.loose.length : Int))), (25, ((kint .i64).V q.1))] a w) ?_ k ((0 : Int), x2) _ _ h4 (s30.sub (.cons rfl (.cons rfl (.cons rfl (.cons rfl (.cons rfl .nil))))))
    rintro n1 ⟨y2, y3⟩ a38 w38 h7 s38 K9 hK9
    replace h7 : disk_Disk_Read.l1 k p1 p2 (n1 + 1) y2 y3 = some r := h7; rw [disk_Disk_Read.l1] at h7
    have h8 := h7; clear h7
    refine wp_seq_k fun K10 hK10 => ?_
    refine wp_region_lit ?_
    refine seq_op s38 rfl rfl (of_decide_eq_true rfl) (ob_lss rfl (.tmp rfl) (.tmp rfl)) fun a39 w39 s39 => ?_; clear s38
    refine wpList_nil ?_
    refine then_normal ?_
    refine hK10 _ _ ?_
    have s40 := s39.sub (.cons (t := 1) rfl (.cons (t := 6) rfl (.cons (t := 23) rfl (.cons (t := 24) rfl (.cons (t := 25) rfl (.cons (t := 26) rfl .nil)))))); clear s39
    refine wp_seq_k fun K11 hK11 => ?_
    refine cond_split s40 (.tmp rfl) (fun hc2 => ?_) (fun hc2 => ?_)
    · replace h8 := ite_t hc2 h8
      have h9 := h8; clear h8
      refine wp_skip ?_
      refine then_normal ?_
      refine hK11 _ _ ?_
      have s41 := s40.sub (.cons (t := 1) rfl (.cons (t := 6) rfl (.cons (t := 23) rfl (.cons (t := 24) rfl (.cons (t := 25) rfl .nil))))); clear s40
      refine wp_seq_k fun K12 hK12 => ?_
      have hj2 : ∀ (y4 : (List Int)) (a : Act) (w : World), (disk_Disk_Read.j2 k y2 (disk_Disk_Read.l1 k p1 p2 n1)) y4 = some r → St ⟨38, w0, ok, []⟩ [BF b1 91 (karr 256 (kint .u8)) y4] [(1, ((kint .i64).V p2)), (6, (ptrB b1 0)), (23, ((ksl k_disk_write).V p1.loose)), (24, ((kint .i64).V (p1.loose.length : Int))), (25, ((kint .i64).V y2))] a w → K12 a w := by
        intro y4 a42 w42 h10 s42
        unfold disk_Disk_Read.j2 at h10
        refine hK12 _ _ ?_
        refine wp_region_lit ?_
        refine seq_op s42 rfl rfl (of_decide_eq_true rfl) (ob_add rfl (.tmp rfl) (opd_int rfl)) fun a43 w43 s43 => ?_; clear s42
        refine seq_op s43 rfl rfl (of_decide_eq_true rfl) (ob_move rfl (.tmp rfl)) fun a44 w44 s44 => ?_; clear s43
        refine wpList_nil ?_
        refine then_normal ?_
        exact hK9 ((iadd .i64 y2 (1 : Int)), y4) _ _ h10 (s44.sub (.cons rfl (.cons rfl (.cons rfl (.cons rfl (.cons rfl .nil))))))
      refine wp_block ?_
      refine wp_seq_k fun K13 hK13 => ?_
      refine wp_region_lit ?_
      obtain ⟨x4, e_x4, h11⟩ := bind_some h9; clear h9
      refine seq_op s41 rfl rfl (of_decide_eq_true rfl) (ob_indexAddrs rfl Try.underlying85 sz93 (.tmp rfl) (.tmp rfl) e_x4) fun a45 w45 s45 => ?_; clear s41
      refine seq_op s45 rfl rfl (of_decide_eq_true rfl) (ob_loadr rfl tk93 (.tmp rfl)) fun a46 w46 s46 => ?_; clear s45
      refine seq_opx (B' := (fun b2 : Nat => [BF b2 93 k_disk_write (⟨(0 : Int), (List.replicate 256 (0 : Int))⟩ : disk_write), BF b1 91 (karr 256 (kint .u8)) y3])) s46 rfl rfl (of_decide_eq_true rfl) (ob_new (k := k_disk_write) rfl zz93 (Zr.iso (f := t_disk_write) (x := (⟨(0 : Int), (List.replicate 256 (0 : Int))⟩ : disk_write)) (Zr.pair (Zr.int .i64) (Zr.pair (Zr.arr 256 (Zr.int .u8)) Zr.nil)))) fun b2 a47 w47 s47 => ?_; clear s46
      refine seq_opx0 (B' := (fun _ : Unit => [BF b2 93 k_disk_write x4, BF b1 91 (karr 256 (kint .u8)) y3])) s47 rfl rfl (ob_store (A := []) rfl tk93 (.tmp rfl) (.tmp rfl) rfl (LS.refl _ _ _) rfl) fun _ a48 w48 s48 => ?_; clear s47
      refine wpList_nil ?_
      refine then_normal ?_
      refine hK13 _ _ ?_
      have s49 := s48.sub (.cons (t := 1) rfl (.cons (t := 6) rfl (.cons (t := 8) rfl (.cons (t := 23) rfl (.cons (t := 24) rfl (.cons (t := 25) rfl .nil)))))); clear s48
      refine wp_seq_k fun K14 hK14 => ?_
      refine wp_region_lit ?_
      refine seq_op s49 rfl rfl (of_decide_eq_true rfl) (ob_fieldAddr (off' := 0) rfl Try.underlying93 rfl sz3 (by decide) (.tmp rfl) rfl) fun a50 w50 s50 => ?_; clear s49
      refine seq_op s50 rfl rfl (of_decide_eq_true rfl) (ob_load rfl tk3 (.tmp rfl) (.head _) (lg_disk_write_at_ x4)) fun a51 w51 s51 => ?_; clear s50
      refine seq_op s51 rfl rfl (of_decide_eq_true rfl) (ob_move rfl (.tmp rfl)) fun a52 w52 s52 => ?_; clear s51
      refine seq_op s52 rfl rfl (of_decide_eq_true rfl) (ob_eql rfl (.tmp rfl) (.tmp rfl)) fun a53 w53 s53 => ?_; clear s52
      refine wpList_nil ?_
      refine then_normal ?_
      refine hK14 _ _ ?_
      have s54 := s53.sub (.cons (t := 1) rfl (.cons (t := 6) rfl (.cons (t := 8) rfl (.cons (t := 23) rfl (.cons (t := 24) rfl (.cons (t := 25) rfl (.cons (t := 32) rfl .nil))))))); clear s53
      refine cond_split s54 (.tmp rfl) (fun hc3 => ?_) (fun hc3 => ?_)
      · replace h11 := ite_t hc3 h11
        have h12 := h11; clear h11
        refine wp_region_lit ?_
        refine seq_op s54 rfl rfl (of_decide_eq_true rfl) (ob_fieldAddr (off' := 1) rfl Try.underlying93 rfl sz91 (by decide) (.tmp rfl) rfl) fun a55 w55 s55 => ?_; clear s54
        refine seq_op s55 rfl rfl (of_decide_eq_true rfl) (ob_load rfl tk91 (.tmp rfl) (.head _) (lg_disk_write_data x4)) fun a56 w56 s56 => ?_; clear s55
        refine seq_opx0 (B' := (fun _ : Unit => [BF b2 93 k_disk_write x4, BF b1 91 (karr 256 (kint .u8)) x4.data])) s56 rfl rfl (ob_store (A := [_]) rfl tk91 (.tmp rfl) (.tmp rfl) rfl (LS.refl _ _ _) rfl) fun _ a57 w57 s57 => ?_; clear s56
        refine wpList_nil ?_
        refine in_normal ?_
        refine then_normal ?_
        have s58 := St.drop (A := []) s57; clear s57
        exact hj2 x4.data _ _ h12 (s58.sub (.cons rfl (.cons rfl (.cons rfl (.cons rfl (.cons rfl .nil))))))
      · replace h11 := ite_f hc3 h11
        have h13 := h11; clear h11
        refine wp_skip ?_
        refine in_normal ?_
        refine then_normal ?_
        have s59 := St.drop (A := []) s54; clear s54
        exact hj2 y3 _ _ h13 (s59.sub (.cons rfl (.cons rfl (.cons rfl (.cons rfl (.cons rfl .nil))))))
    · replace h8 := ite_f hc2 h8
      have h14 := h8; clear h8
      refine wp_exit ?_
      refine (then_exit (then_exit (in_here ?_)))
      refine then_normal ?_
      exact hj1 y3 _ _ h14 (s40.sub (.cons rfl .nil))

/- 3 cabal/caballaw12.DiskSectors -/
theorem c_caballaw12_DiskSectors (k : Nat) (p1 : (List caballaw12_Act)) (p2 : (List Int)) (r : Bool) (h0 : caballaw12_DiskSectors k p1 p2 = some r) (ok : Ok) (w0 : World) (z0 : Value) (z1 : Value) (u0 : ((ksl k_caballaw12_Act).V p1).holds ok w0 z0) (u1 : ((ksl (kint .u8)).V p2).holds ok w0 z1) :
    Gives Try.prog 3 [z0, z1] ok w0 (resFact [kbool.V r]) := by
  unfold caballaw12_DiskSectors at h0
  refine enter (N := 161) Try.func3 rfl rfl (of_decide_eq_true rfl) (.cons u0 (.cons u1 .nil)) fun a1 s1 => ?_
  refine wp_seq_k fun K1 hK1 => ?_
  refine wp_region_lit ?_
  refine seq_op s1 rfl rfl (of_decide_eq_true rfl) (ob_assign rfl opd_bool) fun a2 w2 s2 => ?_; clear s1
  refine wpList_nil ?_
  refine then_normal ?_
  refine hK1 _ _ ?_
  have s3 := s2.sub (.cons (t := 0) rfl (.cons (t := 1) rfl .nil)); clear s2
  refine wp_seq_k fun K2 hK2 => ?_
  refine wp_seq_k fun K3 hK3 => ?_
  refine wp_region_lit ?_
  obtain ⟨x1, e_x1, h1⟩ := bind_some h0; clear h0
  refine seq_op s3 rfl rfl (of_decide_eq_true rfl) (ob_callD (args := []) rfl .direct hb11 (fun a w s fs gs hf hg => by obtain rfl := hf.unnil; obtain rfl := hg.unnil; exact c_caballaw12_alive k _ e_x1 _ _)) fun a4 w4 s4 => ?_; clear s3
  refine seq_op s4 rfl rfl (of_decide_eq_true rfl) (ob_not rfl (.tmp rfl)) fun a5 w5 s5 => ?_; clear s4
  refine wpList_nil ?_
  refine then_normal ?_
  refine hK3 _ _ ?_
  have s6 := s5.sub (.cons (t := 0) rfl (.cons (t := 1) rfl (.cons (t := 21) rfl .nil))); clear s5
  refine cond_split s6 (.tmp rfl) (fun hc1 => ?_) (fun hc1 => ?_)
  · replace h1 := ite_t hc1 h1
    have h2 := h1; clear h1
    refine wp_seq_k fun K4 hK4 => ?_
    refine wp_region_lit ?_
    refine seq_op s6 rfl rfl (of_decide_eq_true rfl) (ob_assign rfl opd_bool) fun a7 w7 s7 => ?_; clear s6
    refine wpList_nil ?_
    refine then_normal ?_
    refine hK4 _ _ ?_
    have s8 := s7.sub (.cons (t := 4) rfl .nil); clear s7
    refine wp_ret ?_
    obtain rfl := Option.some.inj h2
    exact leave s8 (.inl rfl) rfl (.cons (.tmp rfl) .nil)
  · replace h1 := ite_f hc1 h1
    have h3 := h1; clear h1
    refine wp_skip ?_
    refine then_normal ?_
    refine hK2 _ _ ?_
    have s9 := s6.sub (.cons (t := 0) rfl (.cons (t := 1) rfl .nil)); clear s6
    refine wp_seq_k fun K5 hK5 => ?_
    refine wp_region_lit ?_
    obtain ⟨x2, e_x2, h4⟩ := bind_some h3; clear h3
    refine seq_opx (B' := (fun gg : Nat × Value × Value => [BF gg.1 87 (ko_disk_Disk_0_1 gg.2.1 gg.2.2) (⟨[], [], x2.fuse, x2.dead⟩ : disk_Disk), RowF gg.2.1 91 (karr 256 (kint .u8)) x2.firm, RowF gg.2.2 93 k_disk_write x2.loose])) s9 rfl rfl (of_decide_eq_true rfl) (ob_callL (args := [_]) (L := []) rfl .direct hb12 (List.Perm.refl _) (fun a w s fs gs hf hg => by obtain rfl := hf.unnil; obtain rfl := hg.unnil; exact c_disk_New k _ _ e_x2 _ _ _ (s.arg (opd_int rfl))) (by exact fun _ => rfl)) fun gg10 a10 w10 s10 => ?_; clear s9
    obtain ⟨b1, v1, v2⟩ := gg10
    refine seq_op s10 rfl rfl (of_decide_eq_true rfl) (ob_assign rfl (.tmp rfl)) fun a11 w11 s11 => ?_; clear s10
    refine wpList_nil ?_
    refine then_normal ?_
    refine hK5 _ _ ?_
    have s12 := s11.sub (.cons (t := 0) rfl (.cons (t := 1) rfl (.cons (t := 5) rfl .nil))); clear s11
    refine wp_seq_k fun K6 hK6 => ?_
    refine wp_region_lit ?_
    refine seq_opx (B' := (fun b2 : Nat => [ArrF b2 27 12 5 (kint .u8) (List.replicate 12 (.slice none 0 0)) (List.replicate 12 (.slice none 0 0)) (List.replicate 12 ([] : (List Int))), BF b1 87 (ko_disk_Disk_0_1 v1 v2) (⟨[], [], x2.fuse, x2.dead⟩ : disk_Disk), RowF v1 91 (karr 256 (kint .u8)) x2.firm, RowF v2 93 k_disk_write x2.loose])) s12 rfl rfl (of_decide_eq_true rfl) (ob_newA (k := (kint .u8)) (e := 5) rfl zz27 rfl) fun b2 a13 w13 s13 => ?_; clear s12
    refine wpList_nil ?_
    refine then_normal ?_
    refine hK6 _ _ ?_
    have s14 := s13.sub (.cons (t := 0) rfl (.cons (t := 1) rfl (.cons (t := 5) rfl (.cons (t := 6) rfl .nil)))); clear s13
    refine wp_seq_k fun K7 hK7 => ?_
    refine wp_seq_k fun K8 hK8 => ?_
    refine wp_region_lit ?_
    refine seq_op s14 rfl rfl (of_decide_eq_true rfl) (ob_assign rfl (opd_int rfl)) fun a15 w15 s15 => ?_; clear s14
    refine wpList_nil ?_
    refine then_normal ?_
    refine hK8 _ _ ?_
    have s16 := s15.sub (.cons (t := 0) rfl (.cons (t := 1) rfl (.cons (t := 5) rfl (.cons (t := 6) rfl (.cons (t := 7) rfl .nil))))); clear s15
    have hj1 : ∀ (y1 : (List (List Int))) (b3 : List Value) (a : Act) (w : World), (caballaw12_DiskSectors.j1 k p1 p2 x2) y1 = some r → St ⟨161, w0, ok, []⟩ [BF b1 87 (ko_disk_Disk_0_1 v1 v2) (⟨[], [], x2.fuse, x2.dead⟩ : disk_Disk), ArrF b2 27 12 5 (kint .u8) b3 b3 y1, RowF v1 91 (karr 256 (kint .u8)) x2.firm, RowF v2 93 k_disk_write x2.loose] [(0, ((ksl k_caballaw12_Act).V p1)), (1, ((ksl (kint .u8)).V p2)), (5, (ptrB b1 0)), (6, (ptrB b2 0))] a w → K7 a w := by
      intro y1 b3 a17 w17 h5 s17
      unfold caballaw12_DiskSectors.j1 at h5
      refine hK7 _ _ ?_
      refine wp_seq_k fun K9 hK9 => ?_
      refine wp_seq_k fun K10 hK10 => ?_
      refine wp_region_lit ?_
      refine seq_op s17 rfl rfl (of_decide_eq_true rfl) (ob_assign rfl (opd_int rfl)) fun a18 w18 s18 => ?_; clear s17
      refine wpList_nil ?_
      refine then_normal ?_
      refine hK10 _ _ ?_
      have s19 := s18.sub (.cons (t := 0) rfl (.cons (t := 1) rfl (.cons (t := 5) rfl (.cons (t := 6) rfl (.cons (t := 8) rfl .nil))))); clear s18
      have hj2 : ∀ (y2 : Int) (y3 : Bool) (y4 : (List (List Int))) (y5 : (List (List Int))) (y6 : (List disk_write)) (v3 : Value) (v4 : Value) (b4 : List Value) (a : Act) (w : World), (caballaw12_DiskSectors.j2 k p2) y2 y3 y4 y5 y6 = some r → St ⟨161, w0, ok, []⟩ [BF b1 87 (ko_disk_Disk_0_1 v3 v4) (⟨[], [], y2, y3⟩ : disk_Disk), ArrF b2 27 12 5 (kint .u8) b4 b4 y4, RowF v3 91 (karr 256 (kint .u8)) y5, RowF v4 93 k_disk_write y6] [(1, ((ksl (kint .u8)).V p2)), (5, (ptrB b1 0)), (6, (ptrB b2 0))] a w → K9 a w := by
        intro y2 y3 y4 y5 y6 v3 v4 b4 a20 w20 h6 s20
        unfold caballaw12_DiskSectors.j2 at h6
        refine hK9 _ _ ?_
        refine wp_seq_k fun K11 hK11 => ?_
        refine wp_region_lit ?_
        refine seq_op s20 rfl rfl (of_decide_eq_true rfl) (ob_move rfl (.tmp rfl)) fun a21 w21 s21 => ?_; clear s20
        refine seq_op s21 rfl rfl (of_decide_eq_true rfl) (ob_move rfl (.tmp rfl)) fun a22 w22 s22 => ?_; clear s21
        obtain ⟨x3, e_x3, h7⟩ := bind_some h6; clear h6
        refine seq_opx (B' := (fun gg : Value × Value => [BF b1 87 (ko_disk_Disk_0_1 gg.1 gg.2) (⟨[], [], x3.fuse, x3.dead⟩ : disk_Disk), RowF gg.1 91 (karr 256 (kint .u8)) x3.firm, RowF gg.2 93 k_disk_write x3.loose, ArrF b2 27 12 5 (kint .u8) b4 b4 y4])) s22 rfl rfl (of_decide_eq_true rfl) (ob_callL (args := [_, _]) (L := [_, _, _]) rfl .direct hb17 (toFront [] (toFront [_] (toFront [_] (List.Perm.refl _)))) (fun a w s fs gs hf hg => by obtain rfl := hf.unnil; obtain rfl := hg.unnil; exact c_disk_Disk_Crash k _ _ _ e_x3 _ _ _ _ _ _ _ (ownL s) (disL s) (nodL s) (s.arg (.tmp rfl)) (s.arg (.tmp rfl))) (by exact fun _ => rfl)) fun gg23 a23 w23 s23 => ?_; clear s22
        obtain ⟨v5, v6⟩ := gg23
        refine wpList_nil ?_
        refine then_normal ?_
        refine hK11 _ _ ?_
        have s24 := s23.sub (.cons (t := 5) rfl (.cons (t := 6) rfl .nil)); clear s23
        refine wp_seq_k fun K12 hK12 => ?_
        refine wp_seq_k fun K13 hK13 => ?_
        refine wp_region_lit ?_
        refine seq_op s24 rfl rfl (of_decide_eq_true rfl) (ob_assign rfl (opd_int rfl)) fun a25 w25 s25 => ?_; clear s24
        refine wpList_nil ?_
        refine then_normal ?_
        refine hK13 _ _ ?_
        have s26 := s25.sub (.cons (t := 5) rfl (.cons (t := 6) rfl (.cons (t := 15) rfl .nil))); clear s25
        have hj3 : ∀ (a : Act) (w : World), (caballaw12_DiskSectors.j3 k) = some r → St ⟨161, w0, ok, []⟩ [] [] a w → K12 a w := by
          intro a27 w27 h8 s27
          unfold caballaw12_DiskSectors.j3 at h8
          refine hK12 _ _ ?_
          refine wp_seq_k fun K14 hK14 => ?_
          refine wp_region_lit ?_
          obtain ⟨x4, e_x4, h9⟩ := bind_some h8; clear h8
          refine seq_op s27 rfl rfl (of_decide_eq_true rfl) (ob_callD (args := []) rfl .direct hb11 (fun a w s fs gs hf hg => by obtain rfl := hf.unnil; obtain rfl := hg.unnil; exact c_caballaw12_alive k _ e_x4 _ _)) fun a28 w28 s28 => ?_; clear s27
          refine seq_op s28 rfl rfl (of_decide_eq_true rfl) (ob_assign rfl (.tmp rfl)) fun a29 w29 s29 => ?_; clear s28
          refine wpList_nil ?_
          refine then_normal ?_
          refine hK14 _ _ ?_
          have s30 := s29.sub (.cons (t := 4) rfl .nil); clear s29
          refine wp_ret ?_
          obtain rfl := Option.some.inj h9
          exact leave s30 (.inl rfl) rfl (.cons (.tmp rfl) .nil)
        refine wp_block ?_
        have s31 := St.letArr (s26.perm (toFront [_, _, _] (List.Perm.refl _))); clear s26
        have s32 := s31.perm (toFront [_] (toFront [] (toFront [] (toFront [] (List.Perm.refl _))))); clear s31
        refine wp_loop_fuel (fun m (q : Int) => caballaw12_DiskSectors.l1 k x3 y4 m q) r (fun _ => rfl) (fun q a w => St ⟨161, w0, ok, []⟩ [BF b1 87 (ko_disk_Disk_0_1 v5 v6) (⟨[], [], x3.fuse, x3.dead⟩ : disk_Disk), BF b2 27 (karr 12 (ksl (kint .u8))) y4, RowF v5 91 (karr 256 (kint .u8)) x3.firm, RowF v6 93 k_disk_write x3.loose] [(5, (ptrB b1 0)), (6, (ptrB b2 0)), (15, ((kint .i64).V q))] a w) ?_ k (0 : Int) _ _ h7 (s32.sub (.cons rfl (.cons rfl (.cons rfl .nil))))
        rintro n1 y7 a33 w33 h10 s33 K15 hK15
        replace h10 : caballaw12_DiskSectors.l1 k x3 y4 (n1 + 1) y7 = some r := h10; rw [caballaw12_DiskSectors.l1] at h10
        have h11 := h10; clear h10
        refine wp_seq_k fun K16 hK16 => ?_
        refine wp_seq_k fun K17 hK17 => ?_
        refine wp_region_lit ?_
        refine seq_op s33 rfl rfl (of_decide_eq_true rfl) (ob_move rfl (.tmp rfl)) fun a34 w34 s34 => ?_; clear s33
        refine seq_op s34 rfl rfl (of_decide_eq_true rfl) (ob_lss rfl (.tmp rfl) (opd_int rfl)) fun a35 w35 s35 => ?_; clear s34
        refine wpList_nil ?_
        refine then_normal ?_
        refine hK17 _ _ ?_
        have s36 := s35.sub (.cons (t := 5) rfl (.cons (t := 6) rfl (.cons (t := 15) rfl (.cons (t := 108) rfl .nil)))); clear s35
        refine cond_split s36 (.tmp rfl) (fun hc2 => ?_) (fun hc2 => ?_)
        · replace h11 := ite_t hc2 h11
          have h12 := h11; clear h11
          refine wp_skip ?_
          refine then_normal ?_
          refine hK16 _ _ ?_
          have s37 := s36.sub (.cons (t := 5) rfl (.cons (t := 6) rfl (.cons (t := 15) rfl .nil))); clear s36
          refine wp_seq_k fun K18 hK18 => ?_
          have hj4 : ∀ (a : Act) (w : World), (caballaw12_DiskSectors.j4 k y7 (caballaw12_DiskSectors.l1 k x3 y4 n1)) = some r → St ⟨161, w0, ok, []⟩ [BF b1 87 (ko_disk_Disk_0_1 v5 v6) (⟨[], [], x3.fuse, x3.dead⟩ : disk_Disk), BF b2 27 (karr 12 (ksl (kint .u8))) y4, RowF v5 91 (karr 256 (kint .u8)) x3.firm, RowF v6 93 k_disk_write x3.loose] [(5, (ptrB b1 0)), (6, (ptrB b2 0)), (15, ((kint .i64).V y7))] a w → K18 a w := by
            intro a38 w38 h13 s38
            unfold caballaw12_DiskSectors.j4 at h13
            refine hK18 _ _ ?_
            refine wp_region_lit ?_
            refine seq_op s38 rfl rfl (of_decide_eq_true rfl) (ob_move rfl (.tmp rfl)) fun a39 w39 s39 => ?_; clear s38
            refine seq_op s39 rfl rfl (of_decide_eq_true rfl) (ob_add rfl (.tmp rfl) (opd_int rfl)) fun a40 w40 s40 => ?_; clear s39
            refine seq_op s40 rfl rfl (of_decide_eq_true rfl) (ob_assign rfl (.tmp rfl)) fun a41 w41 s41 => ?_; clear s40
            refine wpList_nil ?_
            refine then_normal ?_
            exact hK15 (iadd .i64 y7 (1 : Int)) _ _ h13 (s41.sub (.cons rfl (.cons rfl (.cons rfl .nil))))
          refine wp_block ?_
          refine wp_seq_k fun K19 hK19 => ?_
          refine wp_region_lit ?_
          refine seq_op s37 rfl rfl (of_decide_eq_true rfl) (ob_move rfl (.tmp rfl)) fun a42 w42 s42 => ?_; clear s37
          refine seq_op s42 rfl rfl (of_decide_eq_true rfl) (ob_move rfl (.tmp rfl)) fun a43 w43 s43 => ?_; clear s42
          refine seq_op s43 rfl rfl (of_decide_eq_true rfl) (ob_quo rfl (.tmp rfl) (opd_int rfl) (by decide)) fun a44 w44 s44 => ?_; clear s43
          obtain ⟨x5, e_x5, h14⟩ := bind_some h12; clear h12
          refine seq_op s44 rfl rfl (of_decide_eq_true rfl) ((ob_lendG (L := [_, _, _]) (toFront [] (toFront [_] (toFront [_] (List.Perm.refl _)))) (.cons (t := 111) rfl (lendObj (K' := k_disk_Disk) (X' := x3) (.head _) rfl (upo_disk_Disk_0_1 rfl (.row (LetAll.row (.tail _ (.head _)))) (.row (LetAll.row (.tail _ (.tail _ (.head _))))))) .nil) (Flat.res1 (Flat.V KFlat.str)) (fun _ => ob_callD (args := [_, _]) rfl .direct hb18 (fun a w s fs gs hf hg => by obtain rfl := hf.unnil; obtain rfl := hg.unnil; exact c_disk_Disk_Settled k _ _ _ e_x5 _ _ _ _ (s.arg (.tmp rfl)) (s.arg (.tmp rfl)))))) fun a45 w45 s45 => ?_; clear s44
          refine seq_op s45 rfl rfl (of_decide_eq_true rfl) (ob_assign rfl (.tmp rfl)) fun a46 w46 s46 => ?_; clear s45
          refine wpList_nil ?_
          refine then_normal ?_
          refine hK19 _ _ ?_
          have s47 := s46.sub (.cons (t := 5) rfl (.cons (t := 6) rfl (.cons (t := 15) rfl (.cons (t := 16) rfl .nil)))); clear s46
          refine wp_seq_k fun K20 hK20 => ?_
          refine wp_region_lit ?_
          refine seq_op s47 rfl rfl (of_decide_eq_true rfl) (ob_assign rfl opd_bool) fun a48 w48 s48 => ?_; clear s47
          refine wpList_nil ?_
          refine then_normal ?_
          refine hK20 _ _ ?_
          have s49 := s48.sub (.cons (t := 5) rfl (.cons (t := 6) rfl (.cons (t := 15) rfl (.cons (t := 16) rfl (.cons (t := 17) rfl .nil))))); clear s48
          refine wp_seq_k fun K21 hK21 => ?_
          refine wp_seq_k fun K22 hK22 => ?_
          refine wp_region_lit ?_
          refine seq_op s49 rfl rfl (of_decide_eq_true rfl) (ob_assign rfl (opd_int rfl)) fun a50 w50 s50 => ?_; clear s49
          refine wpList_nil ?_
          refine then_normal ?_
          refine hK22 _ _ ?_
          have s51 := s50.sub (.cons (t := 5) rfl (.cons (t := 6) rfl (.cons (t := 15) rfl (.cons (t := 16) rfl (.cons (t := 17) rfl (.cons (t := 18) rfl .nil)))))); clear s50
          have hj5 : ∀ (y8 : Bool) (a : Act) (w : World), (caballaw12_DiskSectors.j5 k x5 y7 (caballaw12_DiskSectors.l1 k x3 y4 n1)) y8 = some r → St ⟨161, w0, ok, []⟩ [BF b1 87 (ko_disk_Disk_0_1 v5 v6) (⟨[], [], x3.fuse, x3.dead⟩ : disk_Disk), BF b2 27 (karr 12 (ksl (kint .u8))) y4, RowF v5 91 (karr 256 (kint .u8)) x3.firm, RowF v6 93 k_disk_write x3.loose] [(5, (ptrB b1 0)), (6, (ptrB b2 0)), (15, ((kint .i64).V y7)), (16, (kstr.V x5)), (17, (kbool.V y8))] a w → K21 a w := by
            intro y8 a52 w52 h15 s52
            unfold caballaw12_DiskSectors.j5 at h15
            refine hK21 _ _ ?_
            refine wp_seq_k fun K23 hK23 => ?_
            refine wp_seq_k fun K24 hK24 => ?_
            refine wp_region_lit ?_
            refine seq_op s52 rfl rfl (of_decide_eq_true rfl) (ob_assign rfl (opd_int rfl)) fun a53 w53 s53 => ?_; clear s52
            refine wpList_nil ?_
            refine then_normal ?_
            refine hK24 _ _ ?_
            have s54 := s53.sub (.cons (t := 5) rfl (.cons (t := 6) rfl (.cons (t := 15) rfl (.cons (t := 16) rfl (.cons (t := 17) rfl (.cons (t := 19) rfl .nil)))))); clear s53
            have hj6 : ∀ (y9 : Bool) (a : Act) (w : World), (caballaw12_DiskSectors.j6 k y7 (caballaw12_DiskSectors.l1 k x3 y4 n1)) y9 = some r → St ⟨161, w0, ok, []⟩ [BF b1 87 (ko_disk_Disk_0_1 v5 v6) (⟨[], [], x3.fuse, x3.dead⟩ : disk_Disk), BF b2 27 (karr 12 (ksl (kint .u8))) y4, RowF v5 91 (karr 256 (kint .u8)) x3.firm, RowF v6 93 k_disk_write x3.loose] [(5, (ptrB b1 0)), (6, (ptrB b2 0)), (15, ((kint .i64).V y7)), (17, (kbool.V y9))] a w → K23 a w := by
              intro y9 a55 w55 h16 s55
              unfold caballaw12_DiskSectors.j6 at h16
              refine hK23 _ _ ?_
              refine wp_seq_k fun K25 hK25 => ?_
              refine wp_region_lit ?_
              refine seq_op s55 rfl rfl (of_decide_eq_true rfl) (ob_move rfl (.tmp rfl)) fun a56 w56 s56 => ?_; clear s55
              refine seq_op s56 rfl rfl (of_decide_eq_true rfl) (ob_not rfl (.tmp rfl)) fun a57 w57 s57 => ?_; clear s56
              refine wpList_nil ?_
              refine then_normal ?_
              refine hK25 _ _ ?_
              have s58 := s57.sub (.cons (t := 5) rfl (.cons (t := 6) rfl (.cons (t := 15) rfl (.cons (t := 159) rfl .nil)))); clear s57
              refine cond_split s58 (.tmp rfl) (fun hc3 => ?_) (fun hc3 => ?_)
              · replace h16 := ite_t hc3 h16
                have h17 := h16; clear h16
                refine wp_seq_k fun K26 hK26 => ?_
                refine wp_region_lit ?_
                refine seq_op s58 rfl rfl (of_decide_eq_true rfl) (ob_assign rfl opd_bool) fun a59 w59 s59 => ?_; clear s58
                refine wpList_nil ?_
                refine then_normal ?_
                refine hK26 _ _ ?_
                have s60 := s59.sub (.cons (t := 4) rfl .nil); clear s59
                have s61 := St.drop (A := []) s60; clear s60
                have s62 := St.drop (A := []) s61; clear s61
                have s63 := St.drop (A := []) s62; clear s62
                have s64 := St.drop (A := []) s63; clear s63
                refine wp_ret ?_
                obtain rfl := Option.some.inj h17
                exact leave s64 (.inl rfl) rfl (.cons (.tmp rfl) .nil)
              · replace h16 := ite_f hc3 h16
                have h18 := h16; clear h16
                refine wp_skip ?_
                refine in_normal ?_
                refine then_normal ?_
                exact hj4 _ _ h18 (s58.sub (.cons rfl (.cons rfl (.cons rfl .nil))))
            refine wp_block ?_
            refine wp_loop_fuel (fun m (q : Bool × Int) => caballaw12_DiskSectors.l2 k x5 y7 (caballaw12_DiskSectors.l1 k x3 y4 n1) m q.1 q.2) r (fun _ => rfl) (fun q a w => St ⟨161, w0, ok, []⟩ [BF b1 87 (ko_disk_Disk_0_1 v5 v6) (⟨[], [], x3.fuse, x3.dead⟩ : disk_Disk), BF b2 27 (karr 12 (ksl (kint .u8))) y4, RowF v5 91 (karr 256 (kint .u8)) x3.firm, RowF v6 93 k_disk_write x3.loose] [(5, (ptrB b1 0)), (6, (ptrB b2 0)), (15, ((kint .i64).V y7)), (16, (kstr.V x5)), (17, (kbool.V q.1)), (19, ((kint .i64).V q.2))] a w) ?_ k (y8, (0 : Int)) _ _ h15 (s54.sub (.cons rfl (.cons rfl (.cons rfl (.cons rfl (.cons rfl (.cons rfl .nil)))))))
            rintro n2 ⟨y10, y11⟩ a65 w65 h19 s65 K27 hK27
            replace h19 : caballaw12_DiskSectors.l2 k x5 y7 (caballaw12_DiskSectors.l1 k x3 y4 n1) (n2 + 1) y10 y11 = some r := h19; rw [caballaw12_DiskSectors.l2] at h19
            have h20 := h19; clear h19
            refine wp_seq_k fun K28 hK28 => ?_
            refine wp_seq_k fun K29 hK29 => ?_
            refine wp_region_lit ?_
            refine seq_op s65 rfl rfl (of_decide_eq_true rfl) (ob_move rfl (.tmp rfl)) fun a66 w66 s66 => ?_; clear s65
            refine seq_op s66 rfl rfl (of_decide_eq_true rfl) (ob_lss rfl (.tmp rfl) (opd_int rfl)) fun a67 w67 s67 => ?_; clear s66
            refine wpList_nil ?_
            refine then_normal ?_
            refine hK29 _ _ ?_
            have s68 := s67.sub (.cons (t := 5) rfl (.cons (t := 6) rfl (.cons (t := 15) rfl (.cons (t := 16) rfl (.cons (t := 17) rfl (.cons (t := 19) rfl (.cons (t := 139) rfl .nil))))))); clear s67
            refine cond_split s68 (.tmp rfl) (fun hc4 => ?_) (fun hc4 => ?_)
            · replace h20 := ite_t hc4 h20
              have h21 := h20; clear h20
              refine wp_skip ?_
              refine then_normal ?_
              refine hK28 _ _ ?_
              have s69 := s68.sub (.cons (t := 5) rfl (.cons (t := 6) rfl (.cons (t := 15) rfl (.cons (t := 16) rfl (.cons (t := 17) rfl (.cons (t := 19) rfl .nil)))))); clear s68
              refine wp_seq_k fun K30 hK30 => ?_
              refine wp_block ?_
              obtain ⟨x6, e_x6, h22⟩ := bind_some h21; clear h21
              obtain ⟨x7, e_x7, h23⟩ := bind_some h22; clear h22
              refine wp_goes (Fs := [(kbool.V y10), (kbool.V y10), (Fact.when (y10 == true) (kstr.V x5)), (Fact.when (y10 == true) ((kint .i64).V y7)), (Fact.when (y10 == true) ((kint .i64).V (irem y7 (4 : Int)))), (Fact.when (y10 == true) ((kint .i64).V (imul .i64 (irem y7 (4 : Int)) (64 : Int)))), (Fact.when (y10 == true) ((kint .i64).V y11)), (Fact.when (y10 == true) ((kint .i64).V (iadd .i64 (imul .i64 (irem y7 (4 : Int)) (64 : Int)) y11))), (Fact.when (y10 == true) ((kint .u8).V x6)), (Fact.when (y10 == true) (kstr.V x5)), (Fact.when (y10 == true) ((kint .i64).V y7)), (Fact.when (y10 == true) ((kint .i64).V (irem y7 (4 : Int)))), (Fact.when (y10 == true) ((kint .i64).V (imul .i64 (irem y7 (4 : Int)) (64 : Int)))), (Fact.when (y10 == true) ((kint .u8).V x7))]) (bits := [0, 1, 3, 3, 11, 27, 3, 123, 255, 3, 3, 1027, 3075, 7683, 16383, 32767, 65535]) (m := 14) (todo := 0) mx s69 ?_; clear s69
              refine goes_last (by kernel_rfl) rfl (opsS_cons (.plain _ (Av.old (t := 17) rfl rfl Av.nil) rfl rfl (ob_move rfl (.tmp rfl))) (opsS_cons (.plain _ (Av.new (j := 0) rfl rfl rfl Av.nil) rfl rfl (ob_move rfl (.tmp rfl))) (opsS_cons (.guarded _ (Av.old (t := 16) rfl rfl (Av.new (j := 1) rfl rfl rfl Av.nil)) rfl rfl rfl rfl (fun hb => ob_move rfl (.tmp rfl))) (opsS_cons (.guarded _ (Av.old (t := 15) rfl rfl (Av.new (j := 1) rfl rfl rfl Av.nil)) rfl rfl rfl rfl (fun hb => ob_move rfl (.tmp rfl))) (opsS_cons (.guarded _ (Av.new (j := 1) rfl rfl rfl (Av.new (j := 3) rfl rfl rfl Av.nil)) rfl rfl rfl rfl (fun hb => (Ob.uncond (t := 145) hb rfl (ob_rem rfl (.tmp rfl) (opd_int rfl) (by decide))))) (opsS_cons (.guarded _ (Av.new (j := 1) rfl rfl rfl (Av.new (j := 4) rfl rfl rfl Av.nil)) rfl rfl rfl rfl (fun hb => (Ob.uncond (t := 146) hb rfl (ob_mul rfl (.tmp rfl) (opd_int rfl))))) (opsS_cons (.guarded _ (Av.old (t := 19) rfl rfl (Av.new (j := 1) rfl rfl rfl Av.nil)) rfl rfl rfl rfl (fun hb => ob_move rfl (.tmp rfl))) (opsS_cons (.guarded _ (Av.new (j := 1) rfl rfl rfl (Av.new (j := 5) rfl rfl rfl (Av.new (j := 6) rfl rfl rfl Av.nil))) rfl rfl rfl rfl (fun hb => (Ob.uncond (t := 148) hb rfl ((Ob.uncond (t := 147) hb rfl (ob_add rfl (.tmp rfl) (.tmp rfl))))))) (opsS_cons (.guarded _ (Av.new (j := 1) rfl rfl rfl (Av.new (j := 2) rfl rfl rfl (Av.new (j := 7) rfl rfl rfl Av.nil))) rfl rfl rfl rfl (fun hb => (Ob.uncond (t := 149) hb rfl ((Ob.uncond (t := 144) hb rfl (ob_indexStr rfl Try.underlying9 (.tmp rfl) (.tmp rfl) (ite_t hb e_x6))))))) (opsS_cons (.guarded _ (Av.old (t := 16) rfl rfl (Av.new (j := 1) rfl rfl rfl Av.nil)) rfl rfl rfl rfl (fun hb => ob_move rfl (.tmp rfl))) (opsS_cons (.guarded _ (Av.old (t := 15) rfl rfl (Av.new (j := 1) rfl rfl rfl Av.nil)) rfl rfl rfl rfl (fun hb => ob_move rfl (.tmp rfl))) (opsS_cons (.guarded _ (Av.new (j := 1) rfl rfl rfl (Av.new (j := 10) rfl rfl rfl Av.nil)) rfl rfl rfl rfl (fun hb => (Ob.uncond (t := 152) hb rfl (ob_rem rfl (.tmp rfl) (opd_int rfl) (by decide))))) (opsS_cons (.guarded _ (Av.new (j := 1) rfl rfl rfl (Av.new (j := 11) rfl rfl rfl Av.nil)) rfl rfl rfl rfl (fun hb => (Ob.uncond (t := 153) hb rfl (ob_mul rfl (.tmp rfl) (opd_int rfl))))) (opsS_cons (.guarded _ (Av.new (j := 1) rfl rfl rfl (Av.new (j := 9) rfl rfl rfl (Av.new (j := 12) rfl rfl rfl Av.nil))) rfl rfl rfl rfl (fun hb => (Ob.uncond (t := 154) hb rfl ((Ob.uncond (t := 151) hb rfl (ob_indexStr rfl Try.underlying9 (.tmp rfl) (.tmp rfl) (ite_t hb e_x7))))))) opsS_nil)))))))))))))) (out_old (t := 5) rfl rfl (out_old (t := 6) rfl rfl (out_old (t := 15) rfl rfl (out_old (t := 16) rfl rfl (out_old (t := 17) rfl rfl (out_old (t := 19) rfl rfl (out_new (i := 1) (by decide) rfl rfl (out_new (i := 8) (by decide) rfl rfl (out_new (i := 13) (by decide) rfl rfl out_nil))))))))) fun a70 w70 s70 => ?_
              refine seq_opg s70 rfl rfl rfl rfl (of_decide_eq_true rfl) (fun hb => (Ob.uncond (t := 155) hb rfl ((Ob.uncond (t := 150) hb rfl (ob_eql rfl (.tmp rfl) (.tmp rfl)))))) fun a71 w71 s71 => ?_; clear s70
              refine seq_op s71 rfl rfl (of_decide_eq_true rfl) (ob_and2 rfl (.tmp rfl) (.tmp rfl) opd_bool) fun a72 w72 s72 => ?_; clear s71
              refine seq_op s72 rfl rfl (of_decide_eq_true rfl) (ob_assign rfl (.tmp rfl)) fun a73 w73 s73 => ?_; clear s72
              refine wpList_nil ?_
              refine in_normal ?_
              refine then_normal ?_
              refine hK30 _ _ ?_
              have s74 := s73.sub (.cons (t := 5) rfl (.cons (t := 6) rfl (.cons (t := 15) rfl (.cons (t := 16) rfl (.cons (t := 17) rfl (.cons (t := 19) rfl .nil)))))); clear s73
              refine wp_region_lit ?_
              refine seq_op s74 rfl rfl (of_decide_eq_true rfl) (ob_move rfl (.tmp rfl)) fun a75 w75 s75 => ?_; clear s74
              refine seq_op s75 rfl rfl (of_decide_eq_true rfl) (ob_add rfl (.tmp rfl) (opd_int rfl)) fun a76 w76 s76 => ?_; clear s75
              refine seq_op s76 rfl rfl (of_decide_eq_true rfl) (ob_assign rfl (.tmp rfl)) fun a77 w77 s77 => ?_; clear s76
              refine wpList_nil ?_
              refine then_normal ?_
              exact hK27 ((if y10 then (x6 == x7) else false), (iadd .i64 y11 (1 : Int))) _ _ h23 (s77.sub (.cons rfl (.cons rfl (.cons rfl (.cons rfl (.cons rfl (.cons rfl .nil)))))))
            · replace h20 := ite_f hc4 h20
              have h24 := h20; clear h20
              refine wp_exit ?_
              refine (then_exit (then_exit (in_here ?_)))
              refine then_normal ?_
              exact hj6 y10 _ _ h24 (s68.sub (.cons rfl (.cons rfl (.cons rfl (.cons rfl .nil)))))
          refine wp_block ?_
          refine wp_loop_fuel (fun m (q : Bool × Int) => caballaw12_DiskSectors.l3 k y7 y4 x5 (caballaw12_DiskSectors.l1 k x3 y4 n1) m q.1 q.2) r (fun _ => rfl) (fun q a w => St ⟨161, w0, ok, []⟩ [BF b1 87 (ko_disk_Disk_0_1 v5 v6) (⟨[], [], x3.fuse, x3.dead⟩ : disk_Disk), BF b2 27 (karr 12 (ksl (kint .u8))) y4, RowF v5 91 (karr 256 (kint .u8)) x3.firm, RowF v6 93 k_disk_write x3.loose] [(5, (ptrB b1 0)), (6, (ptrB b2 0)), (15, ((kint .i64).V y7)), (16, (kstr.V x5)), (17, (kbool.V q.1)), (18, ((kint .i64).V q.2))] a w) ?_ k (false, (0 : Int)) _ _ h14 (s51.sub (.cons rfl (.cons rfl (.cons rfl (.cons rfl (.cons rfl (.cons rfl .nil)))))))
          rintro n3 ⟨y12, y13⟩ a78 w78 h25 s78 K31 hK31
          replace h25 : caballaw12_DiskSectors.l3 k y7 y4 x5 (caballaw12_DiskSectors.l1 k x3 y4 n1) (n3 + 1) y12 y13 = some r := h25; rw [caballaw12_DiskSectors.l3] at h25
          have h26 := h25; clear h25
          refine wp_seq_k fun K32 hK32 => ?_
          refine wp_seq_k fun K33 hK33 => ?_
          refine wp_region_lit ?_
          refine seq_op s78 rfl rfl (of_decide_eq_true rfl) (ob_move rfl (.tmp rfl)) fun a79 w79 s79 => ?_; clear s78
          refine seq_op s79 rfl rfl (of_decide_eq_true rfl) (ob_move rfl (.tmp rfl)) fun a80 w80 s80 => ?_; clear s79
          obtain ⟨g1, h27⟩ := guard_some h26; clear h26
          refine seq_op s80 rfl rfl (of_decide_eq_true rfl) (ob_indexAddr rfl Try.underlying27 sz23 (.tmp rfl) (.tmp rfl) g1.1 g1.2 (Nat.zero_add _)) fun a81 w81 s81 => ?_; clear s80
          obtain ⟨x8, e_x8, h28⟩ := bind_some h27; clear h27
          refine seq_op s81 rfl rfl (of_decide_eq_true rfl) (ob_load rfl tk23 (.tmp rfl) (.tail _ (.head _)) (LG.arrA e_x8)) fun a82 w82 s82 => ?_; clear s81
          refine seq_op s82 rfl rfl (of_decide_eq_true rfl) (ob_lens rfl Try.underlying23 (.tmp rfl)) fun a83 w83 s83 => ?_; clear s82
          refine seq_op s83 rfl rfl (of_decide_eq_true rfl) (ob_lss rfl (.tmp rfl) (.tmp rfl)) fun a84 w84 s84 => ?_; clear s83
          refine wpList_nil ?_
          refine then_normal ?_
          refine hK33 _ _ ?_
          have s85 := s84.sub (.cons (t := 5) rfl (.cons (t := 6) rfl (.cons (t := 15) rfl (.cons (t := 16) rfl (.cons (t := 17) rfl (.cons (t := 18) rfl (.cons (t := 120) rfl .nil))))))); clear s84
          refine cond_split s85 (.tmp rfl) (fun hc5 => ?_) (fun hc5 => ?_)
          · replace h28 := ite_t hc5 h28
            have h29 := h28; clear h28
            refine wp_skip ?_
            refine then_normal ?_
            refine hK32 _ _ ?_
            have s86 := s85.sub (.cons (t := 5) rfl (.cons (t := 6) rfl (.cons (t := 15) rfl (.cons (t := 16) rfl (.cons (t := 17) rfl (.cons (t := 18) rfl .nil)))))); clear s85
            refine wp_seq_k fun K34 hK34 => ?_
            refine wp_block ?_
            obtain ⟨g2, h30⟩ := guard_some h29; clear h29
            obtain ⟨x9, e_x9, h31⟩ := bind_some h30; clear h30
            obtain ⟨x10, e_x10, h32⟩ := bind_some h31; clear h31
            obtain ⟨x11, e_x11, h33⟩ := bind_some h32; clear h32
            refine wp_goes (Fs := [(kbool.V y12), (kbool.V y12), (Fact.when (y12 == false) ((kint .i64).V y7)), (Fact.when (y12 == false) (ptrB b2 (y7.toNat * 1))), (Fact.when (y12 == false) ((ksl (kint .u8)).V x9)), (Fact.when (y12 == false) ((kint .i64).V y13)), (Fact.when (y12 == false) (ptrTo (kint .u8) x10)), (Fact.when (y12 == false) ((kint .u8).V x10)), (Fact.when (y12 == false) (kstr.V x5)), (Fact.when (y12 == false) ((kint .i64).V y7)), (Fact.when (y12 == false) ((kint .i64).V (irem y7 (4 : Int)))), (Fact.when (y12 == false) ((kint .i64).V (imul .i64 (irem y7 (4 : Int)) (64 : Int)))), (Fact.when (y12 == false) ((kint .u8).V x11))]) (bits := [0, 1, 3, 7, 15, 3, 63, 127, 3, 3, 515, 1539, 3843, 8191, 16383, 32767]) (m := 13) (todo := 0) mx s86 ?_; clear s86
            refine goes_last (by kernel_rfl) rfl (opsS_cons (.plain _ (Av.old (t := 17) rfl rfl Av.nil) rfl rfl (ob_move rfl (.tmp rfl))) (opsS_cons (.plain _ (Av.new (j := 0) rfl rfl rfl Av.nil) rfl rfl (ob_move rfl (.tmp rfl))) (opsS_cons (.guarded _ (Av.old (t := 15) rfl rfl (Av.new (j := 1) rfl rfl rfl Av.nil)) rfl rfl rfl rfl (fun hb => ob_move rfl (.tmp rfl))) (opsS_cons (.guarded _ (Av.old (t := 6) rfl rfl (Av.new (j := 1) rfl rfl rfl (Av.new (j := 2) rfl rfl rfl Av.nil))) rfl rfl rfl rfl (fun hb => (Ob.uncond (t := 125) hb rfl (ob_indexAddr rfl Try.underlying27 sz23 (.tmp rfl) (.tmp rfl) (g2 hb).1 (g2 hb).2 (Nat.zero_add _))))) (opsS_cons (.guarded _ (Av.new (j := 1) rfl rfl rfl (Av.new (j := 3) rfl rfl rfl Av.nil)) rfl rfl rfl rfl (fun hb => (Ob.uncond (t := 126) hb rfl (ob_load rfl tk23 (.tmp rfl) (.tail _ (.head _)) (LG.arrA (ite_t hb e_x9)))))) (opsS_cons (.guarded _ (Av.old (t := 18) rfl rfl (Av.new (j := 1) rfl rfl rfl Av.nil)) rfl rfl rfl rfl (fun hb => ob_move rfl (.tmp rfl))) (opsS_cons (.guarded _ (Av.new (j := 1) rfl rfl rfl (Av.new (j := 4) rfl rfl rfl (Av.new (j := 5) rfl rfl rfl Av.nil))) rfl rfl rfl rfl (fun hb => (Ob.uncond (t := 128) hb rfl ((Ob.uncond (t := 127) hb rfl (ob_indexAddrs rfl Try.underlying23 sz5 (.tmp rfl) (.tmp rfl) (ite_t hb e_x10))))))) (opsS_cons (.guarded _ (Av.new (j := 1) rfl rfl rfl (Av.new (j := 6) rfl rfl rfl Av.nil)) rfl rfl rfl rfl (fun hb => (Ob.uncond (t := 129) hb rfl (ob_loadr rfl tk5 (.tmp rfl))))) (opsS_cons (.guarded _ (Av.old (t := 16) rfl rfl (Av.new (j := 1) rfl rfl rfl Av.nil)) rfl rfl rfl rfl (fun hb => ob_move rfl (.tmp rfl))) (opsS_cons (.guarded _ (Av.old (t := 15) rfl rfl (Av.new (j := 1) rfl rfl rfl Av.nil)) rfl rfl rfl rfl (fun hb => ob_move rfl (.tmp rfl))) (opsS_cons (.guarded _ (Av.new (j := 1) rfl rfl rfl (Av.new (j := 9) rfl rfl rfl Av.nil)) rfl rfl rfl rfl (fun hb => (Ob.uncond (t := 132) hb rfl (ob_rem rfl (.tmp rfl) (opd_int rfl) (by decide))))) (opsS_cons (.guarded _ (Av.new (j := 1) rfl rfl rfl (Av.new (j := 10) rfl rfl rfl Av.nil)) rfl rfl rfl rfl (fun hb => (Ob.uncond (t := 133) hb rfl (ob_mul rfl (.tmp rfl) (opd_int rfl))))) (opsS_cons (.guarded _ (Av.new (j := 1) rfl rfl rfl (Av.new (j := 8) rfl rfl rfl (Av.new (j := 11) rfl rfl rfl Av.nil))) rfl rfl rfl rfl (fun hb => (Ob.uncond (t := 134) hb rfl ((Ob.uncond (t := 131) hb rfl (ob_indexStr rfl Try.underlying9 (.tmp rfl) (.tmp rfl) (ite_t hb e_x11))))))) opsS_nil))))))))))))) (out_old (t := 5) rfl rfl (out_old (t := 6) rfl rfl (out_old (t := 15) rfl rfl (out_old (t := 16) rfl rfl (out_old (t := 17) rfl rfl (out_old (t := 18) rfl rfl (out_new (i := 1) (by decide) rfl rfl (out_new (i := 7) (by decide) rfl rfl (out_new (i := 12) (by decide) rfl rfl out_nil))))))))) fun a87 w87 s87 => ?_
            refine seq_opg s87 rfl rfl rfl rfl (of_decide_eq_true rfl) (fun hb => (Ob.uncond (t := 135) hb rfl ((Ob.uncond (t := 130) hb rfl (ob_eql rfl (.tmp rfl) (.tmp rfl)))))) fun a88 w88 s88 => ?_; clear s87
            refine seq_op s88 rfl rfl (of_decide_eq_true rfl) (ob_or2 rfl (.tmp rfl) opd_bool (.tmp rfl)) fun a89 w89 s89 => ?_; clear s88
            refine seq_op s89 rfl rfl (of_decide_eq_true rfl) (ob_assign rfl (.tmp rfl)) fun a90 w90 s90 => ?_; clear s89
            refine wpList_nil ?_
            refine in_normal ?_
            refine then_normal ?_
            refine hK34 _ _ ?_
            have s91 := s90.sub (.cons (t := 5) rfl (.cons (t := 6) rfl (.cons (t := 15) rfl (.cons (t := 16) rfl (.cons (t := 17) rfl (.cons (t := 18) rfl .nil)))))); clear s90
            refine wp_region_lit ?_
            refine seq_op s91 rfl rfl (of_decide_eq_true rfl) (ob_move rfl (.tmp rfl)) fun a92 w92 s92 => ?_; clear s91
            refine seq_op s92 rfl rfl (of_decide_eq_true rfl) (ob_add rfl (.tmp rfl) (opd_int rfl)) fun a93 w93 s93 => ?_; clear s92
            refine seq_op s93 rfl rfl (of_decide_eq_true rfl) (ob_assign rfl (.tmp rfl)) fun a94 w94 s94 => ?_; clear s93
            refine wpList_nil ?_
            refine then_normal ?_
            exact hK31 ((if y12 then true else (x10 == x11)), (iadd .i64 y13 (1 : Int))) _ _ h33 (s94.sub (.cons rfl (.cons rfl (.cons rfl (.cons rfl (.cons rfl (.cons rfl .nil)))))))
          · replace h28 := ite_f hc5 h28
            have h34 := h28; clear h28
            refine wp_exit ?_
            refine (then_exit (then_exit (in_here ?_)))
            refine then_normal ?_
            exact hj5 y12 _ _ h34 (s85.sub (.cons rfl (.cons rfl (.cons rfl (.cons rfl (.cons rfl .nil))))))
        · replace h11 := ite_f hc2 h11
          have h35 := h11; clear h11
          refine wp_exit ?_
          refine (then_exit (then_exit (in_here ?_)))
          refine then_normal ?_
          have s95 := St.drop (A := []) s36; clear s36
          have s96 := St.drop (A := []) s95; clear s95
          have s97 := St.drop (A := []) s96; clear s96
          have s98 := St.drop (A := []) s97; clear s97
          exact hj3 _ _ h35 (s98.sub .nil)
      refine wp_block ?_
      refine wp_loop_fuel (fun m (q : Int × Int × Bool × (List (List Int)) × (List (List Int)) × (List disk_write)) => caballaw12_DiskSectors.l4 k p1 p2 m q.1 q.2.1 q.2.2.1 q.2.2.2.1 q.2.2.2.2.1 q.2.2.2.2.2) r (fun _ => rfl) (fun q a w => ∃ (v7 : Value) (v8 : Value) (b5 : List Value), St ⟨161, w0, ok, []⟩ [BF b1 87 (ko_disk_Disk_0_1 v7 v8) (⟨[], [], q.2.1, q.2.2.1⟩ : disk_Disk), ArrF b2 27 12 5 (kint .u8) b5 b5 q.2.2.2.1, RowF v7 91 (karr 256 (kint .u8)) q.2.2.2.2.1, RowF v8 93 k_disk_write q.2.2.2.2.2] [(0, ((ksl k_caballaw12_Act).V p1)), (1, ((ksl (kint .u8)).V p2)), (5, (ptrB b1 0)), (6, (ptrB b2 0)), (8, ((kint .i64).V q.1))] a w) ?_ k ((0 : Int), x2.fuse, x2.dead, y1, x2.firm, x2.loose) _ _ h5 ⟨v1, v2, b3, (s19.sub (.cons rfl (.cons rfl (.cons rfl (.cons rfl (.cons rfl .nil))))))⟩
      rintro n4 ⟨y14, y15, y16, y17, y18, y19⟩ a99 w99 h36 ⟨v7, v8, b5, s99⟩ K35 hK35
      replace h36 : caballaw12_DiskSectors.l4 k p1 p2 (n4 + 1) y14 y15 y16 y17 y18 y19 = some r := h36; rw [caballaw12_DiskSectors.l4] at h36
      have h37 := h36; clear h36
      refine wp_seq_k fun K36 hK36 => ?_
      refine wp_seq_k fun K37 hK37 => ?_
      refine wp_region_lit ?_
      refine seq_op s99 rfl rfl (of_decide_eq_true rfl) (ob_move rfl (.tmp rfl)) fun a100 w100 s100 => ?_; clear s99
      refine seq_op s100 rfl rfl (of_decide_eq_true rfl) (ob_move rfl (.tmp rfl)) fun a101 w101 s101 => ?_; clear s100
      refine seq_op s101 rfl rfl (of_decide_eq_true rfl) (ob_lens rfl Try.underlying22 (.tmp rfl)) fun a102 w102 s102 => ?_; clear s101
      refine seq_op s102 rfl rfl (of_decide_eq_true rfl) (ob_lss rfl (.tmp rfl) (.tmp rfl)) fun a103 w103 s103 => ?_; clear s102
      refine seq_op s103 rfl rfl (of_decide_eq_true rfl) (ob_move rfl (.tmp rfl)) fun a104 w104 s104 => ?_; clear s103
      refine seq_opg s104 rfl rfl rfl rfl (of_decide_eq_true rfl) (fun hb => ob_move rfl (.tmp rfl)) fun a105 w105 s105 => ?_; clear s104
      refine seq_opg s105 rfl rfl rfl rfl (of_decide_eq_true rfl) (fun hb => (Ob.uncond (t := 35) hb rfl (ob_lss rfl (.tmp rfl) (opd_int rfl)))) fun a106 w106 s106 => ?_; clear s105
      obtain ⟨x12, e_x12, h38⟩ := bind_some h37; clear h37; replace e_x12 := Option.some.inj e_x12
      refine seq_op s106 rfl rfl (of_decide_eq_true rfl) ((ob_and2 rfl (.tmp rfl) (.tmp rfl) opd_bool).nm e_x12) fun a107 w107 s107 => ?_; clear s106
      refine wpList_nil ?_
      refine then_normal ?_
      refine hK37 _ _ ?_
      have s108 := s107.sub (.cons (t := 0) rfl (.cons (t := 1) rfl (.cons (t := 5) rfl (.cons (t := 6) rfl (.cons (t := 8) rfl (.cons (t := 37) rfl .nil)))))); clear s107
      refine cond_split s108 (.tmp rfl) (fun hc6 => ?_) (fun hc6 => ?_)
      · replace h38 := ite_t hc6 h38
        have h39 := h38; clear h38
        refine wp_skip ?_
        refine then_normal ?_
        refine hK36 _ _ ?_
        have s109 := s108.sub (.cons (t := 0) rfl (.cons (t := 1) rfl (.cons (t := 5) rfl (.cons (t := 6) rfl (.cons (t := 8) rfl .nil))))); clear s108
        refine wp_seq_k fun K38 hK38 => ?_
        have hj7 : ∀ (y20 : Int) (y21 : Bool) (y22 : (List (List Int))) (y23 : (List (List Int))) (y24 : (List disk_write)) (v9 : Value) (v10 : Value) (b6 : List Value) (a : Act) (w : World), (caballaw12_DiskSectors.j7 k y14 (caballaw12_DiskSectors.l4 k p1 p2 n4)) y20 y21 y22 y23 y24 = some r → St ⟨161, w0, ok, []⟩ [BF b1 87 (ko_disk_Disk_0_1 v9 v10) (⟨[], [], y20, y21⟩ : disk_Disk), ArrF b2 27 12 5 (kint .u8) b6 b6 y22, RowF v9 91 (karr 256 (kint .u8)) y23, RowF v10 93 k_disk_write y24] [(0, ((ksl k_caballaw12_Act).V p1)), (1, ((ksl (kint .u8)).V p2)), (5, (ptrB b1 0)), (6, (ptrB b2 0)), (8, ((kint .i64).V y14))] a w → K38 a w := by
          intro y20 y21 y22 y23 y24 v9 v10 b6 a110 w110 h40 s110
          unfold caballaw12_DiskSectors.j7 at h40
          refine hK38 _ _ ?_
          refine wp_region_lit ?_
          refine seq_op s110 rfl rfl (of_decide_eq_true rfl) (ob_move rfl (.tmp rfl)) fun a111 w111 s111 => ?_; clear s110
          refine seq_op s111 rfl rfl (of_decide_eq_true rfl) (ob_add rfl (.tmp rfl) (opd_int rfl)) fun a112 w112 s112 => ?_; clear s111
          refine seq_op s112 rfl rfl (of_decide_eq_true rfl) (ob_assign rfl (.tmp rfl)) fun a113 w113 s113 => ?_; clear s112
          refine wpList_nil ?_
          refine then_normal ?_
          exact hK35 ((iadd .i64 y14 (1 : Int)), y20, y21, y22, y23, y24) _ _ h40 ⟨v9, v10, b6, (s113.sub (.cons rfl (.cons rfl (.cons rfl (.cons rfl (.cons rfl .nil))))))⟩
        refine wp_block ?_
        refine wp_seq_k fun K39 hK39 => ?_
        refine wp_region_lit ?_
        refine seq_op s109 rfl rfl (of_decide_eq_true rfl) (ob_move rfl (.tmp rfl)) fun a114 w114 s114 => ?_; clear s109
        refine seq_op s114 rfl rfl (of_decide_eq_true rfl) (ob_move rfl (.tmp rfl)) fun a115 w115 s115 => ?_; clear s114
        obtain ⟨x13, e_x13, h41⟩ := bind_some h39; clear h39
        refine seq_op s115 rfl rfl (of_decide_eq_true rfl) (ob_indexAddrs rfl Try.underlying22 sz30 (.tmp rfl) (.tmp rfl) e_x13) fun a116 w116 s116 => ?_; clear s115
        refine seq_op s116 rfl rfl (of_decide_eq_true rfl) (ob_loadr rfl tk30 (.tmp rfl)) fun a117 w117 s117 => ?_; clear s116
        refine seq_opx (B' := (fun b7 : Nat => [BF b7 30 k_caballaw12_Act (⟨(0 : Int), (0 : Int), (0 : Int), (0 : Int), (0 : Int), []⟩ : caballaw12_Act), BF b1 87 (ko_disk_Disk_0_1 v7 v8) (⟨[], [], y15, y16⟩ : disk_Disk), ArrF b2 27 12 5 (kint .u8) b5 b5 y17, RowF v7 91 (karr 256 (kint .u8)) y18, RowF v8 93 k_disk_write y19])) s117 rfl rfl (of_decide_eq_true rfl) (ob_new (k := k_caballaw12_Act) rfl zz30 (Zr.iso (f := t_caballaw12_Act) (x := (⟨(0 : Int), (0 : Int), (0 : Int), (0 : Int), (0 : Int), []⟩ : caballaw12_Act)) (Zr.pair (Zr.int .i64) (Zr.pair (Zr.int .i64) (Zr.pair (Zr.int .i64) (Zr.pair (Zr.int .u8) (Zr.pair (Zr.int .i8) (Zr.pair (Zr.sl _) Zr.nil)))))))) fun b7 a118 w118 s118 => ?_; clear s117
        refine seq_opx0 (B' := (fun _ : Unit => [BF b7 30 k_caballaw12_Act x13, BF b1 87 (ko_disk_Disk_0_1 v7 v8) (⟨[], [], y15, y16⟩ : disk_Disk), ArrF b2 27 12 5 (kint .u8) b5 b5 y17, RowF v7 91 (karr 256 (kint .u8)) y18, RowF v8 93 k_disk_write y19])) s118 rfl rfl (ob_store (A := []) rfl tk30 (.tmp rfl) (.tmp rfl) rfl (LS.refl _ _ _) rfl) fun _ a119 w119 s119 => ?_; clear s118
        refine wpList_nil ?_
        refine then_normal ?_
        refine hK39 _ _ ?_
        have s120 := s119.sub (.cons (t := 0) rfl (.cons (t := 1) rfl (.cons (t := 5) rfl (.cons (t := 6) rfl (.cons (t := 8) rfl (.cons (t := 9) rfl .nil)))))); clear s119
        refine wp_seq_k fun K40 hK40 => ?_
        refine wp_seq_k fun K41 hK41 => ?_
        refine wp_region_lit ?_
        refine seq_op s120 rfl rfl (of_decide_eq_true rfl) (ob_fieldAddr (off' := 0) rfl Try.underlying30 rfl sz3 (by decide) (.tmp rfl) rfl) fun a121 w121 s121 => ?_; clear s120
        refine seq_op s121 rfl rfl (of_decide_eq_true rfl) (ob_load rfl tk3 (.tmp rfl) (.head _) (lg_caballaw12_Act_Kind x13)) fun a122 w122 s122 => ?_; clear s121
        refine seq_op s122 rfl rfl (of_decide_eq_true rfl) (ob_rem rfl (.tmp rfl) (opd_int rfl) (by decide)) fun a123 w123 s123 => ?_; clear s122
        refine seq_op s123 rfl rfl (of_decide_eq_true rfl) (ob_eql rfl (.tmp rfl) (opd_int rfl)) fun a124 w124 s124 => ?_; clear s123
        refine wpList_nil ?_
        refine then_normal ?_
        refine hK41 _ _ ?_
        have s125 := s124.sub (.cons (t := 0) rfl (.cons (t := 1) rfl (.cons (t := 5) rfl (.cons (t := 6) rfl (.cons (t := 8) rfl (.cons (t := 9) rfl (.cons (t := 47) rfl .nil))))))); clear s124
        refine cond_split s125 (.tmp rfl) (fun hc7 => ?_) (fun hc7 => ?_)
        · replace h41 := ite_t hc7 h41
          have h42 := h41; clear h41
          refine wp_seq_k fun K42 hK42 => ?_
          refine wp_seq_k fun K43 hK43 => ?_
          refine wp_region_lit ?_
          refine seq_op s125 rfl rfl (of_decide_eq_true rfl) (ob_move rfl (.tmp rfl)) fun a126 w126 s126 => ?_; clear s125
          obtain ⟨x14, e_x14, h43⟩ := bind_some h42; clear h42
          refine seq_opx (B' := (fun gg : Value × Value => [BF b1 87 (ko_disk_Disk_0_1 gg.1 gg.2) (⟨[], [], x14.2.fuse, x14.2.dead⟩ : disk_Disk), RowF gg.1 91 (karr 256 (kint .u8)) x14.2.firm, RowF gg.2 93 k_disk_write x14.2.loose, BF b7 30 k_caballaw12_Act x13, ArrF b2 27 12 5 (kint .u8) b5 b5 y17])) s126 rfl rfl (of_decide_eq_true rfl) (ob_callL (args := [_]) (L := [_, _, _]) rfl .direct hb13 (toFront [_] (toFront [_, _] (toFront [_, _] (List.Perm.refl _)))) (fun a w s fs gs hf hg => by obtain rfl := hf.unnil; obtain rfl := hg.unnil; exact c_disk_Disk_Sync k _ _ e_x14 _ _ _ _ _ _ (ownL s) (disL s) (nodL s) (s.arg (.tmp rfl))) (by exact fun _ => rfl)) fun gg127 a127 w127 s127 => ?_; clear s126
          obtain ⟨v11, v12⟩ := gg127
          refine seq_op s127 rfl rfl (of_decide_eq_true rfl) (ob_neq rfl (.tmp rfl) (opd_int rfl)) fun a128 w128 s128 => ?_; clear s127
          refine wpList_nil ?_
          refine then_normal ?_
          refine hK43 _ _ ?_
          have s129 := s128.sub (.cons (t := 0) rfl (.cons (t := 1) rfl (.cons (t := 5) rfl (.cons (t := 6) rfl (.cons (t := 8) rfl (.cons (t := 50) rfl .nil)))))); clear s128
          have s130 := St.drop (A := [_, _, _]) s129; clear s129
          refine cond_split s130 (.tmp rfl) (fun hc8 => ?_) (fun hc8 => ?_)
          · replace h43 := ite_t hc8 h43
            have h44 := h43; clear h43
            refine wp_seq_k fun K44 hK44 => ?_
            refine wp_region_lit ?_
            refine seq_op s130 rfl rfl (of_decide_eq_true rfl) (ob_assign rfl opd_bool) fun a131 w131 s131 => ?_; clear s130
            refine wpList_nil ?_
            refine then_normal ?_
            refine hK44 _ _ ?_
            have s132 := s131.sub (.cons (t := 4) rfl .nil); clear s131
            have s133 := St.drop (A := []) s132; clear s132
            have s134 := St.drop (A := []) s133; clear s133
            have s135 := St.drop (A := []) s134; clear s134
            have s136 := St.drop (A := []) s135; clear s135
            refine wp_ret ?_
            obtain rfl := Option.some.inj h44
            exact leave s136 (.inl rfl) rfl (.cons (.tmp rfl) .nil)
          · replace h43 := ite_f hc8 h43
            have h45 := h43; clear h43
            refine wp_skip ?_
            refine then_normal ?_
            refine hK42 _ _ ?_
            have s137 := s130.sub (.cons (t := 0) rfl (.cons (t := 1) rfl (.cons (t := 5) rfl (.cons (t := 6) rfl (.cons (t := 8) rfl (.cons (t := 50) rfl .nil)))))); clear s130
            refine wp_seq_k fun K45 hK45 => ?_
            refine wp_seq_k fun K46 hK46 => ?_
            refine wp_region_lit ?_
            refine seq_op s137 rfl rfl (of_decide_eq_true rfl) (ob_assign rfl (opd_int rfl)) fun a138 w138 s138 => ?_; clear s137
            refine wpList_nil ?_
            refine then_normal ?_
            refine hK46 _ _ ?_
            have s139 := s138.sub (.cons (t := 0) rfl (.cons (t := 1) rfl (.cons (t := 5) rfl (.cons (t := 6) rfl (.cons (t := 8) rfl (.cons (t := 10) rfl (.cons (t := 50) rfl .nil))))))); clear s138
            have hj8 : ∀ (y25 : Bool) (y26 : (List (List Int))) (b8 : List Value) (a : Act) (w : World), (caballaw12_DiskSectors.j8 k y14 x14 (caballaw12_DiskSectors.l4 k p1 p2 n4)) y25 y26 = some r → St ⟨161, w0, ok, []⟩ [BF b1 87 (ko_disk_Disk_0_1 v11 v12) (⟨[], [], x14.2.fuse, x14.2.dead⟩ : disk_Disk), ArrF b2 27 12 5 (kint .u8) b8 b8 y26, RowF v11 91 (karr 256 (kint .u8)) x14.2.firm, RowF v12 93 k_disk_write x14.2.loose] [(0, ((ksl k_caballaw12_Act).V p1)), (1, ((ksl (kint .u8)).V p2)), (5, (ptrB b1 0)), (6, (ptrB b2 0)), (8, ((kint .i64).V y14)), (50, (kbool.V (x14.1 != (0 : Int)))), (52, (kbool.V y25))] a w → K45 a w := by
              intro y25 y26 b8 a140 w140 h46 s140
              unfold caballaw12_DiskSectors.j8 at h46
              refine hK45 _ _ ?_
              refine wp_exit ?_
              refine (then_exit (in_here ?_))
              refine then_normal ?_
              exact hj7 x14.2.fuse x14.2.dead y26 x14.2.firm x14.2.loose v11 v12 b8 _ _ h46 (s140.sub (.cons rfl (.cons rfl (.cons rfl (.cons rfl (.cons rfl .nil))))))
            refine wp_block ?_
            have s141 := s139.perm (toFront [] (toFront [_, _] (toFront [] (toFront [] (List.Perm.refl _))))); clear s139
            refine wp_loop_fuel (fun m (q : Int × (List (List Int))) => caballaw12_DiskSectors.l5 k x14 y14 (caballaw12_DiskSectors.l4 k p1 p2 n4) m q.1 q.2) r (fun _ => rfl) (fun q a w => ∃ (b9 : List Value), St ⟨161, w0, ok, []⟩ [BF b1 87 (ko_disk_Disk_0_1 v11 v12) (⟨[], [], x14.2.fuse, x14.2.dead⟩ : disk_Disk), ArrF b2 27 12 5 (kint .u8) b9 b9 q.2, RowF v11 91 (karr 256 (kint .u8)) x14.2.firm, RowF v12 93 k_disk_write x14.2.loose] [(0, ((ksl k_caballaw12_Act).V p1)), (1, ((ksl (kint .u8)).V p2)), (5, (ptrB b1 0)), (6, (ptrB b2 0)), (8, ((kint .i64).V y14)), (10, ((kint .i64).V q.1)), (50, (kbool.V (x14.1 != (0 : Int))))] a w) ?_ k ((0 : Int), y17) _ _ h45 ⟨b5, (s141.sub (.cons rfl (.cons rfl (.cons rfl (.cons rfl (.cons rfl (.cons rfl (.cons rfl .nil))))))))⟩
            rintro n5 ⟨y27, y28⟩ a142 w142 h47 ⟨b9, s142⟩ K47 hK47
            replace h47 : caballaw12_DiskSectors.l5 k x14 y14 (caballaw12_DiskSectors.l4 k p1 p2 n4) (n5 + 1) y27 y28 = some r := h47; rw [caballaw12_DiskSectors.l5] at h47
            have h48 := h47; clear h47
            refine wp_seq_k fun K48 hK48 => ?_
            refine wp_seq_k fun K49 hK49 => ?_
            refine wp_region_lit ?_
            refine seq_op s142 rfl rfl (of_decide_eq_true rfl) (ob_move rfl (.tmp rfl)) fun a143 w143 s143 => ?_; clear s142
            refine seq_op s143 rfl rfl (of_decide_eq_true rfl) (ob_lss rfl (.tmp rfl) (opd_int rfl)) fun a144 w144 s144 => ?_; clear s143
            refine wpList_nil ?_
            refine then_normal ?_
            refine hK49 _ _ ?_
            have s145 := s144.sub (.cons (t := 0) rfl (.cons (t := 1) rfl (.cons (t := 5) rfl (.cons (t := 6) rfl (.cons (t := 8) rfl (.cons (t := 10) rfl (.cons (t := 50) rfl (.cons (t := 52) rfl .nil)))))))); clear s144
            refine cond_split s145 (.tmp rfl) (fun hc9 => ?_) (fun hc9 => ?_)
            · replace h48 := ite_t hc9 h48
              have h49 := h48; clear h48
              refine wp_skip ?_
              refine then_normal ?_
              refine hK48 _ _ ?_
              have s146 := s145.sub (.cons (t := 0) rfl (.cons (t := 1) rfl (.cons (t := 5) rfl (.cons (t := 6) rfl (.cons (t := 8) rfl (.cons (t := 10) rfl (.cons (t := 50) rfl .nil))))))); clear s145
              refine wp_seq_k fun K50 hK50 => ?_
              refine wp_block ?_
              refine wp_seq_k fun K51 hK51 => ?_
              refine wp_region_lit ?_
              refine seq_op s146 rfl rfl (of_decide_eq_true rfl) (ob_move rfl (.tmp rfl)) fun a147 w147 s147 => ?_; clear s146
              refine seq_op s147 rfl rfl (of_decide_eq_true rfl) (ob_move rfl (.tmp rfl)) fun a148 w148 s148 => ?_; clear s147
              refine seq_op s148 rfl rfl (of_decide_eq_true rfl) (ob_quo rfl (.tmp rfl) (opd_int rfl) (by decide)) fun a149 w149 s149 => ?_; clear s148
              obtain ⟨x15, e_x15, h50⟩ := bind_some h49; clear h49
              refine seq_op s149 rfl rfl (of_decide_eq_true rfl) ((ob_lendG (L := [_, _, _]) (toFront [] (toFront [_] (toFront [_] (List.Perm.refl _)))) (.cons (t := 56) rfl (lendObj (K' := k_disk_Disk) (X' := x14.2) (.head _) rfl (upo_disk_Disk_0_1 rfl (.row (LetAll.row (.tail _ (.head _)))) (.row (LetAll.row (.tail _ (.tail _ (.head _))))))) .nil) (Flat.res2 (Flat.V KFlat.str) (Flat.V (KFlat.int _))) (fun _ => ob_callD (args := [_, _]) rfl .direct hb14 (fun a w s fs gs hf hg => by obtain rfl := hf.unnil; obtain rfl := hg.unnil; exact c_disk_Disk_Read k _ _ _ e_x15 _ _ _ _ (s.arg (.tmp rfl)) (s.arg (.tmp rfl)))))) fun a150 w150 s150 => ?_; clear s149
              refine seq_op s150 rfl rfl (of_decide_eq_true rfl) (ob_move rfl (.tmp rfl)) fun a151 w151 s151 => ?_; clear s150
              refine seq_op s151 rfl rfl (of_decide_eq_true rfl) (ob_extract rfl (.tmp rfl) rfl) fun a152 w152 s152 => ?_; clear s151
              refine seq_op s152 rfl rfl (of_decide_eq_true rfl) (ob_extract rfl (.tmp rfl) rfl) fun a153 w153 s153 => ?_; clear s152
              refine seq_op s153 rfl rfl (of_decide_eq_true rfl) (ob_assign rfl (.tmp rfl)) fun a154 w154 s154 => ?_; clear s153
              refine seq_op s154 rfl rfl (of_decide_eq_true rfl) (ob_assign rfl (.tmp rfl)) fun a155 w155 s155 => ?_; clear s154
              refine wpList_nil ?_
              refine then_normal ?_
              refine hK51 _ _ ?_
              have s156 := s155.sub (.cons (t := 0) rfl (.cons (t := 1) rfl (.cons (t := 5) rfl (.cons (t := 6) rfl (.cons (t := 8) rfl (.cons (t := 10) rfl (.cons (t := 11) rfl (.cons (t := 50) rfl .nil)))))))); clear s155
              refine wp_region_lit ?_
              refine seq_op s156 rfl rfl (of_decide_eq_true rfl) (ob_move rfl (.tmp rfl)) fun a157 w157 s157 => ?_; clear s156
              refine seq_op s157 rfl rfl (of_decide_eq_true rfl) (ob_move rfl (.tmp rfl)) fun a158 w158 s158 => ?_; clear s157
              refine seq_op s158 rfl rfl (of_decide_eq_true rfl) (ob_move rfl (.tmp rfl)) fun a159 w159 s159 => ?_; clear s158
              refine seq_op s159 rfl rfl (of_decide_eq_true rfl) (ob_rem rfl (.tmp rfl) (opd_int rfl) (by decide)) fun a160 w160 s160 => ?_; clear s159
              refine seq_op s160 rfl rfl (of_decide_eq_true rfl) (ob_mul rfl (.tmp rfl) (opd_int rfl)) fun a161 w161 s161 => ?_; clear s160
              obtain ⟨x16, e_x16, h51⟩ := bind_some h50; clear h50
              refine seq_op s161 rfl rfl (of_decide_eq_true rfl) (ob_indexStr rfl Try.underlying9 (.tmp rfl) (.tmp rfl) e_x16) fun a162 w162 s162 => ?_; clear s161
              refine seq_opx (B' := (fun v13 : Value => [RowF v13 5 (kint .u8) ([x16] : (List Int)), BF b1 87 (ko_disk_Disk_0_1 v11 v12) (⟨[], [], x14.2.fuse, x14.2.dead⟩ : disk_Disk), ArrF b2 27 12 5 (kint .u8) b9 b9 y28, RowF v11 91 (karr 256 (kint .u8)) x14.2.firm, RowF v12 93 k_disk_write x14.2.loose])) s162 rfl rfl (of_decide_eq_true rfl) (ob_mkRow (k := (kint .u8)) (xs := ([x16] : (List Int))) rfl Try.underlying23 zz5 sz5 (Zr.int .u8) (by decide) (by decide) (.cons (.tmp rfl) rfl (LS.arr' (i := 0) (ys := ([x16] : (List Int))) (by simp) (by rfl)) (.nil _))) fun v13 a163 w163 s163 => ?_; clear s162
              obtain ⟨g3, h52⟩ := guard_some h51; clear h51
              refine seq_op s163 rfl rfl (of_decide_eq_true rfl) (ob_indexAddr rfl Try.underlying27 sz23 (.tmp rfl) (.tmp rfl) g3.1 g3.2 (Nat.zero_add _)) fun a164 w164 s164 => ?_; clear s163
              obtain ⟨x17, e_x17, h53⟩ := bind_some h52; clear h52
              refine seq_opx0 (B' := (fun _ : Unit => [ArrF b2 27 12 5 (kint .u8) (List.set b9 (y27.toNat * 1) v13) (List.set b9 (y27.toNat * 1) v13) x17, BF b1 87 (ko_disk_Disk_0_1 v11 v12) (⟨[], [], x14.2.fuse, x14.2.dead⟩ : disk_Disk), RowF v11 91 (karr 256 (kint .u8)) x14.2.firm, RowF v12 93 k_disk_write x14.2.loose])) s164 rfl rfl (ob_storeNewAz rfl (tkr23) (.tmp rfl) (.tmp rfl) (toFront [] (toFront [_] (List.Perm.refl _))) ⟨g3.1, g3.2⟩ e_x17) fun _ a165 w165 s165 => ?_; clear s164
              refine wpList_nil ?_
              refine in_normal ?_
              refine then_normal ?_
              refine hK50 _ _ ?_
              have s166 := s165.sub (.cons (t := 0) rfl (.cons (t := 1) rfl (.cons (t := 5) rfl (.cons (t := 6) rfl (.cons (t := 8) rfl (.cons (t := 10) rfl (.cons (t := 50) rfl .nil))))))); clear s165
              refine wp_region_lit ?_
              refine seq_op s166 rfl rfl (of_decide_eq_true rfl) (ob_move rfl (.tmp rfl)) fun a167 w167 s167 => ?_; clear s166
              refine seq_op s167 rfl rfl (of_decide_eq_true rfl) (ob_add rfl (.tmp rfl) (opd_int rfl)) fun a168 w168 s168 => ?_; clear s167
              refine seq_op s168 rfl rfl (of_decide_eq_true rfl) (ob_assign rfl (.tmp rfl)) fun a169 w169 s169 => ?_; clear s168
              refine wpList_nil ?_
              refine then_normal ?_
              have s170 := s169.perm (toFront [_] (toFront [] (toFront [] (toFront [] (List.Perm.refl _))))); clear s169
              exact hK47 ((iadd .i64 y27 (1 : Int)), x17) _ _ h53 ⟨(List.set b9 (y27.toNat * 1) v13), (s170.sub (.cons rfl (.cons rfl (.cons rfl (.cons rfl (.cons rfl (.cons rfl (.cons rfl .nil))))))))⟩
            · replace h48 := ite_f hc9 h48
              have h54 := h48; clear h48
              refine wp_exit ?_
              refine (then_exit (then_exit (in_here ?_)))
              refine then_normal ?_
              exact hj8 (decide (y27 < (12 : Int))) y28 b9 _ _ h54 (s145.sub (.cons rfl (.cons rfl (.cons rfl (.cons rfl (.cons rfl (.cons rfl (.cons rfl .nil))))))))
        · replace h41 := ite_f hc7 h41
          have h55 := h41; clear h41
          refine wp_skip ?_
          refine then_normal ?_
          refine hK40 _ _ ?_
          have s171 := s125.sub (.cons (t := 0) rfl (.cons (t := 1) rfl (.cons (t := 5) rfl (.cons (t := 6) rfl (.cons (t := 8) rfl (.cons (t := 9) rfl .nil)))))); clear s125
          refine wp_seq_k fun K52 hK52 => ?_
          refine wp_region_lit ?_
          refine seq_op s171 rfl rfl (of_decide_eq_true rfl) (ob_fieldAddr (off' := 1) rfl Try.underlying30 rfl sz3 (by decide) (.tmp rfl) rfl) fun a172 w172 s172 => ?_; clear s171
          refine seq_op s172 rfl rfl (of_decide_eq_true rfl) (ob_load rfl tk3 (.tmp rfl) (.head _) (lg_caballaw12_Act_At x13)) fun a173 w173 s173 => ?_; clear s172
          refine seq_op s173 rfl rfl (of_decide_eq_true rfl) (ob_conv rfl _ Try.underlying3 Try.underlying35 (.tmp rfl)) fun a174 w174 s174 => ?_; clear s173
          refine seq_op s174 rfl rfl (of_decide_eq_true rfl) (ob_rem rfl (.tmp rfl) (opd_int rfl) (by decide)) fun a175 w175 s175 => ?_; clear s174
          refine seq_op s175 rfl rfl (of_decide_eq_true rfl) (ob_conv rfl _ Try.underlying35 Try.underlying3 (.tmp rfl)) fun a176 w176 s176 => ?_; clear s175
          refine seq_op s176 rfl rfl (of_decide_eq_true rfl) (ob_assign rfl (.tmp rfl)) fun a177 w177 s177 => ?_; clear s176
          refine wpList_nil ?_
          refine then_normal ?_
          refine hK52 _ _ ?_
          have s178 := s177.sub (.cons (t := 0) rfl (.cons (t := 1) rfl (.cons (t := 5) rfl (.cons (t := 6) rfl (.cons (t := 8) rfl (.cons (t := 9) rfl (.cons (t := 13) rfl .nil))))))); clear s177
          refine wp_seq_k fun K53 hK53 => ?_
          refine wp_seq_k fun K54 hK54 => ?_
          refine wp_region_lit ?_
          refine seq_op s178 rfl rfl (of_decide_eq_true rfl) (ob_move rfl (.tmp rfl)) fun a179 w179 s179 => ?_; clear s178
          refine seq_op s179 rfl rfl (of_decide_eq_true rfl) (ob_move rfl (.tmp rfl)) fun a180 w180 s180 => ?_; clear s179
          refine seq_op s180 rfl rfl (of_decide_eq_true rfl) (ob_fieldAddr (off' := 3) rfl Try.underlying30 rfl sz5 (by decide) (.tmp rfl) rfl) fun a181 w181 s181 => ?_; clear s180
          refine seq_op s181 rfl rfl (of_decide_eq_true rfl) (ob_load rfl tk5 (.tmp rfl) (.head _) (lg_caballaw12_Act_B x13)) fun a182 w182 s182 => ?_; clear s181
          obtain ⟨x18, e_x18, h56⟩ := bind_some h55; clear h55
          refine seq_op s182 rfl rfl (of_decide_eq_true rfl) (ob_callD (args := [_, _]) rfl .direct hb16 (fun a w s fs gs hf hg => by obtain rfl := hf.unnil; obtain rfl := hg.unnil; exact c_caballaw12_data k _ _ _ e_x18 _ _ _ _ (s.arg (.tmp rfl)) (s.arg (opd_int rfl)))) fun a183 w183 s183 => ?_; clear s182
          obtain ⟨x19, e_x19, h57⟩ := bind_some h56; clear h56
          refine seq_opx (B' := (fun gg : Value × Value => [BF b1 87 (ko_disk_Disk_0_1 gg.1 gg.2) (⟨[], [], x19.2.fuse, x19.2.dead⟩ : disk_Disk), RowF gg.1 91 (karr 256 (kint .u8)) x19.2.firm, RowF gg.2 93 k_disk_write x19.2.loose, BF b7 30 k_caballaw12_Act x13, ArrF b2 27 12 5 (kint .u8) b5 b5 y17])) s183 rfl rfl (of_decide_eq_true rfl) (ob_callL (args := [_, _, _]) (L := [_, _, _]) rfl .direct hb15 (toFront [_] (toFront [_, _] (toFront [_, _] (List.Perm.refl _)))) (fun a w s fs gs hf hg => by obtain rfl := hf.unnil; obtain rfl := hg.unnil; exact c_disk_Disk_Write k _ _ _ _ e_x19 _ _ _ _ _ _ _ _ (ownL s) (disL s) (nodL s) (s.arg (.tmp rfl)) (s.arg (.tmp rfl)) (s.arg (.tmp rfl))) (by exact fun _ => rfl)) fun gg184 a184 w184 s184 => ?_; clear s183
          obtain ⟨v14, v15⟩ := gg184
          refine seq_op s184 rfl rfl (of_decide_eq_true rfl) (ob_neq rfl (.tmp rfl) (opd_int rfl)) fun a185 w185 s185 => ?_; clear s184
          refine wpList_nil ?_
          refine then_normal ?_
          refine hK54 _ _ ?_
          have s186 := s185.sub (.cons (t := 0) rfl (.cons (t := 1) rfl (.cons (t := 5) rfl (.cons (t := 6) rfl (.cons (t := 8) rfl (.cons (t := 9) rfl (.cons (t := 13) rfl (.cons (t := 81) rfl .nil)))))))); clear s185
          refine cond_split s186 (.tmp rfl) (fun hc10 => ?_) (fun hc10 => ?_)
          · replace h57 := ite_t hc10 h57
            have h58 := h57; clear h57
            refine wp_seq_k fun K55 hK55 => ?_
            refine wp_region_lit ?_
            refine seq_op s186 rfl rfl (of_decide_eq_true rfl) (ob_assign rfl opd_bool) fun a187 w187 s187 => ?_; clear s186
            refine wpList_nil ?_
            refine then_normal ?_
            refine hK55 _ _ ?_
            have s188 := s187.sub (.cons (t := 4) rfl .nil); clear s187
            have s189 := St.drop (A := []) s188; clear s188
            have s190 := St.drop (A := []) s189; clear s189
            have s191 := St.drop (A := []) s190; clear s190
            have s192 := St.drop (A := []) s191; clear s191
            have s193 := St.drop (A := []) s192; clear s192
            refine wp_ret ?_
            obtain rfl := Option.some.inj h58
            exact leave s193 (.inl rfl) rfl (.cons (.tmp rfl) .nil)
          · replace h57 := ite_f hc10 h57
            have h59 := h57; clear h57
            refine wp_skip ?_
            refine then_normal ?_
            refine hK53 _ _ ?_
            have s194 := s186.sub (.cons (t := 0) rfl (.cons (t := 1) rfl (.cons (t := 5) rfl (.cons (t := 6) rfl (.cons (t := 8) rfl (.cons (t := 9) rfl (.cons (t := 13) rfl .nil))))))); clear s186
            refine wp_seq_k fun K56 hK56 => ?_
            refine wp_region_lit ?_
            refine seq_op s194 rfl rfl (of_decide_eq_true rfl) (ob_assign rfl (opd_int rfl)) fun a195 w195 s195 => ?_; clear s194
            refine wpList_nil ?_
            refine then_normal ?_
            refine hK56 _ _ ?_
            have s196 := s195.sub (.cons (t := 0) rfl (.cons (t := 1) rfl (.cons (t := 5) rfl (.cons (t := 6) rfl (.cons (t := 8) rfl (.cons (t := 9) rfl (.cons (t := 13) rfl (.cons (t := 14) rfl .nil)))))))); clear s195
            refine wp_block ?_
            have s197 := s196.perm (toFront [] (toFront [_, _, _] (toFront [_, _] (toFront [] (toFront [] (List.Perm.refl _)))))); clear s196
            refine wp_loop_fuel (fun m (q : Int × (List (List Int))) => caballaw12_DiskSectors.l6 k x13 y14 x19 (caballaw12_DiskSectors.l4 k p1 p2 n4) m q.1 q.2) r (fun _ => rfl) (fun q a w => ∃ (b10 : List Value), St ⟨161, w0, ok, []⟩ [BF b1 87 (ko_disk_Disk_0_1 v14 v15) (⟨[], [], x19.2.fuse, x19.2.dead⟩ : disk_Disk), ArrF b2 27 12 5 (kint .u8) b10 b10 q.2, BF b7 30 k_caballaw12_Act x13, RowF v14 91 (karr 256 (kint .u8)) x19.2.firm, RowF v15 93 k_disk_write x19.2.loose] [(0, ((ksl k_caballaw12_Act).V p1)), (1, ((ksl (kint .u8)).V p2)), (5, (ptrB b1 0)), (6, (ptrB b2 0)), (8, ((kint .i64).V y14)), (9, (ptrB b7 0)), (13, ((kint .i64).V (IntKind.wrap .i64 (irem (IntKind.wrap .u64 x13.At) (3 : Int))))), (14, ((kint .i64).V q.1))] a w) ?_ k ((0 : Int), y17) _ _ h59 ⟨b5, (s197.sub (.cons rfl (.cons rfl (.cons rfl (.cons rfl (.cons rfl (.cons rfl (.cons rfl (.cons rfl .nil)))))))))⟩
            rintro n6 ⟨y29, y30⟩ a198 w198 h60 ⟨b10, s198⟩ K57 hK57
            replace h60 : caballaw12_DiskSectors.l6 k x13 y14 x19 (caballaw12_DiskSectors.l4 k p1 p2 n4) (n6 + 1) y29 y30 = some r := h60; rw [caballaw12_DiskSectors.l6] at h60
            have h61 := h60; clear h60
            refine wp_seq_k fun K58 hK58 => ?_
            refine wp_seq_k fun K59 hK59 => ?_
            refine wp_region_lit ?_
            refine seq_op s198 rfl rfl (of_decide_eq_true rfl) (ob_move rfl (.tmp rfl)) fun a199 w199 s199 => ?_; clear s198
            refine seq_op s199 rfl rfl (of_decide_eq_true rfl) (ob_lss rfl (.tmp rfl) (opd_int rfl)) fun a200 w200 s200 => ?_; clear s199
            refine wpList_nil ?_
            refine then_normal ?_
            refine hK59 _ _ ?_
            have s201 := s200.sub (.cons (t := 0) rfl (.cons (t := 1) rfl (.cons (t := 5) rfl (.cons (t := 6) rfl (.cons (t := 8) rfl (.cons (t := 9) rfl (.cons (t := 13) rfl (.cons (t := 14) rfl (.cons (t := 83) rfl .nil))))))))); clear s200
            refine cond_split s201 (.tmp rfl) (fun hc11 => ?_) (fun hc11 => ?_)
            · replace h61 := ite_t hc11 h61
              have h62 := h61; clear h61
              refine wp_skip ?_
              refine then_normal ?_
              refine hK58 _ _ ?_
              have s202 := s201.sub (.cons (t := 0) rfl (.cons (t := 1) rfl (.cons (t := 5) rfl (.cons (t := 6) rfl (.cons (t := 8) rfl (.cons (t := 9) rfl (.cons (t := 13) rfl (.cons (t := 14) rfl .nil)))))))); clear s201
              refine wp_seq_k fun K60 hK60 => ?_
              refine wp_block ?_
              obtain ⟨x20, e_x20, h63⟩ := bind_some h62; clear h62; replace e_x20 := Option.some.inj e_x20
              obtain ⟨g4, h64⟩ := guard_some h63; clear h63
              obtain ⟨x21, e_x21, h65⟩ := bind_some h64; clear h64
              obtain ⟨g5, h66⟩ := guard_some h65; clear h65
              obtain ⟨x22, e_x22, h67⟩ := bind_some h66; clear h66
              refine wp_goes (Fs := [((kint .i64).V (IntKind.wrap .i64 (irem (IntKind.wrap .u64 x13.At) (3 : Int)))), ((kint .i64).V x20), ((kint .i64).V y29), ((kint .i64).V (iadd .i64 x20 y29)), ((kint .i64).V (IntKind.wrap .i64 (irem (IntKind.wrap .u64 x13.At) (3 : Int)))), ((kint .i64).V x20), ((kint .i64).V y29), ((kint .i64).V (iadd .i64 x20 y29)), (ptrB b2 ((iadd .i64 x20 y29).toNat * 1)), (is (at0 b10 ((iadd .i64 x20 y29).toNat * 1))), (ptrB b7 3), ((kint .u8).V x13.B), ((kint .i64).V y29), ((kint .u8).V (IntKind.wrap .u8 y29)), ((kint .u8).V (iadd .u8 x13.B (IntKind.wrap .u8 y29))), ((ksl (kint .u8)).V ([(iadd .u8 x13.B (IntKind.wrap .u8 y29))] : (List Int))), nofact]) (bits := [0, 1, 0, 7, 0, 16, 0, 112, 240, 496, 0, 1024, 0, 4096, 15360, 31744, 65520, 131071, 262143]) (m := 17) (todo := 65536) mx s202 ?_; clear s202
              refine goes_turn (B' := (fun v16 : Value => [BF b1 87 (ko_disk_Disk_0_1 v14 v15) (⟨[], [], x19.2.fuse, x19.2.dead⟩ : disk_Disk), ArrF b2 27 12 5 (kint .u8) b10 (List.set b10 ((iadd .i64 x20 y29).toNat * 1) v16) x22, BF b7 30 k_caballaw12_Act x13, RowF v14 91 (karr 256 (kint .u8)) x19.2.firm, RowF v15 93 k_disk_write x19.2.loose])) (Fs' := (fun v16 : Value => setAll ([((kint .i64).V (IntKind.wrap .i64 (irem (IntKind.wrap .u64 x13.At) (3 : Int)))), ((kint .i64).V x20), ((kint .i64).V y29), ((kint .i64).V (iadd .i64 x20 y29)), ((kint .i64).V (IntKind.wrap .i64 (irem (IntKind.wrap .u64 x13.At) (3 : Int)))), ((kint .i64).V x20), ((kint .i64).V y29), ((kint .i64).V (iadd .i64 x20 y29)), (ptrB b2 ((iadd .i64 x20 y29).toNat * 1)), (is (at0 b10 ((iadd .i64 x20 y29).toNat * 1))), (ptrB b7 3), ((kint .u8).V x13.B), ((kint .i64).V y29), ((kint .u8).V (IntKind.wrap .u8 y29)), ((kint .u8).V (iadd .u8 x13.B (IntKind.wrap .u8 y29))), ((ksl (kint .u8)).V ([(iadd .u8 x13.B (IntKind.wrap .u8 y29))] : (List Int))), nofact]) [(16, (is v16))])) 16 65536 131056 0 (by kernel_rfl) rfl rfl rfl (opsS_cons (.plain _ (Av.old (t := 13) rfl rfl Av.nil) rfl rfl (ob_move rfl (.tmp rfl))) (opsS_cons (.plain _ (Av.new (j := 0) rfl rfl rfl Av.nil) rfl rfl ((ob_mul rfl (opd_int rfl) (.tmp rfl)).nm e_x20)) (opsS_cons (.plain _ (Av.old (t := 14) rfl rfl Av.nil) rfl rfl (ob_move rfl (.tmp rfl))) (opsS_cons (.plain _ (Av.new (j := 1) rfl rfl rfl (Av.new (j := 2) rfl rfl rfl Av.nil)) rfl rfl (ob_add rfl (.tmp rfl) (.tmp rfl))) (opsS_cons (.plain _ (Av.old (t := 13) rfl rfl Av.nil) rfl rfl (ob_move rfl (.tmp rfl))) (opsS_cons (.plain _ (Av.new (j := 4) rfl rfl rfl Av.nil) rfl rfl ((ob_mul rfl (opd_int rfl) (.tmp rfl)).nm e_x20)) (opsS_cons (.plain _ (Av.old (t := 14) rfl rfl Av.nil) rfl rfl (ob_move rfl (.tmp rfl))) (opsS_cons (.plain _ (Av.new (j := 5) rfl rfl rfl (Av.new (j := 6) rfl rfl rfl Av.nil)) rfl rfl (ob_add rfl (.tmp rfl) (.tmp rfl))) (opsS_cons (.plain _ (Av.old (t := 6) rfl rfl (Av.new (j := 7) rfl rfl rfl Av.nil)) rfl rfl (ob_indexAddr rfl Try.underlying27 sz23 (.tmp rfl) (.tmp rfl) g4.1 g4.2 (Nat.zero_add _))) (opsS_cons (.plain _ (Av.new (j := 8) rfl rfl rfl Av.nil) rfl rfl (ob_loadAz (A := [_]) rfl (tkr23) (.tmp rfl) rfl ⟨g4.1, g4.2⟩)) (opsS_cons (.plain _ (Av.old (t := 9) rfl rfl Av.nil) rfl rfl (ob_fieldAddr (off' := 3) rfl Try.underlying30 rfl sz5 (by decide) (.tmp rfl) rfl)) (opsS_cons (.plain _ (Av.new (j := 10) rfl rfl rfl Av.nil) rfl rfl (ob_load rfl tk5 (.tmp rfl) (.tail _ (.tail _ (.head _))) (lg_caballaw12_Act_B x13))) (opsS_cons (.plain _ (Av.old (t := 14) rfl rfl Av.nil) rfl rfl (ob_move rfl (.tmp rfl))) (opsS_cons (.plain _ (Av.new (j := 12) rfl rfl rfl Av.nil) rfl rfl (ob_conv rfl _ Try.underlying3 Try.underlying5 (.tmp rfl))) (opsS_cons (.plain _ (Av.new (j := 11) rfl rfl rfl (Av.new (j := 13) rfl rfl rfl Av.nil)) rfl rfl (ob_add rfl (.tmp rfl) (.tmp rfl))) (opsS_cons (.plain _ (Av.new (j := 14) rfl rfl rfl Av.nil) rfl rfl (ob_mkSlice (k := (kint .u8)) (xs := ([(iadd .u8 x13.B (IntKind.wrap .u8 y29))] : (List Int))) rfl Try.underlying23 zz5 sz5 (Zr.int .u8) (by decide) (by decide) (.cons (.tmp rfl) rfl (LS.arr' (i := 0) (ys := ([(iadd .u8 x13.B (IntKind.wrap .u8 y29))] : (List Int))) (by simp) (by rfl)) (.nil _)))) (opsS_skip (by rfl) opsS_nil))))))))))))))))) (.plain _ (Av.new (j := 9) rfl rfl rfl (Av.new (j := 15) rfl rfl rfl Av.nil)) rfl (fun _ => rfl) (fun R => ob_appendAz (A := [_]) rfl Try.underlying23 ap5 (Zr.int .u8) (by decide) (.tmp rfl) (.tmp rfl) rfl ⟨g4.1, g4.2⟩ e_x21 g5 e_x22)) (setAll_same (us := (fun v16 : Value => [(16, (is v16))])) fun _ => by kernel_rfl) fun v16 => ?_
              refine goes_last (by kernel_rfl) rfl (opsS_cons (.plain _ (Av.old (t := 13) rfl rfl Av.nil) rfl rfl (ob_move rfl (.tmp rfl))) (opsS_cons (.plain _ (Av.new (j := 0) rfl rfl rfl Av.nil) rfl rfl ((ob_mul rfl (opd_int rfl) (.tmp rfl)).nm e_x20)) (opsS_cons (.plain _ (Av.old (t := 14) rfl rfl Av.nil) rfl rfl (ob_move rfl (.tmp rfl))) (opsS_cons (.plain _ (Av.new (j := 1) rfl rfl rfl (Av.new (j := 2) rfl rfl rfl Av.nil)) rfl rfl (ob_add rfl (.tmp rfl) (.tmp rfl))) (opsS_skip (by rfl) (opsS_skip (by rfl) (opsS_skip (by rfl) (opsS_skip (by rfl) (opsS_skip (by rfl) (opsS_skip (by rfl) (opsS_skip (by rfl) (opsS_skip (by rfl) (opsS_skip (by rfl) (opsS_skip (by rfl) (opsS_skip (by rfl) (opsS_skip (by rfl) (opsS_skip (by rfl) opsS_nil))))))))))))))))) (out_old (t := 0) rfl rfl (out_old (t := 1) rfl rfl (out_old (t := 5) rfl rfl (out_old (t := 6) rfl rfl (out_old (t := 8) rfl rfl (out_old (t := 9) rfl rfl (out_old (t := 13) rfl rfl (out_old (t := 14) rfl rfl (out_new (i := 3) (by decide) rfl rfl (out_new (i := 16) (by decide) rfl rfl out_nil)))))))))) fun a203 w203 s203 => ?_
              obtain ⟨g6, h68⟩ := guard_some h67; clear h67
              refine seq_op s203 rfl rfl (of_decide_eq_true rfl) (ob_indexAddr rfl Try.underlying27 sz23 (.tmp rfl) (.tmp rfl) g6.1 g6.2 (Nat.zero_add _)) fun a204 w204 s204 => ?_; clear s203
              refine seq_opx0 (B' := (fun _ : Unit => [BF b1 87 (ko_disk_Disk_0_1 v14 v15) (⟨[], [], x19.2.fuse, x19.2.dead⟩ : disk_Disk), ArrF b2 27 12 5 (kint .u8) (List.set b10 ((iadd .i64 x20 y29).toNat * 1) v16) (List.set b10 ((iadd .i64 x20 y29).toNat * 1) v16) x22, BF b7 30 k_caballaw12_Act x13, RowF v14 91 (karr 256 (kint .u8)) x19.2.firm, RowF v15 93 k_disk_write x19.2.loose])) s204 rfl rfl (ob_storeAz (A := [_]) rfl (tkr23) (.tmp rfl) (.tmp rfl) rfl ⟨g6.1, g6.2⟩) fun _ a205 w205 s205 => ?_; clear s204
              refine wpList_nil ?_
              refine in_normal ?_
              refine then_normal ?_
              refine hK60 _ _ ?_
              have s206 := s205.sub (.cons (t := 0) rfl (.cons (t := 1) rfl (.cons (t := 5) rfl (.cons (t := 6) rfl (.cons (t := 8) rfl (.cons (t := 9) rfl (.cons (t := 13) rfl (.cons (t := 14) rfl .nil)))))))); clear s205
              refine wp_region_lit ?_
              refine seq_op s206 rfl rfl (of_decide_eq_true rfl) (ob_move rfl (.tmp rfl)) fun a207 w207 s207 => ?_; clear s206
              refine seq_op s207 rfl rfl (of_decide_eq_true rfl) (ob_add rfl (.tmp rfl) (opd_int rfl)) fun a208 w208 s208 => ?_; clear s207
              refine seq_op s208 rfl rfl (of_decide_eq_true rfl) (ob_assign rfl (.tmp rfl)) fun a209 w209 s209 => ?_; clear s208
              refine wpList_nil ?_
              refine then_normal ?_
              exact hK57 ((iadd .i64 y29 (1 : Int)), x22) _ _ h68 ⟨(List.set b10 ((iadd .i64 x20 y29).toNat * 1) v16), (s209.sub (.cons rfl (.cons rfl (.cons rfl (.cons rfl (.cons rfl (.cons rfl (.cons rfl (.cons rfl .nil)))))))))⟩
            · replace h61 := ite_f hc11 h61
              have h69 := h61; clear h61
              refine wp_exit ?_
              refine (then_exit (then_exit (in_here ?_)))
              refine in_normal ?_
              refine then_normal ?_
              have s210 := St.drop (A := [_, _]) s201; clear s201
              exact hj7 x19.2.fuse x19.2.dead y30 x19.2.firm x19.2.loose v14 v15 b10 _ _ h69 (s210.sub (.cons rfl (.cons rfl (.cons rfl (.cons rfl (.cons rfl .nil))))))
      · replace h38 := ite_f hc6 h38
        have h70 := h38; clear h38
        refine wp_exit ?_
        refine (then_exit (then_exit (in_here ?_)))
        refine then_normal ?_
        exact hj2 y15 y16 y17 y18 y19 v7 v8 b5 _ _ h70 (s108.sub (.cons rfl (.cons rfl (.cons rfl .nil))))
    refine wp_block ?_
    have s211 := s16.perm (toFront [_] (toFront [] (toFront [] (toFront [] (List.Perm.refl _))))); clear s16
    refine wp_loop_fuel (fun m (q : Int × (List (List Int))) => caballaw12_DiskSectors.l7 k p1 p2 x2 m q.1 q.2) r (fun _ => rfl) (fun q a w => ∃ (b11 : List Value), St ⟨161, w0, ok, []⟩ [BF b1 87 (ko_disk_Disk_0_1 v1 v2) (⟨[], [], x2.fuse, x2.dead⟩ : disk_Disk), ArrF b2 27 12 5 (kint .u8) b11 b11 q.2, RowF v1 91 (karr 256 (kint .u8)) x2.firm, RowF v2 93 k_disk_write x2.loose] [(0, ((ksl k_caballaw12_Act).V p1)), (1, ((ksl (kint .u8)).V p2)), (5, (ptrB b1 0)), (6, (ptrB b2 0)), (7, ((kint .i64).V q.1))] a w) ?_ k ((0 : Int), (List.replicate 12 ([] : (List Int)))) _ _ h4 ⟨(List.replicate 12 (.slice none 0 0)), (s211.sub (.cons rfl (.cons rfl (.cons rfl (.cons rfl (.cons rfl .nil))))))⟩
    rintro n7 ⟨y31, y32⟩ a212 w212 h71 ⟨b11, s212⟩ K61 hK61
    replace h71 : caballaw12_DiskSectors.l7 k p1 p2 x2 (n7 + 1) y31 y32 = some r := h71; rw [caballaw12_DiskSectors.l7] at h71
    have h72 := h71; clear h71
    refine wp_seq_k fun K62 hK62 => ?_
    refine wp_seq_k fun K63 hK63 => ?_
    refine wp_region_lit ?_
    refine seq_op s212 rfl rfl (of_decide_eq_true rfl) (ob_move rfl (.tmp rfl)) fun a213 w213 s213 => ?_; clear s212
    refine seq_op s213 rfl rfl (of_decide_eq_true rfl) (ob_lss rfl (.tmp rfl) (opd_int rfl)) fun a214 w214 s214 => ?_; clear s213
    refine wpList_nil ?_
    refine then_normal ?_
    refine hK63 _ _ ?_
    have s215 := s214.sub (.cons (t := 0) rfl (.cons (t := 1) rfl (.cons (t := 5) rfl (.cons (t := 6) rfl (.cons (t := 7) rfl (.cons (t := 24) rfl .nil)))))); clear s214
    refine cond_split s215 (.tmp rfl) (fun hc12 => ?_) (fun hc12 => ?_)
    · replace h72 := ite_t hc12 h72
      have h73 := h72; clear h72
      refine wp_skip ?_
      refine then_normal ?_
      refine hK62 _ _ ?_
      have s216 := s215.sub (.cons (t := 0) rfl (.cons (t := 1) rfl (.cons (t := 5) rfl (.cons (t := 6) rfl (.cons (t := 7) rfl .nil))))); clear s215
      refine wp_seq_k fun K64 hK64 => ?_
      refine wp_block ?_
      refine wp_region_lit ?_
      refine seq_op s216 rfl rfl (of_decide_eq_true rfl) (ob_move rfl (.tmp rfl)) fun a217 w217 s217 => ?_; clear s216
      refine seq_opx (B' := (fun v17 : Value => [RowF v17 5 (kint .u8) ([(0 : Int)] : (List Int)), BF b1 87 (ko_disk_Disk_0_1 v1 v2) (⟨[], [], x2.fuse, x2.dead⟩ : disk_Disk), ArrF b2 27 12 5 (kint .u8) b11 b11 y32, RowF v1 91 (karr 256 (kint .u8)) x2.firm, RowF v2 93 k_disk_write x2.loose])) s217 rfl rfl (of_decide_eq_true rfl) (ob_mkRow (k := (kint .u8)) (xs := ([(0 : Int)] : (List Int))) rfl Try.underlying23 zz5 sz5 (Zr.int .u8) (by decide) (by decide) (.cons (opd_int rfl) rfl (LS.arr' (i := 0) (ys := ([(0 : Int)] : (List Int))) (by simp) (by rfl)) (.nil _))) fun v17 a218 w218 s218 => ?_; clear s217
      obtain ⟨g7, h74⟩ := guard_some h73; clear h73
      refine seq_op s218 rfl rfl (of_decide_eq_true rfl) (ob_indexAddr rfl Try.underlying27 sz23 (.tmp rfl) (.tmp rfl) g7.1 g7.2 (Nat.zero_add _)) fun a219 w219 s219 => ?_; clear s218
      obtain ⟨x23, e_x23, h75⟩ := bind_some h74; clear h74
      refine seq_opx0 (B' := (fun _ : Unit => [ArrF b2 27 12 5 (kint .u8) (List.set b11 (y31.toNat * 1) v17) (List.set b11 (y31.toNat * 1) v17) x23, BF b1 87 (ko_disk_Disk_0_1 v1 v2) (⟨[], [], x2.fuse, x2.dead⟩ : disk_Disk), RowF v1 91 (karr 256 (kint .u8)) x2.firm, RowF v2 93 k_disk_write x2.loose])) s219 rfl rfl (ob_storeNewAz rfl (tkr23) (.tmp rfl) (.tmp rfl) (toFront [] (toFront [_] (List.Perm.refl _))) ⟨g7.1, g7.2⟩ e_x23) fun _ a220 w220 s220 => ?_; clear s219
      refine wpList_nil ?_
      refine in_normal ?_
      refine then_normal ?_
      refine hK64 _ _ ?_
      have s221 := s220.sub (.cons (t := 0) rfl (.cons (t := 1) rfl (.cons (t := 5) rfl (.cons (t := 6) rfl (.cons (t := 7) rfl .nil))))); clear s220
      refine wp_region_lit ?_
      refine seq_op s221 rfl rfl (of_decide_eq_true rfl) (ob_move rfl (.tmp rfl)) fun a222 w222 s222 => ?_; clear s221
      refine seq_op s222 rfl rfl (of_decide_eq_true rfl) (ob_add rfl (.tmp rfl) (opd_int rfl)) fun a223 w223 s223 => ?_; clear s222
      refine seq_op s223 rfl rfl (of_decide_eq_true rfl) (ob_assign rfl (.tmp rfl)) fun a224 w224 s224 => ?_; clear s223
      refine wpList_nil ?_
      refine then_normal ?_
      have s225 := s224.perm (toFront [_] (toFront [] (toFront [] (toFront [] (List.Perm.refl _))))); clear s224
      exact hK61 ((iadd .i64 y31 (1 : Int)), x23) _ _ h75 ⟨(List.set b11 (y31.toNat * 1) v17), (s225.sub (.cons rfl (.cons rfl (.cons rfl (.cons rfl (.cons rfl .nil))))))⟩
    · replace h72 := ite_f hc12 h72
      have h76 := h72; clear h72
      refine wp_exit ?_
      refine (then_exit (then_exit (in_here ?_)))
      refine then_normal ?_
      exact hj1 y32 b11 _ _ h76 (s215.sub (.cons rfl (.cons rfl (.cons rfl (.cons rfl .nil)))))

/- 19 cabal/cabalref12.New -/
theorem c_cabalref12_New (k : Nat) (p1 : Int) (r : cabalref12_Disk) (h0 : cabalref12_New k p1 = some r) (ok : Ok) (w0 : World) (z0 : Value) (u0 : ((kint .i64).V p1).holds ok w0 z0) :
    GivesX Try.prog 19 [z0] ok w0 [] (fun g : Nat × Value × Value × Value => resFact [ptrB g.1 0]) (fun g : Nat × Value × Value × Value => [BF g.1 52 (ko_cabalref12_Disk_0_1_2 (g.2.1) (g.2.2.1) (g.2.2.2)) (⟨[], [], [], r.Fuse, r.Dead⟩ : cabalref12_Disk), RowF (g.2.1) 9 kstr r.Firm, RowF (g.2.2.1) 3 (kint .i64) r.At, RowF (g.2.2.2) 9 kstr r.Data]) := by
  unfold cabalref12_New at h0
  refine enterX (N := 28) Try.func19 rfl rfl (of_decide_eq_true rfl) (.cons u0 .nil) List.nodup_nil (fun _ h => by cases h) (fun _ h => by cases h) fun a1 s1 => ?_
  refine wp_seq_k fun K1 hK1 => ?_
  refine wp_region_lit ?_
  refine seq_op s1 rfl rfl (of_decide_eq_true rfl) (ob_assign rfl opd_is) fun a2 w2 s2 => ?_; clear s1
  refine wpList_nil ?_
  refine then_normal ?_
  refine hK1 _ _ ?_
  have s3 := s2.sub (.cons (t := 0) rfl .nil); clear s2
  refine wp_seq_k fun K2 hK2 => ?_
  refine wp_seq_k fun K3 hK3 => ?_
  refine wp_region_lit ?_
  refine seq_op s3 rfl rfl (of_decide_eq_true rfl) (ob_move rfl (.tmp rfl)) fun a4 w4 s4 => ?_; clear s3
  refine seq_op s4 rfl rfl (of_decide_eq_true rfl) (ob_lss rfl (.tmp rfl) (opd_int rfl)) fun a5 w5 s5 => ?_; clear s4
  refine wpList_nil ?_
  refine then_normal ?_
  refine hK3 _ _ ?_
  have s6 := s5.sub (.cons (t := 0) rfl (.cons (t := 6) rfl .nil)); clear s5
  have hj1 : ∀ (y1 : Int) (a : Act) (w : World), (cabalref12_New.j1 k) y1 = some r → St ⟨28, w0, ok, (idsOf [])⟩ [] [(0, ((kint .i64).V y1))] a w → K2 a w := by
    intro y1 a7 w7 h1 s7
    unfold cabalref12_New.j1 at h1
    refine hK2 _ _ ?_
    refine wp_seq_k fun K4 hK4 => ?_
    refine wp_seq_k fun K5 hK5 => ?_
    refine wp_region_lit ?_
    refine seq_op s7 rfl rfl (of_decide_eq_true rfl) (ob_move rfl (.tmp rfl)) fun a8 w8 s8 => ?_; clear s7
    refine seq_op s8 rfl rfl (of_decide_eq_true rfl) (ob_gtr rfl (.tmp rfl) (opd_int rfl)) fun a9 w9 s9 => ?_; clear s8
    refine wpList_nil ?_
    refine then_normal ?_
    refine hK5 _ _ ?_
    have s10 := s9.sub (.cons (t := 0) rfl (.cons (t := 8) rfl .nil)); clear s9
    have hj2 : ∀ (y2 : Int) (a : Act) (w : World), (cabalref12_New.j2 k) y2 = some r → St ⟨28, w0, ok, (idsOf [])⟩ [] [(0, ((kint .i64).V y2))] a w → K4 a w := by
      intro y2 a11 w11 h2 s11
      unfold cabalref12_New.j2 at h2
      refine hK4 _ _ ?_
      refine wp_seq_k fun K6 hK6 => ?_
      refine wp_region_lit ?_
      have s12 := St.adopt s11 (G := RowF (nilRow 5) 9 kstr []) rfl (rowNilN _ _ _ _ _); clear s11
      have s13 := St.adopt s12 (G := RowF (nilRow 6) 3 (kint .i64) []) rfl (rowNilN _ _ _ _ _); clear s12
      have s14 := St.adopt s13 (G := RowF (nilRow 7) 9 kstr []) rfl (rowNilN _ _ _ _ _); clear s13
      refine seq_op s14 rfl rfl (of_decide_eq_true rfl) ((ob_mkObj (K0 := (ko_cabalref12_Disk_0_1_2 (nilRow 5) (nilRow 6) (nilRow 7))) (K := (ko_cabalref12_Disk_0_1_2 (nilRow 5) (nilRow 6) (nilRow 7))) (X := (⟨[], [], [], (-1 : Int), false⟩ : cabalref12_Disk)) rfl Try.underlying52 zz52 rfl rfl pl52 (Zr.iso (f := to_cabalref12_Disk_0_1_2) (x := (⟨[], [], [], (0 : Int), false⟩ : cabalref12_Disk)) (Zr.pair (Zr.kis 5) (Zr.pair (Zr.kis 6) (Zr.pair (Zr.kis 7) (Zr.pair (Zr.int .i64) (Zr.pair Zr.bool Zr.nil)))))) (.cons (opd_int rfl) rfl (LSK.of (lso_cabalref12_Disk_0_1_2_Fuse (⟨[], [], [], (0 : Int), false⟩ : cabalref12_Disk) (-1 : Int))) (.nil _ _)))) fun a15 w15 s15 => ?_; clear s14
      refine seq_opx (B' := (fun b1 : Nat => [BF b1 52 (ko_cabalref12_Disk_0_1_2 (nilRow 5) (nilRow 6) (nilRow 7)) (⟨[], [], [], (-1 : Int), false⟩ : cabalref12_Disk), RowF (nilRow 7) 9 kstr ([] : (List (List Int))), RowF (nilRow 6) 3 (kint .i64) ([] : (List Int)), RowF (nilRow 5) 9 kstr ([] : (List (List Int)))])) s15 rfl rfl (of_decide_eq_true rfl) (ob_box rfl (.tmp rfl)) fun b1 a16 w16 s16 => ?_; clear s15
      refine seq_op s16 rfl rfl (of_decide_eq_true rfl) (ob_assign rfl (.tmp rfl)) fun a17 w17 s17 => ?_; clear s16
      refine wpList_nil ?_
      refine then_normal ?_
      refine hK6 _ _ ?_
      have s18 := s17.sub (.cons (t := 0) rfl (.cons (t := 3) rfl .nil)); clear s17
      refine wp_seq_k fun K7 hK7 => ?_
      refine wp_seq_k fun K8 hK8 => ?_
      refine wp_region_lit ?_
      refine seq_op s18 rfl rfl (of_decide_eq_true rfl) (ob_assign rfl (opd_int rfl)) fun a19 w19 s19 => ?_; clear s18
      refine wpList_nil ?_
      refine then_normal ?_
      refine hK8 _ _ ?_
      have s20 := s19.sub (.cons (t := 0) rfl (.cons (t := 3) rfl (.cons (t := 4) rfl .nil))); clear s19
      have hj3 : ∀ (y3 : (List (List Int))) (v1 : Value) (a : Act) (w : World), (cabalref12_New.j3 k) y3 = some r → St ⟨28, w0, ok, (idsOf [])⟩ [BF b1 52 (ko_cabalref12_Disk_0_1_2 v1 (nilRow 6) (nilRow 7)) (⟨[], [], [], (-1 : Int), false⟩ : cabalref12_Disk), RowF v1 9 kstr y3, RowF (nilRow 6) 3 (kint .i64) ([] : (List Int)), RowF (nilRow 7) 9 kstr ([] : (List (List Int)))] [(3, (ptrB b1 0))] a w → K7 a w := by
        intro y3 v1 a21 w21 h3 s21
        unfold cabalref12_New.j3 at h3
        refine hK7 _ _ ?_
        refine wp_seq_k fun K9 hK9 => ?_
        refine wp_region_lit ?_
        refine seq_op s21 rfl rfl (of_decide_eq_true rfl) (ob_move rfl (.tmp rfl)) fun a22 w22 s22 => ?_; clear s21
        refine seq_op s22 rfl rfl (of_decide_eq_true rfl) (ob_assign rfl (.tmp rfl)) fun a23 w23 s23 => ?_; clear s22
        refine wpList_nil ?_
        refine then_normal ?_
        refine hK9 _ _ ?_
        have s24 := s23.sub (.cons (t := 2) rfl .nil); clear s23
        refine wp_ret ?_
        obtain rfl := Option.some.inj h3
        exact leaveXD (D := []) ⟨b1, v1, (nilRow 6), (nilRow 7)⟩ s24 rfl (.inl rfl) rfl (.cons (.tmp rfl) .nil) rfl
      refine wp_block ?_
      have s25 := s20.perm (toFront [] (toFront [_, _] (toFront [_] (toFront [] (List.Perm.refl _))))); clear s20
      refine wp_loop_fuel (fun m (q : Int × (List (List Int))) => cabalref12_New.l1 k y2 m q.1 q.2) r (fun _ => rfl) (fun q a w => ∃ (v2 : Value), St ⟨28, w0, ok, (idsOf [])⟩ [BF b1 52 (ko_cabalref12_Disk_0_1_2 v2 (nilRow 6) (nilRow 7)) (⟨[], [], [], (-1 : Int), false⟩ : cabalref12_Disk), RowF v2 9 kstr q.2, RowF (nilRow 6) 3 (kint .i64) ([] : (List Int)), RowF (nilRow 7) 9 kstr ([] : (List (List Int)))] [(0, ((kint .i64).V y2)), (3, (ptrB b1 0)), (4, ((kint .i64).V q.1))] a w) ?_ k ((0 : Int), ([] : (List (List Int)))) _ _ h2 ⟨(nilRow 5), (s25.sub (.cons rfl (.cons rfl (.cons rfl .nil))))⟩
      rintro n1 ⟨y4, y5⟩ a26 w26 h4 ⟨v2, s26⟩ K10 hK10
      replace h4 : cabalref12_New.l1 k y2 (n1 + 1) y4 y5 = some r := h4; rw [cabalref12_New.l1] at h4
      have h5 := h4; clear h4
      refine wp_seq_k fun K11 hK11 => ?_
      refine wp_seq_k fun K12 hK12 => ?_
      refine wp_region_lit ?_
      refine seq_op s26 rfl rfl (of_decide_eq_true rfl) (ob_move rfl (.tmp rfl)) fun a27 w27 s27 => ?_; clear s26
      refine seq_op s27 rfl rfl (of_decide_eq_true rfl) (ob_move rfl (.tmp rfl)) fun a28 w28 s28 => ?_; clear s27
      refine seq_op s28 rfl rfl (of_decide_eq_true rfl) (ob_lss rfl (.tmp rfl) (.tmp rfl)) fun a29 w29 s29 => ?_; clear s28
      refine wpList_nil ?_
      refine then_normal ?_
      refine hK12 _ _ ?_
      have s30 := s29.sub (.cons (t := 0) rfl (.cons (t := 3) rfl (.cons (t := 4) rfl (.cons (t := 13) rfl .nil)))); clear s29
      refine cond_split s30 (.tmp rfl) (fun hc1 => ?_) (fun hc1 => ?_)
      · replace h5 := ite_t hc1 h5
        have h6 := h5; clear h5
        refine wp_skip ?_
        refine then_normal ?_
        refine hK11 _ _ ?_
        have s31 := s30.sub (.cons (t := 0) rfl (.cons (t := 3) rfl (.cons (t := 4) rfl .nil))); clear s30
        refine wp_seq_k fun K13 hK13 => ?_
        refine wp_block ?_
        obtain ⟨g1, h7⟩ := guard_some h6; clear h6
        obtain ⟨g2, h8⟩ := guard_some h7; clear h7
        refine wp_goes (Fs := [(ptrB b1 0), (ptrB b1 0), (ptrB b1 0), (ptrB b1 0), (is v2), nofact, nofact, nofact, nofact]) (bits := [0, 0, 2, 6, 14, 0, 32, 96, 254, 511, 1023, 2047]) (m := 9) (todo := 288) mx s31 ?_; clear s31
        refine goes_turn (B' := (fun v3 : Value => [RowF v3 5 (kint .u8) (List.replicate (256 : Int).toNat (0 : Int)), BF b1 52 (ko_cabalref12_Disk_0_1_2 v2 (nilRow 6) (nilRow 7)) (⟨[], [], [], (-1 : Int), false⟩ : cabalref12_Disk), RowF v2 9 kstr y5, RowF (nilRow 6) 3 (kint .i64) ([] : (List Int)), RowF (nilRow 7) 9 kstr ([] : (List (List Int)))])) (Fs' := (fun v3 : Value => setAll ([(ptrB b1 0), (ptrB b1 0), (ptrB b1 0), (ptrB b1 0), (is v2), nofact, nofact, nofact, nofact]) [(5, (is v3)), (6, (kstr.V (List.replicate (256 : Int).toNat (0 : Int)))), (7, ((ksl kstr).V ([(List.replicate (256 : Int).toNat (0 : Int))] : (List (List Int)))))])) 5 480 32 256 (by kernel_rfl) rfl rfl rfl (opsS_cons (.plain _ (Av.old (t := 3) rfl rfl Av.nil) rfl rfl (ob_move rfl (.tmp rfl))) (opsS_cons (.plain _ (Av.old (t := 3) rfl rfl Av.nil) rfl rfl (ob_move rfl (.tmp rfl))) (opsS_cons (.plain _ (Av.new (j := 1) rfl rfl rfl Av.nil) rfl rfl (ob_nilCheck rfl (.tmp rfl))) (opsS_cons (.plain _ (Av.new (j := 2) rfl rfl rfl Av.nil) rfl rfl (ob_fieldAddr (off' := 0) rfl Try.underlying52 rfl sz49 (by decide) (.tmp rfl) rfl)) (opsS_cons (.plain _ (Av.new (j := 3) rfl rfl rfl Av.nil) rfl rfl (ob_loadRowV rfl (tkr49 _) (.tmp rfl) (.head _) (lgo_cabalref12_Disk_0_1_2_Firm (⟨[], [], [], (-1 : Int), false⟩ : cabalref12_Disk)))) (opsS_skip (by rfl) (opsS_skip (by rfl) (opsS_skip (by rfl) (opsS_skip (by rfl) opsS_nil))))))))) (.plain _ Av.nil rfl (fun _ => rfl) (fun R => ob_makeRow (T8 := 0) rfl Try.underlying23 ap5 (Zr.int .u8) (by decide) (opd_int rfl) g1)) (setAll_same (us := (fun v3 : Value => [(5, (is v3)), (6, (kstr.V (List.replicate (256 : Int).toNat (0 : Int)))), (7, ((ksl kstr).V ([(List.replicate (256 : Int).toNat (0 : Int))] : (List (List Int)))))])) fun _ => by kernel_rfl) fun v3 => ?_
        refine goes_turn (B' := (fun v4 : Value => [RowF v3 5 (kint .u8) (List.replicate (256 : Int).toNat (0 : Int)), BF b1 52 (ko_cabalref12_Disk_0_1_2 v2 (nilRow 6) (nilRow 7)) (⟨[], [], [], (-1 : Int), false⟩ : cabalref12_Disk), RowF v4 9 kstr (y5 ++ ([(List.replicate (256 : Int).toNat (0 : Int))] : (List (List Int)))), RowF (nilRow 6) 3 (kint .i64) ([] : (List Int)), RowF (nilRow 7) 9 kstr ([] : (List (List Int)))])) (Fs' := (fun v4 : Value => setAll (setAll ([(ptrB b1 0), (ptrB b1 0), (ptrB b1 0), (ptrB b1 0), (is v2), nofact, nofact, nofact, nofact]) [(5, (is v3)), (6, (kstr.V (List.replicate (256 : Int).toNat (0 : Int)))), (7, ((ksl kstr).V ([(List.replicate (256 : Int).toNat (0 : Int))] : (List (List Int)))))]) [(8, (is v4))])) 8 288 510 0 (by kernel_rfl) rfl rfl rfl (opsS_cons (.plain _ (Av.old (t := 3) rfl rfl Av.nil) rfl rfl (ob_move rfl (.tmp rfl))) (opsS_cons (.plain _ (Av.old (t := 3) rfl rfl Av.nil) rfl rfl (ob_move rfl (.tmp rfl))) (opsS_cons (.plain _ (Av.new (j := 1) rfl rfl rfl Av.nil) rfl rfl (ob_nilCheck rfl (.tmp rfl))) (opsS_cons (.plain _ (Av.new (j := 2) rfl rfl rfl Av.nil) rfl rfl (ob_fieldAddr (off' := 0) rfl Try.underlying52 rfl sz49 (by decide) (.tmp rfl) rfl)) (opsS_cons (.plain _ (Av.new (j := 3) rfl rfl rfl Av.nil) rfl rfl (ob_loadRowV rfl (tkr49 _) (.tmp rfl) (.tail _ (.head _)) (lgo_cabalref12_Disk_0_1_2_Firm (⟨[], [], [], (-1 : Int), false⟩ : cabalref12_Disk)))) (opsS_skip (by rfl) (opsS_cons (.plain _ (Av.new (j := 5) rfl rfl rfl Av.nil) rfl rfl ((ob_lendG (L := [_]) (List.Perm.refl _) (.cons (t := 21) rfl (lendRow (.head _)) .nil) (Flat.V KFlat.str) (fun _ => ob_bytesToStr rfl Try.underlying23 Try.underlying9 Try.underlying5 (.tmp rfl))))) (opsS_cons (.plain _ (Av.new (j := 6) rfl rfl rfl Av.nil) rfl rfl (ob_mkSlice (k := kstr) (xs := ([(List.replicate (256 : Int).toNat (0 : Int))] : (List (List Int)))) rfl Try.underlying49 zz9 sz9 Zr.str (by decide) (by decide) (.cons (.tmp rfl) rfl (LS.arr' (i := 0) (ys := ([(List.replicate (256 : Int).toNat (0 : Int))] : (List (List Int)))) (by simp) (by rfl)) (.nil _)))) (opsS_skip (by rfl) opsS_nil))))))))) (.plain _ (Av.new (j := 4) rfl rfl rfl (Av.new (j := 7) rfl rfl rfl Av.nil)) rfl (fun _ => rfl) (fun R => ob_appendL2 (A := [_, _]) rfl Try.underlying49 ap9 Zr.str (by decide) (.tmp rfl) (.tmp rfl) rfl g2)) (setAll_same (us := (fun v4 : Value => [(8, (is v4))])) fun _ => by kernel_rfl) fun v4 => ?_
        refine goes_last (by kernel_rfl) rfl (opsS_cons (.plain _ (Av.old (t := 3) rfl rfl Av.nil) rfl rfl (ob_move rfl (.tmp rfl))) (opsS_skip (by rfl) (opsS_skip (by rfl) (opsS_skip (by rfl) (opsS_skip (by rfl) (opsS_skip (by rfl) (opsS_skip (by rfl) (opsS_skip (by rfl) (opsS_skip (by rfl) opsS_nil))))))))) (out_old (t := 0) rfl rfl (out_old (t := 3) rfl rfl (out_old (t := 4) rfl rfl (out_new (i := 0) (by decide) rfl rfl (out_new (i := 8) (by decide) rfl rfl out_nil))))) fun a32 w32 s32 => ?_
        refine seq_op s32 rfl rfl (of_decide_eq_true rfl) (ob_nilCheck rfl (.tmp rfl)) fun a33 w33 s33 => ?_; clear s32
        refine seq_op s33 rfl rfl (of_decide_eq_true rfl) (ob_fieldAddr (off' := 0) rfl Try.underlying52 rfl sz49 (by decide) (.tmp rfl) rfl) fun a34 w34 s34 => ?_; clear s33
        refine seq_opx0 (B' := (fun _ : Unit => [RowF v3 5 (kint .u8) (List.replicate (256 : Int).toNat (0 : Int)), BF b1 52 (ko_cabalref12_Disk_0_1_2 v4 (nilRow 6) (nilRow 7)) (⟨[], [], [], (-1 : Int), false⟩ : cabalref12_Disk), RowF v4 9 kstr (y5 ++ ([(List.replicate (256 : Int).toNat (0 : Int))] : (List (List Int)))), RowF (nilRow 6) 3 (kint .i64) ([] : (List Int)), RowF (nilRow 7) 9 kstr ([] : (List (List Int)))])) s34 rfl rfl (ob_storeRowV (A := [_]) rfl (tkr49 _) (.tmp rfl) (.tmp rfl) (.tail _ (.tail _ (.head _))) rfl (lsk_cabalref12_Disk_0_1_2_to_0_1_2_at0 (⟨[], [], [], (-1 : Int), false⟩ : cabalref12_Disk)) rfl) fun _ a35 w35 s35 => ?_; clear s34
        refine wpList_nil ?_
        refine in_normal ?_
        refine then_normal ?_
        refine hK13 _ _ ?_
        have s36 := s35.sub (.cons (t := 0) rfl (.cons (t := 3) rfl (.cons (t := 4) rfl .nil))); clear s35
        have s37 := St.drop (A := []) s36; clear s36
        refine wp_region_lit ?_
        refine seq_op s37 rfl rfl (of_decide_eq_true rfl) (ob_move rfl (.tmp rfl)) fun a38 w38 s38 => ?_; clear s37
        refine seq_op s38 rfl rfl (of_decide_eq_true rfl) (ob_add rfl (.tmp rfl) (opd_int rfl)) fun a39 w39 s39 => ?_; clear s38
        refine seq_op s39 rfl rfl (of_decide_eq_true rfl) (ob_assign rfl (.tmp rfl)) fun a40 w40 s40 => ?_; clear s39
        refine wpList_nil ?_
        refine then_normal ?_
        exact hK10 ((iadd .i64 y4 (1 : Int)), (y5 ++ ([(List.replicate (256 : Int).toNat (0 : Int))] : (List (List Int))))) _ _ h8 ⟨v4, (s40.sub (.cons rfl (.cons rfl (.cons rfl .nil))))⟩
      · replace h5 := ite_f hc1 h5
        have h9 := h5; clear h5
        refine wp_exit ?_
        refine (then_exit (then_exit (in_here ?_)))
        refine then_normal ?_
        exact hj3 y5 v2 _ _ h9 (s30.sub (.cons rfl .nil))
    refine cond_split s10 (.tmp rfl) (fun hc2 => ?_) (fun hc2 => ?_)
    · replace h1 := ite_t hc2 h1
      have h10 := h1; clear h1
      refine wp_region_lit ?_
      refine seq_op s10 rfl rfl (of_decide_eq_true rfl) (ob_assign rfl (opd_int rfl)) fun a41 w41 s41 => ?_; clear s10
      refine wpList_nil ?_
      refine then_normal ?_
      exact hj2 (1024 : Int) _ _ h10 (s41.sub (.cons rfl .nil))
    · replace h1 := ite_f hc2 h1
      have h11 := h1; clear h1
      refine wp_skip ?_
      refine then_normal ?_
      exact hj2 y1 _ _ h11 (s10.sub (.cons rfl .nil))
  refine cond_split s6 (.tmp rfl) (fun hc3 => ?_) (fun hc3 => ?_)
  · replace h0 := ite_t hc3 h0
    have h12 := h0; clear h0
    refine wp_region_lit ?_
    refine seq_op s6 rfl rfl (of_decide_eq_true rfl) (ob_assign rfl (opd_int rfl)) fun a42 w42 s42 => ?_; clear s6
    refine wpList_nil ?_
    refine then_normal ?_
    exact hj1 (1 : Int) _ _ h12 (s42.sub (.cons rfl .nil))
  · replace h0 := ite_f hc3 h0
    have h13 := h0; clear h0
    refine wp_skip ?_
    refine then_normal ?_
    exact hj1 p1 _ _ h13 (s6.sub (.cons rfl .nil))

/- 27 (*cabal/cabalref12.Disk).Has -/
theorem c_cabalref12_Disk_Has (k : Nat) (p1 : cabalref12_Disk) (p2 : Int) (r : Bool) (h0 : cabalref12_Disk_Has k p1 p2 = some r) (ok : Ok) (w0 : World) (z0 : Value) (z1 : Value) (u0 : (ptrTo k_cabalref12_Disk p1).holds ok w0 z0) (u1 : ((kint .i64).V p2).holds ok w0 z1) :
    Gives Try.prog 27 [z0, z1] ok w0 (resFact [kbool.V r]) := by
  unfold cabalref12_Disk_Has at h0
  refine enter (N := 16) Try.func27 rfl rfl (of_decide_eq_true rfl) (.cons u0 (.cons u1 .nil)) fun a1 s1 => ?_
  refine wp_seq_k fun K1 hK1 => ?_
  refine wp_region_lit ?_
  refine seq_op s1 rfl rfl (of_decide_eq_true rfl) (ob_assign rfl opd_bool) fun a2 w2 s2 => ?_; clear s1
  refine wpList_nil ?_
  refine then_normal ?_
  refine hK1 _ _ ?_
  have s3 := s2.sub (.cons (t := 0) rfl (.cons (t := 1) rfl .nil)); clear s2
  refine wp_seq_k fun K2 hK2 => ?_
  refine wp_region_lit ?_
  refine seq_op s3 rfl rfl (of_decide_eq_true rfl) (ob_move rfl (.tmp rfl)) fun a4 w4 s4 => ?_; clear s3
  refine seq_op s4 rfl rfl (of_decide_eq_true rfl) (ob_geq rfl (.tmp rfl) (opd_int rfl)) fun a5 w5 s5 => ?_; clear s4
  refine seq_op s5 rfl rfl (of_decide_eq_true rfl) (ob_move rfl (.tmp rfl)) fun a6 w6 s6 => ?_; clear s5
  refine seq_opg s6 rfl rfl rfl rfl (of_decide_eq_true rfl) (fun hb => ob_move rfl (.tmp rfl)) fun a7 w7 s7 => ?_; clear s6
  refine seq_opg s7 rfl rfl rfl rfl (of_decide_eq_true rfl) (fun hb => ob_move rfl (.tmp rfl)) fun a8 w8 s8 => ?_; clear s7
  refine seq_opg s8 rfl rfl rfl rfl (of_decide_eq_true rfl) (fun hb => (Ob.uncond (t := 9) hb rfl (ob_nilCheckr rfl (.tmp rfl)))) fun a9 w9 s9 => ?_; clear s8
  refine seq_opg s9 rfl rfl rfl rfl (of_decide_eq_true rfl) (fun hb => (Ob.uncond (t := 10) hb rfl (ob_fieldAddrr rfl Try.underlying52 rfl sz49 (by decide) (.tmp rfl) (lg_cabalref12_Disk_Firm p1)))) fun a10 w10 s10 => ?_; clear s9
  refine seq_opg s10 rfl rfl rfl rfl (of_decide_eq_true rfl) (fun hb => (Ob.uncond (t := 11) hb rfl (ob_loadr rfl tk49 (.tmp rfl)))) fun a11 w11 s11 => ?_; clear s10
  refine seq_opg s11 rfl rfl rfl rfl (of_decide_eq_true rfl) (fun hb => (Ob.uncond (t := 12) hb rfl (ob_lens rfl Try.underlying49 (.tmp rfl)))) fun a12 w12 s12 => ?_; clear s11
  refine seq_opg s12 rfl rfl rfl rfl (of_decide_eq_true rfl) (fun hb => (Ob.uncond (t := 13) hb rfl ((Ob.uncond (t := 8) hb rfl (ob_lss rfl (.tmp rfl) (.tmp rfl)))))) fun a13 w13 s13 => ?_; clear s12
  obtain ⟨x1, e_x1, h1⟩ := bind_some h0; clear h0; replace e_x1 := Option.some.inj e_x1
  refine seq_op s13 rfl rfl (of_decide_eq_true rfl) ((ob_and2 rfl (.tmp rfl) (.tmp rfl) opd_bool).nm e_x1) fun a14 w14 s14 => ?_; clear s13
  refine seq_op s14 rfl rfl (of_decide_eq_true rfl) (ob_assign rfl (.tmp rfl)) fun a15 w15 s15 => ?_; clear s14
  refine wpList_nil ?_
  refine then_normal ?_
  refine hK2 _ _ ?_
  have s16 := s15.sub (.cons (t := 4) rfl .nil); clear s15
  refine wp_ret ?_
  obtain rfl := Option.some.inj h1
  exact leave s16 (.inl rfl) rfl (.cons (.tmp rfl) .nil)

/- 52 (*cabal/cabalref12.Disk).burn -/
theorem c_cabalref12_Disk_burn (k : Nat) (p1 : cabalref12_Disk) (r : (Bool × cabalref12_Disk)) (h0 : cabalref12_Disk_burn k p1 = some r) (ok : Ok) (w0 : World) (z0 : Value) (b00 : Nat) (w0_0 : Value) (w0_1 : Value) (w0_2 : Value) (l0 : ∀ q, q ∈ [BF b00 52 (ko_cabalref12_Disk_0_1_2 w0_0 w0_1 w0_2) (⟨[], [], [], p1.Fuse, p1.Dead⟩ : cabalref12_Disk), RowF w0_0 9 kstr p1.Firm, RowF w0_1 3 (kint .i64) p1.At, RowF w0_2 9 kstr p1.Data] → q.holds ok w0) (d0 : ∀ c, c ∈ idsOf [BF b00 52 (ko_cabalref12_Disk_0_1_2 w0_0 w0_1 w0_2) (⟨[], [], [], p1.Fuse, p1.Dead⟩ : cabalref12_Disk), RowF w0_0 9 kstr p1.Firm, RowF w0_1 3 (kint .i64) p1.At, RowF w0_2 9 kstr p1.Data] → ¬ ok c) (nd : (idsOf [BF b00 52 (ko_cabalref12_Disk_0_1_2 w0_0 w0_1 w0_2) (⟨[], [], [], p1.Fuse, p1.Dead⟩ : cabalref12_Disk), RowF w0_0 9 kstr p1.Firm, RowF w0_1 3 (kint .i64) p1.At, RowF w0_2 9 kstr p1.Data]).Nodup) (u0 : (ptrB b00 0).holds ok w0 z0) :
    GivesX Try.prog 52 [z0] ok w0 [BF b00 52 (ko_cabalref12_Disk_0_1_2 w0_0 w0_1 w0_2) (⟨[], [], [], p1.Fuse, p1.Dead⟩ : cabalref12_Disk), RowF w0_0 9 kstr p1.Firm, RowF w0_1 3 (kint .i64) p1.At, RowF w0_2 9 kstr p1.Data] (fun g : Value × Value × Value => resFact [kbool.V r.1]) (fun g : Value × Value × Value => [BF b00 52 (ko_cabalref12_Disk_0_1_2 (g.1) (g.2.1) (g.2.2)) (⟨[], [], [], r.2.Fuse, r.2.Dead⟩ : cabalref12_Disk), RowF (g.1) 9 kstr r.2.Firm, RowF (g.2.1) 3 (kint .i64) r.2.At, RowF (g.2.2) 9 kstr r.2.Data]) := by
  unfold cabalref12_Disk_burn at h0
  refine enterX (N := 23) Try.func52 rfl rfl (of_decide_eq_true rfl) (.cons u0 .nil) nd l0 d0 fun a1 s1 => ?_
  refine wp_seq_k fun K1 hK1 => ?_
  refine wp_region_lit ?_
  refine seq_op s1 rfl rfl (of_decide_eq_true rfl) (ob_assign rfl opd_bool) fun a2 w2 s2 => ?_; clear s1
  refine wpList_nil ?_
  refine then_normal ?_
  refine hK1 _ _ ?_
  have s3 := s2.sub (.cons (t := 0) rfl .nil); clear s2
  refine wp_seq_k fun K2 hK2 => ?_
  refine wp_seq_k fun K3 hK3 => ?_
  refine wp_region_lit ?_
  refine seq_op s3 rfl rfl (of_decide_eq_true rfl) (ob_move rfl (.tmp rfl)) fun a4 w4 s4 => ?_; clear s3
  refine seq_op s4 rfl rfl (of_decide_eq_true rfl) (ob_nilCheck rfl (.tmp rfl)) fun a5 w5 s5 => ?_; clear s4
  refine seq_op s5 rfl rfl (of_decide_eq_true rfl) (ob_fieldAddr (off' := 3) rfl Try.underlying52 rfl sz3 (by decide) (.tmp rfl) rfl) fun a6 w6 s6 => ?_; clear s5
  refine seq_op s6 rfl rfl (of_decide_eq_true rfl) (ob_load rfl tk3 (.tmp rfl) (.head _) (lgo_cabalref12_Disk_0_1_2_Fuse (⟨[], [], [], p1.Fuse, p1.Dead⟩ : cabalref12_Disk))) fun a7 w7 s7 => ?_; clear s6
  refine seq_op s7 rfl rfl (of_decide_eq_true rfl) (ob_eql rfl (.tmp rfl) (opd_int rfl)) fun a8 w8 s8 => ?_; clear s7
  refine wpList_nil ?_
  refine then_normal ?_
  refine hK3 _ _ ?_
  have s9 := s8.sub (.cons (t := 0) rfl (.cons (t := 7) rfl .nil)); clear s8
  refine cond_split s9 (.tmp rfl) (fun hc1 => ?_) (fun hc1 => ?_)
  · replace h0 := ite_t hc1 h0
    have h1 := h0; clear h0
    refine wp_seq_k fun K4 hK4 => ?_
    refine wp_region_lit ?_
    refine seq_op s9 rfl rfl (of_decide_eq_true rfl) (ob_move rfl (.tmp rfl)) fun a10 w10 s10 => ?_; clear s9
    refine seq_op s10 rfl rfl (of_decide_eq_true rfl) (ob_nilCheck rfl (.tmp rfl)) fun a11 w11 s11 => ?_; clear s10
    refine seq_op s11 rfl rfl (of_decide_eq_true rfl) (ob_fieldAddr (off' := 4) rfl Try.underlying52 rfl sz4 (by decide) (.tmp rfl) rfl) fun a12 w12 s12 => ?_; clear s11
    refine seq_opx0 (B' := (fun _ : Unit => [BF b00 52 (ko_cabalref12_Disk_0_1_2 w0_0 w0_1 w0_2) (⟨[], [], [], p1.Fuse, true⟩ : cabalref12_Disk), RowF w0_0 9 kstr p1.Firm, RowF w0_1 3 (kint .i64) p1.At, RowF w0_2 9 kstr p1.Data])) s12 rfl rfl (ob_store (A := []) rfl tk4 (.tmp rfl) opd_bool rfl (lso_cabalref12_Disk_0_1_2_Dead (⟨[], [], [], p1.Fuse, p1.Dead⟩ : cabalref12_Disk) true) rfl) fun _ a13 w13 s13 => ?_; clear s12
    refine wpList_nil ?_
    refine then_normal ?_
    refine hK4 _ _ ?_
    have s14 := s13.sub .nil; clear s13
    refine wp_seq_k fun K5 hK5 => ?_
    refine wp_region_lit ?_
    refine seq_op s14 rfl rfl (of_decide_eq_true rfl) (ob_assign rfl opd_bool) fun a15 w15 s15 => ?_; clear s14
    refine wpList_nil ?_
    refine then_normal ?_
    refine hK5 _ _ ?_
    have s16 := s15.sub (.cons (t := 2) rfl .nil); clear s15
    refine wp_ret ?_
    obtain rfl := Option.some.inj h1
    exact leaveXD (D := []) ⟨w0_0, w0_1, w0_2⟩ s16 rfl (.inl rfl) rfl (.cons (.tmp rfl) .nil) rfl
  · replace h0 := ite_f hc1 h0
    have h2 := h0; clear h0
    refine wp_skip ?_
    refine then_normal ?_
    refine hK2 _ _ ?_
    have s17 := s9.sub (.cons (t := 0) rfl .nil); clear s9
    refine wp_seq_k fun K6 hK6 => ?_
    refine wp_seq_k fun K7 hK7 => ?_
    refine wp_region_lit ?_
    refine seq_op s17 rfl rfl (of_decide_eq_true rfl) (ob_move rfl (.tmp rfl)) fun a18 w18 s18 => ?_; clear s17
    refine seq_op s18 rfl rfl (of_decide_eq_true rfl) (ob_nilCheck rfl (.tmp rfl)) fun a19 w19 s19 => ?_; clear s18
    refine seq_op s19 rfl rfl (of_decide_eq_true rfl) (ob_fieldAddr (off' := 3) rfl Try.underlying52 rfl sz3 (by decide) (.tmp rfl) rfl) fun a20 w20 s20 => ?_; clear s19
    refine seq_op s20 rfl rfl (of_decide_eq_true rfl) (ob_load rfl tk3 (.tmp rfl) (.head _) (lgo_cabalref12_Disk_0_1_2_Fuse (⟨[], [], [], p1.Fuse, p1.Dead⟩ : cabalref12_Disk))) fun a21 w21 s21 => ?_; clear s20
    refine seq_op s21 rfl rfl (of_decide_eq_true rfl) (ob_gtr rfl (.tmp rfl) (opd_int rfl)) fun a22 w22 s22 => ?_; clear s21
    refine wpList_nil ?_
    refine then_normal ?_
    refine hK7 _ _ ?_
    have s23 := s22.sub (.cons (t := 0) rfl (.cons (t := 15) rfl .nil)); clear s22
    have hj1 : ∀ (y1 : Int) (a : Act) (w : World), (cabalref12_Disk_burn.j1 k p1) y1 = some r → St ⟨23, w0, ok, (idsOf [BF b00 52 (ko_cabalref12_Disk_0_1_2 w0_0 w0_1 w0_2) (⟨[], [], [], p1.Fuse, p1.Dead⟩ : cabalref12_Disk), RowF w0_0 9 kstr p1.Firm, RowF w0_1 3 (kint .i64) p1.At, RowF w0_2 9 kstr p1.Data])⟩ [BF b00 52 (ko_cabalref12_Disk_0_1_2 w0_0 w0_1 w0_2) (⟨[], [], [], y1, p1.Dead⟩ : cabalref12_Disk), RowF w0_0 9 kstr p1.Firm, RowF w0_1 3 (kint .i64) p1.At, RowF w0_2 9 kstr p1.Data] [] a w → K6 a w := by
      intro y1 a24 w24 h3 s24
      unfold cabalref12_Disk_burn.j1 at h3
      refine hK6 _ _ ?_
      refine wp_seq_k fun K8 hK8 => ?_
      refine wp_region_lit ?_
      refine seq_op s24 rfl rfl (of_decide_eq_true rfl) (ob_assign rfl opd_bool) fun a25 w25 s25 => ?_; clear s24
      refine wpList_nil ?_
      refine then_normal ?_
      refine hK8 _ _ ?_
      have s26 := s25.sub (.cons (t := 2) rfl .nil); clear s25
      refine wp_ret ?_
      obtain rfl := Option.some.inj h3
      exact leaveXD (D := []) ⟨w0_0, w0_1, w0_2⟩ s26 rfl (.inl rfl) rfl (.cons (.tmp rfl) .nil) rfl
    refine cond_split s23 (.tmp rfl) (fun hc2 => ?_) (fun hc2 => ?_)
    · replace h2 := ite_t hc2 h2
      have h4 := h2; clear h2
      refine wp_region_lit ?_
      refine seq_op s23 rfl rfl (of_decide_eq_true rfl) (ob_move rfl (.tmp rfl)) fun a27 w27 s27 => ?_; clear s23
      refine seq_op s27 rfl rfl (of_decide_eq_true rfl) (ob_nilCheck rfl (.tmp rfl)) fun a28 w28 s28 => ?_; clear s27
      refine seq_op s28 rfl rfl (of_decide_eq_true rfl) (ob_fieldAddr (off' := 3) rfl Try.underlying52 rfl sz3 (by decide) (.tmp rfl) rfl) fun a29 w29 s29 => ?_; clear s28
      refine seq_op s29 rfl rfl (of_decide_eq_true rfl) (ob_load rfl tk3 (.tmp rfl) (.head _) (lgo_cabalref12_Disk_0_1_2_Fuse (⟨[], [], [], p1.Fuse, p1.Dead⟩ : cabalref12_Disk))) fun a30 w30 s30 => ?_; clear s29
      refine seq_op s30 rfl rfl (of_decide_eq_true rfl) (ob_sub rfl (.tmp rfl) (opd_int rfl)) fun a31 w31 s31 => ?_; clear s30
      refine seq_op s31 rfl rfl (of_decide_eq_true rfl) (ob_nilCheck rfl (.tmp rfl)) fun a32 w32 s32 => ?_; clear s31
      refine seq_op s32 rfl rfl (of_decide_eq_true rfl) (ob_fieldAddr (off' := 3) rfl Try.underlying52 rfl sz3 (by decide) (.tmp rfl) rfl) fun a33 w33 s33 => ?_; clear s32
      refine seq_opx0 (B' := (fun _ : Unit => [BF b00 52 (ko_cabalref12_Disk_0_1_2 w0_0 w0_1 w0_2) (⟨[], [], [], (isub .i64 p1.Fuse (1 : Int)), p1.Dead⟩ : cabalref12_Disk), RowF w0_0 9 kstr p1.Firm, RowF w0_1 3 (kint .i64) p1.At, RowF w0_2 9 kstr p1.Data])) s33 rfl rfl (ob_store (A := []) rfl tk3 (.tmp rfl) (.tmp rfl) rfl (lso_cabalref12_Disk_0_1_2_Fuse (⟨[], [], [], p1.Fuse, p1.Dead⟩ : cabalref12_Disk) (isub .i64 p1.Fuse (1 : Int))) rfl) fun _ a34 w34 s34 => ?_; clear s33
      refine wpList_nil ?_
      refine then_normal ?_
      exact hj1 (isub .i64 p1.Fuse (1 : Int)) _ _ h4 (s34.sub .nil)
    · replace h2 := ite_f hc2 h2
      have h5 := h2; clear h2
      refine wp_skip ?_
      refine then_normal ?_
      exact hj1 p1.Fuse _ _ h5 (s23.sub .nil)

end Go.Proofs.Ytlcddcamnkgeeaa
