/- Each function's code comes to what its plain function answers. No condition. -/
import Derived.Test.YtlcddcamnkgeeaaNFacts
namespace Go.Proofs.Ytlcddcamnkgeeaa
open Go Go.RowKit Go.Proofs.Kit Go.Proofs.Pure
set_option linter.unusedVariables false
set_option linter.unusedSimpArgs false
set_option maxRecDepth 100000
set_option maxHeartbeats 2000000

/- 12 cabal/disk.New -/
theorem c_disk_New (k : Nat) (p1 : Int) (r : disk_Disk) (h0 : disk_New k p1 = some r) (ok : Ok) (w0 : World) (z0 : Value) (u0 : ((kint .i64).V p1).holds ok w0 z0) :
    GivesX Try.prog 12 [z0] ok w0 [] (fun g : Nat × Value × Value => resFact [ptrB g.1 0]) (fun g : Nat × Value × Value => [BF g.1 87 (ko_disk_Disk_0_1 (g.2.1) (g.2.2)) (⟨[], [], r.fuse, r.dead⟩ : disk_Disk), RowF (g.2.1) 91 (karr 256 (kint .u8)) r.firm, RowF (g.2.2) 93 k_disk_write r.loose]) := by
  unfold disk_New at h0
  refine enterX (N := 9) Try.func12 rfl rfl (of_decide_eq_true rfl) (.cons u0 .nil) List.nodup_nil (fun _ h => by cases h) (fun _ h => by cases h) fun a1 s1 => ?_
  refine wp_seq_k fun K1 hK1 => ?_
  refine wp_region_lit ?_
  refine seq_op s1 rfl rfl (of_decide_eq_true rfl) (ob_assign rfl opd_is) fun a2 w2 s2 => ?_; clear s1
  refine wpList_nil ?_
  refine then_normal ?_
  refine hK1 _ _ ?_
  have s3 := s2.sub (.cons (t := 0) rfl .nil); clear s2
  refine wp_seq_k fun K2 hK2 => ?_
  refine wp_region_lit ?_
  refine seq_op s3 rfl rfl (of_decide_eq_true rfl) (ob_move rfl (.tmp rfl)) fun a4 w4 s4 => ?_; clear s3
  refine seq_op s4 rfl rfl (of_decide_eq_true rfl) (ob_max rfl (.tmp rfl) (opd_int rfl)) fun a5 w5 s5 => ?_; clear s4
  obtain ⟨x1, e_x1, h1⟩ := bind_some h0; clear h0; replace e_x1 := Option.some.inj e_x1
  refine seq_op s5 rfl rfl (of_decide_eq_true rfl) ((ob_min rfl (.tmp rfl) (opd_int rfl)).nm e_x1) fun a6 w6 s6 => ?_; clear s5
  obtain ⟨g1, h2⟩ := guard_some h1; clear h1
  refine seq_opx (B' := (fun v1 : Value => [RowF v1 91 (karr 256 (kint .u8)) (List.replicate x1.toNat (List.replicate 256 (0 : Int)))])) s6 rfl rfl (of_decide_eq_true rfl) (ob_makeRow (T8 := 0) rfl Try.underlying84 ap91 (Zr.arr 256 (Zr.int .u8)) (by decide) (.tmp rfl) g1) fun v1 a7 w7 s7 => ?_; clear s6
  have s8 := St.adopt s7 (G := RowF (nilRow 1) 91 (karr 256 (kint .u8)) []) rfl (rowNilN _ _ _ _ _); clear s7
  have s9 := St.adopt s8 (G := RowF (nilRow 2) 93 k_disk_write []) rfl (rowNilN _ _ _ _ _); clear s8
  have s10 := s9.kisRow (t := 6) (.tail _ (.tail _ (.head _))) rfl; clear s9
  refine seq_op s10 rfl rfl (of_decide_eq_true rfl) ((ob_mkObj (K0 := (ko_disk_Disk_0_1 (nilRow 1) (nilRow 2))) (K := (ko_disk_Disk_0_1 v1 (nilRow 2))) (X := (⟨[], [], (-1 : Int), false⟩ : disk_Disk)) rfl Try.underlying87 zz87 rfl rfl pl87 (Zr.iso (f := to_disk_Disk_0_1) (x := (⟨[], [], (0 : Int), false⟩ : disk_Disk)) (Zr.pair (Zr.kis 1) (Zr.pair (Zr.kis 2) (Zr.pair (Zr.int .i64) (Zr.pair Zr.bool Zr.nil))))) (.cons (.tmp rfl) rfl (lsk_disk_Disk_0_1_to_0_1_at0 (⟨[], [], (0 : Int), false⟩ : disk_Disk)) (.cons (opd_int rfl) rfl (LSK.of (lso_disk_Disk_0_1_fuse (⟨[], [], (0 : Int), false⟩ : disk_Disk) (-1 : Int))) (.nil _ _))))) fun a11 w11 s11 => ?_; clear s10
  refine seq_opx (B' := (fun b1 : Nat => [BF b1 87 (ko_disk_Disk_0_1 v1 (nilRow 2)) (⟨[], [], (-1 : Int), false⟩ : disk_Disk), RowF (nilRow 2) 93 k_disk_write ([] : (List disk_write)), RowF (nilRow 1) 91 (karr 256 (kint .u8)) ([] : (List (List Int))), RowF v1 91 (karr 256 (kint .u8)) (List.replicate x1.toNat (List.replicate 256 (0 : Int)))])) s11 rfl rfl (of_decide_eq_true rfl) (ob_box rfl (.tmp rfl)) fun b1 a12 w12 s12 => ?_; clear s11
  refine seq_op s12 rfl rfl (of_decide_eq_true rfl) (ob_assign rfl (.tmp rfl)) fun a13 w13 s13 => ?_; clear s12
  refine wpList_nil ?_
  refine then_normal ?_
  refine hK2 _ _ ?_
  have s14 := s13.sub (.cons (t := 2) rfl .nil); clear s13
  have s15 := St.drop (A := [_, _]) s14; clear s14
  refine wp_ret ?_
  have s16 := s15.perm (toFront [] (toFront [_] (toFront [] (List.Perm.refl _)))); clear s15
  obtain rfl := Option.some.inj h2
  exact leaveXD (D := []) ⟨b1, v1, (nilRow 2)⟩ s16 rfl (.inl rfl) rfl (.cons (.tmp rfl) .nil) rfl

/- 16 cabal/caballaw12.data -/
theorem c_caballaw12_data (k : Nat) (p1 : Int) (p2 : Int) (r : (List Int)) (h0 : caballaw12_data k p1 p2 = some r) (ok : Ok) (w0 : World) (z0 : Value) (z1 : Value) (u0 : ((kint .u8).V p1).holds ok w0 z0) (u1 : ((kint .i8).V p2).holds ok w0 z1) :
    Gives Try.prog 16 [z0, z1] ok w0 (resFact [kstr.V r]) := by
  unfold caballaw12_data at h0
  refine enter (N := 28) Try.func16 rfl rfl (of_decide_eq_true rfl) (.cons u0 (.cons u1 .nil)) fun a1 s1 => ?_
  refine wp_seq_k fun K1 hK1 => ?_
  refine wp_region_lit ?_
  refine seq_op s1 rfl rfl (of_decide_eq_true rfl) (ob_assign rfl (opd_str (by rfl) (by decide))) fun a2 w2 s2 => ?_; clear s1
  refine wpList_nil ?_
  refine then_normal ?_
  refine hK1 _ _ ?_
  have s3 := s2.sub (.cons (t := 0) rfl (.cons (t := 1) rfl .nil)); clear s2
  refine wp_seq_k fun K2 hK2 => ?_
  refine wp_region_lit ?_
  refine seq_op s3 rfl rfl (of_decide_eq_true rfl) (ob_move rfl (.tmp rfl)) fun a4 w4 s4 => ?_; clear s3
  refine seq_op s4 rfl rfl (of_decide_eq_true rfl) (ob_conv rfl _ Try.underlying28 Try.underlying3 (.tmp rfl)) fun a5 w5 s5 => ?_; clear s4
  refine seq_op s5 rfl rfl (of_decide_eq_true rfl) (ob_add rfl (opd_int rfl) (.tmp rfl)) fun a6 w6 s6 => ?_; clear s5
  refine seq_op s6 rfl rfl (of_decide_eq_true rfl) (ob_assign rfl (.tmp rfl)) fun a7 w7 s7 => ?_; clear s6
  refine wpList_nil ?_
  refine then_normal ?_
  refine hK2 _ _ ?_
  have s8 := s7.sub (.cons (t := 0) rfl (.cons (t := 5) rfl .nil)); clear s7
  refine wp_seq_k fun K3 hK3 => ?_
  refine wp_region_lit ?_
  refine seq_op s8 rfl rfl (of_decide_eq_true rfl) (ob_move rfl (.tmp rfl)) fun a9 w9 s9 => ?_; clear s8
  obtain ⟨g1, h1⟩ := guard_some h0; clear h0
  refine seq_opx (B' := (fun v1 : Value => [RowF v1 5 (kint .u8) (List.replicate (iadd .i64 (256 : Int) (IntKind.wrap .i64 p2)).toNat (0 : Int))])) s9 rfl rfl (of_decide_eq_true rfl) (ob_makeRow (T8 := 0) rfl Try.underlying23 ap5 (Zr.int .u8) (by decide) (.tmp rfl) g1) fun v1 a10 w10 s10 => ?_; clear s9
  refine seq_op s10 rfl rfl (of_decide_eq_true rfl) (ob_assign rfl (.tmp rfl)) fun a11 w11 s11 => ?_; clear s10
  refine wpList_nil ?_
  refine then_normal ?_
  refine hK3 _ _ ?_
  have s12 := s11.sub (.cons (t := 0) rfl (.cons (t := 5) rfl (.cons (t := 6) rfl .nil))); clear s11
  refine wp_seq_k fun K4 hK4 => ?_
  refine wp_seq_k fun K5 hK5 => ?_
  refine wp_region_lit ?_
  refine seq_op s12 rfl rfl (of_decide_eq_true rfl) (ob_assign rfl (opd_int rfl)) fun a13 w13 s13 => ?_; clear s12
  refine wpList_nil ?_
  refine then_normal ?_
  refine hK5 _ _ ?_
  have s14 := s13.sub (.cons (t := 0) rfl (.cons (t := 5) rfl (.cons (t := 6) rfl (.cons (t := 7) rfl .nil)))); clear s13
  have hj1 : ∀ (y1 : (List Int)) (a : Act) (w : World), (caballaw12_data.j1 k) y1 = some r → St ⟨28, w0, ok, []⟩ [RowF v1 5 (kint .u8) y1] [(6, (is v1))] a w → K4 a w := by
    intro y1 a15 w15 h2 s15
    unfold caballaw12_data.j1 at h2
    refine hK4 _ _ ?_
    refine wp_seq_k fun K6 hK6 => ?_
    refine wp_region_lit ?_
    refine seq_op s15 rfl rfl (of_decide_eq_true rfl) (ob_move rfl (.tmp rfl)) fun a16 w16 s16 => ?_; clear s15
    refine seq_op s16 rfl rfl (of_decide_eq_true rfl) ((ob_lendG (L := [_]) (List.Perm.refl _) (.cons (t := 26) rfl (lendRow (.head _)) .nil) (Flat.V KFlat.str) (fun _ => ob_bytesToStr rfl Try.underlying23 Try.underlying9 Try.underlying5 (.tmp rfl)))) fun a17 w17 s17 => ?_; clear s16
    refine seq_op s17 rfl rfl (of_decide_eq_true rfl) (ob_assign rfl (.tmp rfl)) fun a18 w18 s18 => ?_; clear s17
    refine wpList_nil ?_
    refine then_normal ?_
    refine hK6 _ _ ?_
    have s19 := s18.sub (.cons (t := 4) rfl .nil); clear s18
    have s20 := St.drop (A := []) s19; clear s19
    refine wp_ret ?_
    obtain rfl := Option.some.inj h2
    exact leave s20 (.inl rfl) rfl (.cons (.tmp rfl) .nil)
  refine wp_block ?_
  refine wp_loop_fuel (fun m (q : Int × (List Int)) => caballaw12_data.l1 k p2 p1 m q.1 q.2) r (fun _ => rfl) (fun q a w => St ⟨28, w0, ok, []⟩ [RowF v1 5 (kint .u8) q.2] [(0, ((kint .u8).V p1)), (5, ((kint .i64).V (iadd .i64 (256 : Int) (IntKind.wrap .i64 p2)))), (6, (is v1)), (7, ((kint .i64).V q.1))] a w) ?_ k ((0 : Int), (List.replicate (iadd .i64 (256 : Int) (IntKind.wrap .i64 p2)).toNat (0 : Int))) _ _ h1 (s14.sub (.cons rfl (.cons rfl (.cons rfl (.cons rfl .nil)))))
  rintro n1 ⟨y2, y3⟩ a21 w21 h3 s21 K7 hK7
  replace h3 : caballaw12_data.l1 k p2 p1 (n1 + 1) y2 y3 = some r := h3; rw [caballaw12_data.l1] at h3
  have h4 := h3; clear h3
  refine wp_seq_k fun K8 hK8 => ?_
  refine wp_seq_k fun K9 hK9 => ?_
  refine wp_region_lit ?_
  refine seq_op s21 rfl rfl (of_decide_eq_true rfl) (ob_move rfl (.tmp rfl)) fun a22 w22 s22 => ?_; clear s21
  refine seq_op s22 rfl rfl (of_decide_eq_true rfl) (ob_move rfl (.tmp rfl)) fun a23 w23 s23 => ?_; clear s22
  refine seq_op s23 rfl rfl (of_decide_eq_true rfl) (ob_lss rfl (.tmp rfl) (.tmp rfl)) fun a24 w24 s24 => ?_; clear s23
  refine wpList_nil ?_
  refine then_normal ?_
  refine hK9 _ _ ?_
  have s25 := s24.sub (.cons (t := 0) rfl (.cons (t := 5) rfl (.cons (t := 6) rfl (.cons (t := 7) rfl (.cons (t := 15) rfl .nil))))); clear s24
  refine cond_split s25 (.tmp rfl) (fun hc1 => ?_) (fun hc1 => ?_)
  · replace h4 := ite_t hc1 h4
    have h5 := h4; clear h4
    refine wp_skip ?_
    refine then_normal ?_
    refine hK8 _ _ ?_
    have s26 := s25.sub (.cons (t := 0) rfl (.cons (t := 5) rfl (.cons (t := 6) rfl (.cons (t := 7) rfl .nil)))); clear s25
    refine wp_seq_k fun K10 hK10 => ?_
    refine wp_block ?_
    refine wp_region_lit ?_
    refine seq_op s26 rfl rfl (of_decide_eq_true rfl) (ob_move rfl (.tmp rfl)) fun a27 w27 s27 => ?_; clear s26
    refine seq_op s27 rfl rfl (of_decide_eq_true rfl) (ob_move rfl (.tmp rfl)) fun a28 w28 s28 => ?_; clear s27
    refine seq_op s28 rfl rfl (of_decide_eq_true rfl) (ob_move rfl (.tmp rfl)) fun a29 w29 s29 => ?_; clear s28
    refine seq_op s29 rfl rfl (of_decide_eq_true rfl) (ob_move rfl (.tmp rfl)) fun a30 w30 s30 => ?_; clear s29
    refine seq_op s30 rfl rfl (of_decide_eq_true rfl) (ob_quo rfl (.tmp rfl) (opd_int rfl) (by decide)) fun a31 w31 s31 => ?_; clear s30
    refine seq_op s31 rfl rfl (of_decide_eq_true rfl) (ob_conv rfl _ Try.underlying3 Try.underlying5 (.tmp rfl)) fun a32 w32 s32 => ?_; clear s31
    refine seq_op s32 rfl rfl (of_decide_eq_true rfl) (ob_add rfl (.tmp rfl) (.tmp rfl)) fun a33 w33 s33 => ?_; clear s32
    obtain ⟨g2, h6⟩ := guard_some h5; clear h5
    refine seq_op s33 rfl rfl (of_decide_eq_true rfl) (ob_rowAt rfl Try.underlying23 sz5 (.tmp rfl) (.head _) (.tmp rfl) g2) fun a34 w34 s34 => ?_; clear s33
    obtain ⟨x1, e_x1, h7⟩ := bind_some h6; clear h6
    refine seq_opx0 (B' := (fun _ : Unit => [RowF v1 5 (kint .u8) x1])) s34 rfl rfl (ob_rowStore (A := []) rfl tk5 (.tmp rfl) (.tmp rfl) rfl (LS.arrS e_x1) rfl) fun _ a35 w35 s35 => ?_; clear s34
    refine wpList_nil ?_
    refine in_normal ?_
    refine then_normal ?_
    refine hK10 _ _ ?_
    have s36 := s35.sub (.cons (t := 0) rfl (.cons (t := 5) rfl (.cons (t := 6) rfl (.cons (t := 7) rfl .nil)))); clear s35
    refine wp_region_lit ?_
    refine seq_op s36 rfl rfl (of_decide_eq_true rfl) (ob_move rfl (.tmp rfl)) fun a37 w37 s37 => ?_; clear s36
    refine seq_op s37 rfl rfl (of_decide_eq_true rfl) (ob_add rfl (.tmp rfl) (opd_int rfl)) fun a38 w38 s38 => ?_; clear s37
    refine seq_op s38 rfl rfl (of_decide_eq_true rfl) (ob_assign rfl (.tmp rfl)) fun a39 w39 s39 => ?_; clear s38
    refine wpList_nil ?_
    refine then_normal ?_
    exact hK7 ((iadd .i64 y2 (1 : Int)), x1) _ _ h7 (s39.sub (.cons rfl (.cons rfl (.cons rfl (.cons rfl .nil)))))
  · replace h4 := ite_f hc1 h4
    have h8 := h4; clear h4
    refine wp_exit ?_
    refine (then_exit (then_exit (in_here ?_)))
    refine then_normal ?_
    exact hj1 y3 _ _ h8 (s25.sub (.cons rfl .nil))

/- 26 (*cabal/disk.Disk).Blocks -/
theorem c_disk_Disk_Blocks (k : Nat) (p1 : disk_Disk) (r : Int) (h0 : disk_Disk_Blocks k p1 = some r) (ok : Ok) (w0 : World) (z0 : Value) (u0 : (ptrTo k_disk_Disk p1).holds ok w0 z0) :
    Gives Try.prog 26 [z0] ok w0 (resFact [(kint .i64).V r]) := by
  unfold disk_Disk_Blocks at h0
  refine enter (N := 10) Try.func26 rfl rfl (of_decide_eq_true rfl) (.cons u0 .nil) fun a1 s1 => ?_
  refine wp_seq_k fun K1 hK1 => ?_
  refine wp_region_lit ?_
  refine seq_op s1 rfl rfl (of_decide_eq_true rfl) (ob_assign rfl (opd_int rfl)) fun a2 w2 s2 => ?_; clear s1
  refine wpList_nil ?_
  refine then_normal ?_
  refine hK1 _ _ ?_
  have s3 := s2.sub (.cons (t := 0) rfl .nil); clear s2
  refine wp_seq_k fun K2 hK2 => ?_
  refine wp_seq_k fun K3 hK3 => ?_
  refine wp_region_lit ?_
  refine seq_op s3 rfl rfl (of_decide_eq_true rfl) (ob_move rfl (.tmp rfl)) fun a4 w4 s4 => ?_; clear s3
  refine seq_op s4 rfl rfl (of_decide_eq_true rfl) (ob_ptrrNil rfl pt25 (.tmp rfl) opd_is) fun a5 w5 s5 => ?_; clear s4
  refine wpList_nil ?_
  refine then_normal ?_
  refine hK3 _ _ ?_
  have s6 := s5.sub (.cons (t := 0) rfl (.cons (t := 4) rfl .nil)); clear s5
  refine cond_f s6 (.tmp rfl) ?_
  refine wp_skip ?_
  refine then_normal ?_
  refine hK2 _ _ ?_
  have s7 := s6.sub (.cons (t := 0) rfl .nil); clear s6
  refine wp_seq_k fun K4 hK4 => ?_
  refine wp_region_lit ?_
  refine seq_op s7 rfl rfl (of_decide_eq_true rfl) (ob_move rfl (.tmp rfl)) fun a8 w8 s8 => ?_; clear s7
  refine seq_op s8 rfl rfl (of_decide_eq_true rfl) (ob_nilCheckr rfl (.tmp rfl)) fun a9 w9 s9 => ?_; clear s8
  refine seq_op s9 rfl rfl (of_decide_eq_true rfl) (ob_fieldAddrr rfl Try.underlying87 rfl sz84 (by decide) (.tmp rfl) (lg_disk_Disk_firm p1)) fun a10 w10 s10 => ?_; clear s9
  refine seq_op s10 rfl rfl (of_decide_eq_true rfl) (ob_loadr rfl tk84 (.tmp rfl)) fun a11 w11 s11 => ?_; clear s10
  refine seq_op s11 rfl rfl (of_decide_eq_true rfl) (ob_lens rfl Try.underlying84 (.tmp rfl)) fun a12 w12 s12 => ?_; clear s11
  refine seq_op s12 rfl rfl (of_decide_eq_true rfl) (ob_assign rfl (.tmp rfl)) fun a13 w13 s13 => ?_; clear s12
  refine wpList_nil ?_
  refine then_normal ?_
  refine hK4 _ _ ?_
  have s14 := s13.sub (.cons (t := 2) rfl .nil); clear s13
  refine wp_ret ?_
  obtain rfl := Option.some.inj h0
  exact leave s14 (.inl rfl) rfl (.cons (.tmp rfl) .nil)

/- 50 (*cabal/disk.Disk).has -/
theorem c_disk_Disk_has (k : Nat) (p1 : disk_Disk) (p2 : Int) (r : Bool) (h0 : disk_Disk_has k p1 p2 = some r) (ok : Ok) (w0 : World) (z0 : Value) (z1 : Value) (u0 : (ptrTo k_disk_Disk p1).holds ok w0 z0) (u1 : ((kint .i64).V p2).holds ok w0 z1) :
    Gives Try.prog 50 [z0, z1] ok w0 (resFact [kbool.V r]) := by
  unfold disk_Disk_has at h0
  refine enter (N := 13) Try.func50 rfl rfl (of_decide_eq_true rfl) (.cons u0 (.cons u1 .nil)) fun a1 s1 => ?_
  refine wp_seq_k fun K1 hK1 => ?_
  refine wp_region_lit ?_
  refine seq_op s1 rfl rfl (of_decide_eq_true rfl) (ob_assign rfl opd_bool) fun a2 w2 s2 => ?_; clear s1
  refine wpList_nil ?_
  refine then_normal ?_
  refine hK1 _ _ ?_
  have s3 := s2.sub (.cons (t := 0) rfl (.cons (t := 1) rfl .nil)); clear s2
  refine wp_seq_k fun K2 hK2 => ?_
  refine wp_region_lit ?_
  refine seq_op s3 rfl rfl (of_decide_eq_true rfl) (ob_move rfl (.tmp rfl)) fun a4 w4 s4 => ?_; clear s3
  refine seq_op s4 rfl rfl (of_decide_eq_true rfl) (ob_geq rfl (.tmp rfl) (opd_int rfl)) fun a5 w5 s5 => ?_; clear s4
  refine seq_op s5 rfl rfl (of_decide_eq_true rfl) (ob_move rfl (.tmp rfl)) fun a6 w6 s6 => ?_; clear s5
  refine seq_opg s6 rfl rfl rfl rfl (of_decide_eq_true rfl) (fun hb => ob_move rfl (.tmp rfl)) fun a7 w7 s7 => ?_; clear s6
  refine seq_opg s7 rfl rfl rfl rfl (of_decide_eq_true rfl) (fun hb => ob_move rfl (.tmp rfl)) fun a8 w8 s8 => ?_; clear s7
  obtain ⟨x1, e_x1, h1⟩ := bind_some h0; clear h0
  refine seq_opg s8 rfl rfl rfl rfl (of_decide_eq_true rfl) (fun hb => (Ob.uncond (t := 9) hb rfl (ob_callD (args := [_]) rfl .direct hb26 (fun a w s fs gs hf hg => by obtain rfl := hf.unnil; obtain rfl := hg.unnil; exact c_disk_Disk_Blocks k _ _ (ite_t hb e_x1) _ _ _ (s.arg (.tmp rfl)))))) fun a9 w9 s9 => ?_; clear s8
  refine seq_opg s9 rfl rfl rfl rfl (of_decide_eq_true rfl) (fun hb => (Ob.uncond (t := 10) hb rfl ((Ob.uncond (t := 8) hb rfl (ob_lss rfl (.tmp rfl) (.tmp rfl)))))) fun a10 w10 s10 => ?_; clear s9
  refine seq_op s10 rfl rfl (of_decide_eq_true rfl) (ob_and2 rfl (.tmp rfl) (.tmp rfl) opd_bool) fun a11 w11 s11 => ?_; clear s10
  refine seq_op s11 rfl rfl (of_decide_eq_true rfl) (ob_assign rfl (.tmp rfl)) fun a12 w12 s12 => ?_; clear s11
  refine wpList_nil ?_
  refine then_normal ?_
  refine hK2 _ _ ?_
  have s13 := s12.sub (.cons (t := 4) rfl .nil); clear s12
  refine wp_ret ?_
  obtain rfl := Option.some.inj h1
  exact leave s13 (.inl rfl) rfl (.cons (.tmp rfl) .nil)

/- 47 (*cabal/disk.Disk).burn -/
theorem c_disk_Disk_burn (k : Nat) (p1 : disk_Disk) (r : (Bool × disk_Disk)) (h0 : disk_Disk_burn k p1 = some r) (ok : Ok) (w0 : World) (z0 : Value) (b00 : Nat) (w0_0 : Value) (w0_1 : Value) (l0 : ∀ q, q ∈ [BF b00 87 (ko_disk_Disk_0_1 w0_0 w0_1) (⟨[], [], p1.fuse, p1.dead⟩ : disk_Disk), RowF w0_0 91 (karr 256 (kint .u8)) p1.firm, RowF w0_1 93 k_disk_write p1.loose] → q.holds ok w0) (d0 : ∀ c, c ∈ idsOf [BF b00 87 (ko_disk_Disk_0_1 w0_0 w0_1) (⟨[], [], p1.fuse, p1.dead⟩ : disk_Disk), RowF w0_0 91 (karr 256 (kint .u8)) p1.firm, RowF w0_1 93 k_disk_write p1.loose] → ¬ ok c) (nd : (idsOf [BF b00 87 (ko_disk_Disk_0_1 w0_0 w0_1) (⟨[], [], p1.fuse, p1.dead⟩ : disk_Disk), RowF w0_0 91 (karr 256 (kint .u8)) p1.firm, RowF w0_1 93 k_disk_write p1.loose]).Nodup) (u0 : (ptrB b00 0).holds ok w0 z0) :
    GivesX Try.prog 47 [z0] ok w0 [BF b00 87 (ko_disk_Disk_0_1 w0_0 w0_1) (⟨[], [], p1.fuse, p1.dead⟩ : disk_Disk), RowF w0_0 91 (karr 256 (kint .u8)) p1.firm, RowF w0_1 93 k_disk_write p1.loose] (fun g : Value × Value => resFact [kbool.V r.1]) (fun g : Value × Value => [BF b00 87 (ko_disk_Disk_0_1 (g.1) (g.2)) (⟨[], [], r.2.fuse, r.2.dead⟩ : disk_Disk), RowF (g.1) 91 (karr 256 (kint .u8)) r.2.firm, RowF (g.2) 93 k_disk_write r.2.loose]) := by
  unfold disk_Disk_burn at h0
  refine enterX (N := 30) Try.func47 rfl rfl (of_decide_eq_true rfl) (.cons u0 .nil) nd l0 d0 fun a1 s1 => ?_
  refine wp_seq_k fun K1 hK1 => ?_
  refine wp_region_lit ?_
  refine seq_op s1 rfl rfl (of_decide_eq_true rfl) (ob_assign rfl opd_bool) fun a2 w2 s2 => ?_; clear s1
  refine wpList_nil ?_
  refine then_normal ?_
  refine hK1 _ _ ?_
  have s3 := s2.sub (.cons (t := 0) rfl .nil); clear s2
  refine wp_seq_k fun K2 hK2 => ?_
  have hj1 : ∀ (y1 : Int) (y2 : Bool) (a : Act) (w : World), (disk_Disk_burn.j1 k p1) y1 y2 = some r → St ⟨30, w0, ok, (idsOf [BF b00 87 (ko_disk_Disk_0_1 w0_0 w0_1) (⟨[], [], p1.fuse, p1.dead⟩ : disk_Disk), RowF w0_0 91 (karr 256 (kint .u8)) p1.firm, RowF w0_1 93 k_disk_write p1.loose])⟩ [BF b00 87 (ko_disk_Disk_0_1 w0_0 w0_1) (⟨[], [], y1, y2⟩ : disk_Disk), RowF w0_0 91 (karr 256 (kint .u8)) p1.firm, RowF w0_1 93 k_disk_write p1.loose] [(0, (ptrB b00 0))] a w → K2 a w := by
    intro y1 y2 a4 w4 h1 s4
    unfold disk_Disk_burn.j1 at h1
    refine hK2 _ _ ?_
    refine wp_seq_k fun K3 hK3 => ?_
    refine wp_region_lit ?_
    refine seq_op s4 rfl rfl (of_decide_eq_true rfl) (ob_move rfl (.tmp rfl)) fun a5 w5 s5 => ?_; clear s4
    refine seq_op s5 rfl rfl (of_decide_eq_true rfl) (ob_nilCheck rfl (.tmp rfl)) fun a6 w6 s6 => ?_; clear s5
    refine seq_op s6 rfl rfl (of_decide_eq_true rfl) (ob_fieldAddr (off' := 3) rfl Try.underlying87 rfl sz4 (by decide) (.tmp rfl) rfl) fun a7 w7 s7 => ?_; clear s6
    refine seq_op s7 rfl rfl (of_decide_eq_true rfl) (ob_load rfl tk4 (.tmp rfl) (.head _) (lgo_disk_Disk_0_1_dead (⟨[], [], y1, y2⟩ : disk_Disk))) fun a8 w8 s8 => ?_; clear s7
    refine seq_op s8 rfl rfl (of_decide_eq_true rfl) (ob_not rfl (.tmp rfl)) fun a9 w9 s9 => ?_; clear s8
    refine seq_op s9 rfl rfl (of_decide_eq_true rfl) (ob_assign rfl (.tmp rfl)) fun a10 w10 s10 => ?_; clear s9
    refine wpList_nil ?_
    refine then_normal ?_
    refine hK3 _ _ ?_
    have s11 := s10.sub (.cons (t := 2) rfl .nil); clear s10
    refine wp_ret ?_
    obtain rfl := Option.some.inj h1
    exact leaveXD (D := []) ⟨w0_0, w0_1⟩ s11 rfl (.inl rfl) rfl (.cons (.tmp rfl) .nil) rfl
  refine wp_block ?_
  refine wp_seq_k fun K4 hK4 => ?_
  refine wp_region_lit ?_
  refine seq_op s3 rfl rfl (of_decide_eq_true rfl) (ob_move rfl (.tmp rfl)) fun a12 w12 s12 => ?_; clear s3
  refine seq_op s12 rfl rfl (of_decide_eq_true rfl) (ob_nilCheck rfl (.tmp rfl)) fun a13 w13 s13 => ?_; clear s12
  refine seq_op s13 rfl rfl (of_decide_eq_true rfl) (ob_fieldAddr (off' := 2) rfl Try.underlying87 rfl sz3 (by decide) (.tmp rfl) rfl) fun a14 w14 s14 => ?_; clear s13
  refine seq_op s14 rfl rfl (of_decide_eq_true rfl) (ob_load rfl tk3 (.tmp rfl) (.head _) (lgo_disk_Disk_0_1_fuse (⟨[], [], p1.fuse, p1.dead⟩ : disk_Disk))) fun a15 w15 s15 => ?_; clear s14
  refine seq_op s15 rfl rfl (of_decide_eq_true rfl) (ob_eql rfl (.tmp rfl) (opd_int rfl)) fun a16 w16 s16 => ?_; clear s15
  refine seq_op s16 rfl rfl (of_decide_eq_true rfl) (ob_assign rfl (.tmp rfl)) fun a17 w17 s17 => ?_; clear s16
  refine wpList_nil ?_
  refine then_normal ?_
  refine hK4 _ _ ?_
  have s18 := s17.sub (.cons (t := 0) rfl (.cons (t := 3) rfl .nil)); clear s17
  refine cond_split s18 (.tmp rfl) (fun hc1 => ?_) (fun hc1 => ?_)
  · replace h0 := ite_t hc1 h0
    have h2 := h0; clear h0
    refine wp_region_lit ?_
    refine seq_op s18 rfl rfl (of_decide_eq_true rfl) (ob_move rfl (.tmp rfl)) fun a19 w19 s19 => ?_; clear s18
    refine seq_op s19 rfl rfl (of_decide_eq_true rfl) (ob_nilCheck rfl (.tmp rfl)) fun a20 w20 s20 => ?_; clear s19
    refine seq_op s20 rfl rfl (of_decide_eq_true rfl) (ob_fieldAddr (off' := 3) rfl Try.underlying87 rfl sz4 (by decide) (.tmp rfl) rfl) fun a21 w21 s21 => ?_; clear s20
    refine seq_opx0 (B' := (fun _ : Unit => [BF b00 87 (ko_disk_Disk_0_1 w0_0 w0_1) (⟨[], [], p1.fuse, true⟩ : disk_Disk), RowF w0_0 91 (karr 256 (kint .u8)) p1.firm, RowF w0_1 93 k_disk_write p1.loose])) s21 rfl rfl (ob_store (A := []) rfl tk4 (.tmp rfl) opd_bool rfl (lso_disk_Disk_0_1_dead (⟨[], [], p1.fuse, p1.dead⟩ : disk_Disk) true) rfl) fun _ a22 w22 s22 => ?_; clear s21
    refine wpList_nil ?_
    refine in_normal ?_
    refine then_normal ?_
    exact hj1 p1.fuse true _ _ h2 (s22.sub (.cons rfl .nil))
  · replace h0 := ite_f hc1 h0
    have h3 := h0; clear h0
    refine wp_seq_k fun K5 hK5 => ?_
    refine wp_region_lit ?_
    refine seq_op s18 rfl rfl (of_decide_eq_true rfl) (ob_move rfl (.tmp rfl)) fun a23 w23 s23 => ?_; clear s18
    refine seq_op s23 rfl rfl (of_decide_eq_true rfl) (ob_nilCheck rfl (.tmp rfl)) fun a24 w24 s24 => ?_; clear s23
    refine seq_op s24 rfl rfl (of_decide_eq_true rfl) (ob_fieldAddr (off' := 2) rfl Try.underlying87 rfl sz3 (by decide) (.tmp rfl) rfl) fun a25 w25 s25 => ?_; clear s24
    refine seq_op s25 rfl rfl (of_decide_eq_true rfl) (ob_load rfl tk3 (.tmp rfl) (.head _) (lgo_disk_Disk_0_1_fuse (⟨[], [], p1.fuse, p1.dead⟩ : disk_Disk))) fun a26 w26 s26 => ?_; clear s25
    refine seq_op s26 rfl rfl (of_decide_eq_true rfl) (ob_gtr rfl (.tmp rfl) (opd_int rfl)) fun a27 w27 s27 => ?_; clear s26
    refine seq_op s27 rfl rfl (of_decide_eq_true rfl) (ob_assign rfl (.tmp rfl)) fun a28 w28 s28 => ?_; clear s27
    refine wpList_nil ?_
    refine then_normal ?_
    refine hK5 _ _ ?_
    have s29 := s28.sub (.cons (t := 0) rfl (.cons (t := 12) rfl .nil)); clear s28
    refine cond_split s29 (.tmp rfl) (fun hc2 => ?_) (fun hc2 => ?_)
    · replace h3 := ite_t hc2 h3
      have h4 := h3; clear h3
      refine wp_region_lit ?_
      refine seq_op s29 rfl rfl (of_decide_eq_true rfl) (ob_move rfl (.tmp rfl)) fun a30 w30 s30 => ?_; clear s29
      refine seq_op s30 rfl rfl (of_decide_eq_true rfl) (ob_nilCheck rfl (.tmp rfl)) fun a31 w31 s31 => ?_; clear s30
      refine seq_op s31 rfl rfl (of_decide_eq_true rfl) (ob_fieldAddr (off' := 2) rfl Try.underlying87 rfl sz3 (by decide) (.tmp rfl) rfl) fun a32 w32 s32 => ?_; clear s31
      refine seq_op s32 rfl rfl (of_decide_eq_true rfl) (ob_load rfl tk3 (.tmp rfl) (.head _) (lgo_disk_Disk_0_1_fuse (⟨[], [], p1.fuse, p1.dead⟩ : disk_Disk))) fun a33 w33 s33 => ?_; clear s32
      refine seq_op s33 rfl rfl (of_decide_eq_true rfl) (ob_sub rfl (.tmp rfl) (opd_int rfl)) fun a34 w34 s34 => ?_; clear s33
      refine seq_op s34 rfl rfl (of_decide_eq_true rfl) (ob_nilCheck rfl (.tmp rfl)) fun a35 w35 s35 => ?_; clear s34
      refine seq_op s35 rfl rfl (of_decide_eq_true rfl) (ob_fieldAddr (off' := 2) rfl Try.underlying87 rfl sz3 (by decide) (.tmp rfl) rfl) fun a36 w36 s36 => ?_; clear s35
      refine seq_opx0 (B' := (fun _ : Unit => [BF b00 87 (ko_disk_Disk_0_1 w0_0 w0_1) (⟨[], [], (isub .i64 p1.fuse (1 : Int)), p1.dead⟩ : disk_Disk), RowF w0_0 91 (karr 256 (kint .u8)) p1.firm, RowF w0_1 93 k_disk_write p1.loose])) s36 rfl rfl (ob_store (A := []) rfl tk3 (.tmp rfl) (.tmp rfl) rfl (lso_disk_Disk_0_1_fuse (⟨[], [], p1.fuse, p1.dead⟩ : disk_Disk) (isub .i64 p1.fuse (1 : Int))) rfl) fun _ a37 w37 s37 => ?_; clear s36
      refine wpList_nil ?_
      refine in_normal ?_
      refine then_normal ?_
      exact hj1 (isub .i64 p1.fuse (1 : Int)) p1.dead _ _ h4 (s37.sub (.cons rfl .nil))
    · replace h3 := ite_f hc2 h3
      have h5 := h3; clear h3
      refine wp_skip ?_
      refine in_normal ?_
      refine then_normal ?_
      exact hj1 p1.fuse p1.dead _ _ h5 (s29.sub (.cons rfl .nil))

/- 15 (*cabal/disk.Disk).Write -/
theorem c_disk_Disk_Write (k : Nat) (p1 : disk_Disk) (p2 : Int) (p3 : (List Int)) (r : (Int × disk_Disk)) (h0 : disk_Disk_Write k p1 p2 p3 = some r) (ok : Ok) (w0 : World) (z0 : Value) (z1 : Value) (z2 : Value) (b00 : Nat) (w0_0 : Value) (w0_1 : Value) (l0 : ∀ q, q ∈ [BF b00 87 (ko_disk_Disk_0_1 w0_0 w0_1) (⟨[], [], p1.fuse, p1.dead⟩ : disk_Disk), RowF w0_0 91 (karr 256 (kint .u8)) p1.firm, RowF w0_1 93 k_disk_write p1.loose] → q.holds ok w0) (d0 : ∀ c, c ∈ idsOf [BF b00 87 (ko_disk_Disk_0_1 w0_0 w0_1) (⟨[], [], p1.fuse, p1.dead⟩ : disk_Disk), RowF w0_0 91 (karr 256 (kint .u8)) p1.firm, RowF w0_1 93 k_disk_write p1.loose] → ¬ ok c) (nd : (idsOf [BF b00 87 (ko_disk_Disk_0_1 w0_0 w0_1) (⟨[], [], p1.fuse, p1.dead⟩ : disk_Disk), RowF w0_0 91 (karr 256 (kint .u8)) p1.firm, RowF w0_1 93 k_disk_write p1.loose]).Nodup) (u0 : (ptrB b00 0).holds ok w0 z0) (u1 : ((kint .i64).V p2).holds ok w0 z1) (u2 : (kstr.V p3).holds ok w0 z2) :
    GivesX Try.prog 15 [z0, z1, z2] ok w0 [BF b00 87 (ko_disk_Disk_0_1 w0_0 w0_1) (⟨[], [], p1.fuse, p1.dead⟩ : disk_Disk), RowF w0_0 91 (karr 256 (kint .u8)) p1.firm, RowF w0_1 93 k_disk_write p1.loose] (fun g : Value × Value => resFact [(kint .i64).V r.1]) (fun g : Value × Value => [BF b00 87 (ko_disk_Disk_0_1 (g.1) (g.2)) (⟨[], [], r.2.fuse, r.2.dead⟩ : disk_Disk), RowF (g.1) 91 (karr 256 (kint .u8)) r.2.firm, RowF (g.2) 93 k_disk_write r.2.loose]) := by
  unfold disk_Disk_Write at h0
  refine enterX (N := 42) Try.func15 rfl rfl (of_decide_eq_true rfl) (.cons u0 (.cons u1 (.cons u2 .nil))) nd l0 d0 fun a1 s1 => ?_
  refine wp_seq_k fun K1 hK1 => ?_
  refine wp_region_lit ?_
  refine seq_op s1 rfl rfl (of_decide_eq_true rfl) (ob_assign rfl (opd_int rfl)) fun a2 w2 s2 => ?_; clear s1
  refine wpList_nil ?_
  refine then_normal ?_
  refine hK1 _ _ ?_
  have s3 := s2.sub (.cons (t := 0) rfl (.cons (t := 1) rfl (.cons (t := 2) rfl .nil))); clear s2
  refine wp_seq_k fun K2 hK2 => ?_
  refine wp_block ?_
  refine wp_seq_k fun K3 hK3 => ?_
  refine wp_region_lit ?_
  refine seq_op s3 rfl rfl (of_decide_eq_true rfl) (ob_move rfl (.tmp rfl)) fun a4 w4 s4 => ?_; clear s3
  refine seq_op s4 rfl rfl (of_decide_eq_true rfl) (ob_move rfl (.tmp rfl)) fun a5 w5 s5 => ?_; clear s4
  obtain ⟨x1, e_x1, h1⟩ := bind_some h0; clear h0
  refine seq_op s5 rfl rfl (of_decide_eq_true rfl) ((ob_lendG (L := [_, _, _]) (List.Perm.refl _) (.cons (t := 9) rfl (lendObj (K' := k_disk_Disk) (X' := p1) (.head _) rfl (upo_disk_Disk_0_1 rfl (.row (LetAll.row (.tail _ (.head _)))) (.row (LetAll.row (.tail _ (.tail _ (.head _))))))) .nil) (Flat.res1 (Flat.V KFlat.bool)) (fun _ => ob_callD (args := [_, _]) rfl .direct hb50 (fun a w s fs gs hf hg => by obtain rfl := hf.unnil; obtain rfl := hg.unnil; exact c_disk_Disk_has k _ _ _ e_x1 _ _ _ _ (s.arg (.tmp rfl)) (s.arg (.tmp rfl)))))) fun a6 w6 s6 => ?_; clear s5
  refine seq_op s6 rfl rfl (of_decide_eq_true rfl) (ob_not rfl (.tmp rfl)) fun a7 w7 s7 => ?_; clear s6
  refine seq_op s7 rfl rfl (of_decide_eq_true rfl) (ob_move rfl (.tmp rfl)) fun a8 w8 s8 => ?_; clear s7
  refine seq_opg s8 rfl rfl rfl rfl (of_decide_eq_true rfl) (fun hb => ob_move rfl (.tmp rfl)) fun a9 w9 s9 => ?_; clear s8
  refine seq_opg s9 rfl rfl rfl rfl (of_decide_eq_true rfl) (fun hb => (Ob.uncond (t := 14) hb rfl (ob_lenStr rfl Try.underlying9 (.tmp rfl)))) fun a10 w10 s10 => ?_; clear s9
  refine seq_opg s10 rfl rfl rfl rfl (of_decide_eq_true rfl) (fun hb => (Ob.uncond (t := 15) hb rfl (ob_neq rfl (.tmp rfl) (opd_int rfl)))) fun a11 w11 s11 => ?_; clear s10
  refine seq_op s11 rfl rfl (of_decide_eq_true rfl) (ob_or2 rfl (.tmp rfl) opd_bool (.tmp rfl)) fun a12 w12 s12 => ?_; clear s11
  refine seq_op s12 rfl rfl (of_decide_eq_true rfl) (ob_assign rfl (.tmp rfl)) fun a13 w13 s13 => ?_; clear s12
  refine wpList_nil ?_
  refine then_normal ?_
  refine hK3 _ _ ?_
  have s14 := s13.sub (.cons (t := 0) rfl (.cons (t := 1) rfl (.cons (t := 2) rfl (.cons (t := 8) rfl .nil)))); clear s13
  refine cond_split s14 (.tmp rfl) (fun hc1 => ?_) (fun hc1 => ?_)
  · replace h1 := ite_t hc1 h1
    have h2 := h1; clear h1
    refine wp_seq_k fun K4 hK4 => ?_
    refine wp_region_lit ?_
    refine seq_op s14 rfl rfl (of_decide_eq_true rfl) (ob_assign rfl (opd_int rfl)) fun a15 w15 s15 => ?_; clear s14
    refine wpList_nil ?_
    refine then_normal ?_
    refine hK4 _ _ ?_
    have s16 := s15.sub (.cons (t := 6) rfl .nil); clear s15
    refine wp_ret ?_
    obtain rfl := Option.some.inj h2
    exact leaveXD (D := []) ⟨w0_0, w0_1⟩ s16 rfl (.inl rfl) rfl (.cons (.tmp rfl) .nil) rfl
  · replace h1 := ite_f hc1 h1
    have h3 := h1; clear h1
    refine wp_seq_k fun K5 hK5 => ?_
    refine wp_region_lit ?_
    refine seq_op s14 rfl rfl (of_decide_eq_true rfl) (ob_move rfl (.tmp rfl)) fun a17 w17 s17 => ?_; clear s14
    refine seq_op s17 rfl rfl (of_decide_eq_true rfl) (ob_nilCheck rfl (.tmp rfl)) fun a18 w18 s18 => ?_; clear s17
    refine seq_op s18 rfl rfl (of_decide_eq_true rfl) (ob_fieldAddr (off' := 3) rfl Try.underlying87 rfl sz4 (by decide) (.tmp rfl) rfl) fun a19 w19 s19 => ?_; clear s18
    refine seq_op s19 rfl rfl (of_decide_eq_true rfl) (ob_load rfl tk4 (.tmp rfl) (.head _) (lgo_disk_Disk_0_1_dead (⟨[], [], p1.fuse, p1.dead⟩ : disk_Disk))) fun a20 w20 s20 => ?_; clear s19
    refine seq_op s20 rfl rfl (of_decide_eq_true rfl) (ob_assign rfl (.tmp rfl)) fun a21 w21 s21 => ?_; clear s20
    refine wpList_nil ?_
    refine then_normal ?_
    refine hK5 _ _ ?_
    have s22 := s21.sub (.cons (t := 0) rfl (.cons (t := 1) rfl (.cons (t := 2) rfl (.cons (t := 18) rfl .nil)))); clear s21
    refine cond_split s22 (.tmp rfl) (fun hc2 => ?_) (fun hc2 => ?_)
    · replace h3 := ite_t hc2 h3
      have h4 := h3; clear h3
      refine wp_seq_k fun K6 hK6 => ?_
      refine wp_region_lit ?_
      refine seq_op s22 rfl rfl (of_decide_eq_true rfl) (ob_assign rfl (opd_int rfl)) fun a23 w23 s23 => ?_; clear s22
      refine wpList_nil ?_
      refine then_normal ?_
      refine hK6 _ _ ?_
      have s24 := s23.sub (.cons (t := 6) rfl .nil); clear s23
      refine wp_ret ?_
      obtain rfl := Option.some.inj h4
      exact leaveXD (D := []) ⟨w0_0, w0_1⟩ s24 rfl (.inl rfl) rfl (.cons (.tmp rfl) .nil) rfl
    · replace h3 := ite_f hc2 h3
      have h5 := h3; clear h3
      refine wp_skip ?_
      refine in_normal ?_
      refine then_normal ?_
      refine hK2 _ _ ?_
      have s25 := s22.sub (.cons (t := 0) rfl (.cons (t := 1) rfl (.cons (t := 2) rfl .nil))); clear s22
      refine wp_seq_k fun K7 hK7 => ?_
      refine wp_region_lit ?_
      refine seq_op s25 rfl rfl (of_decide_eq_true rfl) (ob_move rfl (.tmp rfl)) fun a26 w26 s26 => ?_; clear s25
      refine seq_op s26 rfl rfl (of_decide_eq_true rfl) (ob_mkStruct (K := k_disk_write) (X0 := (⟨(0 : Int), (List.replicate 256 (0 : Int))⟩ : disk_write)) rfl Try.underlying93 zz93 rfl pl93 (Zr.iso (f := t_disk_write) (x := (⟨(0 : Int), (List.replicate 256 (0 : Int))⟩ : disk_write)) (Zr.pair (Zr.int .i64) (Zr.pair (Zr.arr 256 (Zr.int .u8)) Zr.nil))) (.cons (.tmp rfl) rfl (ls_disk_write_at_ (⟨(0 : Int), (List.replicate 256 (0 : Int))⟩ : disk_write) p2) (.nil _))) fun a27 w27 s27 => ?_; clear s26
      refine seq_opx (B' := (fun b1 : Nat => [BF b1 93 k_disk_write (⟨(0 : Int), (List.replicate 256 (0 : Int))⟩ : disk_write), BF b00 87 (ko_disk_Disk_0_1 w0_0 w0_1) (⟨[], [], p1.fuse, p1.dead⟩ : disk_Disk), RowF w0_0 91 (karr 256 (kint .u8)) p1.firm, RowF w0_1 93 k_disk_write p1.loose])) s27 rfl rfl (of_decide_eq_true rfl) (ob_new (k := k_disk_write) rfl zz93 (Zr.iso (f := t_disk_write) (x := (⟨(0 : Int), (List.replicate 256 (0 : Int))⟩ : disk_write)) (Zr.pair (Zr.int .i64) (Zr.pair (Zr.arr 256 (Zr.int .u8)) Zr.nil)))) fun b1 a28 w28 s28 => ?_; clear s27
      refine seq_opx0 (B' := (fun _ : Unit => [BF b1 93 k_disk_write (⟨p2, (List.replicate 256 (0 : Int))⟩ : disk_write), BF b00 87 (ko_disk_Disk_0_1 w0_0 w0_1) (⟨[], [], p1.fuse, p1.dead⟩ : disk_Disk), RowF w0_0 91 (karr 256 (kint .u8)) p1.firm, RowF w0_1 93 k_disk_write p1.loose])) s28 rfl rfl (ob_store (A := []) rfl tk93 (.tmp rfl) (.tmp rfl) rfl (LS.refl _ _ _) rfl) fun _ a29 w29 s29 => ?_; clear s28
      refine wpList_nil ?_
      refine then_normal ?_
      refine hK7 _ _ ?_
      have s30 := s29.sub (.cons (t := 0) rfl (.cons (t := 2) rfl (.cons (t := 7) rfl .nil))); clear s29
      refine wp_seq_k fun K8 hK8 => ?_
      refine wp_region_lit ?_
      refine seq_op s30 rfl rfl (of_decide_eq_true rfl) (ob_fieldAddr (off' := 1) rfl Try.underlying93 rfl sz91 (by decide) (.tmp rfl) rfl) fun a31 w31 s31 => ?_; clear s30
      refine seq_op s31 rfl rfl (of_decide_eq_true rfl) (ob_sliceArr rfl Try.underlying91 sz5 (.tmp rfl) .none .none (show (0 : Int) ≤ (0 : Int) ∧ (0 : Int) ≤ (256 : Int) ∧ (256 : Int) ≤ ((256 : Nat) : Int) by decide)) fun a32 w32 s32 => ?_; clear s31
      refine seq_op s32 rfl rfl (of_decide_eq_true rfl) (ob_move rfl (.tmp rfl)) fun a33 w33 s33 => ?_; clear s32
      obtain ⟨g1, h6⟩ := guard_some h5; clear h5
      obtain ⟨x2, e_x2, h7⟩ := bind_some h6; clear h6; replace e_x2 := Option.some.inj e_x2
      refine seq_opx (B' := (fun _ : Unit => [BF b1 93 k_disk_write x2, BF b00 87 (ko_disk_Disk_0_1 w0_0 w0_1) (⟨[], [], p1.fuse, p1.dead⟩ : disk_Disk), RowF w0_0 91 (karr 256 (kint .u8)) p1.firm, RowF w0_1 93 k_disk_write p1.loose])) s33 rfl rfl (of_decide_eq_true rfl) (ob_copyB (A := []) rfl Try.underlying23 sz5 rfl (.tmp rfl) (srcStr (.tmp rfl)) rfl rfl (sl_fit (show (0 : Int) ≤ (0 : Int) ∧ (0 : Int) ≤ (256 : Int) ∧ (256 : Int) ≤ ((256 : Nat) : Int) by decide)) g1 (lg_disk_write_data (⟨p2, (List.replicate 256 (0 : Int))⟩ : disk_write)) (LS.to (ls_disk_write_data (⟨p2, (List.replicate 256 (0 : Int))⟩ : disk_write) (((⟨p2, (List.replicate 256 (0 : Int))⟩ : disk_write).data).take (0 : Int).toNat ++ p3 ++ ((⟨p2, (List.replicate 256 (0 : Int))⟩ : disk_write).data).drop ((0 : Int).toNat + p3.length))) e_x2) rfl (by decide)) fun _ a34 w34 s34 => ?_; clear s33
      refine wpList_nil ?_
      refine then_normal ?_
      refine hK8 _ _ ?_
      have s35 := s34.sub (.cons (t := 0) rfl (.cons (t := 7) rfl .nil)); clear s34
      refine wp_seq_k fun K9 hK9 => ?_
      obtain ⟨g2, h8⟩ := guard_some h7; clear h7
      refine wp_goes (Fs := [(ptrB b00 0), (ptrB b00 0), (ptrB b00 0), (ptrB b00 1), (is w0_1), (k_disk_write.V x2), ((ksl k_disk_write).V ([x2] : (List disk_write))), nofact]) (bits := [0, 0, 2, 6, 14, 0, 32, 126, 255, 511, 1023]) (m := 8) (todo := 128) mx s35 ?_; clear s35
      refine goes_turn (B' := (fun v1 : Value => [BF b1 93 k_disk_write x2, BF b00 87 (ko_disk_Disk_0_1 w0_0 w0_1) (⟨[], [], p1.fuse, p1.dead⟩ : disk_Disk), RowF w0_0 91 (karr 256 (kint .u8)) p1.firm, RowF v1 93 k_disk_write (p1.loose ++ ([x2] : (List disk_write)))])) (Fs' := (fun v1 : Value => setAll ([(ptrB b00 0), (ptrB b00 0), (ptrB b00 0), (ptrB b00 1), (is w0_1), (k_disk_write.V x2), ((ksl k_disk_write).V ([x2] : (List disk_write))), nofact]) [(7, (is v1))])) 7 128 254 0 (by kernel_rfl) rfl rfl rfl (opsS_cons (.plain _ (Av.old (t := 0) rfl rfl Av.nil) rfl rfl (ob_move rfl (.tmp rfl))) (opsS_cons (.plain _ (Av.old (t := 0) rfl rfl Av.nil) rfl rfl (ob_move rfl (.tmp rfl))) (opsS_cons (.plain _ (Av.new (j := 1) rfl rfl rfl Av.nil) rfl rfl (ob_nilCheck rfl (.tmp rfl))) (opsS_cons (.plain _ (Av.new (j := 2) rfl rfl rfl Av.nil) rfl rfl (ob_fieldAddr (off' := 1) rfl Try.underlying87 rfl sz85 (by decide) (.tmp rfl) rfl)) (opsS_cons (.plain _ (Av.new (j := 3) rfl rfl rfl Av.nil) rfl rfl (ob_loadRowV rfl (tkr85 _) (.tmp rfl) (.tail _ (.head _)) (lgo_disk_Disk_0_1_loose (⟨[], [], p1.fuse, p1.dead⟩ : disk_Disk)))) (opsS_cons (.plain _ (Av.old (t := 7) rfl rfl Av.nil) rfl rfl (ob_load rfl tk93 (.tmp rfl) (.head _) (LG.refl _ _))) (opsS_cons (.plain _ (Av.new (j := 5) rfl rfl rfl Av.nil) rfl rfl (ob_mkSlice (k := k_disk_write) (xs := ([x2] : (List disk_write))) rfl Try.underlying85 zz93 sz93 (Zr.iso (f := t_disk_write) (x := (⟨(0 : Int), (List.replicate 256 (0 : Int))⟩ : disk_write)) (Zr.pair (Zr.int .i64) (Zr.pair (Zr.arr 256 (Zr.int .u8)) Zr.nil))) (by decide) (by decide) (.cons (.tmp rfl) rfl (LS.arr' (i := 0) (ys := ([x2] : (List disk_write))) (by simp) (by rfl)) (.nil _)))) (opsS_skip (by rfl) opsS_nil)))))))) (.plain _ (Av.new (j := 4) rfl rfl rfl (Av.new (j := 6) rfl rfl rfl Av.nil)) rfl (fun _ => rfl) (fun R => ob_appendL2 (A := [_, _, _]) rfl Try.underlying85 ap93 (Zr.iso (f := t_disk_write) (x := (⟨(0 : Int), (List.replicate 256 (0 : Int))⟩ : disk_write)) (Zr.pair (Zr.int .i64) (Zr.pair (Zr.arr 256 (Zr.int .u8)) Zr.nil))) (by decide) (.tmp rfl) (.tmp rfl) rfl g2)) (setAll_same (us := (fun v1 : Value => [(7, (is v1))])) fun _ => by kernel_rfl) fun v1 => ?_
      refine goes_last (by kernel_rfl) rfl (opsS_cons (.plain _ (Av.old (t := 0) rfl rfl Av.nil) rfl rfl (ob_move rfl (.tmp rfl))) (opsS_skip (by rfl) (opsS_skip (by rfl) (opsS_skip (by rfl) (opsS_skip (by rfl) (opsS_skip (by rfl) (opsS_skip (by rfl) (opsS_skip (by rfl) opsS_nil)))))))) (out_old (t := 0) rfl rfl (out_new (i := 0) (by decide) rfl rfl (out_new (i := 7) (by decide) rfl rfl out_nil))) fun a36 w36 s36 => ?_
      refine seq_op s36 rfl rfl (of_decide_eq_true rfl) (ob_nilCheck rfl (.tmp rfl)) fun a37 w37 s37 => ?_; clear s36
      refine seq_op s37 rfl rfl (of_decide_eq_true rfl) (ob_fieldAddr (off' := 1) rfl Try.underlying87 rfl sz85 (by decide) (.tmp rfl) rfl) fun a38 w38 s38 => ?_; clear s37
      refine seq_opx0 (B' := (fun _ : Unit => [BF b1 93 k_disk_write x2, BF b00 87 (ko_disk_Disk_0_1 w0_0 v1) (⟨[], [], p1.fuse, p1.dead⟩ : disk_Disk), RowF w0_0 91 (karr 256 (kint .u8)) p1.firm, RowF v1 93 k_disk_write (p1.loose ++ ([x2] : (List disk_write)))])) s38 rfl rfl (ob_storeRowV (A := [_]) rfl (tkr85 _) (.tmp rfl) (.tmp rfl) (.tail _ (.tail _ (.tail _ (.head _)))) rfl (lsk_disk_Disk_0_1_to_0_1_at1 (⟨[], [], p1.fuse, p1.dead⟩ : disk_Disk)) rfl) fun _ a39 w39 s39 => ?_; clear s38
      refine wpList_nil ?_
      refine then_normal ?_
      refine hK9 _ _ ?_
      have s40 := s39.sub (.cons (t := 0) rfl .nil); clear s39
      have s41 := St.drop (A := []) s40; clear s40
      refine wp_seq_k fun K10 hK10 => ?_
      refine wp_seq_k fun K11 hK11 => ?_
      refine wp_region_lit ?_
      refine seq_op s41 rfl rfl (of_decide_eq_true rfl) (ob_move rfl (.tmp rfl)) fun a42 w42 s42 => ?_; clear s41
      obtain ⟨x3, e_x3, h9⟩ := bind_some h8; clear h8
      refine seq_opx (B' := (fun gg : Value × Value => [BF b00 87 (ko_disk_Disk_0_1 gg.1 gg.2) (⟨[], [], x3.2.fuse, x3.2.dead⟩ : disk_Disk), RowF gg.1 91 (karr 256 (kint .u8)) x3.2.firm, RowF gg.2 93 k_disk_write x3.2.loose])) s42 rfl rfl (of_decide_eq_true rfl) (ob_callL (args := [_]) (L := [_, _, _]) rfl .direct hb47 (List.Perm.refl _) (fun a w s fs gs hf hg => by obtain rfl := hf.unnil; obtain rfl := hg.unnil; exact c_disk_Disk_burn k _ _ e_x3 _ _ _ _ _ _ (ownL s) (disL s) (nodL s) (s.arg (.tmp rfl))) (by exact fun _ => rfl)) fun gg43 a43 w43 s43 => ?_; clear s42
      obtain ⟨v2, v3⟩ := gg43
      refine seq_op s43 rfl rfl (of_decide_eq_true rfl) (ob_not rfl (.tmp rfl)) fun a44 w44 s44 => ?_; clear s43
      refine wpList_nil ?_
      refine then_normal ?_
      refine hK11 _ _ ?_
      have s45 := s44.sub (.cons (t := 41) rfl .nil); clear s44
      refine cond_split s45 (.tmp rfl) (fun hc3 => ?_) (fun hc3 => ?_)
      · replace h9 := ite_t hc3 h9
        have h10 := h9; clear h9
        refine wp_seq_k fun K12 hK12 => ?_
        refine wp_region_lit ?_
        refine seq_op s45 rfl rfl (of_decide_eq_true rfl) (ob_assign rfl (opd_int rfl)) fun a46 w46 s46 => ?_; clear s45
        refine wpList_nil ?_
        refine then_normal ?_
        refine hK12 _ _ ?_
        have s47 := s46.sub (.cons (t := 6) rfl .nil); clear s46
        refine wp_ret ?_
        obtain rfl := Option.some.inj h10
        exact leaveXD (D := []) ⟨v2, v3⟩ s47 rfl (.inl rfl) rfl (.cons (.tmp rfl) .nil) rfl
      · replace h9 := ite_f hc3 h9
        have h11 := h9; clear h9
        refine wp_skip ?_
        refine then_normal ?_
        refine hK10 _ _ ?_
        have s48 := s45.sub .nil; clear s45
        refine wp_seq_k fun K13 hK13 => ?_
        refine wp_region_lit ?_
        refine seq_op s48 rfl rfl (of_decide_eq_true rfl) (ob_assign rfl (opd_int rfl)) fun a49 w49 s49 => ?_; clear s48
        refine wpList_nil ?_
        refine then_normal ?_
        refine hK13 _ _ ?_
        have s50 := s49.sub (.cons (t := 6) rfl .nil); clear s49
        refine wp_ret ?_
        obtain rfl := Option.some.inj h11
        exact leaveXD (D := []) ⟨v2, v3⟩ s50 rfl (.inl rfl) rfl (.cons (.tmp rfl) .nil) rfl

/- 51 (*cabal/disk.Disk).Crash$1 -/
theorem c_disk_Disk_Crash_1 (k : Nat) (p1 : Int) (p2 : (List Int)) (r : Int) (h0 : disk_Disk_Crash_1 k p1 p2 = some r) (ok : Ok) (w0 : World) (z0 : Value) (z1 : Value) (u0 : ((kint .i64).V p1).holds ok w0 z0) (u1 : (ptrTo (ksl (kint .u8)) p2).holds ok w0 z1) :
    Gives Try.prog 51 [z0, z1] ok w0 (resFact [(kint .i64).V r]) := by
  unfold disk_Disk_Crash_1 at h0
  refine enter (N := 14) Try.func51 rfl rfl (of_decide_eq_true rfl) (.cons u0 (.cons u1 .nil)) fun a1 s1 => ?_
  refine wp_seq_k fun K1 hK1 => ?_
  refine wp_region_lit ?_
  refine seq_op s1 rfl rfl (of_decide_eq_true rfl) (ob_assign rfl (opd_int rfl)) fun a2 w2 s2 => ?_; clear s1
  refine wpList_nil ?_
  refine then_normal ?_
  refine hK1 _ _ ?_
  have s3 := s2.sub (.cons (t := 0) rfl (.cons (t := 1) rfl .nil)); clear s2
  refine wp_seq_k fun K2 hK2 => ?_
  refine wp_seq_k fun K3 hK3 => ?_
  refine wp_region_lit ?_
  refine seq_op s3 rfl rfl (of_decide_eq_true rfl) (ob_move rfl (.tmp rfl)) fun a4 w4 s4 => ?_; clear s3
  refine seq_op s4 rfl rfl (of_decide_eq_true rfl) (ob_loadr rfl tk23 (.tmp rfl)) fun a5 w5 s5 => ?_; clear s4
  refine seq_op s5 rfl rfl (of_decide_eq_true rfl) (ob_lens rfl Try.underlying23 (.tmp rfl)) fun a6 w6 s6 => ?_; clear s5
  refine seq_op s6 rfl rfl (of_decide_eq_true rfl) (ob_lss rfl (.tmp rfl) (.tmp rfl)) fun a7 w7 s7 => ?_; clear s6
  refine wpList_nil ?_
  refine then_normal ?_
  refine hK3 _ _ ?_
  have s8 := s7.sub (.cons (t := 0) rfl (.cons (t := 1) rfl (.cons (t := 7) rfl .nil))); clear s7
  refine cond_split s8 (.tmp rfl) (fun hc1 => ?_) (fun hc1 => ?_)
  · replace h0 := ite_t hc1 h0
    have h1 := h0; clear h0
    refine wp_seq_k fun K4 hK4 => ?_
    refine wp_region_lit ?_
    refine seq_op s8 rfl rfl (of_decide_eq_true rfl) (ob_loadr rfl tk23 (.tmp rfl)) fun a9 w9 s9 => ?_; clear s8
    refine seq_op s9 rfl rfl (of_decide_eq_true rfl) (ob_move rfl (.tmp rfl)) fun a10 w10 s10 => ?_; clear s9
    obtain ⟨x1, e_x1, h2⟩ := bind_some h1; clear h1
    refine seq_op s10 rfl rfl (of_decide_eq_true rfl) (ob_indexAddrs rfl Try.underlying23 sz5 (.tmp rfl) (.tmp rfl) e_x1) fun a11 w11 s11 => ?_; clear s10
    refine seq_op s11 rfl rfl (of_decide_eq_true rfl) (ob_loadr rfl tk5 (.tmp rfl)) fun a12 w12 s12 => ?_; clear s11
    refine seq_op s12 rfl rfl (of_decide_eq_true rfl) (ob_rem rfl (.tmp rfl) (opd_int rfl) (by decide)) fun a13 w13 s13 => ?_; clear s12
    refine seq_op s13 rfl rfl (of_decide_eq_true rfl) (ob_conv rfl _ Try.underlying5 Try.underlying3 (.tmp rfl)) fun a14 w14 s14 => ?_; clear s13
    refine seq_op s14 rfl rfl (of_decide_eq_true rfl) (ob_assign rfl (.tmp rfl)) fun a15 w15 s15 => ?_; clear s14
    refine wpList_nil ?_
    refine then_normal ?_
    refine hK4 _ _ ?_
    have s16 := s15.sub (.cons (t := 3) rfl .nil); clear s15
    refine wp_ret ?_
    obtain rfl := Option.some.inj h2
    exact leave s16 (.inl rfl) rfl (.cons (.tmp rfl) .nil)
  · replace h0 := ite_f hc1 h0
    have h3 := h0; clear h0
    refine wp_skip ?_
    refine then_normal ?_
    refine hK2 _ _ ?_
    have s17 := s8.sub .nil; clear s8
    refine wp_seq_k fun K5 hK5 => ?_
    refine wp_region_lit ?_
    refine seq_op s17 rfl rfl (of_decide_eq_true rfl) (ob_assign rfl (opd_int rfl)) fun a18 w18 s18 => ?_; clear s17
    refine wpList_nil ?_
    refine then_normal ?_
    refine hK5 _ _ ?_
    have s19 := s18.sub (.cons (t := 3) rfl .nil); clear s18
    refine wp_ret ?_
    obtain rfl := Option.some.inj h3
    exact leave s19 (.inl rfl) rfl (.cons (.tmp rfl) .nil)

/- 48 (*cabal/disk.Disk).settle -/
theorem c_disk_Disk_settle_disk_Disk_Crash_1 (k : Nat) (p1 : disk_Disk) (p2 : (List Int)) (r : disk_Disk) (h0 : disk_Disk_settle_disk_Disk_Crash_1 k p1 p2 = some r) (ok : Ok) (w0 : World) (z0 : Value) (z1 : Value) (b00 : Nat) (w0_0 : Value) (w0_1 : Value) (l0 : ∀ q, q ∈ [BF b00 87 (ko_disk_Disk_0_1 w0_0 w0_1) (⟨[], [], p1.fuse, p1.dead⟩ : disk_Disk), RowF w0_0 91 (karr 256 (kint .u8)) p1.firm, RowF w0_1 93 k_disk_write p1.loose] → q.holds ok w0) (d0 : ∀ c, c ∈ idsOf [BF b00 87 (ko_disk_Disk_0_1 w0_0 w0_1) (⟨[], [], p1.fuse, p1.dead⟩ : disk_Disk), RowF w0_0 91 (karr 256 (kint .u8)) p1.firm, RowF w0_1 93 k_disk_write p1.loose] → ¬ ok c) (nd : (idsOf [BF b00 87 (ko_disk_Disk_0_1 w0_0 w0_1) (⟨[], [], p1.fuse, p1.dead⟩ : disk_Disk), RowF w0_0 91 (karr 256 (kint .u8)) p1.firm, RowF w0_1 93 k_disk_write p1.loose]).Nodup) (u0 : (ptrB b00 0).holds ok w0 z0) (u1 : (cloF 51 [] [(ptrTo (ksl (kint .u8)) p2)]).holds ok w0 z1) :
    GivesX Try.prog 48 [z0, z1] ok w0 [BF b00 87 (ko_disk_Disk_0_1 w0_0 w0_1) (⟨[], [], p1.fuse, p1.dead⟩ : disk_Disk), RowF w0_0 91 (karr 256 (kint .u8)) p1.firm, RowF w0_1 93 k_disk_write p1.loose] (fun g : Value × Value => resFact []) (fun g : Value × Value => [BF b00 87 (ko_disk_Disk_0_1 (g.1) (g.2)) (⟨[], [], r.fuse, r.dead⟩ : disk_Disk), RowF (g.1) 91 (karr 256 (kint .u8)) r.firm, RowF (g.2) 93 k_disk_write r.loose]) := by
  unfold disk_Disk_settle_disk_Disk_Crash_1 at h0
  refine enterX (N := 38) Try.func48 rfl rfl (of_decide_eq_true rfl) (.cons u0 (.cons u1 .nil)) nd l0 d0 fun a1 s1 => ?_
  refine wp_seq_k fun K1 hK1 => ?_
  refine wp_seq_k fun K2 hK2 => ?_
  refine wp_region_lit ?_
  refine seq_op s1 rfl rfl (of_decide_eq_true rfl) (ob_move rfl (.tmp rfl)) fun a2 w2 s2 => ?_; clear s1
  refine seq_op s2 rfl rfl (of_decide_eq_true rfl) (ob_nilCheck rfl (.tmp rfl)) fun a3 w3 s3 => ?_; clear s2
  refine seq_op s3 rfl rfl (of_decide_eq_true rfl) (ob_fieldAddr (off' := 1) rfl Try.underlying87 rfl sz85 (by decide) (.tmp rfl) rfl) fun a4 w4 s4 => ?_; clear s3
  refine seq_op s4 rfl rfl (of_decide_eq_true rfl) (ob_loadRowV rfl (tkr85 _) (.tmp rfl) (.head _) (lgo_disk_Disk_0_1_loose (⟨[], [], p1.fuse, p1.dead⟩ : disk_Disk))) fun a5 w5 s5 => ?_; clear s4
  refine seq_op s5 rfl rfl (of_decide_eq_true rfl) (ob_lenRow rfl Try.underlying85 (.tmp rfl) (.tail _ (.tail _ (.head _)))) fun a6 w6 s6 => ?_; clear s5
  refine seq_op s6 rfl rfl (of_decide_eq_true rfl) (ob_move rfl (opd_int rfl)) fun a7 w7 s7 => ?_; clear s6
  refine wpList_nil ?_
  refine then_normal ?_
  refine hK2 _ _ ?_
  have s8 := s7.sub (.cons (t := 0) rfl (.cons (t := 1) rfl (.cons (t := 10) rfl (.cons (t := 11) rfl (.cons (t := 12) rfl .nil))))); clear s7
  have hj1 : ∀ (y1 : (List (List Int))) (a : Act) (w : World), (disk_Disk_settle_disk_Disk_Crash_1.j1 k p1) y1 = some r → St ⟨38, w0, ok, (idsOf [BF b00 87 (ko_disk_Disk_0_1 w0_0 w0_1) (⟨[], [], p1.fuse, p1.dead⟩ : disk_Disk), RowF w0_0 91 (karr 256 (kint .u8)) p1.firm, RowF w0_1 93 k_disk_write p1.loose])⟩ [BF b00 87 (ko_disk_Disk_0_1 w0_0 w0_1) (⟨[], [], p1.fuse, p1.dead⟩ : disk_Disk), RowF w0_0 91 (karr 256 (kint .u8)) y1, RowF w0_1 93 k_disk_write p1.loose] [(0, (ptrB b00 0))] a w → K1 a w := by
    intro y1 a9 w9 h1 s9
    unfold disk_Disk_settle_disk_Disk_Crash_1.j1 at h1
    refine hK1 _ _ ?_
    refine wp_region_lit ?_
    refine seq_op s9 rfl rfl (of_decide_eq_true rfl) (ob_move rfl (.tmp rfl)) fun a10 w10 s10 => ?_; clear s9
    refine seq_op s10 rfl rfl (of_decide_eq_true rfl) (ob_nilCheck rfl (.tmp rfl)) fun a11 w11 s11 => ?_; clear s10
    refine seq_op s11 rfl rfl (of_decide_eq_true rfl) (ob_fieldAddr (off' := 1) rfl Try.underlying87 rfl sz85 (by decide) (.tmp rfl) rfl) fun a12 w12 s12 => ?_; clear s11
    have s13 := St.adopt s12 (G := RowF (nilRow 3) 93 k_disk_write []) rfl (rowNilN _ _ _ _ _); clear s12
    refine seq_opx0 (B' := (fun _ : Unit => [RowF (nilRow 3) 93 k_disk_write ([] : (List disk_write)), BF b00 87 (ko_disk_Disk_0_1 w0_0 (nilRow 3)) (⟨[], [], p1.fuse, p1.dead⟩ : disk_Disk), RowF w0_0 91 (karr 256 (kint .u8)) y1, RowF w0_1 93 k_disk_write p1.loose])) s13 rfl rfl (ob_storeRowV (A := [_]) rfl (tkr85 _) (.tmp rfl) opd_is (.head _) rfl (lsk_disk_Disk_0_1_to_0_1_at1 (⟨[], [], p1.fuse, p1.dead⟩ : disk_Disk)) rfl) fun _ a14 w14 s14 => ?_; clear s13
    refine wpList_nil ?_
    have s15 := s14.perm (toFront [_] (toFront [_] (toFront [] (List.Perm.refl _)))); clear s14
    obtain rfl := Option.some.inj h1
    exact leaveXD (D := [_]) ⟨w0_0, (nilRow 3)⟩ s15 rfl (.inr rfl) rfl .nil rfl
  refine wp_block ?_
  have s16 := s8.perm (toFront [] (toFront [_] (toFront [] (List.Perm.refl _)))); clear s8
  refine wp_loop_fuel (fun m (q : Int × (List (List Int))) => disk_Disk_settle_disk_Disk_Crash_1.l1 k p1 p2 m q.1 q.2) r (fun _ => rfl) (fun q a w => St ⟨38, w0, ok, (idsOf [BF b00 87 (ko_disk_Disk_0_1 w0_0 w0_1) (⟨[], [], p1.fuse, p1.dead⟩ : disk_Disk), RowF w0_0 91 (karr 256 (kint .u8)) p1.firm, RowF w0_1 93 k_disk_write p1.loose])⟩ [BF b00 87 (ko_disk_Disk_0_1 w0_0 w0_1) (⟨[], [], p1.fuse, p1.dead⟩ : disk_Disk), RowF w0_1 93 k_disk_write p1.loose, RowF w0_0 91 (karr 256 (kint .u8)) q.2] [(0, (ptrB b00 0)), (1, (cloF 51 [] [(ptrTo (ksl (kint .u8)) p2)])), (10, (is w0_1)), (11, ((kint .i64).V (p1.loose.length : Int))), (12, ((kint .i64).V q.1))] a w) ?_ k ((0 : Int), p1.firm) _ _ h0 (s16.sub (.cons rfl (.cons rfl (.cons rfl (.cons rfl (.cons rfl .nil))))))
  rintro n1 ⟨y2, y3⟩ a17 w17 h2 s17 K3 hK3
  replace h2 : disk_Disk_settle_disk_Disk_Crash_1.l1 k p1 p2 (n1 + 1) y2 y3 = some r := h2; rw [disk_Disk_settle_disk_Disk_Crash_1.l1] at h2
  have h3 := h2; clear h2
  refine wp_seq_k fun K4 hK4 => ?_
  refine wp_region_lit ?_
  refine seq_op s17 rfl rfl (of_decide_eq_true rfl) (ob_lss rfl (.tmp rfl) (.tmp rfl)) fun a18 w18 s18 => ?_; clear s17
  refine wpList_nil ?_
  refine then_normal ?_
  refine hK4 _ _ ?_
  have s19 := s18.sub (.cons (t := 0) rfl (.cons (t := 1) rfl (.cons (t := 10) rfl (.cons (t := 11) rfl (.cons (t := 12) rfl (.cons (t := 13) rfl .nil)))))); clear s18
  refine wp_seq_k fun K5 hK5 => ?_
  refine cond_split s19 (.tmp rfl) (fun hc1 => ?_) (fun hc1 => ?_)
  · replace h3 := ite_t hc1 h3
    have h4 := h3; clear h3
    refine wp_skip ?_
    refine then_normal ?_
    refine hK5 _ _ ?_
    have s20 := s19.sub (.cons (t := 0) rfl (.cons (t := 1) rfl (.cons (t := 10) rfl (.cons (t := 11) rfl (.cons (t := 12) rfl .nil))))); clear s19
    refine wp_seq_k fun K6 hK6 => ?_
    refine wp_block ?_
    refine wp_seq_k fun K7 hK7 => ?_
    refine wp_region_lit ?_
    refine seq_op s20 rfl rfl (of_decide_eq_true rfl) (ob_move rfl (.tmp rfl)) fun a21 w21 s21 => ?_; clear s20
    obtain ⟨g1, h5⟩ := guard_some h4; clear h4
    refine seq_op s21 rfl rfl (of_decide_eq_true rfl) (ob_rowAt rfl Try.underlying85 sz93 (.tmp rfl) (.tail _ (.head _)) (.tmp rfl) g1) fun a22 w22 s22 => ?_; clear s21
    obtain ⟨x1, e_x1, h6⟩ := bind_some h5; clear h5
    refine seq_op s22 rfl rfl (of_decide_eq_true rfl) (ob_rowLoad rfl tk93 (.tmp rfl) (.tail _ (.head _)) (LG.arrA e_x1)) fun a23 w23 s23 => ?_; clear s22
    refine seq_opx (B' := (fun b1 : Nat => [BF b1 93 k_disk_write (⟨(0 : Int), (List.replicate 256 (0 : Int))⟩ : disk_write), BF b00 87 (ko_disk_Disk_0_1 w0_0 w0_1) (⟨[], [], p1.fuse, p1.dead⟩ : disk_Disk), RowF w0_1 93 k_disk_write p1.loose, RowF w0_0 91 (karr 256 (kint .u8)) y3])) s23 rfl rfl (of_decide_eq_true rfl) (ob_new (k := k_disk_write) rfl zz93 (Zr.iso (f := t_disk_write) (x := (⟨(0 : Int), (List.replicate 256 (0 : Int))⟩ : disk_write)) (Zr.pair (Zr.int .i64) (Zr.pair (Zr.arr 256 (Zr.int .u8)) Zr.nil)))) fun b1 a24 w24 s24 => ?_; clear s23
    refine seq_op s24 rfl rfl (of_decide_eq_true rfl) (ob_assign rfl (.tmp rfl)) fun a25 w25 s25 => ?_; clear s24
    refine seq_opx0 (B' := (fun _ : Unit => [BF b1 93 k_disk_write x1, BF b00 87 (ko_disk_Disk_0_1 w0_0 w0_1) (⟨[], [], p1.fuse, p1.dead⟩ : disk_Disk), RowF w0_1 93 k_disk_write p1.loose, RowF w0_0 91 (karr 256 (kint .u8)) y3])) s25 rfl rfl (ob_store (A := []) rfl tk93 (.tmp rfl) (.tmp rfl) rfl (LS.refl _ _ _) rfl) fun _ a26 w26 s26 => ?_; clear s25
    refine wpList_nil ?_
    refine then_normal ?_
    refine hK7 _ _ ?_
    have s27 := s26.sub (.cons (t := 0) rfl (.cons (t := 1) rfl (.cons (t := 4) rfl (.cons (t := 5) rfl (.cons (t := 10) rfl (.cons (t := 11) rfl (.cons (t := 12) rfl .nil))))))); clear s26
    refine wp_seq_k fun K8 hK8 => ?_
    refine wp_region_lit ?_
    refine seq_op s27 rfl rfl (of_decide_eq_true rfl) (ob_move rfl (.tmp rfl)) fun a28 w28 s28 => ?_; clear s27
    refine seq_op s28 rfl rfl (of_decide_eq_true rfl) (ob_move rfl (.tmp rfl)) fun a29 w29 s29 => ?_; clear s28
    obtain ⟨x2, e_x2, h7⟩ := bind_some h6; clear h6
    refine seq_op s29 rfl rfl (of_decide_eq_true rfl) (ob_callD (args := [_]) rfl (.clo (.tmp rfl)) hb51 (fun a w s fs gs hf hg => by obtain rfl := hf.unnil; obtain ⟨u0, _, rfl, fu0, hg⟩ := hg.uncons; obtain rfl := hg.unnil; exact c_disk_Disk_Crash_1 k _ _ _ e_x2 _ _ _ _ (s.arg (.tmp rfl)) fu0)) fun a30 w30 s30 => ?_; clear s29
    refine seq_op s30 rfl rfl (of_decide_eq_true rfl) (ob_mul rfl (.tmp rfl) (opd_int rfl)) fun a31 w31 s31 => ?_; clear s30
    refine seq_op s31 rfl rfl (of_decide_eq_true rfl) (ob_assign rfl (.tmp rfl)) fun a32 w32 s32 => ?_; clear s31
    refine wpList_nil ?_
    refine then_normal ?_
    refine hK8 _ _ ?_
    have s33 := s32.sub (.cons (t := 0) rfl (.cons (t := 1) rfl (.cons (t := 5) rfl (.cons (t := 6) rfl (.cons (t := 10) rfl (.cons (t := 11) rfl (.cons (t := 12) rfl .nil))))))); clear s32
    obtain ⟨g2, h8⟩ := guard_some h7; clear h7
    obtain ⟨g3, h9⟩ := guard_some h8; clear h8
    obtain ⟨g4, h10⟩ := guard_some h9; clear h9
    refine wp_goes (Fs := [(ptrB b00 0), (ptrB b00 0), (ptrB b00 0), (is w0_0), (ptrB b1 0), ((kint .i64).V x1.at_), (ptrR w0_0 (x1.at_.toNat * 256)), ((kint .i64).V (imul .i64 x2 (64 : Int))), (slR w0_0 (soff 256 (x1.at_.toNat * 256) (0 : Int).toNat 1) ((imul .i64 x2 (64 : Int)).toNat - (0 : Int).toNat) (256 - (0 : Int).toNat)), (ptrB b1 1), ((kint .i64).V (imul .i64 x2 (64 : Int))), (is (.slice (some ⟨b1, soff 256 1 (0 : Int).toNat 1, none⟩) ((imul .i64 x2 (64 : Int)).toNat - (0 : Int).toNat) (256 - (0 : Int).toNat)))]) (bits := [0, 1, 3, 7, 0, 16, 63, 0, 255, 0, 0, 1536, 4095]) (m := 12) (todo := 0) mx s33 ?_; clear s33
    refine goes_last (by kernel_rfl) rfl (opsS_cons (.plain _ (Av.old (t := 0) rfl rfl Av.nil) rfl rfl (ob_move rfl (.tmp rfl))) (opsS_cons (.plain _ (Av.new (j := 0) rfl rfl rfl Av.nil) rfl rfl (ob_nilCheck rfl (.tmp rfl))) (opsS_cons (.plain _ (Av.new (j := 1) rfl rfl rfl Av.nil) rfl rfl (ob_fieldAddr (off' := 0) rfl Try.underlying87 rfl sz84 (by decide) (.tmp rfl) rfl)) (opsS_cons (.plain _ (Av.new (j := 2) rfl rfl rfl Av.nil) rfl rfl (ob_loadRowV rfl (tkr84 _) (.tmp rfl) (.tail _ (.head _)) (lgo_disk_Disk_0_1_firm (⟨[], [], p1.fuse, p1.dead⟩ : disk_Disk)))) (opsS_cons (.plain _ (Av.old (t := 5) rfl rfl Av.nil) rfl rfl (ob_fieldAddr (off' := 0) rfl Try.underlying93 rfl sz3 (by decide) (.tmp rfl) rfl)) (opsS_cons (.plain _ (Av.new (j := 4) rfl rfl rfl Av.nil) rfl rfl (ob_load rfl tk3 (.tmp rfl) (.head _) (lg_disk_write_at_ x1))) (opsS_cons (.plain _ (Av.new (j := 3) rfl rfl rfl (Av.new (j := 5) rfl rfl rfl Av.nil)) rfl rfl (ob_rowAt rfl Try.underlying84 sz91 (.tmp rfl) (.tail _ (.tail _ (.tail _ (.head _)))) (.tmp rfl) g2)) (opsS_cons (.plain _ (Av.old (t := 6) rfl rfl Av.nil) rfl rfl (ob_move rfl (.tmp rfl))) (opsS_cons (.plain _ (Av.new (j := 6) rfl rfl rfl (Av.new (j := 7) rfl rfl rfl Av.nil)) rfl rfl (ob_sliceRow rfl Try.underlying91 sz5 (.tmp rfl) .none (.some (.tmp rfl)) g3)) (opsS_cons (.plain _ (Av.old (t := 5) rfl rfl Av.nil) rfl rfl (ob_fieldAddr (off' := 1) rfl Try.underlying93 rfl sz91 (by decide) (.tmp rfl) rfl)) (opsS_cons (.plain _ (Av.old (t := 6) rfl rfl Av.nil) rfl rfl (ob_move rfl (.tmp rfl))) (opsS_cons (.plain _ (Av.new (j := 9) rfl rfl rfl (Av.new (j := 10) rfl rfl rfl Av.nil)) rfl rfl (ob_sliceArr rfl Try.underlying91 sz5 (.tmp rfl) .none (.some (.tmp rfl)) g4)) opsS_nil)))))))))))) (out_old (t := 0) rfl rfl (out_old (t := 1) rfl rfl (out_old (t := 10) rfl rfl (out_old (t := 11) rfl rfl (out_old (t := 12) rfl rfl (out_new (i := 8) (by decide) rfl rfl (out_new (i := 11) (by decide) rfl rfl out_nil))))))) fun a34 w34 s34 => ?_
    obtain ⟨x3, e_x3, h11⟩ := bind_some h10; clear h10
    obtain ⟨g5, h12⟩ := guard_some h11; clear h11
    obtain ⟨x4, e_x4, h13⟩ := bind_some h12; clear h12
    obtain ⟨x5, e_x5, h14⟩ := bind_some h13; clear h13
    refine seq_opx (B' := (fun _ : Unit => [BF b1 93 k_disk_write x1, BF b00 87 (ko_disk_Disk_0_1 w0_0 w0_1) (⟨[], [], p1.fuse, p1.dead⟩ : disk_Disk), RowF w0_1 93 k_disk_write p1.loose, RowF w0_0 91 (karr 256 (kint .u8)) x5])) s34 rfl rfl (of_decide_eq_true rfl) ((ob_lendX (L := [_, _, _]) (List.Perm.refl _) (.cons (t := 32) rfl (lendSlB (.head _) (lg_disk_write_data x1) e_x3 rfl (cut_len e_x3) (cut_cap e_x3 g4 (by decide))) .nil) (fun _ => (Flat.V (KFlat.int _))) (fun _ => (.cons (FlatO.row (KFlat.arr (KFlat.int _))) FlatL.nil)) (fun _ _ => ob_copyR (A := []) rfl Try.underlying23 sz5 rfl (.tmp rfl) (srcSl rfl (.tmp rfl)) rfl rfl (sl_fit g3) g5 (LG.arrA e_x4) (LS.arrS e_x5) rfl (by decide)))) fun _ a35 w35 s35 => ?_; clear s34
    refine wpList_nil ?_
    refine in_normal ?_
    refine then_normal ?_
    refine hK6 _ _ ?_
    have s36 := s35.sub (.cons (t := 0) rfl (.cons (t := 1) rfl (.cons (t := 10) rfl (.cons (t := 11) rfl (.cons (t := 12) rfl .nil))))); clear s35
    have s37 := St.drop (A := []) s36; clear s36
    refine wp_region_lit ?_
    refine seq_op s37 rfl rfl (of_decide_eq_true rfl) (ob_add rfl (.tmp rfl) (opd_int rfl)) fun a38 w38 s38 => ?_; clear s37
    refine seq_op s38 rfl rfl (of_decide_eq_true rfl) (ob_move rfl (.tmp rfl)) fun a39 w39 s39 => ?_; clear s38
    refine wpList_nil ?_
    refine then_normal ?_
    exact hK3 ((iadd .i64 y2 (1 : Int)), x5) _ _ h14 (s39.sub (.cons rfl (.cons rfl (.cons rfl (.cons rfl (.cons rfl .nil))))))
  · replace h3 := ite_f hc1 h3
    have h15 := h3; clear h3
    refine wp_exit ?_
    refine (then_exit (then_exit (in_here ?_)))
    refine then_normal ?_
    have s40 := s19.perm (toFront [] (toFront [_] (toFront [] (List.Perm.refl _)))); clear s19
    exact hj1 y3 _ _ h15 (s40.sub (.cons rfl .nil))

/- 17 (*cabal/disk.Disk).Crash -/
theorem c_disk_Disk_Crash (k : Nat) (p1 : disk_Disk) (p2 : (List Int)) (r : disk_Disk) (h0 : disk_Disk_Crash k p1 p2 = some r) (ok : Ok) (w0 : World) (z0 : Value) (z1 : Value) (b00 : Nat) (w0_0 : Value) (w0_1 : Value) (l0 : ∀ q, q ∈ [BF b00 87 (ko_disk_Disk_0_1 w0_0 w0_1) (⟨[], [], p1.fuse, p1.dead⟩ : disk_Disk), RowF w0_0 91 (karr 256 (kint .u8)) p1.firm, RowF w0_1 93 k_disk_write p1.loose] → q.holds ok w0) (d0 : ∀ c, c ∈ idsOf [BF b00 87 (ko_disk_Disk_0_1 w0_0 w0_1) (⟨[], [], p1.fuse, p1.dead⟩ : disk_Disk), RowF w0_0 91 (karr 256 (kint .u8)) p1.firm, RowF w0_1 93 k_disk_write p1.loose] → ¬ ok c) (nd : (idsOf [BF b00 87 (ko_disk_Disk_0_1 w0_0 w0_1) (⟨[], [], p1.fuse, p1.dead⟩ : disk_Disk), RowF w0_0 91 (karr 256 (kint .u8)) p1.firm, RowF w0_1 93 k_disk_write p1.loose]).Nodup) (u0 : (ptrB b00 0).holds ok w0 z0) (u1 : ((ksl (kint .u8)).V p2).holds ok w0 z1) :
    GivesX Try.prog 17 [z0, z1] ok w0 [BF b00 87 (ko_disk_Disk_0_1 w0_0 w0_1) (⟨[], [], p1.fuse, p1.dead⟩ : disk_Disk), RowF w0_0 91 (karr 256 (kint .u8)) p1.firm, RowF w0_1 93 k_disk_write p1.loose] (fun g : Value × Value => resFact []) (fun g : Value × Value => [BF b00 87 (ko_disk_Disk_0_1 (g.1) (g.2)) (⟨[], [], r.fuse, r.dead⟩ : disk_Disk), RowF (g.1) 91 (karr 256 (kint .u8)) r.firm, RowF (g.2) 93 k_disk_write r.loose]) := by
  unfold disk_Disk_Crash at h0
  refine enterX (N := 15) Try.func17 rfl rfl (of_decide_eq_true rfl) (.cons u0 (.cons u1 .nil)) nd l0 d0 fun a1 s1 => ?_
  refine wp_seq_k fun K1 hK1 => ?_
  refine wp_region_lit ?_
  refine seq_opx (B' := (fun b1 : Nat => [BF b1 23 (ksl (kint .u8)) p2, BF b00 87 (ko_disk_Disk_0_1 w0_0 w0_1) (⟨[], [], p1.fuse, p1.dead⟩ : disk_Disk), RowF w0_0 91 (karr 256 (kint .u8)) p1.firm, RowF w0_1 93 k_disk_write p1.loose])) s1 rfl rfl (of_decide_eq_true rfl) (ob_box rfl (.tmp rfl)) fun b1 a2 w2 s2 => ?_; clear s1
  refine wpList_nil ?_
  refine then_normal ?_
  refine hK1 _ _ ?_
  have s3 := s2.sub (.cons (t := 0) rfl (.cons (t := 3) rfl .nil)); clear s2
  refine wp_seq_k fun K2 hK2 => ?_
  refine wp_seq_k fun K3 hK3 => ?_
  refine wp_region_lit ?_
  refine seq_op s3 rfl rfl (of_decide_eq_true rfl) (ob_move rfl (.tmp rfl)) fun a4 w4 s4 => ?_; clear s3
  refine seq_op s4 rfl rfl (of_decide_eq_true rfl) (ob_ptrNil (p := some _) rfl pt25 (.tmp rfl) opd_is) fun a5 w5 s5 => ?_; clear s4
  refine wpList_nil ?_
  refine then_normal ?_
  refine hK3 _ _ ?_
  have s6 := s5.sub (.cons (t := 0) rfl (.cons (t := 3) rfl (.cons (t := 5) rfl .nil))); clear s5
  refine cond_f s6 (.tmp rfl) ?_
  refine wp_skip ?_
  refine then_normal ?_
  refine hK2 _ _ ?_
  have s7 := s6.sub (.cons (t := 0) rfl (.cons (t := 3) rfl .nil)); clear s6
  refine wp_seq_k fun K4 hK4 => ?_
  refine wp_region_lit ?_
  refine seq_op s7 rfl rfl (of_decide_eq_true rfl) (ob_move rfl (.tmp rfl)) fun a8 w8 s8 => ?_; clear s7
  refine seq_op s8 rfl rfl (of_decide_eq_true rfl) (ob_makeFn (xs := []) (ys := [_]) rfl .nil (.cons (.tmp rfl) .nil)) fun a9 w9 s9 => ?_; clear s8
  obtain ⟨x1, e_x1, h1⟩ := bind_some h0; clear h0
  refine seq_opx (B' := (fun gg : Value × Value => [BF b1 23 (ksl (kint .u8)) p2, BF b00 87 (ko_disk_Disk_0_1 gg.1 gg.2) (⟨[], [], x1.fuse, x1.dead⟩ : disk_Disk), RowF gg.1 91 (karr 256 (kint .u8)) x1.firm, RowF gg.2 93 k_disk_write x1.loose])) s9 rfl rfl (of_decide_eq_true rfl) ((ob_lendX (L := [_]) (List.Perm.refl _) (.cons (t := 7) rfl (lendClo .nil (.cons (lendPtrB (.head _) (LG.refl _ _)) .nil)) .nil) (fun _ => (Flat.res0)) (fun _ => (.cons (FlatO.bf (KFlat.iso (KFlat.pair (KFlat.kis _) (KFlat.pair (KFlat.kis _) (KFlat.pair (KFlat.int _) (KFlat.pair KFlat.bool KFlat.nil)))))) (.cons (FlatO.row (KFlat.arr (KFlat.int _))) (.cons (FlatO.row kf_disk_write) FlatL.nil)))) (fun _ _ => ob_callL (args := [_, _]) (L := [_, _, _]) (D := []) rfl .direct hb48 (List.Perm.refl _) (fun a w s fs gs hf hg => by obtain rfl := hf.unnil; obtain rfl := hg.unnil; exact c_disk_Disk_settle_disk_Disk_Crash_1 k _ _ _ e_x1 _ _ _ _ _ _ _ (ownL s) (disL s) (nodL s) (s.arg (.tmp rfl)) (s.arg (.tmp rfl))) (by exact fun _ => rfl)))) fun gg10 a10 w10 s10 => ?_; clear s9
  obtain ⟨v1, v2⟩ := gg10
  refine wpList_nil ?_
  refine then_normal ?_
  refine hK4 _ _ ?_
  have s11 := s10.sub (.cons (t := 0) rfl .nil); clear s10
  have s12 := St.drop (A := []) s11; clear s11
  refine wp_region_lit ?_
  refine seq_op s12 rfl rfl (of_decide_eq_true rfl) (ob_move rfl (.tmp rfl)) fun a13 w13 s13 => ?_; clear s12
  refine seq_op s13 rfl rfl (of_decide_eq_true rfl) (ob_move rfl (.tmp rfl)) fun a14 w14 s14 => ?_; clear s13
  refine seq_op s14 rfl rfl (of_decide_eq_true rfl) (ob_nilCheck rfl (.tmp rfl)) fun a15 w15 s15 => ?_; clear s14
  refine seq_op s15 rfl rfl (of_decide_eq_true rfl) (ob_fieldAddr (off' := 2) rfl Try.underlying87 rfl sz3 (by decide) (.tmp rfl) rfl) fun a16 w16 s16 => ?_; clear s15
  refine seq_opx0 (B' := (fun _ : Unit => [BF b00 87 (ko_disk_Disk_0_1 v1 v2) (⟨[], [], (-1 : Int), x1.dead⟩ : disk_Disk), RowF v1 91 (karr 256 (kint .u8)) x1.firm, RowF v2 93 k_disk_write x1.loose])) s16 rfl rfl (ob_store (A := []) rfl tk3 (.tmp rfl) (opd_int rfl) rfl (lso_disk_Disk_0_1_fuse (⟨[], [], x1.fuse, x1.dead⟩ : disk_Disk) (-1 : Int)) rfl) fun _ a17 w17 s17 => ?_; clear s16
  refine seq_op s17 rfl rfl (of_decide_eq_true rfl) (ob_nilCheck rfl (.tmp rfl)) fun a18 w18 s18 => ?_; clear s17
  refine seq_op s18 rfl rfl (of_decide_eq_true rfl) (ob_fieldAddr (off' := 3) rfl Try.underlying87 rfl sz4 (by decide) (.tmp rfl) rfl) fun a19 w19 s19 => ?_; clear s18
  refine seq_opx0 (B' := (fun _ : Unit => [BF b00 87 (ko_disk_Disk_0_1 v1 v2) (⟨[], [], (-1 : Int), false⟩ : disk_Disk), RowF v1 91 (karr 256 (kint .u8)) x1.firm, RowF v2 93 k_disk_write x1.loose])) s19 rfl rfl (ob_store (A := []) rfl tk4 (.tmp rfl) opd_bool rfl (lso_disk_Disk_0_1_dead (⟨[], [], (-1 : Int), x1.dead⟩ : disk_Disk) false) rfl) fun _ a20 w20 s20 => ?_; clear s19
  refine wpList_nil ?_
  obtain rfl := Option.some.inj h1
  exact leaveXD (D := []) ⟨v1, v2⟩ s20 rfl (.inr rfl) rfl .nil rfl

/- 18 (*cabal/disk.Disk).Settled -/
theorem c_disk_Disk_Settled (k : Nat) (p1 : disk_Disk) (p2 : Int) (r : (List Int)) (h0 : disk_Disk_Settled k p1 p2 = some r) (ok : Ok) (w0 : World) (z0 : Value) (z1 : Value) (u0 : (ptrTo k_disk_Disk p1).holds ok w0 z0) (u1 : ((kint .i64).V p2).holds ok w0 z1) :
    Gives Try.prog 18 [z0, z1] ok w0 (resFact [kstr.V r]) := by
  unfold disk_Disk_Settled at h0
  refine enter (N := 17) Try.func18 rfl rfl (of_decide_eq_true rfl) (.cons u0 (.cons u1 .nil)) fun a1 s1 => ?_
  refine wp_seq_k fun K1 hK1 => ?_
  refine wp_region_lit ?_
  refine seq_op s1 rfl rfl (of_decide_eq_true rfl) (ob_assign rfl (opd_str (by rfl) (by decide))) fun a2 w2 s2 => ?_; clear s1
  refine wpList_nil ?_
  refine then_normal ?_
  refine hK1 _ _ ?_
  have s3 := s2.sub (.cons (t := 0) rfl (.cons (t := 1) rfl .nil)); clear s2
  refine wp_seq_k fun K2 hK2 => ?_
  refine wp_seq_k fun K3 hK3 => ?_
  refine wp_region_lit ?_
  refine seq_op s3 rfl rfl (of_decide_eq_true rfl) (ob_move rfl (.tmp rfl)) fun a4 w4 s4 => ?_; clear s3
  refine seq_op s4 rfl rfl (of_decide_eq_true rfl) (ob_move rfl (.tmp rfl)) fun a5 w5 s5 => ?_; clear s4
  obtain ⟨x1, e_x1, h1⟩ := bind_some h0; clear h0
  refine seq_op s5 rfl rfl (of_decide_eq_true rfl) (ob_callD (args := [_, _]) rfl .direct hb50 (fun a w s fs gs hf hg => by obtain rfl := hf.unnil; obtain rfl := hg.unnil; exact c_disk_Disk_has k _ _ _ e_x1 _ _ _ _ (s.arg (.tmp rfl)) (s.arg (.tmp rfl)))) fun a6 w6 s6 => ?_; clear s5
  refine seq_op s6 rfl rfl (of_decide_eq_true rfl) (ob_not rfl (.tmp rfl)) fun a7 w7 s7 => ?_; clear s6
  refine wpList_nil ?_
  refine then_normal ?_
  refine hK3 _ _ ?_
  have s8 := s7.sub (.cons (t := 0) rfl (.cons (t := 1) rfl (.cons (t := 8) rfl .nil))); clear s7
  refine cond_split s8 (.tmp rfl) (fun hc1 => ?_) (fun hc1 => ?_)
  · replace h1 := ite_t hc1 h1
    have h2 := h1; clear h1
    refine wp_seq_k fun K4 hK4 => ?_
    refine wp_region_lit ?_
    refine seq_op s8 rfl rfl (of_decide_eq_true rfl) (ob_assign rfl (opd_str (by rfl) (by decide))) fun a9 w9 s9 => ?_; clear s8
    refine wpList_nil ?_
    refine then_normal ?_
    refine hK4 _ _ ?_
    have s10 := s9.sub (.cons (t := 4) rfl .nil); clear s9
    refine wp_ret ?_
    obtain rfl := Option.some.inj h2
    exact leave s10 (.inl rfl) rfl (.cons (.tmp rfl) .nil)
  · replace h1 := ite_f hc1 h1
    have h3 := h1; clear h1
    refine wp_skip ?_
    refine then_normal ?_
    refine hK2 _ _ ?_
    have s11 := s8.sub (.cons (t := 0) rfl (.cons (t := 1) rfl .nil)); clear s8
    refine wp_seq_k fun K5 hK5 => ?_
    refine wp_region_lit ?_
    refine seq_op s11 rfl rfl (of_decide_eq_true rfl) (ob_move rfl (.tmp rfl)) fun a12 w12 s12 => ?_; clear s11
    refine seq_op s12 rfl rfl (of_decide_eq_true rfl) (ob_nilCheckr rfl (.tmp rfl)) fun a13 w13 s13 => ?_; clear s12
    refine seq_op s13 rfl rfl (of_decide_eq_true rfl) (ob_fieldAddrr rfl Try.underlying87 rfl sz84 (by decide) (.tmp rfl) (lg_disk_Disk_firm p1)) fun a14 w14 s14 => ?_; clear s13
    refine seq_op s14 rfl rfl (of_decide_eq_true rfl) (ob_loadr rfl tk84 (.tmp rfl)) fun a15 w15 s15 => ?_; clear s14
    refine seq_op s15 rfl rfl (of_decide_eq_true rfl) (ob_move rfl (.tmp rfl)) fun a16 w16 s16 => ?_; clear s15
    obtain ⟨x2, e_x2, h4⟩ := bind_some h3; clear h3
    refine seq_op s16 rfl rfl (of_decide_eq_true rfl) (ob_indexAddrs rfl Try.underlying84 sz91 (.tmp rfl) (.tmp rfl) e_x2) fun a17 w17 s17 => ?_; clear s16
    obtain ⟨x3, e_x3, h5⟩ := bind_some h4; clear h4
    refine seq_op s17 rfl rfl (of_decide_eq_true rfl) (ob_sliceArrr rfl Try.underlying91 sz5 (.tmp rfl) (by decide) .none .none e_x3) fun a18 w18 s18 => ?_; clear s17
    refine seq_op s18 rfl rfl (of_decide_eq_true rfl) (ob_bytesToStr rfl Try.underlying23 Try.underlying9 Try.underlying5 (.tmp rfl)) fun a19 w19 s19 => ?_; clear s18
    refine seq_op s19 rfl rfl (of_decide_eq_true rfl) (ob_assign rfl (.tmp rfl)) fun a20 w20 s20 => ?_; clear s19
    refine wpList_nil ?_
    refine then_normal ?_
    refine hK5 _ _ ?_
    have s21 := s20.sub (.cons (t := 4) rfl .nil); clear s20
    refine wp_ret ?_
    obtain rfl := Option.some.inj h5
    exact leave s21 (.inl rfl) rfl (.cons (.tmp rfl) .nil)

/- 25 (*cabal/disk.Disk).Dead -/
theorem c_disk_Disk_Dead (k : Nat) (p1 : disk_Disk) (r : Bool) (h0 : disk_Disk_Dead k p1 = some r) (ok : Ok) (w0 : World) (z0 : Value) (u0 : (ptrTo k_disk_Disk p1).holds ok w0 z0) :
    Gives Try.prog 25 [z0] ok w0 (resFact [kbool.V r]) := by
  unfold disk_Disk_Dead at h0
  refine enter (N := 11) Try.func25 rfl rfl (of_decide_eq_true rfl) (.cons u0 .nil) fun a1 s1 => ?_
  refine wp_seq_k fun K1 hK1 => ?_
  refine wp_region_lit ?_
  refine seq_op s1 rfl rfl (of_decide_eq_true rfl) (ob_assign rfl opd_bool) fun a2 w2 s2 => ?_; clear s1
  refine wpList_nil ?_
  refine then_normal ?_
  refine hK1 _ _ ?_
  have s3 := s2.sub (.cons (t := 0) rfl .nil); clear s2
  refine wp_seq_k fun K2 hK2 => ?_
  refine wp_region_lit ?_
  refine seq_op s3 rfl rfl (of_decide_eq_true rfl) (ob_move rfl (.tmp rfl)) fun a4 w4 s4 => ?_; clear s3
  refine seq_op s4 rfl rfl (of_decide_eq_true rfl) (ob_ptrrNil rfl pt25 (.tmp rfl) opd_is) fun a5 w5 s5 => ?_; clear s4
  refine seq_op s5 rfl rfl (of_decide_eq_true rfl) (ob_move rfl (.tmp rfl)) fun a6 w6 s6 => ?_; clear s5
  refine seq_opg s6 rfl rfl rfl rfl (of_decide_eq_true rfl) (fun hb => ob_move rfl (.tmp rfl)) fun a7 w7 s7 => ?_; clear s6
  refine seq_opg s7 rfl rfl rfl rfl (of_decide_eq_true rfl) (fun hb => (Ob.uncond (t := 6) hb rfl (ob_nilCheckr rfl (.tmp rfl)))) fun a8 w8 s8 => ?_; clear s7
  refine seq_opg s8 rfl rfl rfl rfl (of_decide_eq_true rfl) (fun hb => (Ob.uncond (t := 7) hb rfl (ob_fieldAddrr rfl Try.underlying87 rfl sz4 (by decide) (.tmp rfl) (lg_disk_Disk_dead p1)))) fun a9 w9 s9 => ?_; clear s8
  refine seq_opg s9 rfl rfl rfl rfl (of_decide_eq_true rfl) (fun hb => (Ob.uncond (t := 8) hb rfl (ob_loadr rfl tk4 (.tmp rfl)))) fun a10 w10 s10 => ?_; clear s9
  refine seq_op s10 rfl rfl (of_decide_eq_true rfl) (ob_or2 rfl (.tmp rfl) opd_bool (.tmp rfl)) fun a11 w11 s11 => ?_; clear s10
  refine seq_op s11 rfl rfl (of_decide_eq_true rfl) (ob_assign rfl (.tmp rfl)) fun a12 w12 s12 => ?_; clear s11
  refine wpList_nil ?_
  refine then_normal ?_
  refine hK2 _ _ ?_
  have s13 := s12.sub (.cons (t := 2) rfl .nil); clear s12
  refine wp_ret ?_
  obtain rfl := Option.some.inj h0
  exact leave s13 (.inl rfl) rfl (.cons (.tmp rfl) .nil)

/- 11 cabal/caballaw12.alive -/
theorem c_caballaw12_alive (k : Nat) (r : Bool) (h0 : caballaw12_alive k = some r) (ok : Ok) (w0 : World) :
    Gives Try.prog 11 [] ok w0 (resFact [kbool.V r]) := by
  unfold caballaw12_alive at h0
  refine enter (N := 45) Try.func11 rfl rfl (of_decide_eq_true rfl) .nil fun a1 s1 => ?_
  refine wp_seq_k fun K1 hK1 => ?_
  refine wp_region_lit ?_
  refine seq_op s1 rfl rfl (of_decide_eq_true rfl) (ob_assign rfl opd_bool) fun a2 w2 s2 => ?_; clear s1
  refine wpList_nil ?_
  refine then_normal ?_
  refine hK1 _ _ ?_
  have s3 := s2.sub .nil; clear s2
  refine wp_seq_k fun K2 hK2 => ?_
  refine wp_region_lit ?_
  obtain ⟨x1, e_x1, h1⟩ := bind_some h0; clear h0
  refine seq_opx (B' := (fun gg : Nat × Value × Value => [BF gg.1 87 (ko_disk_Disk_0_1 gg.2.1 gg.2.2) (⟨[], [], x1.fuse, x1.dead⟩ : disk_Disk), RowF gg.2.1 91 (karr 256 (kint .u8)) x1.firm, RowF gg.2.2 93 k_disk_write x1.loose])) s3 rfl rfl (of_decide_eq_true rfl) (ob_callL (args := [_]) (L := []) rfl .direct hb12 (List.Perm.refl _) (fun a w s fs gs hf hg => by obtain rfl := hf.unnil; obtain rfl := hg.unnil; exact c_disk_New k _ _ e_x1 _ _ _ (s.arg (opd_int rfl))) (by exact fun _ => rfl)) fun gg4 a4 w4 s4 => ?_; clear s3
  obtain ⟨b1, v1, v2⟩ := gg4
  refine seq_op s4 rfl rfl (of_decide_eq_true rfl) (ob_assign rfl (.tmp rfl)) fun a5 w5 s5 => ?_; clear s4
  refine wpList_nil ?_
  refine then_normal ?_
  refine hK2 _ _ ?_
  have s6 := s5.sub (.cons (t := 1) rfl .nil); clear s5
  refine wp_seq_k fun K3 hK3 => ?_
  refine wp_region_lit ?_
  refine seq_op s6 rfl rfl (of_decide_eq_true rfl) (ob_move rfl (.tmp rfl)) fun a7 w7 s7 => ?_; clear s6
  obtain ⟨x2, e_x2, h2⟩ := bind_some h1; clear h1
  refine seq_op s7 rfl rfl (of_decide_eq_true rfl) (ob_callD (args := [_, _]) rfl .direct hb16 (fun a w s fs gs hf hg => by obtain rfl := hf.unnil; obtain rfl := hg.unnil; exact c_caballaw12_data k _ _ _ e_x2 _ _ _ _ (s.arg (opd_int rfl)) (s.arg (opd_int rfl)))) fun a8 w8 s8 => ?_; clear s7
  obtain ⟨x3, e_x3, h3⟩ := bind_some h2; clear h2
  refine seq_opx (B' := (fun gg : Value × Value => [BF b1 87 (ko_disk_Disk_0_1 gg.1 gg.2) (⟨[], [], x3.2.fuse, x3.2.dead⟩ : disk_Disk), RowF gg.1 91 (karr 256 (kint .u8)) x3.2.firm, RowF gg.2 93 k_disk_write x3.2.loose])) s8 rfl rfl (of_decide_eq_true rfl) (ob_callL (args := [_, _, _]) (L := [_, _, _]) rfl .direct hb15 (List.Perm.refl _) (fun a w s fs gs hf hg => by obtain rfl := hf.unnil; obtain rfl := hg.unnil; exact c_disk_Disk_Write k _ _ _ _ e_x3 _ _ _ _ _ _ _ _ (ownL s) (disL s) (nodL s) (s.arg (.tmp rfl)) (s.arg (opd_int rfl)) (s.arg (.tmp rfl))) (by exact fun _ => rfl)) fun gg9 a9 w9 s9 => ?_; clear s8
  obtain ⟨v3, v4⟩ := gg9
  refine seq_op s9 rfl rfl (of_decide_eq_true rfl) (ob_assign rfl (.tmp rfl)) fun a10 w10 s10 => ?_; clear s9
  refine wpList_nil ?_
  refine then_normal ?_
  refine hK3 _ _ ?_
  have s11 := s10.sub (.cons (t := 1) rfl (.cons (t := 2) rfl .nil)); clear s10
  refine wp_seq_k fun K4 hK4 => ?_
  refine wp_region_lit ?_
  refine seq_op s11 rfl rfl (of_decide_eq_true rfl) (ob_move rfl (.tmp rfl)) fun a12 w12 s12 => ?_; clear s11
  refine seq_op s12 rfl rfl (of_decide_eq_true rfl) (ob_mkSlice (k := (kint .u8)) (xs := ([(2 : Int)] : (List Int))) rfl Try.underlying23 zz5 sz5 (Zr.int .u8) (by decide) (by decide) (.cons (opd_int rfl) rfl (LS.arr' (i := 0) (ys := ([(2 : Int)] : (List Int))) (by simp) (by rfl)) (.nil _))) fun a13 w13 s13 => ?_; clear s12
  obtain ⟨x4, e_x4, h4⟩ := bind_some h3; clear h3
  refine seq_opx (B' := (fun gg : Value × Value => [BF b1 87 (ko_disk_Disk_0_1 gg.1 gg.2) (⟨[], [], x4.fuse, x4.dead⟩ : disk_Disk), RowF gg.1 91 (karr 256 (kint .u8)) x4.firm, RowF gg.2 93 k_disk_write x4.loose])) s13 rfl rfl (of_decide_eq_true rfl) (ob_callL (args := [_, _]) (L := [_, _, _]) rfl .direct hb17 (List.Perm.refl _) (fun a w s fs gs hf hg => by obtain rfl := hf.unnil; obtain rfl := hg.unnil; exact c_disk_Disk_Crash k _ _ _ e_x4 _ _ _ _ _ _ _ (ownL s) (disL s) (nodL s) (s.arg (.tmp rfl)) (s.arg (.tmp rfl))) (by exact fun _ => rfl)) fun gg14 a14 w14 s14 => ?_; clear s13
  obtain ⟨v5, v6⟩ := gg14
  refine wpList_nil ?_
  refine then_normal ?_
  refine hK4 _ _ ?_
  have s15 := s14.sub (.cons (t := 1) rfl (.cons (t := 2) rfl .nil)); clear s14
  refine wp_seq_k fun K5 hK5 => ?_
  refine wp_region_lit ?_
  refine seq_op s15 rfl rfl (of_decide_eq_true rfl) (ob_move rfl (.tmp rfl)) fun a16 w16 s16 => ?_; clear s15
  obtain ⟨x5, e_x5, h5⟩ := bind_some h4; clear h4
  refine seq_op s16 rfl rfl (of_decide_eq_true rfl) ((ob_lendG (L := [_, _, _]) (List.Perm.refl _) (.cons (t := 11) rfl (lendObj (K' := k_disk_Disk) (X' := x4) (.head _) rfl (upo_disk_Disk_0_1 rfl (.row (LetAll.row (.tail _ (.head _)))) (.row (LetAll.row (.tail _ (.tail _ (.head _))))))) .nil) (Flat.res1 (Flat.V KFlat.str)) (fun _ => ob_callD (args := [_, _]) rfl .direct hb18 (fun a w s fs gs hf hg => by obtain rfl := hf.unnil; obtain rfl := hg.unnil; exact c_disk_Disk_Settled k _ _ _ e_x5 _ _ _ _ (s.arg (.tmp rfl)) (s.arg (opd_int rfl)))))) fun a17 w17 s17 => ?_; clear s16
  refine seq_op s17 rfl rfl (of_decide_eq_true rfl) (ob_assign rfl (.tmp rfl)) fun a18 w18 s18 => ?_; clear s17
  refine wpList_nil ?_
  refine then_normal ?_
  refine hK5 _ _ ?_
  have s19 := s18.sub (.cons (t := 1) rfl (.cons (t := 2) rfl (.cons (t := 3) rfl .nil))); clear s18
  refine wp_seq_k fun K6 hK6 => ?_
  refine wp_region_lit ?_
  refine seq_op s19 rfl rfl (of_decide_eq_true rfl) (ob_move rfl (.tmp rfl)) fun a20 w20 s20 => ?_; clear s19
  refine seq_op s20 rfl rfl (of_decide_eq_true rfl) (ob_eql rfl (.tmp rfl) (opd_int rfl)) fun a21 w21 s21 => ?_; clear s20
  refine seq_op s21 rfl rfl (of_decide_eq_true rfl) (ob_move rfl (.tmp rfl)) fun a22 w22 s22 => ?_; clear s21
  refine seq_opg s22 rfl rfl rfl rfl (of_decide_eq_true rfl) (fun hb => ob_move rfl (.tmp rfl)) fun a23 w23 s23 => ?_; clear s22
  obtain ⟨x6, e_x6, h6⟩ := bind_some h5; clear h5
  refine seq_opg s23 rfl rfl rfl rfl (of_decide_eq_true rfl) (fun hb => (Ob.uncond (t := 16) hb rfl ((ob_lendG (L := [_, _, _]) (List.Perm.refl _) (.cons (t := 16) rfl (lendObj (K' := k_disk_Disk) (X' := x4) (.head _) rfl (upo_disk_Disk_0_1 rfl (.row (LetAll.row (.tail _ (.head _)))) (.row (LetAll.row (.tail _ (.tail _ (.head _))))))) .nil) (Flat.res1 (Flat.V (KFlat.int _))) (fun _ => ob_callD (args := [_]) rfl .direct hb26 (fun a w s fs gs hf hg => by obtain rfl := hf.unnil; obtain rfl := hg.unnil; exact c_disk_Disk_Blocks k _ _ (ite_t hb e_x6) _ _ _ (s.arg (.tmp rfl)))))))) fun a24 w24 s24 => ?_; clear s23
  refine seq_opg s24 rfl rfl rfl rfl (of_decide_eq_true rfl) (fun hb => (Ob.uncond (t := 17) hb rfl (ob_eql rfl (.tmp rfl) (opd_int rfl)))) fun a25 w25 s25 => ?_; clear s24
  refine seq_op s25 rfl rfl (of_decide_eq_true rfl) (ob_and2 rfl (.tmp rfl) (.tmp rfl) opd_bool) fun a26 w26 s26 => ?_; clear s25
  refine seq_op s26 rfl rfl (of_decide_eq_true rfl) (ob_move rfl (.tmp rfl)) fun a27 w27 s27 => ?_; clear s26
  refine seq_opg s27 rfl rfl rfl rfl (of_decide_eq_true rfl) (fun hb => ob_move rfl (.tmp rfl)) fun a28 w28 s28 => ?_; clear s27
  refine seq_opg s28 rfl rfl rfl rfl (of_decide_eq_true rfl) (fun hb => (Ob.uncond (t := 21) hb rfl (ob_lenStr rfl Try.underlying9 (.tmp rfl)))) fun a29 w29 s29 => ?_; clear s28
  refine seq_opg s29 rfl rfl rfl rfl (of_decide_eq_true rfl) (fun hb => (Ob.uncond (t := 22) hb rfl (ob_eql rfl (.tmp rfl) (opd_int rfl)))) fun a30 w30 s30 => ?_; clear s29
  obtain ⟨x7, e_x7, h7⟩ := bind_some h6; clear h6; replace e_x7 := Option.some.inj e_x7
  refine seq_op s30 rfl rfl (of_decide_eq_true rfl) ((ob_and2 rfl (.tmp rfl) (.tmp rfl) opd_bool).nm e_x7) fun a31 w31 s31 => ?_; clear s30
  refine seq_op s31 rfl rfl (of_decide_eq_true rfl) (ob_move rfl (.tmp rfl)) fun a32 w32 s32 => ?_; clear s31
  refine seq_opg s32 rfl rfl rfl rfl (of_decide_eq_true rfl) (fun hb => ob_move rfl (.tmp rfl)) fun a33 w33 s33 => ?_; clear s32
  obtain ⟨x8, e_x8, h8⟩ := bind_some h7; clear h7
  refine seq_opg s33 rfl rfl rfl rfl (of_decide_eq_true rfl) (fun hb => (Ob.uncond (t := 26) hb rfl (ob_indexStr rfl Try.underlying9 (.tmp rfl) (opd_int rfl) (ite_t hb e_x8)))) fun a34 w34 s34 => ?_; clear s33
  refine seq_opg s34 rfl rfl rfl rfl (of_decide_eq_true rfl) (fun hb => (Ob.uncond (t := 27) hb rfl (ob_eql rfl (.tmp rfl) (opd_int rfl)))) fun a35 w35 s35 => ?_; clear s34
  refine seq_op s35 rfl rfl (of_decide_eq_true rfl) (ob_and2 rfl (.tmp rfl) (.tmp rfl) opd_bool) fun a36 w36 s36 => ?_; clear s35
  refine seq_op s36 rfl rfl (of_decide_eq_true rfl) (ob_move rfl (.tmp rfl)) fun a37 w37 s37 => ?_; clear s36
  refine seq_opg s37 rfl rfl rfl rfl (of_decide_eq_true rfl) (fun hb => ob_move rfl (.tmp rfl)) fun a38 w38 s38 => ?_; clear s37
  obtain ⟨x9, e_x9, h9⟩ := bind_some h8; clear h8
  refine seq_opg s38 rfl rfl rfl rfl (of_decide_eq_true rfl) (fun hb => (Ob.uncond (t := 31) hb rfl (ob_indexStr rfl Try.underlying9 (.tmp rfl) (opd_int rfl) (ite_t hb e_x9)))) fun a39 w39 s39 => ?_; clear s38
  refine seq_opg s39 rfl rfl rfl rfl (of_decide_eq_true rfl) (fun hb => (Ob.uncond (t := 32) hb rfl (ob_eql rfl (.tmp rfl) (opd_int rfl)))) fun a40 w40 s40 => ?_; clear s39
  obtain ⟨x10, e_x10, h10⟩ := bind_some h9; clear h9; replace e_x10 := Option.some.inj e_x10
  refine seq_op s40 rfl rfl (of_decide_eq_true rfl) ((ob_and2 rfl (.tmp rfl) (.tmp rfl) opd_bool).nm e_x10) fun a41 w41 s41 => ?_; clear s40
  refine seq_op s41 rfl rfl (of_decide_eq_true rfl) (ob_move rfl (.tmp rfl)) fun a42 w42 s42 => ?_; clear s41
  refine seq_opg s42 rfl rfl rfl rfl (of_decide_eq_true rfl) (fun hb => ob_move rfl (.tmp rfl)) fun a43 w43 s43 => ?_; clear s42
  obtain ⟨x11, e_x11, h11⟩ := bind_some h10; clear h10
  refine seq_opg s43 rfl rfl rfl rfl (of_decide_eq_true rfl) (fun hb => (Ob.uncond (t := 36) hb rfl (ob_indexStr rfl Try.underlying9 (.tmp rfl) (opd_int rfl) (ite_t hb e_x11)))) fun a44 w44 s44 => ?_; clear s43
  refine seq_opg s44 rfl rfl rfl rfl (of_decide_eq_true rfl) (fun hb => (Ob.uncond (t := 37) hb rfl (ob_eql rfl (.tmp rfl) (opd_int rfl)))) fun a45 w45 s45 => ?_; clear s44
  refine seq_op s45 rfl rfl (of_decide_eq_true rfl) (ob_and2 rfl (.tmp rfl) (.tmp rfl) opd_bool) fun a46 w46 s46 => ?_; clear s45
  refine seq_op s46 rfl rfl (of_decide_eq_true rfl) (ob_move rfl (.tmp rfl)) fun a47 w47 s47 => ?_; clear s46
  refine seq_opg s47 rfl rfl rfl rfl (of_decide_eq_true rfl) (fun hb => ob_move rfl (.tmp rfl)) fun a48 w48 s48 => ?_; clear s47
  obtain ⟨x12, e_x12, h12⟩ := bind_some h11; clear h11
  refine seq_opg s48 rfl rfl rfl rfl (of_decide_eq_true rfl) (fun hb => (Ob.uncond (t := 41) hb rfl ((ob_lendG (L := [_, _, _]) (List.Perm.refl _) (.cons (t := 41) rfl (lendObj (K' := k_disk_Disk) (X' := x4) (.head _) rfl (upo_disk_Disk_0_1 rfl (.row (LetAll.row (.tail _ (.head _)))) (.row (LetAll.row (.tail _ (.tail _ (.head _))))))) .nil) (Flat.res1 (Flat.V KFlat.bool)) (fun _ => ob_callD (args := [_]) rfl .direct hb25 (fun a w s fs gs hf hg => by obtain rfl := hf.unnil; obtain rfl := hg.unnil; exact c_disk_Disk_Dead k _ _ (ite_t hb e_x12) _ _ _ (s.arg (.tmp rfl)))))))) fun a49 w49 s49 => ?_; clear s48
  refine seq_opg s49 rfl rfl rfl rfl (of_decide_eq_true rfl) (fun hb => (Ob.uncond (t := 42) hb rfl (ob_not rfl (.tmp rfl)))) fun a50 w50 s50 => ?_; clear s49
  obtain ⟨x13, e_x13, h13⟩ := bind_some h12; clear h12; replace e_x13 := Option.some.inj e_x13
  refine seq_op s50 rfl rfl (of_decide_eq_true rfl) ((ob_and2 rfl (.tmp rfl) (.tmp rfl) opd_bool).nm e_x13) fun a51 w51 s51 => ?_; clear s50
  refine seq_op s51 rfl rfl (of_decide_eq_true rfl) (ob_assign rfl (.tmp rfl)) fun a52 w52 s52 => ?_; clear s51
  refine wpList_nil ?_
  refine then_normal ?_
  refine hK6 _ _ ?_
  have s53 := s52.sub (.cons (t := 0) rfl .nil); clear s52
  have s54 := St.drop (A := []) s53; clear s53
  have s55 := St.drop (A := []) s54; clear s54
  have s56 := St.drop (A := []) s55; clear s55
  refine wp_ret ?_
  obtain rfl := Option.some.inj h13
  exact leave s56 (.inl rfl) rfl (.cons (.tmp rfl) .nil)

/- 22 (*cabal/disk.Disk).Fuse -/
theorem c_disk_Disk_Fuse_nil (k : Nat) (p1 : Int) (r : Unit) (h0 : disk_Disk_Fuse_nil k p1 = some r) (ok : Ok) (w0 : World) (z0 : Value) (z1 : Value) (u0 : (is (.pointer none)).holds ok w0 z0) (u1 : ((kint .i64).V p1).holds ok w0 z1) :
    Gives Try.prog 22 [z0, z1] ok w0 (resFact []) := by
  unfold disk_Disk_Fuse_nil at h0
  refine enter (N := 11) Try.func22 rfl rfl (of_decide_eq_true rfl) (.cons u0 (.cons u1 .nil)) fun a1 s1 => ?_
  refine wp_seq_k fun K1 hK1 => ?_
  refine wp_region_lit ?_
  refine seq_op s1 rfl rfl (of_decide_eq_true rfl) (ob_move rfl (.tmp rfl)) fun a2 w2 s2 => ?_; clear s1
  refine seq_op s2 rfl rfl (of_decide_eq_true rfl) (ob_ptrNotNil (p := none) rfl pt25 (.tmp rfl) opd_is) fun a3 w3 s3 => ?_; clear s2
  refine wpList_nil ?_
  refine then_normal ?_
  refine hK1 _ _ ?_
  have s4 := s3.sub (.cons (t := 0) rfl (.cons (t := 1) rfl (.cons (t := 5) rfl .nil))); clear s3
  refine cond_f s4 (.tmp rfl) ?_
  refine wp_skip ?_
  obtain rfl := Option.some.inj h0
  exact leave s4 (.inr rfl) rfl .nil

/- 17 (*cabal/disk.Disk).Crash -/
theorem c_disk_Disk_Crash_nil (k : Nat) (p1 : (List Int)) (r : Unit) (h0 : disk_Disk_Crash_nil k p1 = some r) (ok : Ok) (w0 : World) (z0 : Value) (z1 : Value) (u0 : (is (.pointer none)).holds ok w0 z0) (u1 : ((ksl (kint .u8)).V p1).holds ok w0 z1) :
    Gives Try.prog 17 [z0, z1] ok w0 (resFact []) := by
  unfold disk_Disk_Crash_nil at h0
  refine enter (N := 15) Try.func17 rfl rfl (of_decide_eq_true rfl) (.cons u0 (.cons u1 .nil)) fun a1 s1 => ?_
  refine wp_seq_k fun K1 hK1 => ?_
  refine wp_region_lit ?_
  refine seq_opx (B' := (fun b1 : Nat => [BF b1 23 (ksl (kint .u8)) p1])) s1 rfl rfl (of_decide_eq_true rfl) (ob_box rfl (.tmp rfl)) fun b1 a2 w2 s2 => ?_; clear s1
  refine wpList_nil ?_
  refine then_normal ?_
  refine hK1 _ _ ?_
  have s3 := s2.sub (.cons (t := 0) rfl (.cons (t := 3) rfl .nil)); clear s2
  refine wp_seq_k fun K2 hK2 => ?_
  refine wp_seq_k fun K3 hK3 => ?_
  refine wp_region_lit ?_
  refine seq_op s3 rfl rfl (of_decide_eq_true rfl) (ob_move rfl (.tmp rfl)) fun a4 w4 s4 => ?_; clear s3
  refine seq_op s4 rfl rfl (of_decide_eq_true rfl) (ob_ptrNil (p := none) rfl pt25 (.tmp rfl) opd_is) fun a5 w5 s5 => ?_; clear s4
  refine wpList_nil ?_
  refine then_normal ?_
  refine hK3 _ _ ?_
  have s6 := s5.sub (.cons (t := 0) rfl (.cons (t := 3) rfl (.cons (t := 5) rfl .nil))); clear s5
  refine cond_t s6 (.tmp rfl) ?_
  refine wp_ret ?_
  obtain rfl := Option.some.inj h0
  exact leave s6 (.inl rfl) rfl .nil

/- 26 (*cabal/disk.Disk).Blocks -/
theorem c_disk_Disk_Blocks_nil (k : Nat) (r : Int) (h0 : disk_Disk_Blocks_nil k = some r) (ok : Ok) (w0 : World) (z0 : Value) (u0 : (is (.pointer none)).holds ok w0 z0) :
    Gives Try.prog 26 [z0] ok w0 (resFact [(kint .i64).V r]) := by
  unfold disk_Disk_Blocks_nil at h0
  refine enter (N := 10) Try.func26 rfl rfl (of_decide_eq_true rfl) (.cons u0 .nil) fun a1 s1 => ?_
  refine wp_seq_k fun K1 hK1 => ?_
  refine wp_region_lit ?_
  refine seq_op s1 rfl rfl (of_decide_eq_true rfl) (ob_assign rfl (opd_int rfl)) fun a2 w2 s2 => ?_; clear s1
  refine wpList_nil ?_
  refine then_normal ?_
  refine hK1 _ _ ?_
  have s3 := s2.sub (.cons (t := 0) rfl .nil); clear s2
  refine wp_seq_k fun K2 hK2 => ?_
  refine wp_seq_k fun K3 hK3 => ?_
  refine wp_region_lit ?_
  refine seq_op s3 rfl rfl (of_decide_eq_true rfl) (ob_move rfl (.tmp rfl)) fun a4 w4 s4 => ?_; clear s3
  refine seq_op s4 rfl rfl (of_decide_eq_true rfl) (ob_ptrNil (p := none) rfl pt25 (.tmp rfl) opd_is) fun a5 w5 s5 => ?_; clear s4
  refine wpList_nil ?_
  refine then_normal ?_
  refine hK3 _ _ ?_
  have s6 := s5.sub (.cons (t := 0) rfl (.cons (t := 4) rfl .nil)); clear s5
  refine cond_t s6 (.tmp rfl) ?_
  refine wp_seq_k fun K4 hK4 => ?_
  refine wp_region_lit ?_
  refine seq_op s6 rfl rfl (of_decide_eq_true rfl) (ob_assign rfl (opd_int rfl)) fun a7 w7 s7 => ?_; clear s6
  refine wpList_nil ?_
  refine then_normal ?_
  refine hK4 _ _ ?_
  have s8 := s7.sub (.cons (t := 2) rfl .nil); clear s7
  refine wp_ret ?_
  obtain rfl := Option.some.inj h0
  exact leave s8 (.inl rfl) rfl (.cons (.tmp rfl) .nil)

/- 50 (*cabal/disk.Disk).has -/
theorem c_disk_Disk_has_nil (k : Nat) (p1 : Int) (r : Bool) (h0 : disk_Disk_has_nil k p1 = some r) (ok : Ok) (w0 : World) (z0 : Value) (z1 : Value) (u0 : (is (.pointer none)).holds ok w0 z0) (u1 : ((kint .i64).V p1).holds ok w0 z1) :
    Gives Try.prog 50 [z0, z1] ok w0 (resFact [kbool.V r]) := by
  unfold disk_Disk_has_nil at h0
  refine enter (N := 13) Try.func50 rfl rfl (of_decide_eq_true rfl) (.cons u0 (.cons u1 .nil)) fun a1 s1 => ?_
  refine wp_seq_k fun K1 hK1 => ?_
  refine wp_region_lit ?_
  refine seq_op s1 rfl rfl (of_decide_eq_true rfl) (ob_assign rfl opd_bool) fun a2 w2 s2 => ?_; clear s1
  refine wpList_nil ?_
  refine then_normal ?_
  refine hK1 _ _ ?_
  have s3 := s2.sub (.cons (t := 0) rfl (.cons (t := 1) rfl .nil)); clear s2
  refine wp_seq_k fun K2 hK2 => ?_
  refine wp_region_lit ?_
  refine seq_op s3 rfl rfl (of_decide_eq_true rfl) (ob_move rfl (.tmp rfl)) fun a4 w4 s4 => ?_; clear s3
  refine seq_op s4 rfl rfl (of_decide_eq_true rfl) (ob_geq rfl (.tmp rfl) (opd_int rfl)) fun a5 w5 s5 => ?_; clear s4
  refine seq_op s5 rfl rfl (of_decide_eq_true rfl) (ob_move rfl (.tmp rfl)) fun a6 w6 s6 => ?_; clear s5
  refine seq_opg s6 rfl rfl rfl rfl (of_decide_eq_true rfl) (fun hb => ob_move rfl (.tmp rfl)) fun a7 w7 s7 => ?_; clear s6
  refine seq_opg s7 rfl rfl rfl rfl (of_decide_eq_true rfl) (fun hb => ob_move rfl (.tmp rfl)) fun a8 w8 s8 => ?_; clear s7
  obtain ⟨x1, e_x1, h1⟩ := bind_some h0; clear h0
  refine seq_opg s8 rfl rfl rfl rfl (of_decide_eq_true rfl) (fun hb => (Ob.uncond (t := 9) hb rfl (ob_callD (args := [_]) rfl .direct hb26 (fun a w s fs gs hf hg => by obtain rfl := hf.unnil; obtain rfl := hg.unnil; exact c_disk_Disk_Blocks_nil k _ (ite_t hb e_x1) _ _ _ (s.arg (.tmp rfl)))))) fun a9 w9 s9 => ?_; clear s8
  refine seq_opg s9 rfl rfl rfl rfl (of_decide_eq_true rfl) (fun hb => (Ob.uncond (t := 10) hb rfl ((Ob.uncond (t := 8) hb rfl (ob_lss rfl (.tmp rfl) (.tmp rfl)))))) fun a10 w10 s10 => ?_; clear s9
  refine seq_op s10 rfl rfl (of_decide_eq_true rfl) (ob_and2 rfl (.tmp rfl) (.tmp rfl) opd_bool) fun a11 w11 s11 => ?_; clear s10
  refine seq_op s11 rfl rfl (of_decide_eq_true rfl) (ob_assign rfl (.tmp rfl)) fun a12 w12 s12 => ?_; clear s11
  refine wpList_nil ?_
  refine then_normal ?_
  refine hK2 _ _ ?_
  have s13 := s12.sub (.cons (t := 4) rfl .nil); clear s12
  refine wp_ret ?_
  obtain rfl := Option.some.inj h1
  exact leave s13 (.inl rfl) rfl (.cons (.tmp rfl) .nil)

/- 14 (*cabal/disk.Disk).Read -/
theorem c_disk_Disk_Read_nil (k : Nat) (p1 : Int) (r : ((List Int) × Int)) (h0 : disk_Disk_Read_nil k p1 = some r) (ok : Ok) (w0 : World) (z0 : Value) (z1 : Value) (u0 : (is (.pointer none)).holds ok w0 z0) (u1 : ((kint .i64).V p1).holds ok w0 z1) :
    Gives Try.prog 14 [z0, z1] ok w0 (resFact [kstr.V r.1, (kint .i64).V r.2]) := by
  unfold disk_Disk_Read_nil at h0
  refine enter (N := 38) Try.func14 rfl rfl (of_decide_eq_true rfl) (.cons u0 (.cons u1 .nil)) fun a1 s1 => ?_
  refine wp_seq_k fun K1 hK1 => ?_
  refine wp_region_lit ?_
  refine seq_op s1 rfl rfl (of_decide_eq_true rfl) (ob_assign rfl (opd_str (by rfl) (by decide))) fun a2 w2 s2 => ?_; clear s1
  refine seq_op s2 rfl rfl (of_decide_eq_true rfl) (ob_assign rfl (opd_int rfl)) fun a3 w3 s3 => ?_; clear s2
  refine wpList_nil ?_
  refine then_normal ?_
  refine hK1 _ _ ?_
  have s4 := s3.sub (.cons (t := 0) rfl (.cons (t := 1) rfl .nil)); clear s3
  refine wp_seq_k fun K2 hK2 => ?_
  refine wp_seq_k fun K3 hK3 => ?_
  refine wp_region_lit ?_
  refine seq_op s4 rfl rfl (of_decide_eq_true rfl) (ob_move rfl (.tmp rfl)) fun a5 w5 s5 => ?_; clear s4
  refine seq_op s5 rfl rfl (of_decide_eq_true rfl) (ob_move rfl (.tmp rfl)) fun a6 w6 s6 => ?_; clear s5
  obtain ⟨x1, e_x1, h1⟩ := bind_some h0; clear h0
  refine seq_op s6 rfl rfl (of_decide_eq_true rfl) (ob_callD (args := [_, _]) rfl .direct hb50 (fun a w s fs gs hf hg => by obtain rfl := hf.unnil; obtain rfl := hg.unnil; exact c_disk_Disk_has_nil k _ _ e_x1 _ _ _ _ (s.arg (.tmp rfl)) (s.arg (.tmp rfl)))) fun a7 w7 s7 => ?_; clear s6
  refine seq_op s7 rfl rfl (of_decide_eq_true rfl) (ob_not rfl (.tmp rfl)) fun a8 w8 s8 => ?_; clear s7
  refine wpList_nil ?_
  refine then_normal ?_
  refine hK3 _ _ ?_
  have s9 := s8.sub (.cons (t := 0) rfl (.cons (t := 1) rfl (.cons (t := 12) rfl .nil))); clear s8
  refine cond_split s9 (.tmp rfl) (fun hc1 => ?_) (fun hc1 => ?_)
  · replace h1 := ite_t hc1 h1
    have h2 := h1; clear h1
    refine wp_seq_k fun K4 hK4 => ?_
    refine wp_region_lit ?_
    refine seq_op s9 rfl rfl (of_decide_eq_true rfl) (ob_assign rfl (opd_str (by rfl) (by decide))) fun a10 w10 s10 => ?_; clear s9
    refine seq_op s10 rfl rfl (of_decide_eq_true rfl) (ob_assign rfl (opd_int rfl)) fun a11 w11 s11 => ?_; clear s10
    refine wpList_nil ?_
    refine then_normal ?_
    refine hK4 _ _ ?_
    have s12 := s11.sub (.cons (t := 4) rfl (.cons (t := 5) rfl .nil)); clear s11
    refine wp_ret ?_
    obtain rfl := Option.some.inj h2
    exact leave s12 (.inl rfl) rfl (.cons (.tmp rfl) (.cons (.tmp rfl) .nil))
  · replace h1 := ite_f hc1 h1
    have h3 := h1; clear h1
    refine wp_skip ?_
    refine then_normal ?_
    refine hK2 _ _ ?_
    have s13 := s9.sub (.cons (t := 0) rfl (.cons (t := 1) rfl .nil)); clear s9
    refine wp_seq_k fun K5 hK5 => ?_
    refine wp_region_lit ?_
    refine seq_op s13 rfl rfl (of_decide_eq_true rfl) (ob_move rfl (.tmp rfl)) fun a14 w14 s14 => ?_; clear s13
    cases h3

/- 19 cabal/cabalref12.New -/
theorem c_cabalref12_New (k : Nat) (p1 : Int) (r : cabalref12_Disk) (h0 : cabalref12_New k p1 = some r) (ok : Ok) (w0 : World) (z0 : Value) (u0 : ((kint .i64).V p1).holds ok w0 z0) :
    GivesX Try.prog 19 [z0] ok w0 [] (fun g : Nat × Value => resFact [ptrB g.1 0]) (fun g : Nat × Value => [BF g.1 52 (ko_cabalref12_Disk_0 (g.2)) (⟨[], r.At, r.Data, r.Fuse, r.Dead⟩ : cabalref12_Disk), RowF (g.2) 9 kstr r.Firm]) := by
  unfold cabalref12_New at h0
  refine enterX (N := 28) Try.func19 rfl rfl (of_decide_eq_true rfl) (.cons u0 .nil) List.nodup_nil (fun _ h => by cases h) (fun _ h => by cases h) fun a1 s1 => ?_
  refine wp_seq_k fun K1 hK1 => ?_
  refine wp_region_lit ?_
  refine seq_op s1 rfl rfl (of_decide_eq_true rfl) (ob_assign rfl opd_is) fun a2 w2 s2 => ?_; clear s1
  refine wpList_nil ?_
  refine then_normal ?_
  refine hK1 _ _ ?_
  have s3 := s2.sub (.cons (t := 0) rfl .nil); clear s2
  refine wp_seq_k fun K2 hK2 => ?_
  refine wp_seq_k fun K3 hK3 => ?_
  refine wp_region_lit ?_
  refine seq_op s3 rfl rfl (of_decide_eq_true rfl) (ob_move rfl (.tmp rfl)) fun a4 w4 s4 => ?_; clear s3
  refine seq_op s4 rfl rfl (of_decide_eq_true rfl) (ob_lss rfl (.tmp rfl) (opd_int rfl)) fun a5 w5 s5 => ?_; clear s4
  refine wpList_nil ?_
  refine then_normal ?_
  refine hK3 _ _ ?_
  have s6 := s5.sub (.cons (t := 0) rfl (.cons (t := 6) rfl .nil)); clear s5
  have hj1 : ∀ (y1 : Int) (a : Act) (w : World), (cabalref12_New.j1 k) y1 = some r → St ⟨28, w0, ok, (idsOf [])⟩ [] [(0, ((kint .i64).V y1))] a w → K2 a w := by
    intro y1 a7 w7 h1 s7
    unfold cabalref12_New.j1 at h1
    refine hK2 _ _ ?_
    refine wp_seq_k fun K4 hK4 => ?_
    refine wp_seq_k fun K5 hK5 => ?_
    refine wp_region_lit ?_
    refine seq_op s7 rfl rfl (of_decide_eq_true rfl) (ob_move rfl (.tmp rfl)) fun a8 w8 s8 => ?_; clear s7
    refine seq_op s8 rfl rfl (of_decide_eq_true rfl) (ob_gtr rfl (.tmp rfl) (opd_int rfl)) fun a9 w9 s9 => ?_; clear s8
    refine wpList_nil ?_
    refine then_normal ?_
    refine hK5 _ _ ?_
    have s10 := s9.sub (.cons (t := 0) rfl (.cons (t := 8) rfl .nil)); clear s9
    have hj2 : ∀ (y2 : Int) (a : Act) (w : World), (cabalref12_New.j2 k) y2 = some r → St ⟨28, w0, ok, (idsOf [])⟩ [] [(0, ((kint .i64).V y2))] a w → K4 a w := by
      intro y2 a11 w11 h2 s11
      unfold cabalref12_New.j2 at h2
      refine hK4 _ _ ?_
      refine wp_seq_k fun K6 hK6 => ?_
      refine wp_region_lit ?_
      have s12 := St.adopt s11 (G := RowF (nilRow 4) 9 kstr []) rfl (rowNilN _ _ _ _ _); clear s11
      refine seq_op s12 rfl rfl (of_decide_eq_true rfl) ((ob_mkObj (K0 := (ko_cabalref12_Disk_0 (nilRow 4))) (K := (ko_cabalref12_Disk_0 (nilRow 4))) (X := (⟨[], [], [], (-1 : Int), false⟩ : cabalref12_Disk)) rfl Try.underlying52 zz52 rfl rfl pl52 (Zr.iso (f := to_cabalref12_Disk_0) (x := (⟨[], [], [], (0 : Int), false⟩ : cabalref12_Disk)) (Zr.pair (Zr.kis 4) (Zr.pair (Zr.sl _) (Zr.pair (Zr.sl _) (Zr.pair (Zr.int .i64) (Zr.pair Zr.bool Zr.nil)))))) (.cons (opd_int rfl) rfl (LSK.of (lso_cabalref12_Disk_0_Fuse (⟨[], [], [], (0 : Int), false⟩ : cabalref12_Disk) (-1 : Int))) (.nil _ _)))) fun a13 w13 s13 => ?_; clear s12
      refine seq_opx (B' := (fun b1 : Nat => [BF b1 52 (ko_cabalref12_Disk_0 (nilRow 4)) (⟨[], [], [], (-1 : Int), false⟩ : cabalref12_Disk), RowF (nilRow 4) 9 kstr ([] : (List (List Int)))])) s13 rfl rfl (of_decide_eq_true rfl) (ob_box rfl (.tmp rfl)) fun b1 a14 w14 s14 => ?_; clear s13
      refine seq_op s14 rfl rfl (of_decide_eq_true rfl) (ob_assign rfl (.tmp rfl)) fun a15 w15 s15 => ?_; clear s14
      refine wpList_nil ?_
      refine then_normal ?_
      refine hK6 _ _ ?_
      have s16 := s15.sub (.cons (t := 0) rfl (.cons (t := 3) rfl .nil)); clear s15
      refine wp_seq_k fun K7 hK7 => ?_
      refine wp_seq_k fun K8 hK8 => ?_
      refine wp_region_lit ?_
      refine seq_op s16 rfl rfl (of_decide_eq_true rfl) (ob_assign rfl (opd_int rfl)) fun a17 w17 s17 => ?_; clear s16
      refine wpList_nil ?_
      refine then_normal ?_
      refine hK8 _ _ ?_
      have s18 := s17.sub (.cons (t := 0) rfl (.cons (t := 3) rfl (.cons (t := 4) rfl .nil))); clear s17
      have hj3 : ∀ (y3 : (List (List Int))) (v1 : Value) (a : Act) (w : World), (cabalref12_New.j3 k) y3 = some r → St ⟨28, w0, ok, (idsOf [])⟩ [BF b1 52 (ko_cabalref12_Disk_0 v1) (⟨[], [], [], (-1 : Int), false⟩ : cabalref12_Disk), RowF v1 9 kstr y3] [(3, (ptrB b1 0))] a w → K7 a w := by
        intro y3 v1 a19 w19 h3 s19
        unfold cabalref12_New.j3 at h3
        refine hK7 _ _ ?_
        refine wp_seq_k fun K9 hK9 => ?_
        refine wp_region_lit ?_
        refine seq_op s19 rfl rfl (of_decide_eq_true rfl) (ob_move rfl (.tmp rfl)) fun a20 w20 s20 => ?_; clear s19
        refine seq_op s20 rfl rfl (of_decide_eq_true rfl) (ob_assign rfl (.tmp rfl)) fun a21 w21 s21 => ?_; clear s20
        refine wpList_nil ?_
        refine then_normal ?_
        refine hK9 _ _ ?_
        have s22 := s21.sub (.cons (t := 2) rfl .nil); clear s21
        refine wp_ret ?_
        obtain rfl := Option.some.inj h3
        exact leaveXD (D := []) ⟨b1, v1⟩ s22 rfl (.inl rfl) rfl (.cons (.tmp rfl) .nil) rfl
      refine wp_block ?_
      refine wp_loop_fuel (fun m (q : Int × (List (List Int))) => cabalref12_New.l1 k y2 m q.1 q.2) r (fun _ => rfl) (fun q a w => ∃ (v2 : Value), St ⟨28, w0, ok, (idsOf [])⟩ [BF b1 52 (ko_cabalref12_Disk_0 v2) (⟨[], [], [], (-1 : Int), false⟩ : cabalref12_Disk), RowF v2 9 kstr q.2] [(0, ((kint .i64).V y2)), (3, (ptrB b1 0)), (4, ((kint .i64).V q.1))] a w) ?_ k ((0 : Int), ([] : (List (List Int)))) _ _ h2 ⟨(nilRow 4), (s18.sub (.cons rfl (.cons rfl (.cons rfl .nil))))⟩
      rintro n1 ⟨y4, y5⟩ a23 w23 h4 ⟨v2, s23⟩ K10 hK10
      replace h4 : cabalref12_New.l1 k y2 (n1 + 1) y4 y5 = some r := h4; rw [cabalref12_New.l1] at h4
      have h5 := h4; clear h4
      refine wp_seq_k fun K11 hK11 => ?_
      refine wp_seq_k fun K12 hK12 => ?_
      refine wp_region_lit ?_
      refine seq_op s23 rfl rfl (of_decide_eq_true rfl) (ob_move rfl (.tmp rfl)) fun a24 w24 s24 => ?_; clear s23
      refine seq_op s24 rfl rfl (of_decide_eq_true rfl) (ob_move rfl (.tmp rfl)) fun a25 w25 s25 => ?_; clear s24
      refine seq_op s25 rfl rfl (of_decide_eq_true rfl) (ob_lss rfl (.tmp rfl) (.tmp rfl)) fun a26 w26 s26 => ?_; clear s25
      refine wpList_nil ?_
      refine then_normal ?_
      refine hK12 _ _ ?_
      have s27 := s26.sub (.cons (t := 0) rfl (.cons (t := 3) rfl (.cons (t := 4) rfl (.cons (t := 13) rfl .nil)))); clear s26
      refine cond_split s27 (.tmp rfl) (fun hc1 => ?_) (fun hc1 => ?_)
      · replace h5 := ite_t hc1 h5
        have h6 := h5; clear h5
        refine wp_skip ?_
        refine then_normal ?_
        refine hK11 _ _ ?_
        have s28 := s27.sub (.cons (t := 0) rfl (.cons (t := 3) rfl (.cons (t := 4) rfl .nil))); clear s27
        refine wp_seq_k fun K13 hK13 => ?_
        refine wp_block ?_
        obtain ⟨g1, h7⟩ := guard_some h6; clear h6
        obtain ⟨g2, h8⟩ := guard_some h7; clear h7
        refine wp_goes (Fs := [(ptrB b1 0), (ptrB b1 0), (ptrB b1 0), (ptrB b1 0), (is v2), nofact, nofact, nofact, nofact]) (bits := [0, 0, 2, 6, 14, 0, 32, 96, 254, 511, 1023, 2047]) (m := 9) (todo := 288) mx s28 ?_; clear s28
        refine goes_turn (B' := (fun v3 : Value => [RowF v3 5 (kint .u8) (List.replicate (256 : Int).toNat (0 : Int)), BF b1 52 (ko_cabalref12_Disk_0 v2) (⟨[], [], [], (-1 : Int), false⟩ : cabalref12_Disk), RowF v2 9 kstr y5])) (Fs' := (fun v3 : Value => setAll ([(ptrB b1 0), (ptrB b1 0), (ptrB b1 0), (ptrB b1 0), (is v2), nofact, nofact, nofact, nofact]) [(5, (is v3)), (6, (kstr.V (List.replicate (256 : Int).toNat (0 : Int)))), (7, ((ksl kstr).V ([(List.replicate (256 : Int).toNat (0 : Int))] : (List (List Int)))))])) 5 480 32 256 (by kernel_rfl) rfl rfl rfl (opsS_cons (.plain _ (Av.old (t := 3) rfl rfl Av.nil) rfl rfl (ob_move rfl (.tmp rfl))) (opsS_cons (.plain _ (Av.old (t := 3) rfl rfl Av.nil) rfl rfl (ob_move rfl (.tmp rfl))) (opsS_cons (.plain _ (Av.new (j := 1) rfl rfl rfl Av.nil) rfl rfl (ob_nilCheck rfl (.tmp rfl))) (opsS_cons (.plain _ (Av.new (j := 2) rfl rfl rfl Av.nil) rfl rfl (ob_fieldAddr (off' := 0) rfl Try.underlying52 rfl sz49 (by decide) (.tmp rfl) rfl)) (opsS_cons (.plain _ (Av.new (j := 3) rfl rfl rfl Av.nil) rfl rfl (ob_loadRowV rfl (tkr49 _) (.tmp rfl) (.head _) (lgo_cabalref12_Disk_0_Firm (⟨[], [], [], (-1 : Int), false⟩ : cabalref12_Disk)))) (opsS_skip (by rfl) (opsS_skip (by rfl) (opsS_skip (by rfl) (opsS_skip (by rfl) opsS_nil))))))))) (.plain _ Av.nil rfl (fun _ => rfl) (fun R => ob_makeRow (T8 := 0) rfl Try.underlying23 ap5 (Zr.int .u8) (by decide) (opd_int rfl) g1)) (setAll_same (us := (fun v3 : Value => [(5, (is v3)), (6, (kstr.V (List.replicate (256 : Int).toNat (0 : Int)))), (7, ((ksl kstr).V ([(List.replicate (256 : Int).toNat (0 : Int))] : (List (List Int)))))])) fun _ => by kernel_rfl) fun v3 => ?_
        refine goes_turn (B' := (fun v4 : Value => [RowF v3 5 (kint .u8) (List.replicate (256 : Int).toNat (0 : Int)), BF b1 52 (ko_cabalref12_Disk_0 v2) (⟨[], [], [], (-1 : Int), false⟩ : cabalref12_Disk), RowF v4 9 kstr (y5 ++ ([(List.replicate (256 : Int).toNat (0 : Int))] : (List (List Int))))])) (Fs' := (fun v4 : Value => setAll (setAll ([(ptrB b1 0), (ptrB b1 0), (ptrB b1 0), (ptrB b1 0), (is v2), nofact, nofact, nofact, nofact]) [(5, (is v3)), (6, (kstr.V (List.replicate (256 : Int).toNat (0 : Int)))), (7, ((ksl kstr).V ([(List.replicate (256 : Int).toNat (0 : Int))] : (List (List Int)))))]) [(8, (is v4))])) 8 288 510 0 (by kernel_rfl) rfl rfl rfl (opsS_cons (.plain _ (Av.old (t := 3) rfl rfl Av.nil) rfl rfl (ob_move rfl (.tmp rfl))) (opsS_cons (.plain _ (Av.old (t := 3) rfl rfl Av.nil) rfl rfl (ob_move rfl (.tmp rfl))) (opsS_cons (.plain _ (Av.new (j := 1) rfl rfl rfl Av.nil) rfl rfl (ob_nilCheck rfl (.tmp rfl))) (opsS_cons (.plain _ (Av.new (j := 2) rfl rfl rfl Av.nil) rfl rfl (ob_fieldAddr (off' := 0) rfl Try.underlying52 rfl sz49 (by decide) (.tmp rfl) rfl)) (opsS_cons (.plain _ (Av.new (j := 3) rfl rfl rfl Av.nil) rfl rfl (ob_loadRowV rfl (tkr49 _) (.tmp rfl) (.tail _ (.head _)) (lgo_cabalref12_Disk_0_Firm (⟨[], [], [], (-1 : Int), false⟩ : cabalref12_Disk)))) (opsS_skip (by rfl) (opsS_cons (.plain _ (Av.new (j := 5) rfl rfl rfl Av.nil) rfl rfl ((ob_lendG (L := [_]) (List.Perm.refl _) (.cons (t := 21) rfl (lendRow (.head _)) .nil) (Flat.V KFlat.str) (fun _ => ob_bytesToStr rfl Try.underlying23 Try.underlying9 Try.underlying5 (.tmp rfl))))) (opsS_cons (.plain _ (Av.new (j := 6) rfl rfl rfl Av.nil) rfl rfl (ob_mkSlice (k := kstr) (xs := ([(List.replicate (256 : Int).toNat (0 : Int))] : (List (List Int)))) rfl Try.underlying49 zz9 sz9 Zr.str (by decide) (by decide) (.cons (.tmp rfl) rfl (LS.arr' (i := 0) (ys := ([(List.replicate (256 : Int).toNat (0 : Int))] : (List (List Int)))) (by simp) (by rfl)) (.nil _)))) (opsS_skip (by rfl) opsS_nil))))))))) (.plain _ (Av.new (j := 4) rfl rfl rfl (Av.new (j := 7) rfl rfl rfl Av.nil)) rfl (fun _ => rfl) (fun R => ob_appendL2 (A := [_, _]) rfl Try.underlying49 ap9 Zr.str (by decide) (.tmp rfl) (.tmp rfl) rfl g2)) (setAll_same (us := (fun v4 : Value => [(8, (is v4))])) fun _ => by kernel_rfl) fun v4 => ?_
        refine goes_last (by kernel_rfl) rfl (opsS_cons (.plain _ (Av.old (t := 3) rfl rfl Av.nil) rfl rfl (ob_move rfl (.tmp rfl))) (opsS_skip (by rfl) (opsS_skip (by rfl) (opsS_skip (by rfl) (opsS_skip (by rfl) (opsS_skip (by rfl) (opsS_skip (by rfl) (opsS_skip (by rfl) (opsS_skip (by rfl) opsS_nil))))))))) (out_old (t := 0) rfl rfl (out_old (t := 3) rfl rfl (out_old (t := 4) rfl rfl (out_new (i := 0) (by decide) rfl rfl (out_new (i := 8) (by decide) rfl rfl out_nil))))) fun a29 w29 s29 => ?_
        refine seq_op s29 rfl rfl (of_decide_eq_true rfl) (ob_nilCheck rfl (.tmp rfl)) fun a30 w30 s30 => ?_; clear s29
        refine seq_op s30 rfl rfl (of_decide_eq_true rfl) (ob_fieldAddr (off' := 0) rfl Try.underlying52 rfl sz49 (by decide) (.tmp rfl) rfl) fun a31 w31 s31 => ?_; clear s30
        refine seq_opx0 (B' := (fun _ : Unit => [RowF v3 5 (kint .u8) (List.replicate (256 : Int).toNat (0 : Int)), BF b1 52 (ko_cabalref12_Disk_0 v4) (⟨[], [], [], (-1 : Int), false⟩ : cabalref12_Disk), RowF v4 9 kstr (y5 ++ ([(List.replicate (256 : Int).toNat (0 : Int))] : (List (List Int))))])) s31 rfl rfl (ob_storeRowV (A := [_]) rfl (tkr49 _) (.tmp rfl) (.tmp rfl) (.tail _ (.tail _ (.head _))) rfl (lsk_cabalref12_Disk_0_to_0_at0 (⟨[], [], [], (-1 : Int), false⟩ : cabalref12_Disk)) rfl) fun _ a32 w32 s32 => ?_; clear s31
        refine wpList_nil ?_
        refine in_normal ?_
        refine then_normal ?_
        refine hK13 _ _ ?_
        have s33 := s32.sub (.cons (t := 0) rfl (.cons (t := 3) rfl (.cons (t := 4) rfl .nil))); clear s32
        have s34 := St.drop (A := []) s33; clear s33
        refine wp_region_lit ?_
        refine seq_op s34 rfl rfl (of_decide_eq_true rfl) (ob_move rfl (.tmp rfl)) fun a35 w35 s35 => ?_; clear s34
        refine seq_op s35 rfl rfl (of_decide_eq_true rfl) (ob_add rfl (.tmp rfl) (opd_int rfl)) fun a36 w36 s36 => ?_; clear s35
        refine seq_op s36 rfl rfl (of_decide_eq_true rfl) (ob_assign rfl (.tmp rfl)) fun a37 w37 s37 => ?_; clear s36
        refine wpList_nil ?_
        refine then_normal ?_
        exact hK10 ((iadd .i64 y4 (1 : Int)), (y5 ++ ([(List.replicate (256 : Int).toNat (0 : Int))] : (List (List Int))))) _ _ h8 ⟨v4, (s37.sub (.cons rfl (.cons rfl (.cons rfl .nil))))⟩
      · replace h5 := ite_f hc1 h5
        have h9 := h5; clear h5
        refine wp_exit ?_
        refine (then_exit (then_exit (in_here ?_)))
        refine then_normal ?_
        exact hj3 y5 v2 _ _ h9 (s27.sub (.cons rfl .nil))
    refine cond_split s10 (.tmp rfl) (fun hc2 => ?_) (fun hc2 => ?_)
    · replace h1 := ite_t hc2 h1
      have h10 := h1; clear h1
      refine wp_region_lit ?_
      refine seq_op s10 rfl rfl (of_decide_eq_true rfl) (ob_assign rfl (opd_int rfl)) fun a38 w38 s38 => ?_; clear s10
      refine wpList_nil ?_
      refine then_normal ?_
      exact hj2 (1024 : Int) _ _ h10 (s38.sub (.cons rfl .nil))
    · replace h1 := ite_f hc2 h1
      have h11 := h1; clear h1
      refine wp_skip ?_
      refine then_normal ?_
      exact hj2 y1 _ _ h11 (s10.sub (.cons rfl .nil))
  refine cond_split s6 (.tmp rfl) (fun hc3 => ?_) (fun hc3 => ?_)
  · replace h0 := ite_t hc3 h0
    have h12 := h0; clear h0
    refine wp_region_lit ?_
    refine seq_op s6 rfl rfl (of_decide_eq_true rfl) (ob_assign rfl (opd_int rfl)) fun a39 w39 s39 => ?_; clear s6
    refine wpList_nil ?_
    refine then_normal ?_
    exact hj1 (1 : Int) _ _ h12 (s39.sub (.cons rfl .nil))
  · replace h0 := ite_f hc3 h0
    have h13 := h0; clear h0
    refine wp_skip ?_
    refine then_normal ?_
    exact hj1 p1 _ _ h13 (s6.sub (.cons rfl .nil))

/- 25 (*cabal/disk.Disk).Dead -/
theorem c_disk_Disk_Dead_nil (k : Nat) (r : Bool) (h0 : disk_Disk_Dead_nil k = some r) (ok : Ok) (w0 : World) (z0 : Value) (u0 : (is (.pointer none)).holds ok w0 z0) :
    Gives Try.prog 25 [z0] ok w0 (resFact [kbool.V r]) := by
  unfold disk_Disk_Dead_nil at h0
  refine enter (N := 11) Try.func25 rfl rfl (of_decide_eq_true rfl) (.cons u0 .nil) fun a1 s1 => ?_
  refine wp_seq_k fun K1 hK1 => ?_
  refine wp_region_lit ?_
  refine seq_op s1 rfl rfl (of_decide_eq_true rfl) (ob_assign rfl opd_bool) fun a2 w2 s2 => ?_; clear s1
  refine wpList_nil ?_
  refine then_normal ?_
  refine hK1 _ _ ?_
  have s3 := s2.sub (.cons (t := 0) rfl .nil); clear s2
  refine wp_seq_k fun K2 hK2 => ?_
  refine wp_region_lit ?_
  refine seq_op s3 rfl rfl (of_decide_eq_true rfl) (ob_move rfl (.tmp rfl)) fun a4 w4 s4 => ?_; clear s3
  refine seq_op s4 rfl rfl (of_decide_eq_true rfl) (ob_ptrNil (p := none) rfl pt25 (.tmp rfl) opd_is) fun a5 w5 s5 => ?_; clear s4
  refine seq_op s5 rfl rfl (of_decide_eq_true rfl) (ob_move rfl (.tmp rfl)) fun a6 w6 s6 => ?_; clear s5
  refine seq_opg (F := (is (.pointer none))) s6 rfl rfl rfl rfl (of_decide_eq_true rfl) (fun hb => (absurd hb (by decide))) fun a7 w7 s7 => ?_; clear s6
  refine seq_opg (F := nofact) s7 rfl rfl rfl rfl (of_decide_eq_true rfl) (fun hb => (absurd hb (by decide))) fun a8 w8 s8 => ?_; clear s7
  refine seq_opg (F := nofact) s8 rfl rfl rfl rfl (of_decide_eq_true rfl) (fun hb => (absurd hb (by decide))) fun a9 w9 s9 => ?_; clear s8
  refine seq_opg (F := (kbool.V false)) s9 rfl rfl rfl rfl (of_decide_eq_true rfl) (fun hb => (absurd hb (by decide))) fun a10 w10 s10 => ?_; clear s9
  refine seq_op s10 rfl rfl (of_decide_eq_true rfl) (ob_or2 rfl (.tmp rfl) opd_bool (.tmp rfl)) fun a11 w11 s11 => ?_; clear s10
  refine seq_op s11 rfl rfl (of_decide_eq_true rfl) (ob_assign rfl (.tmp rfl)) fun a12 w12 s12 => ?_; clear s11
  refine wpList_nil ?_
  refine then_normal ?_
  refine hK2 _ _ ?_
  have s13 := s12.sub (.cons (t := 2) rfl .nil); clear s12
  refine wp_ret ?_
  obtain rfl := Option.some.inj h0
  exact leave s13 (.inl rfl) rfl (.cons (.tmp rfl) .nil)

/- 18 (*cabal/disk.Disk).Settled -/
theorem c_disk_Disk_Settled_nil (k : Nat) (p1 : Int) (r : (List Int)) (h0 : disk_Disk_Settled_nil k p1 = some r) (ok : Ok) (w0 : World) (z0 : Value) (z1 : Value) (u0 : (is (.pointer none)).holds ok w0 z0) (u1 : ((kint .i64).V p1).holds ok w0 z1) :
    Gives Try.prog 18 [z0, z1] ok w0 (resFact [kstr.V r]) := by
  unfold disk_Disk_Settled_nil at h0
  refine enter (N := 17) Try.func18 rfl rfl (of_decide_eq_true rfl) (.cons u0 (.cons u1 .nil)) fun a1 s1 => ?_
  refine wp_seq_k fun K1 hK1 => ?_
  refine wp_region_lit ?_
  refine seq_op s1 rfl rfl (of_decide_eq_true rfl) (ob_assign rfl (opd_str (by rfl) (by decide))) fun a2 w2 s2 => ?_; clear s1
  refine wpList_nil ?_
  refine then_normal ?_
  refine hK1 _ _ ?_
  have s3 := s2.sub (.cons (t := 0) rfl (.cons (t := 1) rfl .nil)); clear s2
  refine wp_seq_k fun K2 hK2 => ?_
  refine wp_seq_k fun K3 hK3 => ?_
  refine wp_region_lit ?_
  refine seq_op s3 rfl rfl (of_decide_eq_true rfl) (ob_move rfl (.tmp rfl)) fun a4 w4 s4 => ?_; clear s3
  refine seq_op s4 rfl rfl (of_decide_eq_true rfl) (ob_move rfl (.tmp rfl)) fun a5 w5 s5 => ?_; clear s4
  obtain ⟨x1, e_x1, h1⟩ := bind_some h0; clear h0
  refine seq_op s5 rfl rfl (of_decide_eq_true rfl) (ob_callD (args := [_, _]) rfl .direct hb50 (fun a w s fs gs hf hg => by obtain rfl := hf.unnil; obtain rfl := hg.unnil; exact c_disk_Disk_has_nil k _ _ e_x1 _ _ _ _ (s.arg (.tmp rfl)) (s.arg (.tmp rfl)))) fun a6 w6 s6 => ?_; clear s5
  refine seq_op s6 rfl rfl (of_decide_eq_true rfl) (ob_not rfl (.tmp rfl)) fun a7 w7 s7 => ?_; clear s6
  refine wpList_nil ?_
  refine then_normal ?_
  refine hK3 _ _ ?_
  have s8 := s7.sub (.cons (t := 0) rfl (.cons (t := 1) rfl (.cons (t := 8) rfl .nil))); clear s7
  refine cond_split s8 (.tmp rfl) (fun hc1 => ?_) (fun hc1 => ?_)
  · replace h1 := ite_t hc1 h1
    have h2 := h1; clear h1
    refine wp_seq_k fun K4 hK4 => ?_
    refine wp_region_lit ?_
    refine seq_op s8 rfl rfl (of_decide_eq_true rfl) (ob_assign rfl (opd_str (by rfl) (by decide))) fun a9 w9 s9 => ?_; clear s8
    refine wpList_nil ?_
    refine then_normal ?_
    refine hK4 _ _ ?_
    have s10 := s9.sub (.cons (t := 4) rfl .nil); clear s9
    refine wp_ret ?_
    obtain rfl := Option.some.inj h2
    exact leave s10 (.inl rfl) rfl (.cons (.tmp rfl) .nil)
  · replace h1 := ite_f hc1 h1
    have h3 := h1; clear h1
    refine wp_skip ?_
    refine then_normal ?_
    refine hK2 _ _ ?_
    have s11 := s8.sub (.cons (t := 0) rfl (.cons (t := 1) rfl .nil)); clear s8
    refine wp_seq_k fun K5 hK5 => ?_
    refine wp_region_lit ?_
    refine seq_op s11 rfl rfl (of_decide_eq_true rfl) (ob_move rfl (.tmp rfl)) fun a12 w12 s12 => ?_; clear s11
    cases h3

/- 15 (*cabal/disk.Disk).Write -/
theorem c_disk_Disk_Write_nil (k : Nat) (p1 : Int) (p2 : (List Int)) (r : Int) (h0 : disk_Disk_Write_nil k p1 p2 = some r) (ok : Ok) (w0 : World) (z0 : Value) (z1 : Value) (z2 : Value) (u0 : (is (.pointer none)).holds ok w0 z0) (u1 : ((kint .i64).V p1).holds ok w0 z1) (u2 : (kstr.V p2).holds ok w0 z2) :
    Gives Try.prog 15 [z0, z1, z2] ok w0 (resFact [(kint .i64).V r]) := by
  unfold disk_Disk_Write_nil at h0
  refine enter (N := 42) Try.func15 rfl rfl (of_decide_eq_true rfl) (.cons u0 (.cons u1 (.cons u2 .nil))) fun a1 s1 => ?_
  refine wp_seq_k fun K1 hK1 => ?_
  refine wp_region_lit ?_
  refine seq_op s1 rfl rfl (of_decide_eq_true rfl) (ob_assign rfl (opd_int rfl)) fun a2 w2 s2 => ?_; clear s1
  refine wpList_nil ?_
  refine then_normal ?_
  refine hK1 _ _ ?_
  have s3 := s2.sub (.cons (t := 0) rfl (.cons (t := 1) rfl (.cons (t := 2) rfl .nil))); clear s2
  refine wp_seq_k fun K2 hK2 => ?_
  refine wp_block ?_
  refine wp_seq_k fun K3 hK3 => ?_
  refine wp_region_lit ?_
  refine seq_op s3 rfl rfl (of_decide_eq_true rfl) (ob_move rfl (.tmp rfl)) fun a4 w4 s4 => ?_; clear s3
  refine seq_op s4 rfl rfl (of_decide_eq_true rfl) (ob_move rfl (.tmp rfl)) fun a5 w5 s5 => ?_; clear s4
  obtain ⟨x1, e_x1, h1⟩ := bind_some h0; clear h0
  refine seq_op s5 rfl rfl (of_decide_eq_true rfl) (ob_callD (args := [_, _]) rfl .direct hb50 (fun a w s fs gs hf hg => by obtain rfl := hf.unnil; obtain rfl := hg.unnil; exact c_disk_Disk_has_nil k _ _ e_x1 _ _ _ _ (s.arg (.tmp rfl)) (s.arg (.tmp rfl)))) fun a6 w6 s6 => ?_; clear s5
  refine seq_op s6 rfl rfl (of_decide_eq_true rfl) (ob_not rfl (.tmp rfl)) fun a7 w7 s7 => ?_; clear s6
  refine seq_op s7 rfl rfl (of_decide_eq_true rfl) (ob_move rfl (.tmp rfl)) fun a8 w8 s8 => ?_; clear s7
  refine seq_opg s8 rfl rfl rfl rfl (of_decide_eq_true rfl) (fun hb => ob_move rfl (.tmp rfl)) fun a9 w9 s9 => ?_; clear s8
  refine seq_opg s9 rfl rfl rfl rfl (of_decide_eq_true rfl) (fun hb => (Ob.uncond (t := 14) hb rfl (ob_lenStr rfl Try.underlying9 (.tmp rfl)))) fun a10 w10 s10 => ?_; clear s9
  refine seq_opg s10 rfl rfl rfl rfl (of_decide_eq_true rfl) (fun hb => (Ob.uncond (t := 15) hb rfl (ob_neq rfl (.tmp rfl) (opd_int rfl)))) fun a11 w11 s11 => ?_; clear s10
  refine seq_op s11 rfl rfl (of_decide_eq_true rfl) (ob_or2 rfl (.tmp rfl) opd_bool (.tmp rfl)) fun a12 w12 s12 => ?_; clear s11
  refine seq_op s12 rfl rfl (of_decide_eq_true rfl) (ob_assign rfl (.tmp rfl)) fun a13 w13 s13 => ?_; clear s12
  refine wpList_nil ?_
  refine then_normal ?_
  refine hK3 _ _ ?_
  have s14 := s13.sub (.cons (t := 0) rfl (.cons (t := 1) rfl (.cons (t := 2) rfl (.cons (t := 8) rfl .nil)))); clear s13
  refine cond_split s14 (.tmp rfl) (fun hc1 => ?_) (fun hc1 => ?_)
  · replace h1 := ite_t hc1 h1
    have h2 := h1; clear h1
    refine wp_seq_k fun K4 hK4 => ?_
    refine wp_region_lit ?_
    refine seq_op s14 rfl rfl (of_decide_eq_true rfl) (ob_assign rfl (opd_int rfl)) fun a15 w15 s15 => ?_; clear s14
    refine wpList_nil ?_
    refine then_normal ?_
    refine hK4 _ _ ?_
    have s16 := s15.sub (.cons (t := 6) rfl .nil); clear s15
    refine wp_ret ?_
    obtain rfl := Option.some.inj h2
    exact leave s16 (.inl rfl) rfl (.cons (.tmp rfl) .nil)
  · replace h1 := ite_f hc1 h1
    have h3 := h1; clear h1
    refine wp_seq_k fun K5 hK5 => ?_
    refine wp_region_lit ?_
    refine seq_op s14 rfl rfl (of_decide_eq_true rfl) (ob_move rfl (.tmp rfl)) fun a17 w17 s17 => ?_; clear s14
    cases h3

/- 47 (*cabal/disk.Disk).burn -/
theorem c_disk_Disk_burn_nil (k : Nat) (r : Bool) (h0 : disk_Disk_burn_nil k = some r) (ok : Ok) (w0 : World) (z0 : Value) (u0 : (is (.pointer none)).holds ok w0 z0) :
    Gives Try.prog 47 [z0] ok w0 (resFact [kbool.V r]) := by
  unfold disk_Disk_burn_nil at h0
  refine enter (N := 30) Try.func47 rfl rfl (of_decide_eq_true rfl) (.cons u0 .nil) fun a1 s1 => ?_
  refine wp_seq_k fun K1 hK1 => ?_
  refine wp_region_lit ?_
  refine seq_op s1 rfl rfl (of_decide_eq_true rfl) (ob_assign rfl opd_bool) fun a2 w2 s2 => ?_; clear s1
  refine wpList_nil ?_
  refine then_normal ?_
  refine hK1 _ _ ?_
  have s3 := s2.sub (.cons (t := 0) rfl .nil); clear s2
  refine wp_seq_k fun K2 hK2 => ?_
  refine wp_block ?_
  refine wp_seq_k fun K3 hK3 => ?_
  refine wp_region_lit ?_
  refine seq_op s3 rfl rfl (of_decide_eq_true rfl) (ob_move rfl (.tmp rfl)) fun a4 w4 s4 => ?_; clear s3
  cases h0

/- 48 (*cabal/disk.Disk).settle -/
theorem c_disk_Disk_settle_disk_Disk_Sync_1_nil (k : Nat) (r : Unit) (h0 : disk_Disk_settle_disk_Disk_Sync_1_nil k = some r) (ok : Ok) (w0 : World) (z0 : Value) (z1 : Value) (u0 : (is (.pointer none)).holds ok w0 z0) (u1 : (is (.func (.func 49) #[] #[])).holds ok w0 z1) :
    Gives Try.prog 48 [z0, z1] ok w0 (resFact []) := by
  unfold disk_Disk_settle_disk_Disk_Sync_1_nil at h0
  refine enter (N := 38) Try.func48 rfl rfl (of_decide_eq_true rfl) (.cons u0 (.cons u1 .nil)) fun a1 s1 => ?_
  refine wp_seq_k fun K1 hK1 => ?_
  refine wp_seq_k fun K2 hK2 => ?_
  refine wp_region_lit ?_
  refine seq_op s1 rfl rfl (of_decide_eq_true rfl) (ob_move rfl (.tmp rfl)) fun a2 w2 s2 => ?_; clear s1
  cases h0

/- 13 (*cabal/disk.Disk).Sync -/
theorem c_disk_Disk_Sync_nil (k : Nat) (r : Int) (h0 : disk_Disk_Sync_nil k = some r) (ok : Ok) (w0 : World) (z0 : Value) (u0 : (is (.pointer none)).holds ok w0 z0) :
    Gives Try.prog 13 [z0] ok w0 (resFact [(kint .i64).V r]) := by
  unfold disk_Disk_Sync_nil at h0
  refine enter (N := 18) Try.func13 rfl rfl (of_decide_eq_true rfl) (.cons u0 .nil) fun a1 s1 => ?_
  refine wp_seq_k fun K1 hK1 => ?_
  refine wp_region_lit ?_
  refine seq_op s1 rfl rfl (of_decide_eq_true rfl) (ob_assign rfl (opd_int rfl)) fun a2 w2 s2 => ?_; clear s1
  refine wpList_nil ?_
  refine then_normal ?_
  refine hK1 _ _ ?_
  have s3 := s2.sub (.cons (t := 0) rfl .nil); clear s2
  refine wp_seq_k fun K2 hK2 => ?_
  refine wp_seq_k fun K3 hK3 => ?_
  refine wp_region_lit ?_
  refine seq_op s3 rfl rfl (of_decide_eq_true rfl) (ob_move rfl (.tmp rfl)) fun a4 w4 s4 => ?_; clear s3
  refine seq_op s4 rfl rfl (of_decide_eq_true rfl) (ob_ptrNil (p := none) rfl pt25 (.tmp rfl) opd_is) fun a5 w5 s5 => ?_; clear s4
  refine seq_op s5 rfl rfl (of_decide_eq_true rfl) (ob_move rfl (.tmp rfl)) fun a6 w6 s6 => ?_; clear s5
  refine seq_opg (F := (is (.pointer none))) s6 rfl rfl rfl rfl (of_decide_eq_true rfl) (fun hb => (absurd hb (by decide))) fun a7 w7 s7 => ?_; clear s6
  refine seq_opg (F := nofact) s7 rfl rfl rfl rfl (of_decide_eq_true rfl) (fun hb => (absurd hb (by decide))) fun a8 w8 s8 => ?_; clear s7
  refine seq_opg (F := nofact) s8 rfl rfl rfl rfl (of_decide_eq_true rfl) (fun hb => (absurd hb (by decide))) fun a9 w9 s9 => ?_; clear s8
  refine seq_opg (F := (kbool.V false)) s9 rfl rfl rfl rfl (of_decide_eq_true rfl) (fun hb => (absurd hb (by decide))) fun a10 w10 s10 => ?_; clear s9
  refine seq_op s10 rfl rfl (of_decide_eq_true rfl) (ob_or2 rfl (.tmp rfl) opd_bool (.tmp rfl)) fun a11 w11 s11 => ?_; clear s10
  refine seq_op s11 rfl rfl (of_decide_eq_true rfl) (ob_move rfl (.tmp rfl)) fun a12 w12 s12 => ?_; clear s11
  refine seq_opg s12 rfl rfl rfl rfl (of_decide_eq_true rfl) (fun hb => ob_move rfl (.tmp rfl)) fun a13 w13 s13 => ?_; clear s12
  obtain ⟨x1, e_x1, h1⟩ := bind_some h0; clear h0
  refine seq_opg s13 rfl rfl rfl rfl (of_decide_eq_true rfl) (fun hb => (Ob.uncond (t := 12) hb rfl (ob_callD (args := [_]) rfl .direct hb47 (fun a w s fs gs hf hg => by obtain rfl := hf.unnil; obtain rfl := hg.unnil; exact c_disk_Disk_burn_nil k _ (ite_t hb e_x1) _ _ _ (s.arg (.tmp rfl)))))) fun a14 w14 s14 => ?_; clear s13
  refine seq_opg s14 rfl rfl rfl rfl (of_decide_eq_true rfl) (fun hb => (Ob.uncond (t := 13) hb rfl (ob_not rfl (.tmp rfl)))) fun a15 w15 s15 => ?_; clear s14
  refine seq_op s15 rfl rfl (of_decide_eq_true rfl) (ob_or2 rfl (.tmp rfl) opd_bool (.tmp rfl)) fun a16 w16 s16 => ?_; clear s15
  refine wpList_nil ?_
  refine then_normal ?_
  refine hK3 _ _ ?_
  have s17 := s16.sub (.cons (t := 0) rfl (.cons (t := 15) rfl .nil)); clear s16
  refine cond_split s17 (.tmp rfl) (fun hc1 => ?_) (fun hc1 => ?_)
  · replace h1 := ite_t hc1 h1
    have h2 := h1; clear h1
    refine wp_seq_k fun K4 hK4 => ?_
    refine wp_region_lit ?_
    refine seq_op s17 rfl rfl (of_decide_eq_true rfl) (ob_assign rfl (opd_int rfl)) fun a18 w18 s18 => ?_; clear s17
    refine wpList_nil ?_
    refine then_normal ?_
    refine hK4 _ _ ?_
    have s19 := s18.sub (.cons (t := 2) rfl .nil); clear s18
    refine wp_ret ?_
    obtain rfl := Option.some.inj h2
    exact leave s19 (.inl rfl) rfl (.cons (.tmp rfl) .nil)
  · replace h1 := ite_f hc1 h1
    have h3 := h1; clear h1
    refine wp_skip ?_
    refine then_normal ?_
    refine hK2 _ _ ?_
    have s20 := s17.sub (.cons (t := 0) rfl .nil); clear s17
    refine wp_seq_k fun K5 hK5 => ?_
    refine wp_region_lit ?_
    refine seq_op s20 rfl rfl (of_decide_eq_true rfl) (ob_move rfl (.tmp rfl)) fun a21 w21 s21 => ?_; clear s20
    obtain ⟨x2, e_x2, h4⟩ := bind_some h3; clear h3
    refine seq_op s21 rfl rfl (of_decide_eq_true rfl) (ob_callD (args := [_, _]) rfl .direct hb48 (fun a w s fs gs hf hg => by obtain rfl := hf.unnil; obtain rfl := hg.unnil; exact c_disk_Disk_settle_disk_Disk_Sync_1_nil k _ e_x2 _ _ _ _ (s.arg (.tmp rfl)) (s.arg .func))) fun a22 w22 s22 => ?_; clear s21
    refine wpList_nil ?_
    refine then_normal ?_
    refine hK5 _ _ ?_
    have s23 := s22.sub .nil; clear s22
    refine wp_seq_k fun K6 hK6 => ?_
    refine wp_region_lit ?_
    refine seq_op s23 rfl rfl (of_decide_eq_true rfl) (ob_assign rfl (opd_int rfl)) fun a24 w24 s24 => ?_; clear s23
    refine wpList_nil ?_
    refine then_normal ?_
    refine hK6 _ _ ?_
    have s25 := s24.sub (.cons (t := 2) rfl .nil); clear s24
    refine wp_ret ?_
    obtain rfl := Option.some.inj h4
    exact leave s25 (.inl rfl) rfl (.cons (.tmp rfl) .nil)

/- 6 cabal/caballaw12.DiskNone -/
theorem c_caballaw12_DiskNone (k : Nat) (p1 : Int) (p2 : Int) (r : Bool) (h0 : caballaw12_DiskNone k p1 p2 = some r) (ok : Ok) (w0 : World) (z0 : Value) (z1 : Value) (u0 : ((kint .i64).V p1).holds ok w0 z0) (u1 : ((kint .i64).V p2).holds ok w0 z1) :
    Gives Try.prog 6 [z0, z1] ok w0 (resFact [kbool.V r]) := by
  unfold caballaw12_DiskNone at h0
  refine enter (N := 72) Try.func6 rfl rfl (of_decide_eq_true rfl) (.cons u0 (.cons u1 .nil)) fun a1 s1 => ?_
  refine wp_seq_k fun K1 hK1 => ?_
  refine wp_region_lit ?_
  refine seq_op s1 rfl rfl (of_decide_eq_true rfl) (ob_assign rfl opd_bool) fun a2 w2 s2 => ?_; clear s1
  refine wpList_nil ?_
  refine then_normal ?_
  refine hK1 _ _ ?_
  have s3 := s2.sub (.cons (t := 0) rfl (.cons (t := 1) rfl .nil)); clear s2
  refine wp_seq_k fun K2 hK2 => ?_
  refine wp_seq_k fun K3 hK3 => ?_
  refine wp_region_lit ?_
  obtain ⟨x1, e_x1, h1⟩ := bind_some h0; clear h0
  refine seq_op s3 rfl rfl (of_decide_eq_true rfl) (ob_callD (args := []) rfl .direct hb11 (fun a w s fs gs hf hg => by obtain rfl := hf.unnil; obtain rfl := hg.unnil; exact c_caballaw12_alive k _ e_x1 _ _)) fun a4 w4 s4 => ?_; clear s3
  refine seq_op s4 rfl rfl (of_decide_eq_true rfl) (ob_not rfl (.tmp rfl)) fun a5 w5 s5 => ?_; clear s4
  refine wpList_nil ?_
  refine then_normal ?_
  refine hK3 _ _ ?_
  have s6 := s5.sub (.cons (t := 0) rfl (.cons (t := 1) rfl (.cons (t := 10) rfl .nil))); clear s5
  refine cond_split s6 (.tmp rfl) (fun hc1 => ?_) (fun hc1 => ?_)
  · replace h1 := ite_t hc1 h1
    have h2 := h1; clear h1
    refine wp_seq_k fun K4 hK4 => ?_
    refine wp_region_lit ?_
    refine seq_op s6 rfl rfl (of_decide_eq_true rfl) (ob_assign rfl opd_bool) fun a7 w7 s7 => ?_; clear s6
    refine wpList_nil ?_
    refine then_normal ?_
    refine hK4 _ _ ?_
    have s8 := s7.sub (.cons (t := 4) rfl .nil); clear s7
    refine wp_ret ?_
    obtain rfl := Option.some.inj h2
    exact leave s8 (.inl rfl) rfl (.cons (.tmp rfl) .nil)
  · replace h1 := ite_f hc1 h1
    have h3 := h1; clear h1
    refine wp_skip ?_
    refine then_normal ?_
    refine hK2 _ _ ?_
    have s9 := s6.sub (.cons (t := 0) rfl (.cons (t := 1) rfl .nil)); clear s6
    refine wp_seq_k fun K5 hK5 => ?_
    refine wp_region_lit ?_
    refine seq_op s9 rfl rfl (of_decide_eq_true rfl) (ob_assign rfl opd_is) fun a10 w10 s10 => ?_; clear s9
    refine wpList_nil ?_
    refine then_normal ?_
    refine hK5 _ _ ?_
    have s11 := s10.sub (.cons (t := 0) rfl (.cons (t := 1) rfl (.cons (t := 5) rfl .nil))); clear s10
    refine wp_seq_k fun K6 hK6 => ?_
    refine wp_region_lit ?_
    refine seq_op s11 rfl rfl (of_decide_eq_true rfl) (ob_move rfl (.tmp rfl)) fun a12 w12 s12 => ?_; clear s11
    refine seq_op s12 rfl rfl (of_decide_eq_true rfl) (ob_move rfl (.tmp rfl)) fun a13 w13 s13 => ?_; clear s12
    obtain ⟨x2, e_x2, h4⟩ := bind_some h3; clear h3
    refine seq_op s13 rfl rfl (of_decide_eq_true rfl) (ob_callD (args := [_, _]) rfl .direct hb22 (fun a w s fs gs hf hg => by obtain rfl := hf.unnil; obtain rfl := hg.unnil; exact c_disk_Disk_Fuse_nil k _ _ e_x2 _ _ _ _ (s.arg (.tmp rfl)) (s.arg (.tmp rfl)))) fun a14 w14 s14 => ?_; clear s13
    refine wpList_nil ?_
    refine then_normal ?_
    refine hK6 _ _ ?_
    have s15 := s14.sub (.cons (t := 0) rfl (.cons (t := 1) rfl (.cons (t := 5) rfl .nil))); clear s14
    refine wp_seq_k fun K7 hK7 => ?_
    refine wp_region_lit ?_
    refine seq_op s15 rfl rfl (of_decide_eq_true rfl) (ob_move rfl (.tmp rfl)) fun a16 w16 s16 => ?_; clear s15
    refine seq_op s16 rfl rfl (of_decide_eq_true rfl) (ob_mkSlice (k := (kint .u8)) (xs := ([(1 : Int)] : (List Int))) rfl Try.underlying23 zz5 sz5 (Zr.int .u8) (by decide) (by decide) (.cons (opd_int rfl) rfl (LS.arr' (i := 0) (ys := ([(1 : Int)] : (List Int))) (by simp) (by rfl)) (.nil _))) fun a17 w17 s17 => ?_; clear s16
    obtain ⟨x3, e_x3, h5⟩ := bind_some h4; clear h4
    refine seq_op s17 rfl rfl (of_decide_eq_true rfl) (ob_callD (args := [_, _]) rfl .direct hb17 (fun a w s fs gs hf hg => by obtain rfl := hf.unnil; obtain rfl := hg.unnil; exact c_disk_Disk_Crash_nil k _ _ e_x3 _ _ _ _ (s.arg (.tmp rfl)) (s.arg (.tmp rfl)))) fun a18 w18 s18 => ?_; clear s17
    refine wpList_nil ?_
    refine then_normal ?_
    refine hK7 _ _ ?_
    have s19 := s18.sub (.cons (t := 0) rfl (.cons (t := 1) rfl (.cons (t := 5) rfl .nil))); clear s18
    refine wp_seq_k fun K8 hK8 => ?_
    refine wp_region_lit ?_
    refine seq_op s19 rfl rfl (of_decide_eq_true rfl) (ob_move rfl (.tmp rfl)) fun a20 w20 s20 => ?_; clear s19
    refine seq_op s20 rfl rfl (of_decide_eq_true rfl) (ob_move rfl (.tmp rfl)) fun a21 w21 s21 => ?_; clear s20
    obtain ⟨x4, e_x4, h6⟩ := bind_some h5; clear h5
    refine seq_op s21 rfl rfl (of_decide_eq_true rfl) (ob_callD (args := [_, _]) rfl .direct hb14 (fun a w s fs gs hf hg => by obtain rfl := hf.unnil; obtain rfl := hg.unnil; exact c_disk_Disk_Read_nil k _ _ e_x4 _ _ _ _ (s.arg (.tmp rfl)) (s.arg (.tmp rfl)))) fun a22 w22 s22 => ?_; clear s21
    refine seq_op s22 rfl rfl (of_decide_eq_true rfl) (ob_move rfl (.tmp rfl)) fun a23 w23 s23 => ?_; clear s22
    refine seq_op s23 rfl rfl (of_decide_eq_true rfl) (ob_extract rfl (.tmp rfl) rfl) fun a24 w24 s24 => ?_; clear s23
    refine seq_op s24 rfl rfl (of_decide_eq_true rfl) (ob_extract rfl (.tmp rfl) rfl) fun a25 w25 s25 => ?_; clear s24
    refine seq_op s25 rfl rfl (of_decide_eq_true rfl) (ob_assign rfl (.tmp rfl)) fun a26 w26 s26 => ?_; clear s25
    refine seq_op s26 rfl rfl (of_decide_eq_true rfl) (ob_assign rfl (.tmp rfl)) fun a27 w27 s27 => ?_; clear s26
    refine wpList_nil ?_
    refine then_normal ?_
    refine hK8 _ _ ?_
    have s28 := s27.sub (.cons (t := 0) rfl (.cons (t := 1) rfl (.cons (t := 5) rfl (.cons (t := 6) rfl (.cons (t := 7) rfl .nil))))); clear s27
    refine wp_seq_k fun K9 hK9 => ?_
    refine wp_region_lit ?_
    refine seq_op s28 rfl rfl (of_decide_eq_true rfl) (ob_move rfl (.tmp rfl)) fun a29 w29 s29 => ?_; clear s28
    obtain ⟨x5, e_x5, h7⟩ := bind_some h6; clear h6
    refine seq_opx (B' := (fun gg : Nat × Value => [BF gg.1 52 (ko_cabalref12_Disk_0 gg.2) (⟨[], x5.At, x5.Data, x5.Fuse, x5.Dead⟩ : cabalref12_Disk), RowF gg.2 9 kstr x5.Firm])) s29 rfl rfl (of_decide_eq_true rfl) (ob_callL (args := [_]) (L := []) rfl .direct hb19 (List.Perm.refl _) (fun a w s fs gs hf hg => by obtain rfl := hf.unnil; obtain rfl := hg.unnil; exact c_cabalref12_New k _ _ e_x5 _ _ _ (s.arg (.tmp rfl))) (by exact fun _ => rfl)) fun gg30 a30 w30 s30 => ?_; clear s29
    obtain ⟨b1, v1⟩ := gg30
    refine seq_op s30 rfl rfl (of_decide_eq_true rfl) (ob_nilCheck rfl (.tmp rfl)) fun a31 w31 s31 => ?_; clear s30
    refine seq_op s31 rfl rfl (of_decide_eq_true rfl) (ob_fieldAddr (off' := 0) rfl Try.underlying52 rfl sz49 (by decide) (.tmp rfl) rfl) fun a32 w32 s32 => ?_; clear s31
    refine seq_op s32 rfl rfl (of_decide_eq_true rfl) (ob_loadRowV rfl (tkr49 _) (.tmp rfl) (.head _) (lgo_cabalref12_Disk_0_Firm (⟨[], x5.At, x5.Data, x5.Fuse, x5.Dead⟩ : cabalref12_Disk))) fun a33 w33 s33 => ?_; clear s32
    refine seq_op s33 rfl rfl (of_decide_eq_true rfl) (ob_lenRow rfl Try.underlying49 (.tmp rfl) (.tail _ (.head _))) fun a34 w34 s34 => ?_; clear s33
    refine seq_op s34 rfl rfl (of_decide_eq_true rfl) (ob_assign rfl (.tmp rfl)) fun a35 w35 s35 => ?_; clear s34
    refine wpList_nil ?_
    refine then_normal ?_
    refine hK9 _ _ ?_
    have s36 := s35.sub (.cons (t := 0) rfl (.cons (t := 1) rfl (.cons (t := 5) rfl (.cons (t := 6) rfl (.cons (t := 7) rfl (.cons (t := 8) rfl .nil)))))); clear s35
    have s37 := St.drop (A := []) s36; clear s36
    have s38 := St.drop (A := []) s37; clear s37
    refine wp_seq_k fun K10 hK10 => ?_
    refine wp_region_lit ?_
    obtain ⟨x6, e_x6, h8⟩ := bind_some h7; clear h7
    refine seq_op s38 rfl rfl (of_decide_eq_true rfl) (ob_callD (args := []) rfl .direct hb11 (fun a w s fs gs hf hg => by obtain rfl := hf.unnil; obtain rfl := hg.unnil; exact c_caballaw12_alive k _ e_x6 _ _)) fun a39 w39 s39 => ?_; clear s38
    refine seq_op s39 rfl rfl (of_decide_eq_true rfl) (ob_move rfl (.tmp rfl)) fun a40 w40 s40 => ?_; clear s39
    refine seq_opg s40 rfl rfl rfl rfl (of_decide_eq_true rfl) (fun hb => ob_move rfl (.tmp rfl)) fun a41 w41 s41 => ?_; clear s40
    obtain ⟨x7, e_x7, h9⟩ := bind_some h8; clear h8
    refine seq_opg s41 rfl rfl rfl rfl (of_decide_eq_true rfl) (fun hb => (Ob.uncond (t := 31) hb rfl (ob_callD (args := [_]) rfl .direct hb26 (fun a w s fs gs hf hg => by obtain rfl := hf.unnil; obtain rfl := hg.unnil; exact c_disk_Disk_Blocks_nil k _ (ite_t hb e_x7) _ _ _ (s.arg (.tmp rfl)))))) fun a42 w42 s42 => ?_; clear s41
    refine seq_opg s42 rfl rfl rfl rfl (of_decide_eq_true rfl) (fun hb => (Ob.uncond (t := 32) hb rfl (ob_eql rfl (.tmp rfl) (opd_int rfl)))) fun a43 w43 s43 => ?_; clear s42
    refine seq_op s43 rfl rfl (of_decide_eq_true rfl) (ob_and2 rfl (.tmp rfl) (.tmp rfl) opd_bool) fun a44 w44 s44 => ?_; clear s43
    refine seq_op s44 rfl rfl (of_decide_eq_true rfl) (ob_move rfl (.tmp rfl)) fun a45 w45 s45 => ?_; clear s44
    refine seq_opg s45 rfl rfl rfl rfl (of_decide_eq_true rfl) (fun hb => ob_move rfl (.tmp rfl)) fun a46 w46 s46 => ?_; clear s45
    obtain ⟨x8, e_x8, h10⟩ := bind_some h9; clear h9
    refine seq_opg s46 rfl rfl rfl rfl (of_decide_eq_true rfl) (fun hb => (Ob.uncond (t := 36) hb rfl (ob_callD (args := [_]) rfl .direct hb25 (fun a w s fs gs hf hg => by obtain rfl := hf.unnil; obtain rfl := hg.unnil; exact c_disk_Disk_Dead_nil k _ (ite_t hb e_x8) _ _ _ (s.arg (.tmp rfl)))))) fun a47 w47 s47 => ?_; clear s46
    refine seq_op s47 rfl rfl (of_decide_eq_true rfl) (ob_and2 rfl (.tmp rfl) (.tmp rfl) opd_bool) fun a48 w48 s48 => ?_; clear s47
    refine seq_op s48 rfl rfl (of_decide_eq_true rfl) (ob_move rfl (.tmp rfl)) fun a49 w49 s49 => ?_; clear s48
    refine seq_opg s49 rfl rfl rfl rfl (of_decide_eq_true rfl) (fun hb => ob_move rfl (.tmp rfl)) fun a50 w50 s50 => ?_; clear s49
    refine seq_opg s50 rfl rfl rfl rfl (of_decide_eq_true rfl) (fun hb => (Ob.uncond (t := 40) hb rfl (ob_seql rfl (.tmp rfl) (opd_str (by rfl) (by decide))))) fun a51 w51 s51 => ?_; clear s50
    obtain ⟨x9, e_x9, h11⟩ := bind_some h10; clear h10; replace e_x9 := Option.some.inj e_x9
    refine seq_op s51 rfl rfl (of_decide_eq_true rfl) ((ob_and2 rfl (.tmp rfl) (.tmp rfl) opd_bool).nm e_x9) fun a52 w52 s52 => ?_; clear s51
    refine seq_op s52 rfl rfl (of_decide_eq_true rfl) (ob_move rfl (.tmp rfl)) fun a53 w53 s53 => ?_; clear s52
    refine seq_opg s53 rfl rfl rfl rfl (of_decide_eq_true rfl) (fun hb => ob_move rfl (.tmp rfl)) fun a54 w54 s54 => ?_; clear s53
    refine seq_opg s54 rfl rfl rfl rfl (of_decide_eq_true rfl) (fun hb => (Ob.uncond (t := 44) hb rfl (ob_eql rfl (.tmp rfl) (opd_int rfl)))) fun a55 w55 s55 => ?_; clear s54
    refine seq_op s55 rfl rfl (of_decide_eq_true rfl) (ob_and2 rfl (.tmp rfl) (.tmp rfl) opd_bool) fun a56 w56 s56 => ?_; clear s55
    refine seq_op s56 rfl rfl (of_decide_eq_true rfl) (ob_move rfl (.tmp rfl)) fun a57 w57 s57 => ?_; clear s56
    refine seq_opg s57 rfl rfl rfl rfl (of_decide_eq_true rfl) (fun hb => ob_move rfl (.tmp rfl)) fun a58 w58 s58 => ?_; clear s57
    refine seq_opg s58 rfl rfl rfl rfl (of_decide_eq_true rfl) (fun hb => ob_move rfl (.tmp rfl)) fun a59 w59 s59 => ?_; clear s58
    obtain ⟨x10, e_x10, h12⟩ := bind_some h11; clear h11
    refine seq_opg s59 rfl rfl rfl rfl (of_decide_eq_true rfl) (fun hb => (Ob.uncond (t := 49) hb rfl ((Ob.uncond (t := 48) hb rfl (ob_callD (args := [_, _]) rfl .direct hb18 (fun a w s fs gs hf hg => by obtain rfl := hf.unnil; obtain rfl := hg.unnil; exact c_disk_Disk_Settled_nil k _ _ (ite_t hb e_x10) _ _ _ _ (s.arg (.tmp rfl)) (s.arg (.tmp rfl)))))))) fun a60 w60 s60 => ?_; clear s59
    refine seq_opg s60 rfl rfl rfl rfl (of_decide_eq_true rfl) (fun hb => (Ob.uncond (t := 50) hb rfl (ob_seql rfl (.tmp rfl) (opd_str (by rfl) (by decide))))) fun a61 w61 s61 => ?_; clear s60
    obtain ⟨x11, e_x11, h13⟩ := bind_some h12; clear h12; replace e_x11 := Option.some.inj e_x11
    refine seq_op s61 rfl rfl (of_decide_eq_true rfl) ((ob_and2 rfl (.tmp rfl) (.tmp rfl) opd_bool).nm e_x11) fun a62 w62 s62 => ?_; clear s61
    refine seq_op s62 rfl rfl (of_decide_eq_true rfl) (ob_move rfl (.tmp rfl)) fun a63 w63 s63 => ?_; clear s62
    refine seq_opg s63 rfl rfl rfl rfl (of_decide_eq_true rfl) (fun hb => ob_move rfl (.tmp rfl)) fun a64 w64 s64 => ?_; clear s63
    refine seq_opg s64 rfl rfl rfl rfl (of_decide_eq_true rfl) (fun hb => ob_move rfl (.tmp rfl)) fun a65 w65 s65 => ?_; clear s64
    obtain ⟨x12, e_x12, h14⟩ := bind_some h13; clear h13
    refine seq_opg s65 rfl rfl rfl rfl (of_decide_eq_true rfl) (fun hb => ob_callD (args := [_, _]) rfl .direct hb16 (fun a w s fs gs hf hg => by obtain rfl := hf.unnil; obtain rfl := hg.unnil; exact c_caballaw12_data k _ _ _ (ite_t hb e_x12) _ _ _ _ (s.arg (opd_int rfl)) (s.arg (opd_int rfl)))) fun a66 w66 s66 => ?_; clear s65
    obtain ⟨x13, e_x13, h15⟩ := bind_some h14; clear h14
    refine seq_opg s66 rfl rfl rfl rfl (of_decide_eq_true rfl) (fun hb => (Ob.uncond (t := 56) hb rfl ((Ob.uncond (t := 55) hb rfl ((Ob.uncond (t := 54) hb rfl (ob_callD (args := [_, _, _]) rfl .direct hb15 (fun a w s fs gs hf hg => by obtain rfl := hf.unnil; obtain rfl := hg.unnil; exact c_disk_Disk_Write_nil k _ _ _ (ite_t hb e_x13) _ _ _ _ _ (s.arg (.tmp rfl)) (s.arg (.tmp rfl)) (s.arg (.tmp rfl)))))))))) fun a67 w67 s67 => ?_; clear s66
    refine seq_opg s67 rfl rfl rfl rfl (of_decide_eq_true rfl) (fun hb => (Ob.uncond (t := 57) hb rfl (ob_eql rfl (.tmp rfl) (opd_int rfl)))) fun a68 w68 s68 => ?_; clear s67
    refine seq_op s68 rfl rfl (of_decide_eq_true rfl) (ob_and2 rfl (.tmp rfl) (.tmp rfl) opd_bool) fun a69 w69 s69 => ?_; clear s68
    refine seq_op s69 rfl rfl (of_decide_eq_true rfl) (ob_move rfl (.tmp rfl)) fun a70 w70 s70 => ?_; clear s69
    refine seq_opg s70 rfl rfl rfl rfl (of_decide_eq_true rfl) (fun hb => ob_move rfl (.tmp rfl)) fun a71 w71 s71 => ?_; clear s70
    obtain ⟨x14, e_x14, h16⟩ := bind_some h15; clear h15
    refine seq_opg s71 rfl rfl rfl rfl (of_decide_eq_true rfl) (fun hb => (Ob.uncond (t := 61) hb rfl (ob_callD (args := [_]) rfl .direct hb13 (fun a w s fs gs hf hg => by obtain rfl := hf.unnil; obtain rfl := hg.unnil; exact c_disk_Disk_Sync_nil k _ (ite_t hb e_x14) _ _ _ (s.arg (.tmp rfl)))))) fun a72 w72 s72 => ?_; clear s71
    refine seq_opg s72 rfl rfl rfl rfl (of_decide_eq_true rfl) (fun hb => (Ob.uncond (t := 62) hb rfl (ob_eql rfl (.tmp rfl) (opd_int rfl)))) fun a73 w73 s73 => ?_; clear s72
    obtain ⟨x15, e_x15, h17⟩ := bind_some h16; clear h16; replace e_x15 := Option.some.inj e_x15
    refine seq_op s73 rfl rfl (of_decide_eq_true rfl) ((ob_and2 rfl (.tmp rfl) (.tmp rfl) opd_bool).nm e_x15) fun a74 w74 s74 => ?_; clear s73
    refine seq_op s74 rfl rfl (of_decide_eq_true rfl) (ob_move rfl (.tmp rfl)) fun a75 w75 s75 => ?_; clear s74
    refine seq_opg s75 rfl rfl rfl rfl (of_decide_eq_true rfl) (fun hb => ob_move rfl (.tmp rfl)) fun a76 w76 s76 => ?_; clear s75
    obtain ⟨g1, h18⟩ := guard_some h17; clear h17
    obtain ⟨x16, e_x16, h19⟩ := bind_some h18; clear h18
    refine seq_opxg (B1 := (fun gg : Nat × Value × Value => [BF gg.1 87 (ko_disk_Disk_0_1 gg.2.1 gg.2.2) (⟨[], [], x16.fuse, x16.dead⟩ : disk_Disk), RowF gg.2.1 91 (karr 256 (kint .u8)) x16.firm, RowF gg.2.2 93 k_disk_write x16.loose])) s76 rfl rfl rfl rfl (of_decide_eq_true rfl) (fun hb => (ObX.uncond (t := 66) hb rfl (ob_callL (args := [_]) (L := []) rfl .direct hb12 (List.Perm.refl _) (fun a w s fs gs hf hg => by obtain rfl := hf.unnil; obtain rfl := hg.unnil; exact c_disk_New k _ _ e_x16 _ _ _ (s.arg (.tmp rfl))) (by exact fun _ => rfl)))) (fun hb0 => Bool.noConfusion (g1.symm.trans hb0)) fun gg77 a77 w77 s77 => ?_; clear s76
    obtain ⟨b2, v2, v3⟩ := gg77
    obtain ⟨x17, e_x17, h20⟩ := bind_some h19; clear h19
    refine seq_opg s77 rfl rfl rfl rfl (of_decide_eq_true rfl) (fun hb => (Ob.uncond (t := 67) hb rfl ((ob_lendG (L := [_, _, _]) (List.Perm.refl _) (.cons (t := 67) rfl (lendObj (K' := k_disk_Disk) (X' := x16) (.head _) rfl (upo_disk_Disk_0_1 rfl (.row (LetAll.row (.tail _ (.head _)))) (.row (LetAll.row (.tail _ (.tail _ (.head _))))))) .nil) (Flat.res1 (Flat.V (KFlat.int _))) (fun _ => ob_callD (args := [_]) rfl .direct hb26 (fun a w s fs gs hf hg => by obtain rfl := hf.unnil; obtain rfl := hg.unnil; exact c_disk_Disk_Blocks k _ _ (ite_t hb e_x17) _ _ _ (s.arg (.tmp rfl)))))))) fun a78 w78 s78 => ?_; clear s77
    refine seq_opg s78 rfl rfl rfl rfl (of_decide_eq_true rfl) (fun hb => ob_move rfl (.tmp rfl)) fun a79 w79 s79 => ?_; clear s78
    refine seq_opg s79 rfl rfl rfl rfl (of_decide_eq_true rfl) (fun hb => (Ob.uncond (t := 69) hb rfl ((Ob.uncond (t := 68) hb rfl (ob_eql rfl (.tmp rfl) (.tmp rfl)))))) fun a80 w80 s80 => ?_; clear s79
    refine seq_op s80 rfl rfl (of_decide_eq_true rfl) (ob_and2 rfl (.tmp rfl) (.tmp rfl) opd_bool) fun a81 w81 s81 => ?_; clear s80
    refine seq_op s81 rfl rfl (of_decide_eq_true rfl) (ob_assign rfl (.tmp rfl)) fun a82 w82 s82 => ?_; clear s81
    refine wpList_nil ?_
    refine then_normal ?_
    refine hK10 _ _ ?_
    have s83 := s82.sub (.cons (t := 4) rfl .nil); clear s82
    have s84 := St.drop (A := []) s83; clear s83
    have s85 := St.drop (A := []) s84; clear s84
    have s86 := St.drop (A := []) s85; clear s85
    refine wp_ret ?_
    obtain rfl := Option.some.inj h20
    exact leave s86 (.inl rfl) rfl (.cons (.tmp rfl) .nil)

end Go.Proofs.Ytlcddcamnkgeeaa
